/- CONTRACT: a block's pairs, of the program. -/
import Derived.Test.YtfdbcnpbjabjoaaTabPair
import Derived.Test.YtfdbcnpbjabjoaaRdrBad
import Derived.Test.YtfdbcnpbjabjoaaRowAppend
import Derived.Deep.LoopGhost
import Derived.Deep.Draws
namespace Go.Proofs.Ytfdbcnpbjabjoaa
open Go.RowKit
set_option linter.unusedVariables false
set_option linter.unusedSimpArgs false

theorem infoPr : (Try.prog.info? 70).map (fun i => (i.zero, i.size, i.bytes)) = some (some (.agg #[.string .empty, .string .empty, .bool false]), 3, 40) := by kernel_rfl
/-- what 'pairs' hands back -/
def PairsPost (o : Option (List Pr)) (B : Nat) (e : Ending) (w' : World) : Prop :=
  match o with
  | some l => ∃ v, e = .returned (.tuple #[v, .bool true]) ∧ w'.ownsRow B 70 3 v l.length (l.flatMap prC)
  | none => e = .returned (.tuple #[.slice none 0 0, .bool false])
theorem row_at {w w' : World} {g b : Nat} {c : Array Value} {t : TypeId} (h : w.heap[b]? = some (.cells c t (0, 0))) (a : At g w w') (hne : b ≠ g) : w'.heap[b]? = some (.cells c t (0, 0)) :=
  (a.block b (Array.getElem?_eq_some_iff.1 h).1 (by simpa using hne)).trans h
theorem prow_cell {w : World} {b : Nat} {x y z : Value} {t : TypeId} (h : w.heap[b]? = some (.cells #[x, y, z] t (0, 0))) : w.cell? ⟨b, 0, none⟩ = some x ∧ w.cell? ⟨b, 1, none⟩ = some y ∧ w.cell? ⟨b, 2, none⟩ = some z ∧ ∀ j, w.frozen? ⟨b, j, none⟩ = false :=
  ⟨by rw [cell_of_row _ _ 0 _ _ (0, 0) h]; rfl, by rw [cell_of_row _ _ 1 _ _ (0, 0) h]; rfl, by rw [cell_of_row _ _ 2 _ _ (0, 0) h]; rfl, fun j => frozen_of_row w b j _ t h⟩
set_option maxHeartbeats 6400000 in
set_option maxRecDepth 100000 in
theorem pairs_any (s : List UInt8) (hs : s.length ≤ 1048576) (w : World) : Calls Try.prog 54 #[.string ⟨s.toArray⟩] w fun e w' => PairsPost (pairsL s) w.heap.size e w' ∧ Below w.heap.size w w' := by
  go_enter Try.func54, Try.ntmps54
  go_wp2_with fail
  refine (read_any s w).mono ?_
  rintro _ w1 ⟨rfl, hw1⟩
  have hr1 : Rdr w1 w.heap.size s false := by rw [hw1]; exact read_rdr s w
  have hb1 : Below w.heap.size w w1 := by rw [hw1]; exact (Below.refl _ _).alloc (Nat.le_refl _) _
  clear hw1
  go_wp2_with fail
  go_loopg [5] s.length (fun kx v wr => ∃ (r : List UInt8) (acc : List Pr), Rdr wr w.heap.size r false ∧ pairsL s = (pairsL r).map (acc ++ ·) ∧ wr.ownsRow w.heap.size 70 3 v acc.length (acc.flatMap prC) ∧ Below w.heap.size w wr ∧ acc.length + r.length ≤ s.length ∧ r.length ≤ kx)
  case atStart => exact ⟨s, [], hr1, by simp, World.ownsRow_nil _ _ _ _, hb1, by simp, Nat.le_refl _⟩
  case round =>
    clear hr1 hb1
    obtain ⟨r, acc, hr, hps, ho, hb, hlen, hkx⟩ := hrel
    by_cases h0 : r = []
    · have he : endF r false = true := endF_iff.2 ⟨h0, rfl⟩
      have hpo : pairsL s = some acc := by rw [hps, h0, pairsL_nil]; simp
      obtain ⟨va, vc, rfl⟩ := ownsRow_slice ho
      have hc := end_any w.heap.size r false wr hr
      rw [he] at hc
      clear hps he
      go_wp2_with fail
      refine hc.mono ?_
      rintro _ w2 ⟨rfl, rfl⟩
      go_wp2_with fail
      go_ret2
      exact ⟨by rw [hpo]; exact ⟨_, rfl, ho⟩, hb⟩
    · have he : endF r false = false := by
        unfold endF
        cases r with
        | nil => exact absurd rfl h0
        | cons a b => rfl
      obtain ⟨k, r1, b1, h1⟩ : ∃ k r1 b1, textF r false = (k, r1, b1) := ⟨_, _, _, rfl⟩
      obtain ⟨n, r2, b2, h2⟩ : ∃ n r2 b2, intF r1 b1 8193 = (n, r2, b2) := ⟨_, _, _, rfl⟩
      obtain ⟨v, r3, b3, h3⟩ : ∃ v r3 b3, takeF r2 b2 (max 0 ((n : Int) - 1)) = (v, r3, b3) := ⟨_, _, _, rfl⟩
      have hst := hid (stepF_of h1 h2 h3)
      have l1 := textF_len r false
      rw [h1] at l1
      have l2 := intF_len r1 b1 8193
      rw [h2] at l2
      have l3 := takeF_len r2 b2 (max 0 ((n : Int) - 1))
      rw [h3] at l3
      simp only at l1 l2 l3
      have hn8 := intF_le (r := r1) (b := b1) (m := 8193) (by omega)
      rw [h2] at hn8
      simp only at hn8
      have hc := end_any w.heap.size r false wr hr
      rw [he] at hc
      have ht := text_any_r w.heap.size r false wr hr (by unfold maxLen; omega)
      rw [h1] at ht
      simp only at ht
      have HPS := hid hps
      have HLEN := hid hlen
      have hRM : r.length ≤ 1048576 := by omega
      clear he hps h1 hlen
      obtain ⟨va, vc, rfl⟩ := ownsRow_slice ho
      go_wp2_with fail
      refine hc.mono ?_
      rintro _ w2 ⟨rfl, rfl⟩
      clear hc
      go_wp2_with fail
      refine ht.mono ?_
      rintro _ w3 ⟨rfl, hr3, a3⟩
      clear ht
      have ho3 := own_at_other ho hr (by decide) a3
      have hb3 : Below w.heap.size w w3 := At.below hb a3 (Nat.le_refl _)
      obtain ⟨w4, hw4⟩ : ∃ x, x = w3.alloc (.cells #[.string ⟨k.toArray⟩, .string ⟨#[]⟩, .bool false] 70) := ⟨_, rfl⟩
      have b4 : Below w3.heap.size w3 w4 := by rw [hw4]; exact (Below.refl _ _).alloc (Nat.le_refl _) _
      have hp4 : w4.heap[w3.heap.size]? = some (.cells #[.string ⟨k.toArray⟩, .string ⟨#[]⟩, .bool false] 70 (0, 0)) := by rw [hw4]; exact heap_alloc_new w3 _
      have hr4 : Rdr w4 w.heap.size r1 b1 := hr3.keep b4
      have ho4 := own_new ho3 b4
      have hb4 := hb3.trans (b4.mono hb3.size)
      have hpg : w3.heap.size ≠ w.heap.size := by have := hr3.lt; omega
      have hpl : w.heap.size < w3.heap.size := hr3.lt
      have HW4 := hid hw4
      have HB4 := hid hb4
      have HO3 := hid ho3
      clear hr3 a3 ho3 hb3 hw4 b4 hb4 hr ho hb
      have hi := int_any w.heap.size r1 b1 8193 w4 hr4 (by unfold maxLen; omega) (by decide) (by decide)
      rw [h2] at hi
      simp only at hi
      go_wp2_with (rw [← HW4.out])
      refine hi.mono ?_
      rintro _ w5 ⟨rfl, hr5, a5⟩
      clear hi
      have hp5 := row_at hp4 a5 hpg
      have ho5 := own_at_other ho4 hr4 (by decide) a5
      have HB5 := hid (At.below HB4.out a5 (Nat.le_refl _))
      clear hr4 a5 hp4 ho4 h2
      obtain ⟨d0, d1, d2, d3⟩ := prow_cell hp5
      have ht := fun (W : World) (q : Rdr W w.heap.size r2 b2) => take_any w.heap.size r2 b2 (max 0 ((n : Int) - 1)) W q (by unfold maxLen; omega)
      rw [h3] at ht
      simp only at ht
      have hn64 : (n : Int) ≤ 8193 := by omega
      have hnn : (0 : Int) ≤ (n : Int) := by omega
      clear h3 HW4 HB4 hn8
      by_cases hn0 : n = 0
      · subst hn0
        rw [show max 0 (((0 : Nat) : Int) - 1) = 0 from rfl] at ht
        have HT := hid ht
        clear ht
        obtain ⟨w6, hw6⟩ : ∃ x, x = w5.setCell ⟨w3.heap.size, 2, none⟩ (.bool true) := ⟨_, rfl⟩
        have a6 : At w3.heap.size w5 w6 := by rw [hw6]; exact (At.refl _ _).set _ _
        have hp6 : w6.heap[w3.heap.size]? = some (.cells #[.string ⟨k.toArray⟩, .string ⟨#[]⟩, .bool true] 70 (0, 0)) := by rw [hw6]; exact heap_setCell_same w5 _ 2 _ _ (.bool true) hp5
        have hr6 : Rdr w6 w.heap.size r2 b2 := hr5.of_block (a6.block _ hr5.lt (by simp; omega))
        have f2 := d3 2
        have HWS := hid hw6
        go_wp2_with (rw [← HWS.out])
        have HB6 := hid (At.below HB5.out a6 (Nat.le_of_lt hpl))
        have ho6 := own_fresh HO3.out ho5 a6 (Nat.le_refl _)
        have HW6 := hid a6
        clear hr5 ho5 hp5 d0 d1 d2 d3 a6
        refine (HT.out _ hr6).mono ?_
        rintro _ w7 ⟨rfl, hr7, a7⟩
        have hp7 := row_at hp6 a7 hpg
        have ho7 := own_at_other ho6 hr6 (by decide) a7
        have HB7 := hid (At.below HB6.out a7 (Nat.le_refl _))
        clear hr6 hp6 ho6 a7
        obtain ⟨d0, d1, d2, d3⟩ := prow_cell hp7
        have f1 := d3 1
        clear d3
        obtain ⟨w8, hw8⟩ : ∃ x, x = w7.setCell ⟨w3.heap.size, 1, none⟩ (.string ⟨v.toArray⟩) := ⟨_, rfl⟩
        have a8 : At w3.heap.size w7 w8 := by rw [hw8]; exact (At.refl _ _).set _ _
        have hp8 : w8.heap[w3.heap.size]? = some (.cells #[.string ⟨k.toArray⟩, .string ⟨v.toArray⟩, .bool true] 70 (0, 0)) := by rw [hw8]; exact heap_setCell_same w7 _ 1 _ _ (.string ⟨v.toArray⟩) hp7
        have hr8 : Rdr w8 w.heap.size r3 b3 := hr7.of_block (a8.block _ hr7.lt (by simp; omega))
        have HB8 := hid (At.below HB7.out a8 (Nat.le_of_lt hpl))
        have ho8 := own_fresh HO3.out ho7 a8 (Nat.le_refl _)
        have hw8' := hid hw8
        have hbd := bad_any w.heap.size r3 b3 w8 hr8
        clear hw8 a8 hr7 ho7 hp7
        go_wp2_with (rw [← hw8'.out])
        clear d0 d1 d2 f1
        obtain ⟨d0, d1, d2, d3⟩ := prow_cell hp8
        clear d3
        refine hbd.mono ?_
        rintro _ w9 ⟨rfl, hw9⟩
        rw [hw9]
        clear hw9 w9 hbd
        cases b3 with
        | true =>
          have hq : pairsL r = none := pairsL_no h0 (by rw [hst.out, if_pos (.inl rfl)])
          clear hp8 ho8 hr8
          go_wp2_with fail
          go_ret2
          exact ⟨by rw [HPS.out, hq]; rfl, HB8.out⟩
        | false =>
        by_cases hk0 : k = []
        · subst hk0
          have hq : pairsL r = none := pairsL_no h0 (by rw [hst.out, if_pos (.inr (.inl rfl))])
          clear hp8 ho8 hr8
          go_wp2_with fail
          go_ret2
          exact ⟨by rw [HPS.out, hq]; rfl, HB8.out⟩
        have hke : (k == []) = false := by simpa using hk0
        by_cases hk6 : 64 < k.length
        · have hq : pairsL r = none := pairsL_no h0 (by rw [hst.out, if_pos (.inr (.inr hk6))])
          have hk6' : (64 : Int) < (k.length : Int) := by omega
          have HK0 := hid hk0
          clear hp8 ho8 hr8 hk0
          go_wp2_with fail
          go_ret2
          exact ⟨by rw [HPS.out, hq]; rfl, HB8.out⟩
        have hq : pairsL r = (pairsL r3).map ((k, v, true) :: ·) := pairsL_go h0 (by rw [hst.out, if_neg (by simp only [Bool.false_eq_true, false_or, not_or]; exact ⟨hk0, hk6⟩)]; rfl)
        have hst2 : stepF r = some ((k, v, true), r3) := by rw [hst.out, if_neg (by simp only [Bool.false_eq_true, false_or, not_or]; exact ⟨hk0, hk6⟩)]; rfl
        have hless := step_less hst2
        have HQ := hid (show pairsL s = (pairsL r3).map ((acc ++ [(k, v, true)]) ++ ·) by rw [HPS.out, hq, Option.map_map]; congr 1; funext y; simp)
        have hk6' : (k.length : Int) ≤ 64 := by omega
        obtain ⟨wb, hwb⟩ : ∃ x, x = w8.alloc (.cells #[.string ⟨k.toArray⟩, .string ⟨v.toArray⟩, .bool true] 70) := ⟨_, rfl⟩
        have bb : Below w8.heap.size w8 wb := by rw [hwb]; exact (Below.refl _ _).alloc (Nat.le_refl _) _
        have hob := own_new ho8 bb
        have hrb := hr8.keep bb
        have HBb := hid (HB8.out.trans (bb.mono HB8.out.size))
        have hpb : wb.heap[w8.heap.size]? = some (.cells #[.string ⟨k.toArray⟩, .string ⟨v.toArray⟩, .bool true] 70 (0, 0)) := by rw [hwb]; exact heap_alloc_new w8 _
        have HYb := hid (show ∀ j u, (prC (k, v, true))[j]? = some u → wb.cell? ⟨w8.heap.size, j, none⟩ = some u from fun j u hj => by rw [cell_of_row _ _ j _ _ (0, 0) hpb]; simpa [prC, strV] using hj)
        have HWb := hid hwb
        have HLE := hid (show acc.length + 1 ≤ maxLen by have := HLEN.out; unfold maxLen; omega)
        have HLF := hid (show (acc.length + 1) * 40 ≤ 140737488355328 by have := HLEN.out; omega)
        have HSZ := hid HBb.out.size
        have HK0 := hid hk0
        clear hp8 ho8 hr8 hwb bb hpb hk0 hq hst2
        go_wp2_with (at_builtin; rw [← HWb.out]; refine wpList_append_row _ rfl _ _ 55 rfl prC 3 (by decide) prC_len prC_one w.heap.size 70 (.agg #[.string .empty, .string .empty, .bool false]) 40 Try.underlying55 infoPr rfl (.slice va acc.length vc) acc.length acc rfl hob w8.heap.size 1 rfl (k, v, true) HYb.out HLE.out HLF.out HSZ.out ?_)
        intro a' c' wz hoz hgz
        have hrz := obj_grown hob hgz hrb (by decide)
        have hbz := below_grown HBb.out hob hgz (Nat.le_refl _)
        clear hob hrb hgz d0 d1 d2
        go_wp2_with fail
        go_roundg (r3.length)
        case measure => omega
        case rel => exact ⟨r3, acc ++ [(k, v, true)], hrz, HQ.out, by rw [List.length_append, List.flatMap_append]; simpa using hoz, hbz, by rw [List.length_append]; have := HLEN.out; simp only [List.length_cons, List.length_nil]; omega, Nat.le_refl _⟩
      · have hne : ((n : Int) == 0) = false := by simp; omega
        have HT := hid ht
        have HN0 := hid hn0
        clear hn0 ht
        have hp6 := hp5
        have hr6 := hr5
        have a6 := At.refl w3.heap.size w5
        have HB6 := hid (At.below HB5.out a6 (Nat.le_of_lt hpl))
        have ho6 := own_fresh HO3.out ho5 a6 (Nat.le_refl _)
        have HW6 := hid a6
        clear hr5 ho5 hp5 d0 d1 d2 d3 a6
        go_wp2_with fail
        refine (HT.out _ hr6).mono ?_
        rintro _ w7 ⟨rfl, hr7, a7⟩
        have hp7 := row_at hp6 a7 hpg
        have ho7 := own_at_other ho6 hr6 (by decide) a7
        have HB7 := hid (At.below HB6.out a7 (Nat.le_refl _))
        clear hr6 hp6 ho6 a7
        obtain ⟨d0, d1, d2, d3⟩ := prow_cell hp7
        have f1 := d3 1
        clear d3
        obtain ⟨w8, hw8⟩ : ∃ x, x = w7.setCell ⟨w3.heap.size, 1, none⟩ (.string ⟨v.toArray⟩) := ⟨_, rfl⟩
        have a8 : At w3.heap.size w7 w8 := by rw [hw8]; exact (At.refl _ _).set _ _
        have hp8 : w8.heap[w3.heap.size]? = some (.cells #[.string ⟨k.toArray⟩, .string ⟨v.toArray⟩, .bool false] 70 (0, 0)) := by rw [hw8]; exact heap_setCell_same w7 _ 1 _ _ (.string ⟨v.toArray⟩) hp7
        have hr8 : Rdr w8 w.heap.size r3 b3 := hr7.of_block (a8.block _ hr7.lt (by simp; omega))
        have HB8 := hid (At.below HB7.out a8 (Nat.le_of_lt hpl))
        have ho8 := own_fresh HO3.out ho7 a8 (Nat.le_refl _)
        have hw8' := hid hw8
        have hbd := bad_any w.heap.size r3 b3 w8 hr8
        clear hw8 a8 hr7 ho7 hp7
        go_wp2_with (rw [← hw8'.out])
        clear d0 d1 d2 f1
        obtain ⟨d0, d1, d2, d3⟩ := prow_cell hp8
        clear d3
        refine hbd.mono ?_
        rintro _ w9 ⟨rfl, hw9⟩
        rw [hw9]
        clear hw9 w9 hbd
        cases b3 with
        | true =>
          have hq : pairsL r = none := pairsL_no h0 (by rw [hst.out, if_pos (.inl rfl)])
          clear hp8 ho8 hr8
          go_wp2_with fail
          go_ret2
          exact ⟨by rw [HPS.out, hq]; rfl, HB8.out⟩
        | false =>
        by_cases hk0 : k = []
        · subst hk0
          have hq : pairsL r = none := pairsL_no h0 (by rw [hst.out, if_pos (.inr (.inl rfl))])
          clear hp8 ho8 hr8
          go_wp2_with fail
          go_ret2
          exact ⟨by rw [HPS.out, hq]; rfl, HB8.out⟩
        have hke : (k == []) = false := by simpa using hk0
        by_cases hk6 : 64 < k.length
        · have hq : pairsL r = none := pairsL_no h0 (by rw [hst.out, if_pos (.inr (.inr hk6))])
          have hk6' : (64 : Int) < (k.length : Int) := by omega
          have HK0 := hid hk0
          clear hp8 ho8 hr8 hk0
          go_wp2_with fail
          go_ret2
          exact ⟨by rw [HPS.out, hq]; rfl, HB8.out⟩
        have hq : pairsL r = (pairsL r3).map ((k, v, false) :: ·) := pairsL_go h0 (by rw [hst.out, if_neg (by simp only [Bool.false_eq_true, false_or, not_or]; exact ⟨hk0, hk6⟩)]; simp [HN0.out])
        have hst2 : stepF r = some ((k, v, false), r3) := by rw [hst.out, if_neg (by simp only [Bool.false_eq_true, false_or, not_or]; exact ⟨hk0, hk6⟩)]; simp [HN0.out]
        have hless := step_less hst2
        have HQ := hid (show pairsL s = (pairsL r3).map ((acc ++ [(k, v, false)]) ++ ·) by rw [HPS.out, hq, Option.map_map]; congr 1; funext y; simp)
        have hk6' : (k.length : Int) ≤ 64 := by omega
        obtain ⟨wb, hwb⟩ : ∃ x, x = w8.alloc (.cells #[.string ⟨k.toArray⟩, .string ⟨v.toArray⟩, .bool false] 70) := ⟨_, rfl⟩
        have bb : Below w8.heap.size w8 wb := by rw [hwb]; exact (Below.refl _ _).alloc (Nat.le_refl _) _
        have hob := own_new ho8 bb
        have hrb := hr8.keep bb
        have HBb := hid (HB8.out.trans (bb.mono HB8.out.size))
        have hpb : wb.heap[w8.heap.size]? = some (.cells #[.string ⟨k.toArray⟩, .string ⟨v.toArray⟩, .bool false] 70 (0, 0)) := by rw [hwb]; exact heap_alloc_new w8 _
        have HYb := hid (show ∀ j u, (prC (k, v, false))[j]? = some u → wb.cell? ⟨w8.heap.size, j, none⟩ = some u from fun j u hj => by rw [cell_of_row _ _ j _ _ (0, 0) hpb]; simpa [prC, strV] using hj)
        have HWb := hid hwb
        have HLE := hid (show acc.length + 1 ≤ maxLen by have := HLEN.out; unfold maxLen; omega)
        have HLF := hid (show (acc.length + 1) * 40 ≤ 140737488355328 by have := HLEN.out; omega)
        have HSZ := hid HBb.out.size
        have HK0 := hid hk0
        clear hp8 ho8 hr8 hwb bb hpb hk0 hq hst2
        go_wp2_with (at_builtin; rw [← HWb.out]; refine wpList_append_row _ rfl _ _ 55 rfl prC 3 (by decide) prC_len prC_one w.heap.size 70 (.agg #[.string .empty, .string .empty, .bool false]) 40 Try.underlying55 infoPr rfl (.slice va acc.length vc) acc.length acc rfl hob w8.heap.size 1 rfl (k, v, false) HYb.out HLE.out HLF.out HSZ.out ?_)
        intro a' c' wz hoz hgz
        have hrz := obj_grown hob hgz hrb (by decide)
        have hbz := below_grown HBb.out hob hgz (Nat.le_refl _)
        clear hob hrb hgz d0 d1 d2
        go_wp2_with fail
        go_roundg (r3.length)
        case measure => omega
        case rel => exact ⟨r3, acc ++ [(k, v, false)], hrz, HQ.out, by rw [List.length_append, List.flatMap_append]; simpa using hoz, hbz, by rw [List.length_append]; have := HLEN.out; simp only [List.length_cons, List.length_nil]; omega, Nat.le_refl _⟩
end Go.Proofs.Ytfdbcnpbjabjoaa
