/- CONTRACTS: the reference's table in memory (wherryref05): where a key stands. CONTRACTS: the reference's table in memory: Get, From, Same. CONTRACTS: the reference's table in memory: From. -/
import Derived.Test.YtfdbcnpbjabjoaaTabColl
import Derived.Laws.ResultCell
namespace Go.Proofs.Ytfdbcnpbjabjoaa
open Go.RowKit Go.Shelf
set_option linter.unusedVariables false
set_option linter.unusedSimpArgs false

/-- the reference's table, in block g -/
def RtAt (w : World) (g : Nat) (ps : List Pr) : Prop := ∃ pa pc, w.heap[g]? = some (.cells #[.slice pa ps.length pc] 68 (0, 0)) ∧ Sl w (.slice pa ps.length pc) 3 ps.length (ps.flatMap prC) ∧ ps.length ≤ pc
/-- where a key stands, or would stand -/
def atK (key : List UInt8) (l : List Pr) : Nat := (l.takeWhile fun p => ltB p.1 key).length
def thereK (key : List UInt8) (l : List Pr) : Bool := (l[atK key l]?).any fun p => p.1 == key
theorem atK_le (key : List UInt8) (l : List Pr) : atK key l ≤ l.length := (List.takeWhile_sublist _).length_le
theorem atK_cons (key : List UInt8) (q : Pr) (l : List Pr) : atK key (q :: l) = if ltB q.1 key = true then atK key l + 1 else 0 := by
  unfold atK
  rw [List.takeWhile_cons]
  split <;> simp
theorem atK_drop (key : List UInt8) : ∀ l : List Pr, l.drop (atK key l) = dropK key l
  | [] => rfl
  | q :: l => by
    rw [atK_cons]
    have ih := atK_drop key l
    unfold dropK at ih ⊢
    rw [List.dropWhile_cons]
    split
    · rw [List.drop_succ_cons, ih]
    · rfl
theorem atK_lt (key : List UInt8) : ∀ (l : List Pr) (i : Nat) (hi : i < l.length), (∀ j (hj : j < i), ltB (l[j]'(by omega)).1 key = true) → (ltB l[i].1 key = false ↔ atK key l = i)
  | q :: l, 0, hi, h => by
    rw [atK_cons]
    simp
  | q :: l, i + 1, hi, h => by
    have h0 : ltB q.1 key = true := h 0 (by omega)
    rw [atK_cons, if_pos h0]
    have := atK_lt key l i (by simpa using hi) (fun j hj => by have := h (j + 1) (by omega); simpa using this)
    simp only [List.getElem_cons_succ, this]
    omega
theorem atK_all (key : List UInt8) : ∀ (l : List Pr), (∀ j (hj : j < l.length), ltB l[j].1 key = true) → atK key l = l.length
  | [], _ => rfl
  | q :: l, h => by
    have h0 : ltB q.1 key = true := h 0 (by simp)
    rw [atK_cons, if_pos h0, atK_all key l (fun j hj => by have := h (j + 1) (by simpa using hj); simpa using this), List.length_cons]
set_option maxRecDepth 100000 in
set_option maxHeartbeats 8000000 in
theorem at_any (g : Nat) (ps : List Pr) (key : List UInt8) (hl : ps.length ≤ 1099511627776) (w : World) (h : RtAt w g ps) :
    Calls Try.prog 63 #[.pointer (some ⟨g, 0, none⟩), .string ⟨key.toArray⟩] w fun e w' => e = .returned (.tuple #[.int .i64 (atK key ps : Nat), .bool (thereK key ps)]) ∧ ∃ q, w' = w.drewN q := by
  obtain ⟨pa, pc, hr, hs, -⟩ := h
  have d0 : w.cell? ⟨g, 0, none⟩ = some (.slice pa ps.length pc) := by rw [cell_of_row _ _ 0 _ _ (0, 0) hr]; rfl
  clear hr
  go_enter Try.func63, Try.ntmps63
  go_wp2_with fail
  go_loopw [6] (fun i wr => ∃ m : Nat, m ≤ ps.length ∧ i = .int .i64 m ∧ wr = w ∧ ∀ j (hj : j < m), ltB ((ps[j]?.getD pr0).1) key = true) (fun i _ => ps.length - (intOf i).toNat)
  case atStart => exact ⟨0, by omega, rfl, rfl, fun j hj => by omega⟩
  case round =>
    obtain ⟨m, hm, rfl, rfl, hlo⟩ := hrel
    by_cases hmq : m < ps.length
    case neg =>
      obtain rfl : m = ps.length := by omega
      have HM := hid (atK_all key ps (fun j hj => by have := hlo j hj; rwa [List.getElem?_eq_getElem hj, Option.getD_some] at this))
      clear hlo hs
      go_wp2_with fail
      go_quiet (fail)
      go_wp2_with fail
      go_ret2
      exact ⟨by unfold thereK; rw [HM.out, List.getElem?_eq_none (Nat.le_refl _)]; rfl, _, rfl⟩
    case pos =>
      obtain ⟨-, -, a', cap', hv, hc⟩ := hs
      rw [Value.slice.injEq] at hv
      obtain ⟨rfl, -, rfl⟩ := hv
      obtain ⟨b, off, rfl, hblt, hc⟩ := hc.resolve_left (by omega)
      have hm0 : (0 : Int) ≤ (m : Int) := by omega
      have hm1 : (m : Int) < (ps.length : Int) := by omega
      have q0 : wr.cell? ⟨b, off + m * 3, none⟩ = some (.string ⟨ps[m].1.toArray⟩) := Sl.cell (f := prC) (k := 3) prC_len hc m 0 (by omega) hmq _ rfl
      have HLT := hid (atK_lt key ps m hmq (fun j hj => by have := hlo j hj; rwa [List.getElem?_eq_getElem (by omega), Option.getD_some] at this))
      have HLO := hid hlo
      clear hc hlo
      cases hb : ltB ps[m].1 key with
      | true =>
        have HN := hid (show ∀ j (hj : j < m + 1), ltB ((ps[j]?.getD pr0).1) key = true from fun j hj => by
          by_cases e : j = m
          · subst e; rw [List.getElem?_eq_getElem hmq]; exact hb
          · exact HLO.out j (by omega))
        have hb' : Op.bytesLess ps[m].1 key = true := hb
        clear hb
        go_wp2_with fail
        go_roundw
        case rel => exact ⟨m + 1, by omega, by go_num, trivial, HN.out⟩
        case measure => simp [intOf]; omega
      | false =>
        have HM := hid (HLT.out.1 hb)
        have hb' : Op.bytesLess ps[m].1 key = false := hb
        clear hb
        go_wp2_with fail
        go_quiet (fail)
        go_wp2_with fail
        go_ret2
        exact ⟨by unfold thereK; rw [HM.out, List.getElem?_eq_getElem hmq]; rfl, _, rfl⟩
end Go.Proofs.Ytfdbcnpbjabjoaa
namespace Go.Proofs.Ytfdbcnpbjabjoaa
open Go.RowKit Go.Shelf
set_option linter.unusedVariables false
set_option linter.unusedSimpArgs false

set_option maxRecDepth 100000 in
set_option maxHeartbeats 8000000 in
theorem refget_any (g : Nat) (ps : List Pr) (key : List UInt8) (hl : ps.length ≤ 1099511627776) (w : World) (h : RtAt w g ps) :
    Calls Try.prog 27 #[.pointer (some ⟨g, 0, none⟩), .string ⟨key.toArray⟩] w fun e w' => e = .returned (.tuple #[.agg (prC (if thereK key ps = true then ps[atK key ps]?.getD pr0 else pr0)).toArray, .bool (thereK key ps)]) ∧ Below w.heap.size w w' := by
  obtain ⟨w1, hw1⟩ : ∃ x, x = w.alloc (.cells #[.string ⟨#[]⟩, .string ⟨#[]⟩, .bool false] 70) := ⟨_, rfl⟩
  have b1 : Below w.heap.size w w1 := by rw [hw1]; exact (Below.refl _ _).alloc (Nat.le_refl _) _
  have r1 : w1.heap[w.heap.size]? = some (.cells #[.string ⟨#[]⟩, .string ⟨#[]⟩, .bool false] 70 (0, 0)) := by rw [hw1]; exact heap_alloc_new w _
  obtain ⟨pa, pc, hr, hs, hpc⟩ := h
  have hr1 := (b1.block g (Array.getElem?_eq_some_iff.1 hr).1).trans hr
  have hs1 := hs.below b1
  have ha := at_any g ps key hl w1 ⟨pa, pc, hr1, hs1, hpc⟩
  have HW1 := hid hw1
  have d0 : w1.cell? ⟨g, 0, none⟩ = some (.slice pa ps.length pc) := by rw [cell_of_row _ _ 0 _ _ (0, 0) hr1]; rfl
  obtain ⟨q0, q1, q2, fz⟩ := prow_cell r1
  have f0 := fz 0
  have f1 := fz 1
  have f2 := fz 2
  clear hw1 hr hr1 hs fz r1
  cases ht : thereK key ps with
  | false =>
    rw [ht] at ha
    go_enter Try.func27, Try.ntmps27
    go_wp2_with (rw [← HW1.out])
    refine ha.mono ?_
    rintro _ w2 ⟨rfl, q, rfl⟩
    go_wp2_with fail
    refine bodyPost_ret (v := .tuple #[.agg (prC pr0).toArray, .bool false]) ?_ rfl ⟨by simp, At.below (bnext b1 (below_drewN _ w1 q)) ((((At.refl w.heap.size (w1.drewN q)).set 0 _).set 1 _).set 2 _) (Nat.le_refl _)⟩
    rw [results_cell_tmp rfl]
    go_simp
    rfl
  | true =>
    have hm : atK key ps < ps.length := by
      rcases Nat.lt_or_ge (atK key ps) ps.length with q | q
      · exact q
      · unfold thereK at ht; rw [List.getElem?_eq_none q] at ht; cases ht
    rw [ht] at ha
    rw [if_pos rfl, List.getElem?_eq_getElem hm, Option.getD_some]
    obtain ⟨-, -, a', cap', hv, hc⟩ := hs1
    rw [Value.slice.injEq] at hv
    obtain ⟨rfl, -, rfl⟩ := hv
    obtain ⟨b, off, rfl, hblt, hc⟩ := hc.resolve_left (by omega)
    have p0 : w1.cell? ⟨b, off + atK key ps * 3, none⟩ = some (strV (ps[atK key ps]).1) := Sl.cell (f := prC) (k := 3) prC_len hc (atK key ps) 0 (by omega) hm _ rfl
    have p1 : w1.cell? ⟨b, off + atK key ps * 3 + 1, none⟩ = some (strV (ps[atK key ps]).2.1) := Sl.cell (f := prC) (k := 3) prC_len hc (atK key ps) 1 (by omega) hm _ rfl
    have p2 : w1.cell? ⟨b, off + atK key ps * 3 + 2, none⟩ = some (.bool (ps[atK key ps]).2.2) := Sl.cell (f := prC) (k := 3) prC_len hc (atK key ps) 2 (by omega) hm _ rfl
    clear hc ht
    generalize ps[atK key ps] = pm at *
    obtain ⟨kk, vv, gg⟩ := pm
    dsimp only [strV] at p0 p1 p2
    have hmI : ((atK key ps : Nat) : Int) < (ps.length : Int) := by exact_mod_cast hm
    have hm0 : (0 : Int) ≤ ((atK key ps : Nat) : Int) := Int.natCast_nonneg _
    generalize atK key ps = m at *
    go_enter Try.func27, Try.ntmps27
    go_wp2_with (rw [← HW1.out])
    refine ha.mono ?_
    rintro _ w2 ⟨rfl, q, rfl⟩
    go_wp2_with fail
    refine bodyPost_ret (v := .tuple #[.agg (prC (kk, vv, gg)).toArray, .bool true]) ?_ rfl ⟨rfl, At.below (bnext b1 (below_drewN _ w1 q)) ((((At.refl w.heap.size (w1.drewN q)).set 0 _).set 1 _).set 2 _) (Nat.le_refl _)⟩
    rw [results_cell_tmp rfl]
    go_simp
    rfl
end Go.Proofs.Ytfdbcnpbjabjoaa
namespace Go.Proofs.Ytfdbcnpbjabjoaa
open Go.RowKit Go.Shelf
set_option linter.unusedVariables false
set_option linter.unusedSimpArgs false

theorem Sl.dropP {w : World} {a : Option Addr} {c k : Nat} {l : List Pr} (h : Sl w (.slice a l.length c) 3 l.length (l.flatMap prC)) (hk : k ≤ l.length) (hcap : l.length ≤ c) : Sl w (.slice (if c = k then a else a.map (·.add (k * 3))) (l.length - k) (c - k)) 3 (l.length - k) ((l.drop k).flatMap prC) := by
  obtain ⟨h1, ⟨h2, h3⟩, a', cap, hv, hc⟩ := h
  rw [Value.slice.injEq] at hv
  obtain ⟨rfl, -, rfl⟩ := hv
  have hl : ∀ m : List Pr, (m.flatMap prC).length = m.length * 3 := fun m => length_flatMap_const prC_len m
  refine ⟨by rw [hl, List.length_drop], ⟨by omega, fun n c' e => ?_⟩, _, _, rfl, ?_⟩
  · rw [Value.slice.injEq] at e
    obtain ⟨e1, -, rfl⟩ := e
    cases a with
    | none => have := h3 _ _ rfl; omega
    | some a => split at e1 <;> cases e1
  · by_cases hz : l.length - k = 0
    · exact .inl hz
    · obtain ⟨b, off, rfl, hb, hcc⟩ := hc.resolve_left (by omega)
      right
      have ha : (⟨b, off, Option.none⟩ : Addr).add (k * 3) = ⟨b, off + k * 3, Option.none⟩ := Addr.add_lit ..
      rw [if_neg (show ¬ c = k by omega)]
      refine ⟨b, off + k * 3, by rw [Option.map_some, ha], hb, fun j hj => ?_⟩
      have e : l.flatMap prC = (l.take k).flatMap prC ++ (l.drop k).flatMap prC := by rw [← List.flatMap_append, List.take_append_drop]
      have hkl : ((l.take k).flatMap prC).length = k * 3 := by rw [hl, List.length_take, Nat.min_eq_left hk]
      have hj2 : k * 3 + j < (l.flatMap prC).length := by rw [e, List.length_append, hkl]; omega
      rw [Nat.add_assoc, hcc (k * 3 + j) hj2]
      congr 1
      simp only [e]
      rw [List.getElem_append_right (by omega)]
      simp only [hkl]
      congr 1
      omega
set_option maxRecDepth 100000 in
set_option maxHeartbeats 8000000 in
theorem reffrom_any (g : Nat) (ps : List Pr) (key : List UInt8) (hl : ps.length ≤ 1099511627776) (w : World) (h : RtAt w g ps) :
    Calls Try.prog 32 #[.pointer (some ⟨g, 0, none⟩), .string ⟨key.toArray⟩] w fun e w' => ∃ v, e = .returned v ∧ Sl w' v 3 (dropK key ps).length ((dropK key ps).flatMap prC) ∧ Below w.heap.size w w' := by
  have ha := at_any g ps key hl w h
  obtain ⟨pa, pc, hr, hs, hpc⟩ := h
  have d0 : w.cell? ⟨g, 0, none⟩ = some (.slice pa ps.length pc) := by rw [cell_of_row _ _ 0 _ _ (0, 0) hr]; rfl
  have hle := atK_le key ps
  rw [← atK_drop key ps]
  generalize thereK key ps = b at *
  generalize atK key ps = k at *
  have hk0 : (0 : Int) ≤ (k : Int) := by omega
  have hk1 : (k : Int) ≤ (ps.length : Int) := by omega
  have hpI : (ps.length : Int) ≤ (pc : Int) := by omega
  have HS := hid (hs.dropP hle hpc)
  have HQ := hid (show (ps.drop k).length = ps.length - k from List.length_drop ..)
  rw [HQ.out]
  clear hr hs
  go_enter Try.func32, Try.ntmps32
  go_wp2_with fail
  refine ha.mono ?_
  rintro _ w2 ⟨rfl, q, rfl⟩
  by_cases hpk : pc = k
  · rw [if_pos hpk] at HS
    have hp0 : pc - k = 0 := by omega
    rw [hp0] at HS
    go_wp2_with fail
    go_ret
    exact ⟨_, rfl, HS.out, ⟨rfl, rfl, rfl, Nat.le_refl _, fun _ _ => rfl⟩⟩
  · rw [if_neg hpk] at HS
    go_wp2_with fail
    go_ret
    exact ⟨_, rfl, HS.out, ⟨rfl, rfl, rfl, Nat.le_refl _, fun _ _ => rfl⟩⟩
theorem RtAt.below {w w' : World} {g : Nat} {ps : List Pr} (h : RtAt w g ps) (b : Below w.heap.size w w') : RtAt w' g ps := by
  obtain ⟨pa, pc, h1, h2, h3⟩ := h
  exact ⟨pa, pc, (b.block g (Array.getElem?_eq_some_iff.1 h1).1).trans h1, h2.below b, h3⟩
end Go.Proofs.Ytfdbcnpbjabjoaa
