/- CONTRACT: slices.Delete at letters (three cells), one letter taken out. -/
import Derived.Test.YtfdbcnpbjabjoaaMailNet
import Derived.Shelf.RegionOpenPlain
import Derived.WalkKit
import Derived.Deep.LoopGhost
import Derived.Deep.RegionLaw
import Derived.Lib.SliceRun
namespace Go.Proofs.Ytfdbcnpbjabjoaa
open Go.RowKit Go.Lib

/-- clear of one element of several cells -/
theorem run_clear_one {P : Program} (w : World) (t e ty : TypeId) (z : Value) (ht : P.underlying t = some (.slice e)) (hv : ∀ w, (zeroValue e).run P w = .ok z w) (b o c : Nat)
    (h1 : ∀ u ∈ z.cells.toList, u.oneCell' = true)
    (hc : ∀ j, j < z.cells.toList.length → (w.cell? ⟨b, o + j, none⟩).isSome = true) (hf : ∀ j, j < z.cells.toList.length → w.frozen? ⟨b, o + j, none⟩ = false) :
    (Builtin.clear_ #[t] ty #[.slice (some ⟨b, o, none⟩) 1 c]).run P w = .ok (.tuple #[]) (w.setCells b o z.cells.toList) := by
  have hzc : (Builtin.zeroCells z.cells 1).toList = z.cells.toList := by
    simp [Builtin.zeroCells]
    apply List.ext_getElem
    · simp
    · intro i h1 h2
      simp at h1 ⊢
      rw [Nat.mod_eq_of_lt h1, getElem!_pos z.cells i h1]
  have hst := run_storeCells_cells (P := P) b o z.cells.toList 0 w (by simpa using hc) (by simpa using hf) h1
  simp only [Nat.add_zero] at hst
  simp [Builtin.clear_, run_underlying ht, hv, hzc, hst]

theorem letters_len (L : List Letter) : (L.flatMap letC).length = L.length * 3 := by
  induction L with
  | nil => rfl
  | cons x L ih => rw [List.flatMap_cons, List.length_append, ih, letC_len, List.length_cons]; omega
theorem letters_one (L : List Letter) : ∀ u ∈ L.flatMap letC, u.oneCell' = true := by
  intro u hu
  obtain ⟨x, _, hx⟩ := List.mem_flatMap.1 hu
  simp only [letC, List.mem_cons, List.not_mem_nil, or_false] at hx
  rcases hx with rfl | rfl | rfl <;> rfl

theorem heap_setCells (g : Nat) (t : TypeId) : ∀ (vs : List Value) (o : Nat) (w : World) (cur : Array Value), w.heap[g]? = some (.cells cur t (0, 0)) →
    ∃ cur', (w.setCells g o vs).heap[g]? = some (.cells cur' t (0, 0)) ∧ cur'.size = cur.size ∧ ∀ j, cur'[j]? = if o ≤ j ∧ j < o + vs.length ∧ j < cur.size then vs[j - o]? else cur[j]? := by
  intro vs
  induction vs with
  | nil => intro o w cur h; exact ⟨cur, h, rfl, fun j => by rw [if_neg (by simp; omega)]⟩
  | cons v vs ih =>
    intro o w cur h
    obtain ⟨cur', h1, h2, h3⟩ := ih (o + 1) (w.setCell ⟨g, o, none⟩ v) _ (heap_setCell_same w g o cur t v h)
    refine ⟨cur', h1, by rw [h2]; simp, fun j => ?_⟩
    rw [h3 j]
    simp only [Array.size_setIfInBounds, List.length_cons]
    by_cases hj : j = o
    · subst hj
      rw [if_neg (by omega)]
      by_cases hc : j < cur.size
      · rw [if_pos ⟨Nat.le_refl _, by omega, hc⟩, Array.getElem?_setIfInBounds_self_of_lt hc, Nat.sub_self]; rfl
      · rw [if_neg (by omega), Array.getElem?_eq_none (by simp; omega), Array.getElem?_eq_none (by omega)]
    · by_cases hr : o + 1 ≤ j ∧ j < o + 1 + vs.length ∧ j < cur.size
      · rw [if_pos hr, if_pos (by omega), show j - o = (j - (o + 1)) + 1 by omega, List.getElem?_cons_succ]
      · rw [if_neg hr, if_neg (by omega), Array.getElem?_setIfInBounds_ne (by omega)]
theorem KeepT.setCells {B : Nat} {S : List TypeId} {g : Nat} {t : TypeId} (ht : t ∈ S) (hB : B ≤ g) : ∀ (vs : List Value) (o : Nat) {w w' : World} {c : Array Value} (_ : KeepT B S w w') (_ : w'.heap[g]? = some (.cells c t (0, 0))), KeepT B S w (w'.setCells g o vs) := by
  intro vs
  induction vs with
  | nil => intro o w w' c h _; exact h
  | cons v vs ih => intro o w w' c h hg; exact ih (o + 1) (h.setCell hg ht hB) (heap_setCell_same w' g o c t v hg)

theorem At.setCells {w w' : World} (g : Nat) (h : At g w w') : ∀ (vs : List Value) (o : Nat), At g w (w'.setCells g o vs) := by
  intro vs
  induction vs generalizing w' with
  | nil => intro o; exact h
  | cons v vs ih => intro o; exact ih (h.set o v) (o + 1)
set_option maxHeartbeats 2000000 in
set_option maxRecDepth 100000 in
theorem delete_any (w : World) (B b cap : Nat) (L : List Letter) (i : Nat) (hi : i < L.length) (hown : w.ownsRow B 87 3 (.slice (some ⟨b, 0, none⟩) L.length cap) L.length (L.flatMap letC)) :
    Calls Try.prog 35 #[.slice (some ⟨b, 0, none⟩) L.length cap, .int .i64 i, .int .i64 (i + 1)] w fun e w' =>
      e = .returned (.slice (some ⟨b, 0, none⟩) (L.length - 1) cap) ∧ w'.ownsRow B 87 3 (.slice (some ⟨b, 0, none⟩) (L.length - 1) cap) (L.length - 1) ((L.take i ++ L.drop (i + 1)).flatMap letC) ∧ KeepT B [87] w w' ∧ At b w w' := by
  obtain ⟨hlen, hd | ⟨g, cap', cur, e1, hB, hg, hnc, hm, hcs, htk⟩⟩ := hown
  · exact absurd hd.1 (by simp)
  · cases e1
    have e2 : ¬ ((i : Int) = (i : Int) + 1) := by omega
    have e3 : (L.length : Int) ≤ (cap : Int) := by omega
    have e4 : (i : Int) + 1 ≤ (L.length : Int) := by omega
    have e5 : (0 : Int) ≤ (i : Int) + 1 := by omega
    have mixed : Try.prog.follows Departure.mixedOrders = true := by kernel_rfl
    have hinfo : (Try.prog.info? 87).map (fun i => (i.zero, i.size, i.bytes)) = some (some (.agg #[.int .i64 0, .string .empty, .string .empty]), 3, 40) := by kernel_rfl
    obtain ⟨i0, hi0, hz0, hz1, hz2⟩ := info_parts hinfo
    obtain ⟨news, hnews⟩ : ∃ news, news = (L.drop (i + 1)).flatMap letC := ⟨_, rfl⟩
    have hnl : news.length = (L.length - (i + 1)) * 3 := by rw [hnews, letters_len, List.length_drop]
    have hcell : ∀ (u : World), u.heap = w.heap → ∀ k, u.cell? ⟨b, k, none⟩ = cur[k]? := fun u hu k => cell_of_row u b k cur _ (0, 0) (by rw [hu]; exact hg)
    have hsplit : L.flatMap letC = (L.take (i + 1)).flatMap letC ++ news := by rw [hnews, ← List.flatMap_append, List.take_append_drop]
    have hnth : ∀ t u, news[t]? = some u → cur[(i + 1) * 3 + t]? = some u := by
      intro t u hu
      have hl : t < news.length := (List.getElem?_eq_some_iff.1 hu).1
      have h1 : (cur.toList.take (L.length * 3))[(i + 1) * 3 + t]? = some u := by
        rw [htk, hsplit, List.getElem?_append_right (by rw [letters_len, List.length_take]; omega), ← hu]
        congr 1
        rw [letters_len, List.length_take]
        omega
      rw [List.getElem?_take] at h1
      split at h1
      · simpa using h1
      · cases h1
    obtain ⟨A, hA, hsrc⟩ : ∃ A : Addr, (if cap = i + 1 then (some (⟨b, 0, none⟩ : Addr)) else some ⟨b, (i + 1) * 3, none⟩) = some A ∧ Hid (∀ t u, news[t]? = some u → w.drew.cell? (A.add t) = some u) := by
      by_cases hci : cap = i + 1
      · refine ⟨⟨b, 0, none⟩, by rw [if_pos hci], ?_⟩
        intro t u hu
        have := (List.getElem?_eq_some_iff.1 hu).1
        omega
      · refine ⟨⟨b, (i + 1) * 3, none⟩, by rw [if_neg hci], ?_⟩
        intro t u hu
        rw [Addr.add_lit, hcell w.drew rfl]
        exact hnth t u hu
    have s1 : Hid (news.length = (L.length - (i + 1)) * 3) := hnl
    have s2 : Hid (∀ u ∈ news, u.oneCell' = true) := by rw [hnews]; exact letters_one _
    have s3 : Hid (∀ t, t < news.length → (w.drew.cell? ⟨b, 0 + i * 3 + t, none⟩).isSome = true ∧ w.drew.frozen? ⟨b, 0 + i * 3 + t, none⟩ = false) := by
      intro t ht
      refine ⟨?_, frozen_of_row w.drew b _ cur _ hg⟩
      rw [hcell w.drew rfl, Array.getElem?_eq_getElem (by omega)]; rfl
    -- the world behind the append
    obtain ⟨cur1, hg1, hc1, hv1⟩ := heap_setCells b 87 news (0 + i * 3) w.drew cur hg
    have k1 : KeepT B [87] w (w.drew.setCells b (0 + i * 3) news) := KeepT.setCells (by simp) hB news _ (KeepT.refl _ _ _).drew hg
    obtain ⟨W1, hW1⟩ : ∃ W1, W1 = w.drew.setCells b (0 + i * 3) news := ⟨_, rfl⟩
    have a1 : At b w (w.drew.setCells b (0 + i * 3) news) := ((At.refl b w.drew).setCells b news _).of_drew
    rw [← hW1] at hg1 k1 a1
    have hcl : ∀ ty, (Builtin.clear_ #[83] ty #[.slice (some ⟨b, (i + (L.length - (i + 1))) * 3, none⟩) (L.length - (i + (L.length - (i + 1)))) (cap - (i + (L.length - (i + 1))))]).run Try.prog W1 = .ok (.tuple #[]) (W1.setCells b ((i + (L.length - (i + 1))) * 3) [.int .i64 0, .string .empty, .string .empty]) := by
      intro ty
      rw [show L.length - (i + (L.length - (i + 1))) = 1 by omega]
      refine run_clear_one W1 83 87 ty (.agg #[.int .i64 0, .string .empty, .string .empty]) Try.underlying83 (fun w => by kernel_rfl) b _ _ ?_ ?_ ?_
      · intro u hu
        simp [Value.cells] at hu
        rcases hu with rfl | rfl | rfl <;> rfl
      · intro j hj
        simp [Value.cells] at hj
        rw [cell_of_row W1 b _ cur1 _ (0, 0) hg1, Array.getElem?_eq_getElem (by omega)]; rfl
      · intro j hj
        exact frozen_of_row W1 b _ cur1 _ hg1
    have hW : Hid (W1 = w.drew.setCells b (0 + i * 3) news) := hW1
    have hic : i ≤ cap := by omega
    have hjc : i + 1 ≤ cap := by omega
    have hfin : (W1.setCells b ((i + (L.length - (i + 1))) * 3) [.int .i64 0, .string .empty, .string .empty]).ownsRow B 87 3 (.slice (some ⟨b, 0, none⟩) (L.length - 1) cap) (L.length - 1) ((L.take i ++ L.drop (i + 1)).flatMap letC) ∧ KeepT B [87] w (W1.setCells b ((i + (L.length - (i + 1))) * 3) [.int .i64 0, .string .empty, .string .empty]) ∧ At b w (W1.setCells b ((i + (L.length - (i + 1))) * 3) [.int .i64 0, .string .empty, .string .empty]) := by
      obtain ⟨cur2, hg2, hc2, hv2⟩ := heap_setCells b 87 [.int .i64 0, .string .empty, .string .empty] ((i + (L.length - (i + 1))) * 3) W1 cur1 hg1
      refine ⟨⟨?_, .inr ⟨b, cap, cur2, rfl, hB, hg2, by omega, hm, by omega, ?_⟩⟩, KeepT.setCells (by simp) hB _ _ k1 hg1, a1.setCells b _ _⟩
      · rw [letters_len, List.length_append, List.length_take, List.length_drop]; omega
      · rw [List.flatMap_append, ← hnews]
        apply List.ext_getElem?
        intro j
        by_cases hj : j < (L.length - 1) * 3
        · rw [List.getElem?_take, if_pos hj, Array.getElem?_toList, hv2 j, if_neg (by omega), hv1 j]
          by_cases hji : j < i * 3
          · rw [if_neg (by omega), List.getElem?_append_left (by rw [letters_len, List.length_take]; omega)]
            have h1 : (cur.toList.take (L.length * 3))[j]? = (L.flatMap letC)[j]? := by rw [htk]
            rw [List.getElem?_take, if_pos (by omega), Array.getElem?_toList] at h1
            rw [h1, ← List.take_append_drop i L, List.flatMap_append, List.getElem?_append_left (by rw [letters_len, List.length_take]; omega), List.take_append_drop]
          · rw [if_pos (by omega), List.getElem?_append_right (by rw [letters_len, List.length_take]; omega), letters_len, List.length_take]
            congr 1
            omega
        · rw [List.getElem?_take, if_neg hj, List.getElem?_eq_none (by rw [List.length_append, letters_len, List.length_take]; omega)]
    clear hlen hg htk hcs hinfo hcell hnth hsplit hg1 hv1 hc1 k1 a1 hW1 hnl hnews
    go_enter Try.func35, Try.ntmps35
    go_wp2_with fail
    go_region_law_o (refine step_append_room rfl (.tmp 22) (.tmp 25) 83 rfl 87 i0 3 Try.underlying83 hi0 hz1 b 0 i cap (by simp [Act.eval, Act.put]) A (L.length - (i + 1)) (cap - (i + 1)) news (by simp [Act.eval, Act.put]) s1.out hsrc.out s2.out (by omega) s3.out ?_; rw [← hW.out])
    go_wp2
    go_ret
    exact ⟨by rw [show L.length - 1 = i + (L.length - (i + 1)) by omega]; rfl, hfin⟩
end Go.Proofs.Ytfdbcnpbjabjoaa
