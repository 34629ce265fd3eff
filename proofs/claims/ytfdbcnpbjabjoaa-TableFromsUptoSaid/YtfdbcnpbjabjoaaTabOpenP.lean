/- TABLES in plain words: the steps of the blocks' loop. -/
import Derived.Test.YtfdbcnpbjabjoaaTabQ
import Derived.Test.YtfdbcnpbjabjoaaRowAppend
namespace Go.Proofs.Ytfdbcnpbjabjoaa
open Go.RowKit
set_option linter.unusedVariables false
set_option linter.unusedSimpArgs false

theorem lastK_nil (last : List UInt8) : lastK last [] = last := rfl
theorem lastK_snoc (last : List UInt8) (x : List Pr) (p : Pr) : lastK last (x ++ [p]) = p.1 := by simp [lastK]
theorem ascB_snoc : ∀ (x : List Pr) (last : List UInt8) (p : Pr), ascB last (x ++ [p]) ↔ ascB last x ∧ ltB (lastK last x) p.1 = true
  | [], last, p => by simp [ascB, lastK]
  | q :: x, last, p => by
    rw [List.cons_append]
    unfold ascB
    rw [ascB_snoc x q.1 p]
    have e : lastK last (q :: x) = lastK q.1 x := by
      unfold lastK
      cases x with
      | nil => rfl
      | cons a b => simp [List.getLast?_cons]
    rw [e, and_assoc]
theorem ascB_take {x : List Pr} {last : List UInt8} (h : ascB last x) (m : Nat) : ascB last (x.take m) := by
  induction x generalizing last m with
  | nil => simp [ascB]
  | cons q x ih =>
    cases m with
    | zero => simp [ascB]
    | succ m => exact ⟨h.1, ih h.2 m⟩
theorem ascB_at {x : List Pr} {last : List UInt8} {m : Nat} (hm : m < x.length) : ascB last (x.take (m + 1)) ↔ ascB last (x.take m) ∧ ltB (lastK last (x.take m)) x[m].1 = true := by
  rw [List.take_succ_eq_append_getElem hm, ascB_snoc]
theorem lastK_at {x : List Pr} {last : List UInt8} {m : Nat} (hm : m < x.length) : lastK last (x.take (m + 1)) = x[m].1 := by
  rw [List.take_succ_eq_append_getElem hm, lastK_snoc]
section
variable {fl last f bk : List UInt8} {fs bs : List (List UInt8)} {x : List Pr}
theorem chk_none (h : pairsL bk = none) : chkBlocks fl last (f :: fs) (bk :: bs) = none := by rw [chkBlocks, h]
theorem chk_bad (h : pairsL bk = some x) (hb : ¬ (BlkOk last f (!bs.isEmpty) x ∧ ∀ p ∈ x, hasL fl p.1 = true)) : chkBlocks fl last (f :: fs) (bk :: bs) = none := by rw [chkBlocks, h]; simp only; rw [if_neg hb]
theorem chk_ok (h : pairsL bk = some x) (hb : BlkOk last f (!bs.isEmpty) x ∧ ∀ p ∈ x, hasL fl p.1 = true) : chkBlocks fl last (f :: fs) (bk :: bs) = (chkBlocks fl (lastK last x) fs bs).map (x ++ ·) := by rw [chkBlocks, h]; simp only; rw [if_pos hb]
end
/-- the state at the j-th block -/
structure CkAt (fl : List UInt8) (fs bs : List (List UInt8)) (j : Nat) (last : List UInt8) (acc : List Pr) : Prop where
  eq : chkBlocks fl [] fs bs = (chkBlocks fl last (fs.drop j) (bs.drop j)).map (acc ++ ·)
  len : acc.length ≤ 8 * j
theorem CkAt.start (fl : List UInt8) (fs bs : List (List UInt8)) : CkAt fl fs bs 0 [] [] := ⟨by simp, by simp⟩
theorem CkAt.stop {fl : List UInt8} {fs bs : List (List UInt8)} {last : List UInt8} {acc : List Pr} (h : CkAt fl fs bs bs.length last acc) : chkBlocks fl [] fs bs = some acc := by
  rw [h.eq, List.drop_length, chkBlocks]; simp
section
variable {fl : List UInt8} {fs bs : List (List UInt8)} {j : Nat} {last : List UInt8} {acc x : List Pr}
theorem CkAt.no (h : CkAt fl fs bs j last acc) (hj : j < bs.length) (hf : j < fs.length) (hp : pairsL bs[j] = none) : chkBlocks fl [] fs bs = none := by
  rw [h.eq, List.drop_eq_getElem_cons hj, List.drop_eq_getElem_cons hf, chk_none hp]; rfl
theorem more_at (hj : j < bs.length) : (!(bs.drop (j + 1)).isEmpty) = decide (j + 1 < bs.length) := by
  by_cases h : j + 1 < bs.length
  · rw [decide_eq_true h]
    cases hq : bs.drop (j + 1) with
    | nil => have := congrArg List.length hq; simp at this; omega
    | cons a b => rfl
  · rw [decide_eq_false h, List.drop_eq_nil_of_le (by omega)]; rfl
theorem CkAt.bad (h : CkAt fl fs bs j last acc) (hj : j < bs.length) (hf : j < fs.length) (hp : pairsL bs[j] = some x) (hb : ¬ (BlkOk last fs[j] (decide (j + 1 < bs.length)) x ∧ ∀ p ∈ x, hasL fl p.1 = true)) : chkBlocks fl [] fs bs = none := by
  rw [h.eq, List.drop_eq_getElem_cons hj, List.drop_eq_getElem_cons hf, chk_bad hp (by rw [more_at hj]; exact hb)]; rfl
theorem CkAt.next (h : CkAt fl fs bs j last acc) (hj : j < bs.length) (hf : j < fs.length) (hp : pairsL bs[j] = some x) (hb : BlkOk last fs[j] (decide (j + 1 < bs.length)) x ∧ ∀ p ∈ x, hasL fl p.1 = true) : CkAt fl fs bs (j + 1) (lastK last x) (acc ++ x) := by
  refine ⟨?_, ?_⟩
  · rw [h.eq, List.drop_eq_getElem_cons hj, List.drop_eq_getElem_cons hf, chk_ok hp (by rw [more_at hj]; exact hb), Option.map_map]
    congr 1; funext y; simp
  · have := h.len; have := hb.1.2.1; rw [List.length_append]; omega
end
/-- an owned row of elements of several cells, read -/
theorem own_cells {w : World} {B n m : Nat} {e : TypeId} {v : Value} {α : Type} {C : α → List Value} (hm : 0 < m) (hC : ∀ a, (C a).length = m) {L : List α} (h : w.ownsRow B e m v n (L.flatMap C)) (h0 : 0 < L.length) :
    n = L.length ∧ ∃ g cap, v = .slice (some ⟨g, 0, none⟩) L.length cap ∧ B ≤ g ∧ g < w.heap.size ∧ L.length ≤ cap ∧ ∀ (i : Nat) (hi : i < L.length) (j : Nat) (u : Value), (C L[i])[j]? = some u → w.cell? ⟨g, i * m + j, none⟩ = some u := by
  have hn : n = L.length := by
    have := h.1
    rw [length_flatMap_const hC] at this
    exact (Nat.eq_of_mul_eq_mul_right hm this).symm
  subst hn
  refine ⟨rfl, ?_⟩
  rcases h.2 with ⟨_, q⟩ | ⟨g, cap, cur, rfl, hB, hg, hc, hx, hs, ht⟩
  · omega
  · refine ⟨g, cap, rfl, hB, (Array.getElem?_eq_some_iff.1 hg).1, hc, fun i hi j u hu => ?_⟩
    have hj : j < m := by
      have := (List.getElem?_eq_some_iff.1 hu).1
      rw [hC] at this; exact this
    have hlt : i * m + j < L.length * m := by
      have : (i + 1) * m ≤ L.length * m := Nat.mul_le_mul_right _ hi
      rw [Nat.add_mul] at this; omega
    rw [cell_of_row w g _ cur _ (0, 0) hg]
    have h1 : (cur.toList.take (L.length * m))[i * m + j]? = (L.flatMap C)[i * m + j]? := by rw [ht]
    rw [List.getElem?_take_of_lt hlt, getElem?_flatMap_const hC L i j hj hi, hu] at h1
    simpa using h1
end Go.Proofs.Ytfdbcnpbjabjoaa
