/- PLAIN: the reference's Build, pair by pair. -/
import Derived.Test.YtfdbcnpbjabjoaaTabBP
namespace Go.Proofs.Ytfdbcnpbjabjoaa
open Go.RowKit
set_option linter.unusedVariables false
set_option linter.unusedSimpArgs false

def lastR (l : List Pr) (m : Nat) : List UInt8 := if m = 0 then [] else (l[m - 1]?.getD ([], [], false)).1
theorem lastR_succ {l : List Pr} {m : Nat} (h : m < l.length) : lastR l (m + 1) = l[m].1 := by unfold lastR; rw [if_neg (by omega), Nat.add_sub_cancel, List.getElem?_eq_getElem h]; rfl
theorem chkR_step {l : List Pr} {m : Nat} (h : m < l.length) : chkB (lastR l m) (l.drop m) = if ltB (lastR l m) l[m].1 = false ∨ (l[m].2.2 = true ∧ l[m].2.1 ≠ []) then 1 else if 64 < l[m].1.length ∨ 8192 < l[m].2.1.length then 2 else chkB (lastR l (m + 1)) (l.drop (m + 1)) := by
  rw [List.drop_eq_getElem_cons h, chkB, lastR_succ h]
def fullR (l : List Pr) (m : Nat) : Nat := if m = l.length then chN l.length else m / 8
def outR (l : List Pr) (m : Nat) : List UInt8 := (List.range (fullR l m)).flatMap fun j => wrapL (blkL (gAt l j))
def blkR (l : List Pr) (m : Nat) : List UInt8 := if m = l.length then [] else blkL ((l.drop (8 * (m / 8))).take (m % 8))
def ixR (l : List Pr) (m : Nat) : List UInt8 := (List.range ((m + 7) / 8)).flatMap fun j => textL (headK (gAt l j))
theorem outR_zero {l : List Pr} (h : l ≠ []) : outR l 0 = [] := by
  have := List.length_pos_iff.2 h
  unfold outR fullR
  rw [if_neg (by omega)]; rfl
theorem blkR_zero {l : List Pr} (h : l ≠ []) : blkR l 0 = [] := by
  have := List.length_pos_iff.2 h
  unfold blkR
  rw [if_neg (by omega)]; rfl
theorem ixR_zero (l : List Pr) : ixR l 0 = [] := rfl
theorem gAt_headR {l : List Pr} {m : Nat} (h : m < l.length) (h8 : m % 8 = 0) : headK (gAt l (m / 8)) = l[m].1 := by
  have e : 8 * (m / 8) = m := by omega
  unfold headK gAt
  rw [e, List.drop_eq_getElem_cons h]
  rfl
theorem ixR_first {l : List Pr} {m : Nat} (h : m < l.length) (h8 : m % 8 = 0) : ixR l (m + 1) = ixR l m ++ textL l[m].1 := by
  unfold ixR
  rw [show (m + 1 + 7) / 8 = m / 8 + 1 by omega, show (m + 7) / 8 = m / 8 by omega, List.range_succ, List.flatMap_append, List.flatMap_singleton, gAt_headR h h8]
theorem ixR_next {l : List Pr} {m : Nat} (h8 : m % 8 ≠ 0) : ixR l (m + 1) = ixR l m := by
  unfold ixR
  rw [show (m + 1 + 7) / 8 = (m + 7) / 8 by omega]
theorem blk_add {l : List Pr} {m : Nat} (h : m < l.length) : blkR l m ++ pairL l[m] = blkL ((l.drop (8 * (m / 8))).take (m % 8 + 1)) := by
  unfold blkR
  rw [if_neg (by omega), List.take_succ_eq_append_getElem (by rw [List.length_drop]; omega)]
  unfold blkL
  rw [List.flatMap_append, List.flatMap_singleton, List.getElem_drop]
  have e : 8 * (m / 8) + m % 8 = m := by omega
  simp only [e]
theorem blk_full {l : List Pr} {m : Nat} (h : m < l.length) (h8 : m % 8 = 7 ∨ m = l.length - 1) : blkR l m ++ pairL l[m] = blkL (gAt l (m / 8)) := by
  rw [blk_add h]
  unfold gAt
  rcases h8 with h8 | h8
  · rw [h8]
  · rw [List.take_of_length_le (by rw [List.length_drop]; omega), List.take_of_length_le (by rw [List.length_drop]; omega)]
theorem outR_full {l : List Pr} {m : Nat} (h : m < l.length) (h8 : m % 8 = 7 ∨ m = l.length - 1) : outR l (m + 1) = outR l m ++ wrapL (blkR l m ++ pairL l[m]) := by
  rw [blk_full h h8]
  unfold outR
  have e1 : fullR l (m + 1) = m / 8 + 1 := by unfold fullR chN; split <;> omega
  have e2 : fullR l m = m / 8 := by unfold fullR; rw [if_neg (by omega)]
  rw [e1, e2, List.range_succ, List.flatMap_append, List.flatMap_singleton]
theorem blkR_full {l : List Pr} {m : Nat} (h : m < l.length) (h8 : m % 8 = 7 ∨ m = l.length - 1) : blkR l (m + 1) = [] := by
  unfold blkR
  split
  · rfl
  · rw [show (m + 1) % 8 = 0 by omega]; rfl
theorem outR_more {l : List Pr} {m : Nat} (h : m < l.length) (h8 : ¬ (m % 8 = 7 ∨ m = l.length - 1)) : outR l (m + 1) = outR l m := by
  unfold outR fullR
  rw [if_neg (by omega), if_neg (by omega), show (m + 1) / 8 = m / 8 by omega]
theorem blkR_more {l : List Pr} {m : Nat} (h : m < l.length) (h8 : ¬ (m % 8 = 7 ∨ m = l.length - 1)) : blkR l (m + 1) = blkR l m ++ pairL l[m] := by
  rw [blk_add h]
  unfold blkR
  rw [if_neg (by omega), show (m + 1) / 8 = m / 8 by omega, show (m + 1) % 8 = m % 8 + 1 by omega]
theorem range_fin {α : Type} (n : Nat) (f : Nat → List α) : (List.range n).flatMap f = (List.finRange n).flatMap fun j => f j.val := by
  have : List.range n = (List.finRange n).map (·.val) := List.ext_getElem (by simp) fun i h1 h2 => by simp
  rw [this, List.flatMap_map]
theorem outR_all (l : List Pr) : outR l l.length = bodyL l := by
  unfold outR fullR
  rw [if_pos rfl, range_fin, ← outF_all]
  rfl
theorem ixR_all (l : List Pr) : ixR l l.length = indexL l := by
  unfold ixR
  rw [range_fin, ← ixF_all]
  rfl
theorem blkR_all (l : List Pr) : blkR l l.length = [] := by unfold blkR; rw [if_pos rfl]
theorem blkR_le {l : List Pr} (h : ∀ p ∈ l, PrOk p) (m : Nat) : (blkR l m).length ≤ 66400 := by
  unfold blkR
  split
  · simp
  · have h1 := blkL_le (g := (l.drop (8 * (m / 8))).take (m % 8)) (fun p hp => h p (List.mem_of_mem_drop (List.mem_of_mem_take hp)))
    have h2 : ((l.drop (8 * (m / 8))).take (m % 8)).length ≤ 8 := by rw [List.length_take]; omega
    omega
theorem range_le {α : Type} (n k : Nat) (f : Nat → List α) (h : ∀ j, (f j).length ≤ k) : ((List.range n).flatMap f).length ≤ k * n := by
  induction n with
  | zero => simp
  | succ n ih =>
    rw [List.range_succ, List.flatMap_append, List.flatMap_singleton, List.length_append, Nat.mul_succ]
    have := h n
    omega
theorem outR_le {l : List Pr} (h : ∀ p ∈ l, PrOk p) (m : Nat) (hm : m ≤ l.length) : (outR l m).length ≤ 66414 * (l.length + 1) := by
  refine Nat.le_trans (range_le _ 66414 _ fun j => ?_) (Nat.mul_le_mul_left _ ?_)
  · have h2 := blkL_le (gAt_ok h j)
    have h3 : (gAt l j).length ≤ 8 := by rw [gAt_len]; omega
    have h4 := wrapL_le (s := blkL (gAt l j)) (by omega)
    omega
  · unfold fullR chN; split <;> omega
theorem ixR_le {l : List Pr} (h : ∀ p ∈ l, PrOk p) (m : Nat) (hm : m ≤ l.length) : (ixR l m).length ≤ 74 * (l.length + 1) := by
  refine Nat.le_trans (range_le _ 74 _ fun j => ?_) (Nat.mul_le_mul_left _ (by omega))
  have h2 := headK_le (gAt_ok h j)
  have h3 := textL_le (k := headK (gAt l j)) (by omega)
  omega
end Go.Proofs.Ytfdbcnpbjabjoaa
