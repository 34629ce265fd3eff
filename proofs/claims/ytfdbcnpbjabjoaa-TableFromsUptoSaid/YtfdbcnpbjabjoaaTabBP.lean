/- PLAIN: table.Build's groups as the loop's rounds take them. -/
import Derived.Test.YtfdbcnpbjabjoaaTabChunk
namespace Go.Proofs.Ytfdbcnpbjabjoaa
open Go.RowKit
set_option linter.unusedVariables false
set_option linter.unusedSimpArgs false

def gAt (l : List Pr) (j : Nat) : List Pr := (l.drop (8 * j)).take 8
def outF (l : List Pr) (js : List (Fin (chN l.length))) : List UInt8 := js.flatMap fun j : Fin (chN l.length) => wrapL (blkL (gAt l j))
def ksF (l : List Pr) (js : List (Fin (chN l.length))) : List (List UInt8) := js.flatMap fun j : Fin (chN l.length) => (gAt l j).map (·.1)
def ixF (l : List Pr) (js : List (Fin (chN l.length))) : List UInt8 := js.flatMap fun j : Fin (chN l.length) => textL (headK (gAt l j))
theorem gAt_len (l : List Pr) (j : Nat) : (gAt l j).length = min 8 (l.length - 8 * j) := by unfold gAt; rw [List.length_take, List.length_drop]
theorem gAt_ne (l : List Pr) (j : Fin (chN l.length)) : 0 < (gAt l j).length := by
  rw [gAt_len]
  have := j.2
  unfold chN at this
  omega
theorem gAt_at (l : List Pr) (j m : Nat) (h : m < (gAt l j).length) : 8 * j + m < l.length ∧ (gAt l j)[m]? = l[8 * j + m]? := by
  rw [gAt_len] at h
  refine ⟨by omega, ?_⟩
  unfold gAt
  rw [List.getElem?_take, if_pos (by omega), List.getElem?_drop]
theorem gAt_grp (l : List Pr) (k : Nat) : ∀ n, l.length - 8 * k ≤ n → (List.range' k (chN l.length - k)).map (gAt l) = grp (l.drop (8 * k)) := by
  intro n
  induction n generalizing k with
  | zero =>
    intro h
    have : chN l.length - k = 0 := by unfold chN; omega
    rw [this, List.drop_of_length_le (by omega), grp_nil]; rfl
  | succ n ih =>
    intro h
    by_cases h0 : l.length ≤ 8 * k
    · have : chN l.length - k = 0 := by unfold chN; omega
      rw [this, List.drop_of_length_le h0, grp_nil]; rfl
    · have e : chN l.length - k = (chN l.length - (k + 1)) + 1 := by unfold chN; omega
      rw [e, List.range'_succ, List.map_cons, ih (k + 1) (by omega), grp_cons (l := l.drop (8 * k)) (by simp; omega), List.drop_drop]
      rfl
theorem gAt_all (l : List Pr) : (List.finRange (chN l.length)).map (fun j : Fin (chN l.length) => gAt l j) = grp l := by
  have h := gAt_grp l 0 l.length (by omega)
  rw [Nat.sub_zero, Nat.mul_zero, List.drop_zero, ← List.range_eq_range'] at h
  rw [← h]
  refine List.ext_getElem (by simp) fun i h1 h2 => by simp
theorem outF_snoc (l : List Pr) (js : List (Fin (chN l.length))) (j : Fin (chN l.length)) : outF l (js ++ [j]) = outF l js ++ wrapL (blkL (gAt l j)) := by simp [outF]
theorem ksF_snoc (l : List Pr) (js : List (Fin (chN l.length))) (j : Fin (chN l.length)) : ksF l (js ++ [j]) = ksF l js ++ (gAt l j).map (·.1) := by simp [ksF]
theorem ixF_snoc (l : List Pr) (js : List (Fin (chN l.length))) (j : Fin (chN l.length)) : ixF l (js ++ [j]) = ixF l js ++ textL (headK (gAt l j)) := by simp [ixF]
theorem outF_all (l : List Pr) : outF l (List.finRange (chN l.length)) = bodyL l := by
  unfold outF bodyL
  rw [← gAt_all l, List.flatMap_map]
theorem ixF_all (l : List Pr) : ixF l (List.finRange (chN l.length)) = indexL l := by
  unfold ixF indexL
  rw [← gAt_all l, List.flatMap_map]
theorem ksF_all (l : List Pr) : ksF l (List.finRange (chN l.length)) = keysL l := by
  unfold ksF keysL
  conv => rhs; rw [← grp_flat l]
  rw [← gAt_all l, List.map_flatten, List.map_map]
  rfl
theorem grp_len (l : List Pr) : (grp l).length = chN l.length := by rw [← gAt_all l]; simp
theorem pairL_le {p : Pr} (h : PrOk p) : (pairL p).length ≤ 8300 := by
  have h10 := putL_len10 (n := p.1.length) (by have := h.k64; unfold U64; omega)
  have h11 := putL_len10 (n := p.2.1.length + 1) (by have := h.v8; unfold U64; omega)
  have h12 := putL_len10 (n := 0) (by unfold U64; omega)
  have := h.k64; have := h.v8
  unfold pairL textL
  split <;> simp only [List.length_append] <;> omega
theorem blkL_le : ∀ {g : List Pr}, (∀ p ∈ g, PrOk p) → (blkL g).length ≤ 8300 * g.length
  | [], _ => by simp [blkL]
  | p :: g, h => by
    have h1 := pairL_le (h p (by simp))
    have h2 := blkL_le (g := g) (fun q hq => h q (by simp [hq]))
    unfold blkL at h2 ⊢
    rw [List.flatMap_cons, List.length_append, List.length_cons]
    omega
theorem gAt_ok {l : List Pr} (h : ∀ p ∈ l, PrOk p) (j : Nat) : ∀ p ∈ gAt l j, PrOk p := fun p hp => h p (List.mem_of_mem_drop (List.mem_of_mem_take hp))
theorem wrapL_le {s : List UInt8} (h : s.length ≤ 1048576) : (wrapL s).length ≤ s.length + 14 := by
  have h10 := putL_len10 (n := s.length) (by unfold U64; omega)
  unfold wrapL
  simp only [List.length_append, fourL_len]
  omega
theorem textL_le {k : List UInt8} (h : k.length ≤ 1048576) : (textL k).length ≤ k.length + 10 := by
  have h10 := putL_len10 (n := k.length) (by unfold U64; omega)
  unfold textL
  rw [List.length_append]; omega
theorem outF_le {l : List Pr} (h : ∀ p ∈ l, PrOk p) : ∀ (js : List (Fin (chN l.length))), (outF l js).length ≤ 66414 * js.length
  | [] => by simp [outF]
  | j :: js => by
    have h1 := outF_le h js
    have h2 := blkL_le (gAt_ok h j)
    have h3 : (gAt l j).length ≤ 8 := by rw [gAt_len]; omega
    have h4 := wrapL_le (s := blkL (gAt l j)) (by omega)
    unfold outF at h1 ⊢
    rw [List.flatMap_cons, List.length_append, List.length_cons]
    omega
theorem headK_le {g : List Pr} (h : ∀ p ∈ g, PrOk p) : (headK g).length ≤ 64 := by
  cases g with
  | nil => simp [headK]
  | cons p g => exact (h p (by simp)).k64
theorem ixF_le {l : List Pr} (h : ∀ p ∈ l, PrOk p) : ∀ (js : List (Fin (chN l.length))), (ixF l js).length ≤ 74 * js.length
  | [] => by simp [ixF]
  | j :: js => by
    have h1 := ixF_le h js
    have h2 := headK_le (gAt_ok h j)
    have h3 := textL_le (k := headK (gAt l j)) (by omega)
    unfold ixF at h1 ⊢
    rw [List.flatMap_cons, List.length_append, List.length_cons]
    omega
theorem ksF_len {l : List Pr} : ∀ (js : List (Fin (chN l.length))), (ksF l js).length ≤ 8 * js.length
  | [] => by simp [ksF]
  | j :: js => by
    have h1 := ksF_len (l := l) js
    have h3 : (gAt l j).length ≤ 8 := by rw [gAt_len]; omega
    unfold ksF at h1 ⊢
    rw [List.flatMap_cons, List.length_append, List.length_cons, List.length_map]
    omega
end Go.Proofs.Ytfdbcnpbjabjoaa
