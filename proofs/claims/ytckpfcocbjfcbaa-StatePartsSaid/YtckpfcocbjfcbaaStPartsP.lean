/- PLAIN: the first event that can't come; a number brought into bounds. -/
import Derived.Test.YtckpfcocbjfcbaaSmLaw2
namespace Go.Proofs.Ytckpfcocbjfcbaa
open Go.RowKit
set_option linter.unusedVariables false

theorem firstBad_at : ∀ (r p : List Ev) (i : Nat) (e : Int), firstBad p r = some (i, e) → p.length ≤ i ∧ i < p.length + r.length ∧ firstBad p (r.take (i - p.length)) = none
  | [], p, i, e, h => by cases h
  | x :: r, p, i, e, h => by
    simp only [firstBad] at h
    split at h
    · rename_i hc
      injection h with h
      injection h with h1 h2
      subst h1
      refine ⟨Nat.le_refl _, by simp, ?_⟩
      rw [Nat.sub_self]; rfl
    · rename_i hc
      obtain ⟨h1, h2, h3⟩ := firstBad_at r _ i e h
      rw [List.length_append, List.length_singleton] at h1 h2 h3
      refine ⟨by omega, by rw [List.length_cons]; omega, ?_⟩
      rw [show i - p.length = (i - (p.length + 1)) + 1 by omega, List.take_succ_cons]
      simp only [firstBad]
      rw [if_neg hc]; exact h3
theorem rb_bad {l : List Ev} (h : (rbuildF l).2.2 ≠ 0) : ∃ i : Nat, (rbuildF l).2.1 = (i : Int) ∧ i < l.length ∧ (rbuildF (l.take i)).2.2 = 0 := by
  unfold rbuildF at h ⊢
  cases hf : firstBad [] l with
  | none => rw [hf] at h; exact absurd rfl h
  | some x =>
    obtain ⟨i, e⟩ := x
    obtain ⟨-, h2, h3⟩ := firstBad_at l [] i e hf
    refine ⟨i, rfl, by simpa using h2, ?_⟩
    rw [List.length_nil, Nat.sub_zero] at h3
    rw [h3]
theorem hs_last {l : List Ev} {e : Ev} (h : Hs (l ++ [e])) : Hs l ∧ comesF l e = 0 := by
  generalize hL : l ++ [e] = L at h
  cases h with
  | nil => simp at hL
  | @snoc m f h1 h2 =>
    obtain ⟨rfl, h3⟩ := List.append_inj' hL rfl
    injection h3 with h3
    subst h3
    exact ⟨h1, h2⟩
theorem firstBad_hs' : ∀ (r p : List Ev), Hs (p ++ r) → firstBad p r = none
  | [], p, _ => rfl
  | x :: r, p, h => by
    have h1 := h.take (p.length + 1)
    rw [List.take_append, List.take_of_length_le (by omega)] at h1
    rw [show p.length + 1 - p.length = 1 by omega] at h1
    simp only [List.take_succ_cons, List.take_zero] at h1
    simp only [firstBad]
    rw [if_neg (not_not_intro (hs_last h1).2)]
    refine firstBad_hs' r _ ?_
    rw [List.append_assoc]; exact h
theorem tmod_in (n : Int) (k : Nat) : ∃ N : Nat, N ≤ k ∧ (n.tmod ((k : Int) + 1) + (k : Int) + 1).tmod ((k : Int) + 1) = (N : Int) ∧ -(k : Int) ≤ n.tmod ((k : Int) + 1) ∧ n.tmod ((k : Int) + 1) ≤ (k : Int) := by
  have h1 : (n.tmod ((k : Int) + 1)) < (k : Int) + 1 := Int.tmod_lt_of_pos n (by omega)
  have h2 : -((k : Int) + 1) < n.tmod ((k : Int) + 1) := by
    have := Int.tmod_lt_of_pos (-n) (b := (k : Int) + 1) (by omega)
    rw [Int.neg_tmod] at this
    omega
  have h3 : 0 ≤ (n.tmod ((k : Int) + 1) + (k : Int) + 1).tmod ((k : Int) + 1) := Int.tmod_nonneg _ (by omega)
  have h4 : (n.tmod ((k : Int) + 1) + (k : Int) + 1).tmod ((k : Int) + 1) < (k : Int) + 1 := Int.tmod_lt_of_pos _ (by omega)
  exact ⟨((n.tmod ((k : Int) + 1) + (k : Int) + 1).tmod ((k : Int) + 1)).toNat, by omega, by omega, by omega, by omega⟩
/-- a slice's rest -/
theorem Sl.drop {w : World} {a : Option Addr} {c k : Nat} {l : List Ev} (h : Sl w (.slice a l.length c) 8 l.length (l.flatMap evc)) (hk : k ≤ l.length) (hcap : l.length ≤ c) : Sl w (.slice (if c = k then a else a.map (·.add (k * 8))) (l.length - k) (c - k)) 8 (l.length - k) ((l.drop k).flatMap evc) := by
  obtain ⟨h1, ⟨h2, h3⟩, a', cap, hv, hc⟩ := h
  rw [Value.slice.injEq] at hv
  obtain ⟨rfl, -, rfl⟩ := hv
  have hl : ∀ m : List Ev, (m.flatMap evc).length = m.length * 8 := fun m => length_flatMap_const evc_len m
  refine ⟨by rw [hl, List.length_drop], ⟨by omega, fun n c' e => ?_⟩, _, _, rfl, ?_⟩
  · rw [Value.slice.injEq] at e
    obtain ⟨e1, -, rfl⟩ := e
    cases a with
    | none => have := h3 _ _ rfl; omega
    | some a => split at e1 <;> cases e1
  · by_cases hz : l.length - k = 0
    · exact .inl hz
    · obtain ⟨b, off, rfl, hb, hcc⟩ := hc.resolve_left (by omega)
      right
      have ha : (⟨b, off, Option.none⟩ : Addr).add (k * 8) = ⟨b, off + k * 8, Option.none⟩ := Addr.add_lit ..
      rw [if_neg (show ¬ c = k by omega)]
      refine ⟨b, off + k * 8, by rw [Option.map_some, ha], hb, fun j hj => ?_⟩
      have e : l.flatMap evc = (l.take k).flatMap evc ++ (l.drop k).flatMap evc := by rw [← List.flatMap_append, List.take_append_drop]
      have hkl : ((l.take k).flatMap evc).length = k * 8 := by rw [hl, List.length_take, Nat.min_eq_left hk]
      have hj2 : k * 8 + j < (l.flatMap evc).length := by rw [e, List.length_append, hkl]; omega
      rw [Nat.add_assoc, hcc (k * 8 + j) hj2]
      congr 1
      simp only [e]
      rw [List.getElem_append_right (by omega)]
      simp only [hkl]
      congr 1
      omega
theorem Sl.drop8 {w : World} {a a8 : Option Addr} {c k m c8 : Nat} {l L : List Ev} (h : Sl w (.slice a l.length c) 8 l.length (l.flatMap evc)) (hk : k ≤ l.length) (hcap : l.length ≤ c) (ha : a8 = if c = k then a else a.map (·.add (k * 8))) (hc : c8 = c - k) (hm : m = l.length - k) (hL : L = l.drop k) : Sl w (.slice a8 m c8) 8 m (L.flatMap evc) := by
  subst ha; subst hc; subst hm; subst hL
  exact h.drop hk hcap
theorem Hs.at' {l : List Ev} (h : Hs l) {k : Nat} (hk : k < l.length) : Hs (l.take k) ∧ comesF (l.take k) l[k] = 0 := by
  have := h.take (k + 1)
  rw [List.take_succ_eq_append_getElem hk] at this
  exact hs_last this
end Go.Proofs.Ytckpfcocbjfcbaa
