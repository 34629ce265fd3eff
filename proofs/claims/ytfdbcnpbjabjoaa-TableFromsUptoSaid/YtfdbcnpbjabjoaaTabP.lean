/- TABLES in plain words: pairs, their bytes, a block's pairs. -/
import Derived.Test.YtfdbcnpbjabjoaaRdrPlain
import Derived.Test.YtfdbcnpbjabjoaaSlices
namespace Go.Proofs.Ytfdbcnpbjabjoaa
open Go.RowKit
set_option linter.unusedVariables false
set_option linter.unusedSimpArgs false

/-- a pair: key, value, gone -/
abbrev Pr := List UInt8 × List UInt8 × Bool
def prC (p : Pr) : List Value := [strV p.1, strV p.2.1, .bool p.2.2]
theorem prC_len (p : Pr) : (prC p).length = 3 := rfl
theorem prC_one (p : Pr) : ∀ u ∈ prC p, u.oneCell' = true := by
  intro u hu
  simp only [prC, List.mem_cons, List.not_mem_nil, or_false] at hu
  rcases hu with rfl | rfl | rfl <;> rfl
def pairL (p : Pr) : List UInt8 := textL p.1 ++ (if p.2.2 = true then putL 0 else putL (p.2.1.length + 1) ++ p.2.1)
structure PrOk (p : Pr) : Prop where
  k0 : p.1 ≠ []
  k64 : p.1.length ≤ 64
  v8 : p.2.1.length ≤ 8192
  gone : p.2.2 = true → p.2.1 = []
def stepF (r : List UInt8) : Option (Pr × List UInt8) :=
  if (takeF (intF (textF r false).2.1 (textF r false).2.2 8193).2.1 (intF (textF r false).2.1 (textF r false).2.2 8193).2.2 (max 0 (((intF (textF r false).2.1 (textF r false).2.2 8193).1 : Int) - 1))).2.2 = true ∨ (textF r false).1 = [] ∨ 64 < (textF r false).1.length then none
  else some (((textF r false).1, (takeF (intF (textF r false).2.1 (textF r false).2.2 8193).2.1 (intF (textF r false).2.1 (textF r false).2.2 8193).2.2 (max 0 (((intF (textF r false).2.1 (textF r false).2.2 8193).1 : Int) - 1))).1, decide ((intF (textF r false).2.1 (textF r false).2.2 8193).1 = 0)),
    (takeF (intF (textF r false).2.1 (textF r false).2.2 8193).2.1 (intF (textF r false).2.1 (textF r false).2.2 8193).2.2 (max 0 (((intF (textF r false).2.1 (textF r false).2.2 8193).1 : Int) - 1))).2.1)
/-- what the three reads give -/
theorem stepF_of {r k r1 r2 v r3 : List UInt8} {b1 b2 b3 : Bool} {n : Nat} (h1 : textF r false = (k, r1, b1)) (h2 : intF r1 b1 8193 = (n, r2, b2)) (h3 : takeF r2 b2 (max 0 ((n : Int) - 1)) = (v, r3, b3)) :
    stepF r = if b3 = true ∨ k = [] ∨ 64 < k.length then none else some ((k, v, decide (n = 0)), r3) := by
  unfold stepF
  simp only [h1, h2, h3]
theorem takeF_app (v r : List UInt8) : takeF (v ++ r) false (v.length : Int) = (v, r, false) := by
  rw [takeF_ok (by simp)]; simp
theorem stepF_iff {r r' : List UInt8} {p : Pr} : stepF r = some (p, r') ↔ PrOk p ∧ r = pairL p ++ r' := by
  constructor
  · intro h
    obtain ⟨k, r1, b1, h1⟩ : ∃ k r1 b1, textF r false = (k, r1, b1) := ⟨_, _, _, rfl⟩
    obtain ⟨n, r2, b2, h2⟩ : ∃ n r2 b2, intF r1 b1 8193 = (n, r2, b2) := ⟨_, _, _, rfl⟩
    obtain ⟨v, r3, b3, h3⟩ : ∃ v r3 b3, takeF r2 b2 (max 0 ((n : Int) - 1)) = (v, r3, b3) := ⟨_, _, _, rfl⟩
    rw [stepF_of h1 h2 h3] at h
    split at h
    · cases h
    · rename_i hc
      simp only [not_or, Bool.not_eq_true] at hc
      obtain ⟨hb, hk, hk6⟩ := hc
      simp only [Option.some.injEq, Prod.mk.injEq] at h
      obtain ⟨rfl, rfl⟩ := h
      subst hb
      have t3 := takeF_out (r := r2) (b := b2) (n := max 0 ((n : Int) - 1)) (by rw [h3])
      rw [h3] at t3
      obtain ⟨rfl, hn0, e2, e2'⟩ := t3
      obtain ⟨rfl, hu, hn, e1⟩ := intF_iff.1 h2
      have t1 := textF_out (r := r) (b := false) (by rw [h1]) (by rw [h1]; simp only; omega)
      rw [h1] at t1
      obtain ⟨-, e0⟩ := t1
      simp only at e0 e1 e2 e2'
      refine ⟨⟨hk, by simp only; omega, by simp only; omega, fun q => ?_⟩, ?_⟩
      · have q' : n = 0 := by simpa using q
        subst q'
        show v = []
        exact List.eq_nil_of_length_eq_zero (by omega)
      · rw [e0, e1, e2]
        unfold pairL
        by_cases q : n = 0
        · subst q
          have hv : v = [] := List.eq_nil_of_length_eq_zero (by omega)
          subst hv
          simp
        · have hv : v.length + 1 = n := by omega
          simp only [decide_eq_true_eq, q, if_false, hv, List.append_assoc]
  · rintro ⟨⟨hk, hk6, hv8, hg⟩, rfl⟩
    obtain ⟨k, v, g⟩ := p
    simp only at hk hk6 hv8 hg
    have e : pairL (k, v, g) ++ r' = textL k ++ (putL (if g = true then 0 else v.length + 1) ++ (v ++ r')) := by
      unfold pairL
      cases g with
      | true => rw [hg rfl]; simp
      | false => simp
    have h1 := textF_put k (putL (if g = true then 0 else v.length + 1) ++ (v ++ r')) (by omega)
    have h2 := intF_put (n := if g = true then 0 else v.length + 1) (m := 8193) (v ++ r') (by split <;> omega) (by decide)
    have h3 : takeF (v ++ r') false (max 0 (((if g = true then 0 else v.length + 1 : Nat) : Int) - 1)) = (v, r', false) := by
      have : max 0 (((if g = true then 0 else v.length + 1 : Nat) : Int) - 1) = (v.length : Int) := by
        cases g with
        | true => rw [hg rfl]; rfl
        | false => simp only [Bool.false_eq_true, if_false, List.length]; omega
      rw [this, takeF_app]
    rw [e, stepF_of h1 h2 h3, if_neg (by simp only [Bool.false_eq_true, false_or, not_or]; exact ⟨hk, by omega⟩)]
    cases g <;> simp
theorem pairL_pos (p : Pr) : 0 < (pairL p).length := by
  unfold pairL textL
  have := putL_pos p.1.length
  simp only [List.length_append]; omega
theorem step_less {r r' : List UInt8} {p : Pr} (h : stepF r = some (p, r')) : r'.length < r.length := by
  rw [(stepF_iff.1 h).2, List.length_append]
  have := pairL_pos p
  omega
def pairsL (r : List UInt8) : Option (List Pr) :=
  if r = [] then some [] else
  match h : stepF r with
  | none => none
  | some x => (pairsL x.2).map (x.1 :: ·)
termination_by r.length
decreasing_by exact step_less (p := x.1) (by rw [h])
theorem pairsL_nil : pairsL [] = some [] := by rw [pairsL, if_pos rfl]
theorem pairsL_no {r : List UInt8} (h0 : r ≠ []) (h : stepF r = none) : pairsL r = none := by
  rw [pairsL, if_neg h0]
  split
  · rfl
  · rename_i x hx; rw [h] at hx; cases hx
theorem pairsL_go {r r' : List UInt8} {p : Pr} (h0 : r ≠ []) (h : stepF r = some (p, r')) : pairsL r = (pairsL r').map (p :: ·) := by
  rw [pairsL, if_neg h0]
  split
  · rename_i hx; rw [h] at hx; cases hx
  · rename_i x hx; rw [h] at hx; cases hx; rfl
theorem pairsL_enc : ∀ l : List Pr, (∀ p ∈ l, PrOk p) → pairsL (l.flatMap pairL) = some l := by
  intro l
  induction l with
  | nil => intro _; exact pairsL_nil
  | cons p l ih =>
    intro h
    rw [List.flatMap_cons]
    have hp := pairL_pos p
    rw [pairsL_go (fun q => by rw [← List.length_eq_zero_iff, List.length_append] at q; omega) (stepF_iff.2 ⟨h p (by simp), rfl⟩), ih (fun q hq => h q (by simp [hq]))]
    rfl
theorem pairsL_iff {r : List UInt8} {l : List Pr} : pairsL r = some l ↔ (∀ p ∈ l, PrOk p) ∧ r = l.flatMap pairL := by
  constructor
  · have key : ∀ (n : Nat) (r : List UInt8) (l : List Pr), r.length ≤ n → pairsL r = some l → (∀ p ∈ l, PrOk p) ∧ r = l.flatMap pairL := by
      intro n
      induction n with
      | zero =>
        intro r l hr h
        obtain rfl : r = [] := List.eq_nil_of_length_eq_zero (by omega)
        rw [pairsL_nil] at h; cases h
        exact ⟨by simp, rfl⟩
      | succ n ih =>
        intro r l hr h
        by_cases h0 : r = []
        · subst h0
          rw [pairsL_nil] at h; cases h
          exact ⟨by simp, rfl⟩
        cases hs : stepF r with
        | none => rw [pairsL_no h0 hs] at h; cases h
        | some x =>
          obtain ⟨p, r'⟩ := x
          rw [pairsL_go h0 hs] at h
          cases hr' : pairsL r' with
          | none => rw [hr'] at h; cases h
          | some l' =>
            rw [hr'] at h
            simp only [Option.map_some, Option.some.injEq] at h
            subst h
            have hl := step_less hs
            obtain ⟨a, b⟩ := ih r' l' (by omega) hr'
            obtain ⟨c, d⟩ := stepF_iff.1 hs
            refine ⟨fun q hq => ?_, by rw [List.flatMap_cons, ← b]; exact d⟩
            rcases List.mem_cons.1 hq with rfl | hq
            · exact c
            · exact a q hq
    exact key r.length r l (Nat.le_refl _)
  · rintro ⟨h, rfl⟩
    exact pairsL_enc l h
end Go.Proofs.Ytfdbcnpbjabjoaa
