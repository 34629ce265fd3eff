/- WHAT A READER READS, in plain Lean: there and back. -/
import Derived.Test.YtfdbcnpbjabjoaaRRdr
import Derived.Test.YtfdbcnpbjabjoaaVaryRPut
namespace Go.Proofs.Ytfdbcnpbjabjoaa
open Go.RowKit
set_option linter.unusedVariables false

theorem numF_true (r : List UInt8) : numF r true = (0, r, true) := rfl
theorem intF_true (r : List UInt8) (m : Int) : intF r true m = (0, r, true) := rfl
theorem takeF_true (r : List UInt8) (n : Int) : takeF r true n = ([], r, true) := rfl
theorem textF_true (r : List UInt8) : textF r true = ([], r, true) := rfl
theorem numF_iff {r r' : List UInt8} {b : Bool} {n : Nat} : numF r b = (n, r', false) ↔ b = false ∧ U64 n ∧ r = putL n ++ r' := by
  cases b with
  | true => simp [numF]
  | false =>
    cases hg : getFrom 0 r with
    | none =>
      have h := get_none hg
      have : ¬ (U64 n ∧ r = putL n ++ r') := fun hh => by rw [(get_iff r n r').2 hh] at hg; cases hg
      simp [numF, h.2.2, this]
    | some x =>
      obtain ⟨m, s⟩ := x
      have h := get_some hg
      simp only [numF, h.1, h.2.1, h.2.2]
      constructor
      · intro e
        simp at e
        exact ⟨trivial, (get_iff r n r').1 (by rw [hg, e.1, e.2])⟩
      · rintro ⟨_, hh⟩
        rw [(get_iff r n r').2 hh] at hg
        cases hg
        rfl
theorem intF_iff {r r' : List UInt8} {b : Bool} {n : Nat} {m : Int} : intF r b m = (n, r', false) ↔ b = false ∧ U64 n ∧ (n : Int) ≤ m ∧ r = putL n ++ r' := by
  obtain ⟨⟨N, r1, b1⟩, hx⟩ : ∃ x, numF r b = x := ⟨_, rfl⟩
  cases b1 with
  | true =>
    rw [intF_bad hx]
    constructor
    · intro e; cases e
    · rintro ⟨h1, h2, _, h3⟩
      rw [numF_iff.2 ⟨h1, h2, h3⟩] at hx; cases hx
  | false =>
    have hn := numF_iff.1 hx
    by_cases hm : m < 0 ∨ m < (N : Int)
    · rw [intF_no hx hm]
      constructor
      · intro e; cases e
      · rintro ⟨h1, h2, h4, h3⟩
        rw [numF_iff.2 ⟨h1, h2, h3⟩] at hx; cases hx; omega
    · rw [intF_ok hx hm]
      constructor
      · intro e; cases e
        exact ⟨hn.1, hn.2.1, by omega, hn.2.2⟩
      · rintro ⟨h1, h2, h4, h3⟩
        rw [numF_iff.2 ⟨h1, h2, h3⟩] at hx; cases hx; rfl
theorem intF_out {r : List UInt8} {b : Bool} {m : Int} (h : (intF r b m).2.2 = false) : b = false ∧ U64 (intF r b m).1 ∧ ((intF r b m).1 : Int) ≤ m ∧ r = putL (intF r b m).1 ++ (intF r b m).2.1 := intF_iff.1 (by rw [← h])
theorem intF_u64 (r : List UInt8) (b : Bool) (m : Int) : U64 (intF r b m).1 := by
  unfold intF
  split
  · simp [U64]
  · split
    · simp [U64]
    · exact numF_u64 r b
theorem intF_le {r : List UInt8} {b : Bool} {m : Int} (h0 : 0 ≤ m) : ((intF r b m).1 : Int) ≤ m := by
  unfold intF
  split
  · exact h0
  · split
    · exact h0
    · simp only; omega
theorem intF_put {n : Nat} {m : Int} (r : List UInt8) (hn : (n : Int) ≤ m) (hm : m ≤ 9223372036854775807) : intF (putL n ++ r) false m = (n, r, false) := intF_iff.2 ⟨rfl, by unfold U64; omega, hn, rfl⟩
theorem intF_len (r : List UInt8) (b : Bool) (m : Int) : (intF r b m).2.1.length ≤ r.length := by
  have h := numF_len r b
  unfold intF
  split
  · exact h
  · split
    · exact Nat.zero_le _
    · exact h
theorem takeF_len (r : List UInt8) (b : Bool) (n : Int) : (takeF r b n).2.1.length ≤ r.length := by
  unfold takeF
  split
  · exact Nat.le_refl _
  · split
    · exact Nat.zero_le _
    · simp
theorem textF_len (r : List UInt8) (b : Bool) : (textF r b).2.1.length ≤ r.length := Nat.le_trans (takeF_len _ _ _) (numF_len r b)
theorem takeF_out {r : List UInt8} {b : Bool} {n : Int} (h : (takeF r b n).2.2 = false) : b = false ∧ 0 ≤ n ∧ r = (takeF r b n).1 ++ (takeF r b n).2.1 ∧ ((takeF r b n).1.length : Int) = n := by
  unfold takeF at h ⊢
  split at h
  · cases h
  · rename_i hb
    split at h
    · cases h
    · rename_i hn
      rw [if_neg hb, if_neg hn]
      refine ⟨by simpa using hb, by omega, by simp, ?_⟩
      simp only [List.length_take]; omega
/-- a short text that was read stood there -/
theorem textF_out {r : List UInt8} {b : Bool} (h : (textF r b).2.2 = false) (hl : (textF r b).1.length < 1099511627776) : b = false ∧ r = textL (textF r b).1 ++ (textF r b).2.1 := by
  obtain ⟨h1, h2, h3, h4⟩ := takeF_out (n := min ((numF r b).1 : Int) 1099511627776) h
  have h5 := numF_iff.1 (show numF r b = ((numF r b).1, (numF r b).2.1, false) by rw [← h1])
  refine ⟨h5.1, ?_⟩
  have e : (takeF (numF r b).2.1 (numF r b).2.2 (min ((numF r b).1 : Int) 1099511627776)).1.length = (textF r b).1.length := rfl
  have e2 : (textF r b).1.length = (numF r b).1 := by omega
  unfold textL
  rw [e2, List.append_assoc]
  refine h5.2.2.trans ?_
  congr 1
theorem textF_put (t r : List UInt8) (hl : t.length < 1099511627776) : textF (textL t ++ r) false = (t, r, false) := by
  have h1 : numF (textL t ++ r) false = (t.length, t ++ r, false) := numF_iff.2 ⟨rfl, by unfold U64; omega, by unfold textL; rw [List.append_assoc]⟩
  rw [textF_go h1, show min (t.length : Int) 1099511627776 = ((t.length : Nat) : Int) by omega, takeF_ok (by simp)]
  simp
/-- the reference's text: at whatever length -/
def rtextF (r : List UInt8) (b : Bool) : List UInt8 × List UInt8 × Bool := takeF (numF r b).2.1 (numF r b).2.2 ((numF r b).1 : Int)
theorem rtextF_true (r : List UInt8) : rtextF r true = ([], r, true) := rfl
theorem rtextF_len (r : List UInt8) (b : Bool) : (rtextF r b).2.1.length ≤ r.length := Nat.le_trans (takeF_len _ _ _) (numF_len r b)
theorem rtextF_put (t r : List UInt8) (hl : t.length < 1099511627776) : rtextF (textL t ++ r) false = (t, r, false) := by
  have h1 : numF (textL t ++ r) false = (t.length, t ++ r, false) := numF_iff.2 ⟨rfl, by unfold U64; omega, by unfold textL; rw [List.append_assoc]⟩
  unfold rtextF
  rw [h1]
  show takeF (t ++ r) false ((t.length : Nat) : Int) = _
  rw [takeF_ok (by simp)]
  simp
theorem sane_rtextF {r : List UInt8} {b : Bool} (h : Sane r b) : Sane (rtextF r b).2.1 (rtextF r b).2.2 := sane_takeF _ (sane_numF h)
theorem endF_iff {r : List UInt8} {b : Bool} : endF r b = true ↔ r = [] ∧ b = false := by
  unfold endF
  cases r <;> cases b <;> simp
end Go.Proofs.Ytfdbcnpbjabjoaa
