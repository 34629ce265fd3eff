/- WHAT A READER READS, in plain Lean: there and back. -/
import Derived.Test.YtdoblbiodpcjdaaGreatRRdr
import Derived.Test.YtdoblbiodpcjdaaGreatVaryRPut
namespace Go.Proofs.YtdoblbiodpcjdaaGreat
open Go.RowKit
set_option linter.unusedVariables false
theorem zEn {r r' : List UInt8} {b : Bool} {n : Nat} : numF r b = (n, r', false) ↔ b = false ∧ U64 n ∧ r = putL n ++ r' := by
 cases b with
 | true => simp [numF]
 | false =>
   cases hg : zAy 0 r with
   | none =>
     have h := zDy hg
     have : ¬ (U64 n ∧ r = putL n ++ r') := fun hh => by rw [(zEl r n r').2 hh] at hg; cases hg
     simp [numF, h.2.2, this]
   | some x =>
     obtain ⟨m, s⟩ := x
     have h := zEm hg
     simp only [numF, h.1, h.2.1, h.2.2]
     constructor
     · intro e
       simp at e
       exact ⟨trivial, (zEl r n r').1 (by rw [hg, e.1, e.2])⟩
     · rintro ⟨_, hh⟩
       rw [(zEl r n r').2 hh] at hg
       cases hg
       rfl
theorem zMo {r r' : List UInt8} {b : Bool} {n : Nat} {m : Int} : intF r b m = (n, r', false) ↔ b = false ∧ U64 n ∧ (n : Int) ≤ m ∧ r = putL n ++ r' := by
 obtain ⟨⟨N, r1, b1⟩, hx⟩ : ∃ x, numF r b = x := ⟨_, rfl⟩
 cases b1 with
 | true =>
   rw [zJm hx]
   constructor
   · intro e; cases e
   · rintro ⟨h1, h2, _, h3⟩
     rw [zEn.2 ⟨h1, h2, h3⟩] at hx; cases hx
 | false =>
   have hn := zEn.1 hx
   by_cases hm : m < 0 ∨ m < (N : Int)
   · rw [zH1 hx hm]
     constructor
     · intro e; cases e
     · rintro ⟨h1, h2, h4, h3⟩
       rw [zEn.2 ⟨h1, h2, h3⟩] at hx; cases hx; omega
   · rw [zLn hx hm]
     constructor
     · intro e; cases e
       exact ⟨hn.1, hn.2.1, by omega, hn.2.2⟩
     · rintro ⟨h1, h2, h4, h3⟩
       rw [zEn.2 ⟨h1, h2, h3⟩] at hx; cases hx; rfl
theorem zRw {r : List UInt8} {b : Bool} {m : Int} (h : (intF r b m).2.2 = false) : b = false ∧ U64 (intF r b m).1 ∧ ((intF r b m).1 : Int) ≤ m ∧ r = putL (intF r b m).1 ++ (intF r b m).2.1 := zMo.1 (by rw [← h])
theorem zGr {r : List UInt8} {b : Bool} {m : Int} (h0 : 0 ≤ m) : ((intF r b m).1 : Int) ≤ m := by
 unfold intF
 split
 · exact h0
 · split
   · exact h0
   · simp only; omega
theorem zMp {n : Nat} {m : Int} (r : List UInt8) (hn : (n : Int) ≤ m) (hm : m ≤ 9223372036854775807) : intF (putL n ++ r) false m = (n, r, false) := zMo.2 ⟨rfl, by unfold U64; omega, hn, rfl⟩
theorem zBi (r : List UInt8) (b : Bool) (m : Int) : (intF r b m).2.1.length ≤ r.length := by
 have h := zEo r b
 unfold intF
 split
 · exact h
 · split
   · exact Nat.zero_le _
   · exact h
theorem zK4 (r : List UInt8) (b : Bool) (n : Int) : (zCt r b n).2.1.length ≤ r.length := by
 unfold zCt
 split
 · exact Nat.le_refl _
 · split
   · exact Nat.zero_le _
   · simp
theorem zDt (r : List UInt8) (b : Bool) : (zCs r b).2.1.length ≤ r.length := Nat.le_trans (zK4 _ _ _) (zEo r b)
theorem zP7 {r : List UInt8} {b : Bool} {n : Int} (h : (zCt r b n).2.2 = false) : b = false ∧ 0 ≤ n ∧ r = (zCt r b n).1 ++ (zCt r b n).2.1 ∧ ((zCt r b n).1.length : Int) = n := by
 unfold zCt at h ⊢
 split at h
 · cases h
 · rename_i hb
   split at h
   · cases h
   · rename_i hn
     rw [if_neg hb, if_neg hn]
     refine ⟨by simpa using hb, by omega, by simp, ?_⟩
     simp only [List.length_take]; omega
theorem zQa {r : List UInt8} {b : Bool} (h : (zCs r b).2.2 = false) (hl : (zCs r b).1.length < 1099511627776) : b = false ∧ r = zCc (zCs r b).1 ++ (zCs r b).2.1 := by
 obtain ⟨h1, h2, h3, h4⟩ := zP7 (n := min ((numF r b).1 : Int) 1099511627776) h
 have h5 := zEn.1 (show numF r b = ((numF r b).1, (numF r b).2.1, false) by rw [← h1])
 refine ⟨h5.1, ?_⟩
 have e : (zCt (numF r b).2.1 (numF r b).2.2 (min ((numF r b).1 : Int) 1099511627776)).1.length = (zCs r b).1.length := rfl
 have e2 : (zCs r b).1.length = (numF r b).1 := by omega
 unfold zCc
 rw [e2, List.append_assoc]
 refine h5.2.2.trans ?_
 congr 1
theorem zQb (t r : List UInt8) (hl : t.length < 1099511627776) : zCs (zCc t ++ r) false = (t, r, false) := by
 have h1 : numF (zCc t ++ r) false = (t.length, t ++ r, false) := zEn.2 ⟨rfl, by unfold U64; omega, by unfold zCc; rw [List.append_assoc]⟩
 rw [zMz h1, show min (t.length : Int) 1099511627776 = ((t.length : Nat) : Int) by omega, zHj (by simp)]
 simp
def zBz (r : List UInt8) (b : Bool) : List UInt8 × List UInt8 × Bool := zCt (numF r b).2.1 (numF r b).2.2 ((numF r b).1 : Int)
theorem zDo (r : List UInt8) (b : Bool) : (zBz r b).2.1.length ≤ r.length := Nat.le_trans (zK4 _ _ _) (zEo r b)
theorem zNy (t r : List UInt8) (hl : t.length < 1099511627776) : zBz (zCc t ++ r) false = (t, r, false) := by
 have h1 : numF (zCc t ++ r) false = (t.length, t ++ r, false) := zEn.2 ⟨rfl, by unfold U64; omega, by unfold zCc; rw [List.append_assoc]⟩
 unfold zBz
 rw [h1]
 show zCt (t ++ r) false ((t.length : Nat) : Int) = _
 rw [zHj (by simp)]
 simp
theorem zFy {r : List UInt8} {b : Bool} (h : Sane r b) : Sane (zBz r b).2.1 (zBz r b).2.2 := zN2 _ (zGi h)
theorem zRj {r : List UInt8} {b : Bool} : endF r b = true ↔ r = [] ∧ b = false := by
 unfold endF
 cases r <;> cases b <;> simp
end Go.Proofs.YtdoblbiodpcjdaaGreat
