/- A PROGRAM's BYTES, step by step. -/
import Derived.Test.YtdoblbiodpcjdaaGreatPgmCheck
import Derived.Test.YtdoblbiodpcjdaaGreatHeld
import Derived.Deep.RegionHeld3
import Derived.Deep.QuietTactic
import Derived.BigQuiet
namespace Go.Proofs.YtdoblbiodpcjdaaGreat
open Go.RowKit
set_option linter.unusedVariables false
def encV (lim : Int) (ss : List St) : List UInt8 := if zCm lim ss then encP lim ss else []
def encK (lim : Nat) (ss : List St) (k : Nat) : List UInt8 := putL lim ++ (putL ss.length ++ (ss.take k).flatMap encS)
theorem zOu (lim : Nat) (ss : List St) (k : Nat) (h : k < ss.length) : encK lim ss (k + 1) = encK lim ss k ++ encS ss[k] := by
 unfold encK
 rw [List.take_succ_eq_append_getElem h, List.flatMap_append, List.flatMap_cons, List.flatMap_nil, List.append_nil]
 simp only [List.append_assoc]
theorem zMe {lim : Nat} {ss : List St} (h : zCm lim ss) (k : Nat) : (encK lim ss k).length ≤ 1400 := by
 have h1 := zKc (ss := ss.take k) (fun x hx => h.2.2 x (List.mem_of_mem_take hx))
 have h2 := zA8 lim (by have := h.2.1; omega)
 have h3 := zA8 ss.length (by have := h.1; omega)
 have h4 := h.1
 have h5 : (ss.take k).length ≤ ss.length := by rw [List.length_take]; omega
 unfold encK
 simp only [List.length_append]; omega
theorem zRg (lim : Nat) (ss : List St) : encK lim ss ss.length = encP lim ss := by
 unfold encK encP; rw [List.take_of_length_le (Nat.le_refl _), Int.toNat_natCast]
end Go.Proofs.YtdoblbiodpcjdaaGreat
