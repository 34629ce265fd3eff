/- CONTRACTS: strings.Contains at a letter; the reference's in. -/
import Derived.Test.YtdoblbiodpcjdaaEvtFields
import Derived.Lib.Bytealg
import Derived.Laws.Externs
namespace Go.Proofs.Ytdoblbiodpcjdaa
open Go.RowKit
set_option linter.unusedVariables false
def einB (b : Bool) (n lo hi : Int) : Bool := if b then decide (lo ≤ n ∧ n ≤ hi) else decide (n = 0)
theorem int_eq_beq (n : Int) : (n == 0) = decide (n = 0) := by
 rw [Bool.eq_iff_iff, beq_iff_eq, decide_eq_true_eq]
end Go.Proofs.Ytdoblbiodpcjdaa
