/- PLAIN: what pairs weigh. -/
import Derived.Test.YtfdbcnpbjabjoaaTabP
namespace Go.Proofs.Ytfdbcnpbjabjoaa
open Go.RowKit
set_option linter.unusedVariables false
set_option linter.unusedSimpArgs false

/-- what pairs weigh -/
def wtP (l : List Pr) : Nat := (l.map fun p => p.1.length + p.2.1.length + 3).sum
theorem wtP_cons (p : Pr) (l : List Pr) : wtP (p :: l) = p.1.length + p.2.1.length + 3 + wtP l := by simp [wtP]
theorem wtP_len : ∀ l : List Pr, 3 * l.length ≤ wtP l
  | [] => by simp [wtP]
  | p :: l => by rw [wtP_cons, List.length_cons]; have := wtP_len l; omega
theorem wtP_mem : ∀ {l : List Pr} {p : Pr}, p ∈ l → p.1.length + p.2.1.length + 3 ≤ wtP l
  | q :: l, p, h => by
    rw [wtP_cons]
    rcases List.mem_cons.1 h with rfl | h
    · omega
    · have := wtP_mem h; omega
end Go.Proofs.Ytfdbcnpbjabjoaa
