/- WHAT A ROW HANDS OVER OF NUMBERS, in the walks' own words. -/
import Derived.Test.YtfdbcnpbjabjoaaVaryPlain
import Derived.WalkKit
namespace Go.Proofs.Ytfdbcnpbjabjoaa
theorem u64_of_wf {x : Int} (h : (Lit.int .u64 x).wf = true) : ∃ n : Nat, x = (n : Int) ∧ U64 n := by
  simp [Lit.wf, IntKind.min, IntKind.max, IntKind.signed, IntKind.bits] at h
  exact ⟨x.toNat, by omega, by unfold U64; omega⟩
theorem i64_of_wf {x : Int} (h : (Lit.int .i64 x).wf = true) : -9223372036854775808 ≤ x ∧ x ≤ 9223372036854775807 := by
  simp [Lit.wf, IntKind.min, IntKind.max, IntKind.signed, IntKind.bits] at h
  exact ⟨by omega, by omega⟩
end Go.Proofs.Ytfdbcnpbjabjoaa
