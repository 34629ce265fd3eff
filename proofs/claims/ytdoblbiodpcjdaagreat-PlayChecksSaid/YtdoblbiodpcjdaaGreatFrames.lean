/- WHAT A ROW HANDS OVER OF NUMBERS, in the walks' own words. -/
import Derived.Test.YtdoblbiodpcjdaaGreatVaryPlain
import Derived.WalkKit
namespace Go.Proofs.YtdoblbiodpcjdaaGreat
theorem zU5 {x : Int} (h : (Lit.int .i64 x).wf = true) : -9223372036854775808 ≤ x ∧ x ≤ 9223372036854775807 := by
 simp [Lit.wf, IntKind.min, IntKind.max, IntKind.signed, IntKind.bits] at h
 exact ⟨by omega, by omega⟩
end Go.Proofs.YtdoblbiodpcjdaaGreat
