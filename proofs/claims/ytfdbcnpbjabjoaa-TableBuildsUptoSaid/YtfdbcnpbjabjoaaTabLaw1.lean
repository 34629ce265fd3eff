/- CONTRACT: wherrylaw07.TableBuilds. -/
import Derived.Test.YtfdbcnpbjabjoaaTabAwake
import Derived.Test.YtfdbcnpbjabjoaaTabRBuild
import Derived.Test.YtfdbcnpbjabjoaaTabIn
namespace Go.Proofs.Ytfdbcnpbjabjoaa
open Go.RowKit
set_option linter.unusedVariables false
set_option linter.unusedSimpArgs false

set_option maxHeartbeats 4000000 in
set_option maxRecDepth 100000 in
theorem tableBuilds_v (v0 : Value) (l : List Pr) (w : World) (h0 : Sl w v0 3 l.length (l.flatMap prC)) (hcap : ∀ a n c, v0 = .slice a n c → n ≤ c) (hw : wtP l ≤ 1048576) :
    Calls Try.prog 7 #[v0] w fun e w' => e = .returned (.bool true) ∧ Below w.heap.size w w' := by
  have hln := wtP_len l
  have hbk : ∀ p ∈ l, p.1.length ≤ 1048576 ∧ p.2.1.length ≤ 1048576 := fun p hp => by have := wtP_mem hp; omega
  have H0 := hid h0
  obtain ⟨-, -, a, c, rfl, -⟩ := h0
  have HB := hid (fun (V : World) (q : Below w.heap.size w V) => tbuild_any l _ (by omega) hbk V (H0.out.below q) hcap)
  have HR := hid (fun (V : World) (q : Below w.heap.size w V) => rbuild_any l _ (by omega) hbk V (H0.out.below q))
  clear hcap hbk hln hw
  go_enter Try.func7, Try.ntmps7
  go_wp2_with fail
  refine (awake_any w).mono ?_
  rintro _ w1 ⟨rfl, b1⟩
  go_wp2_with fail
  refine (HB.out w1 b1).mono ?_
  rintro _ w2 ⟨rfl, b2⟩
  have b12 := bnext b1 b2
  generalize (buildF l).1 = s at *
  generalize (buildF l).2 = e at *
  go_wp2_with fail
  refine (HR.out w2 b12).mono ?_
  rintro _ w3 ⟨rfl, b3⟩
  have B3 := hid (bnext b12 b3)
  clear b1 b2 b12 b3
  go_wp2_with fail
  go_ret
  exact ⟨rfl, B3.out⟩
end Go.Proofs.Ytfdbcnpbjabjoaa
