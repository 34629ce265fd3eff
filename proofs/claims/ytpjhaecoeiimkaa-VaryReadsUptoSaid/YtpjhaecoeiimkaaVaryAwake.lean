/- CONTRACT: wherrylaw01.awake. -/
import Derived.Test.YtpjhaecoeiimkaaVaryRPut
import Derived.Test.YtpjhaecoeiimkaaVaryGet
import Derived.WalkLawsBesides
import Derived.Deep.RegionHeld3
namespace Go.Proofs.Ytpjhaecoeiimkaa
open Go.RowKit

theorem awake_get : getN [172, 2, 97] = 300 ∧ getR [172, 2, 97] = [97] ∧ getB [172, 2, 97] = true := by decide
theorem awake_put : putL 300 = [172, 2] := by rw [putL_ge (by omega), putL_lt (by omega)]; decide
theorem awake_text : textL [97, 98] = [2, 97, 98] := by unfold textL; rw [putL_lt (by decide)]; decide

set_option maxHeartbeats 800000 in
theorem vawake_any (w : World) : Calls Try.prog 13 #[] w fun e w' => e = .returned (.bool true) ∧ Below w.heap.size w w' := by
  obtain ⟨g1, g2, g3⟩ := awake_get
  have p1 := awake_put
  have t1 := awake_text
  have hu : U64 300 := by unfold U64; omega
  go_enter Try.func13, Try.ntmps13
  go_wp2_with fail
  refine (get_any [172, 2, 97] (by decide) _).mono ?_
  rintro e w1 ⟨rfl, n, rfl⟩
  rw [g1, g2, g3]
  go_wp2_with fail
  refine (put_any 300 hu _).mono ?_
  rintro e w1 ⟨rfl, hb⟩
  rw [p1]
  go_wp2_with fail
  refine (text_any [97, 98] (by decide) _).mono ?_
  rintro e w2 ⟨rfl, hb2⟩
  rw [t1]
  go_wp2_with fail
  go_ret
  exact ⟨rfl, bnext (below_drewN _ _ _) (bnext hb hb2)⟩
end Go.Proofs.Ytpjhaecoeiimkaa
