/- CONTRACTS: event.fields; the reference's fields. -/
import Derived.Test.YtdoblbiodpcjdaaEvtPlain
import Derived.Test.YtdoblbiodpcjdaaSlices
import Derived.RegionTactic
import Derived.BigRegion
namespace Go.Proofs.Ytdoblbiodpcjdaa
open Go.RowKit
set_option linter.unusedVariables false
def okK (k : Int) : Bool := decide (1 ≤ k ∧ k ≤ 18)
theorem kd_cases (k : Int) : (k < 1 ∨ 18 < k) ∨ k = 1 ∨ k = 2 ∨ k = 3 ∨ k = 4 ∨ k = 5 ∨ k = 6 ∨ k = 7 ∨ k = 8 ∨ k = 9 ∨ k = 10 ∨ k = 11 ∨ k = 12 ∨ k = 13 ∨ k = 14 ∨ k = 15 ∨ k = 16 ∨ k = 17 ∨ k = 18 := by omega
set_option maxHeartbeats 1600000 in
set_option maxRecDepth 100000 in
theorem fields_any (k : Int) (w : World) : Calls Try.prog 32 #[.int .i64 k] w fun e w' => e = .returned (.tuple #[.int .i64 (evB k), .bool (okK k)]) ∧ w' = w := by
 rcases kd_cases k with h | rfl | rfl | rfl | rfl | rfl | rfl | rfl | rfl | rfl | rfl | rfl | rfl | rfl | rfl | rfl | rfl | rfl | rfl
 · have h1 : evB k = 0 := by unfold evB; repeat (first | rw [if_neg (by omega)] | rfl)
   have h2 : okK k = false := decide_eq_false (by omega)
   rw [h1, h2]
   clear h1 h2
   rcases h with h | h
   all_goals
     go_enter Try.func32, Try.ntmps32
     go_wp2_with fail
     go_ret2
     exact ⟨rfl, rfl⟩
 all_goals
   rw [show okK _ = true from rfl]
   unfold evB
   go_enter Try.func32, Try.ntmps32
   go_wp2_with fail
   go_ret2
   exact ⟨rfl, rfl⟩
end Go.Proofs.Ytdoblbiodpcjdaa
