/- THE WALKS of mail's awake and of MailNone. -/
import Derived.Test.YtfdbcnpbjabjoaaMailTake
namespace Go.Proofs.Ytfdbcnpbjabjoaa
set_option maxRecDepth 100000
open Go.RowKit

set_option maxHeartbeats 800000 in
theorem awake_any (w : World) : Calls Try.prog 11 #[] w fun e w' => e = .returned (.bool true) ∧ Below w.heap.size w w' := by
  go_enter Try.func11, Try.ntmps11
  go_wp2_with fail
  refine (new_any w).mono ?_
  rintro _ w1 ⟨rfl, n1, b1⟩
  have s1 := b1.size
  go_wp2_with fail
  refine (send_ok w1 _ _ [] 1 [97] [120] n1 ⟨by decide, by decide, by decide, by decide⟩ (by decide)).mono ?_
  rintro _ w2 ⟨rfl, n2, k2⟩
  have s2 := k2.size
  have b2 := k2.below b1 s1
  go_wp2_with fail
  refine (double_ok w2 _ _ _ _ 0 n2 (by decide) (by decide)).mono ?_
  rintro _ w3 ⟨rfl, n3, k3⟩
  have b3 := k3.below b2 (by omega)
  have s3 := k3.size
  go_wp2_with fail
  refine (take_ok w3 _ _ _ _ 1 n3 (by decide) (by decide)).mono ?_
  rintro _ w4 ⟨rfl, n4, k4⟩
  have b4 := k4.below b3 (by omega)
  have s4 := k4.size
  simp only [strV, List.nil_append, List.cons_append, List.getElem_cons_succ, List.getElem_cons_zero]
  go_wp2_with fail
  refine (len_any w4 _ _ _ _ n4).mono ?_
  rintro _ _ ⟨rfl, rfl⟩
  go_wp2_with fail
  refine (lose_no _ _ _ _ _ 5 n4 (by decide)).mono ?_
  rintro _ _ ⟨rfl, rfl⟩
  go_wp2_with fail
  go_ret
  exact ⟨rfl, b4⟩
theorem mailNone_walk (to : List UInt8) (_ht : to.length ≤ 140737488351232) (i : Int) (_hi : -9223372036854775808 ≤ i ∧ i ≤ 9223372036854775807) (w : World) :
    Calls Try.prog 5 #[.string ⟨to.toArray⟩, .int .i64 i] w fun e w' => e = .returned (.bool true) ∧ Below w.heap.size w w' := by
  go_enter Try.func5, Try.ntmps5
  go_wp2_with fail
  refine (awake_any w).mono ?_
  rintro _ w1 ⟨rfl, b1⟩
  go_wp2_with fail
  refine (send_none w1 _ _).mono ?_
  rintro _ _ ⟨rfl, rfl⟩
  go_wp2_with fail
  refine (take_none _ _).mono ?_
  rintro _ _ ⟨rfl, rfl⟩
  unfold strV
  go_wp2_with fail
  refine (double_none _ _).mono ?_
  rintro _ _ ⟨rfl, rfl⟩
  go_wp2_with fail
  refine (lose_none _ _).mono ?_
  rintro _ _ ⟨rfl, rfl⟩
  go_wp2_with fail
  refine (len_none _).mono ?_
  rintro _ _ ⟨rfl, rfl⟩
  go_wp2_with fail
  go_ret
  exact ⟨rfl, b1⟩
end Go.Proofs.Ytfdbcnpbjabjoaa
