/- THE WALK of EventFields, its ways joined. -/
import Derived.Test.YtjpbhdbmblalmaaEvtFl1
import Derived.Test.YtjpbhdbmblalmaaEvtFl2
import Derived.Test.YtjpbhdbmblalmaaEvtFl3
import Derived.Test.YtjpbhdbmblalmaaEvtFl4
import Derived.Test.YtjpbhdbmblalmaaEvtFl5
namespace Go.Proofs.Ytjpbhdbmblalmaa
open Go.RowKit
set_option linter.unusedVariables false
set_option maxHeartbeats 3200000 in
set_option maxRecDepth 100000 in
theorem fl_bad (id k tk rf sp ty : Int) (ud : Bool) (dt : List UInt8) (hdt : dt.length ≤ 140737488351232) (which : Int) (hp : ¬ EvP (id, k, tk, rf, sp, ty, ud, dt)) (w : World) :
    Calls Try.prog 3 #[.agg #[.int .i64 id, .int .i64 k, .int .i64 tk, .int .i64 rf, .int .i64 sp, .int .i64 ty, .bool ud, .string ⟨dt.toArray⟩], .int .i64 which] w fun e w' => e = .returned (.bool true) ∧ Below w.heap.size w w' := by
  have h0 := EHeld.new w (id, k, tk, rf, sp, ty, ud, dt)
  unfold evC at h0
  simp only [Ev.id, Ev.kd, Ev.tk, Ev.rf, Ev.sp, Ev.ty, Ev.ud, Ev.dt] at h0
  obtain ⟨W, hW⟩ : ∃ W, W = w.alloc (.cells #[.int .i64 id, .int .i64 k, .int .i64 tk, .int .i64 rf, .int .i64 sp, .int .i64 ty, .bool ud, .string ⟨dt.toArray⟩] 23) := ⟨_, rfl⟩
  rw [← hW] at h0
  have HX := hid hW
  clear hW
  go_enter Try.func3, Try.ntmps3
  go_wp2_with fail
  rw [← HX.out]
  refine (eawake_any W).mono ?_
  rintro _ w1 ⟨rfl, b1⟩
  obtain ⟨p0, p1, p2, p3, p4, p5, p6, p7, _, _⟩ := h0.next b1
  simp only [Ev.id, Ev.kd, Ev.tk, Ev.rf, Ev.sp, Ev.ty, Ev.ud, Ev.dt] at p0 p1 p2 p3 p4 p5 p6 p7
  go_wp2_with fail
  refine (echeck_any id k tk rf sp ty ud dt (by first | omega | decide) _).mono ?_
  rintro _ w2 ⟨rfl, b2⟩
  have h2 := (h0.next b1).next b2
  clear p0 p1 p2 p3 p4 p5 p6 p7
  rw [ev_no hp]
  go_wp2_with fail
  go_ret
  exact ⟨rfl, h2.below⟩
theorem ne_beq {a b : Int} (h : a ≠ b) : (a == b) = false := by simpa using h
theorem eventFields_walk (id k tk rf sp ty : Int) (ud : Bool) (dt : List UInt8) (hdt : dt.length ≤ 140737488351232) (which : Int) (w : World) :
    Calls Try.prog 3 #[.agg #[.int .i64 id, .int .i64 k, .int .i64 tk, .int .i64 rf, .int .i64 sp, .int .i64 ty, .bool ud, .string ⟨dt.toArray⟩], .int .i64 which] w fun e w' => e = .returned (.bool true) ∧ Below w.heap.size w w' := by
  by_cases hp : EvP (id, k, tk, rf, sp, ty, ud, dt)
  case neg => exact fl_bad id k tk rf sp ty ud dt hdt which hp w
  obtain ⟨s, hs, hm⟩ := mod5' which
  have hs' : s = 0 ∨ s = 1 ∨ s = 2 ∨ s = 3 ∨ s = 4 := by omega
  rcases hs' with rfl | rfl | rfl | rfl | rfl
  · have m0 : ((wrap64 (which.tmod 5 + 5)).tmod 5 == 0) = true := by rw [hm]; rfl
    by_cases hr : rf = 0
    · subst hr; exact fl_same0 id k tk sp ty ud dt hdt which hp m0 w
    · obtain ⟨a, b, c⟩ := ev_ref hp hr
      exact fl_no0 id k tk rf sp ty ud dt hdt which hp m0 (fun h => hr h.symm) hr (ne_beq b) (ne_beq c) a w
  · have m0 : ((wrap64 (which.tmod 5 + 5)).tmod 5 == 0) = false := by rw [hm]; rfl
    have m1 : ((wrap64 (which.tmod 5 + 5)).tmod 5 == 1) = true := by rw [hm]; rfl
    by_cases hr : sp = 0
    · subst hr; exact fl_same1 id k tk rf ty ud dt hdt which hp m0 m1 w
    · obtain ⟨a, rfl | rfl⟩ := ev_step hp hr
      · exact fl_step6 id tk rf sp ty ud dt hdt which hp m0 m1 (fun h => hr h.symm) hr a w
      · exact fl_step10 id tk rf sp ty ud dt hdt which hp m0 m1 (fun h => hr h.symm) hr a w
  · have m0 : ((wrap64 (which.tmod 5 + 5)).tmod 5 == 0) = false := by rw [hm]; rfl
    have m1 : ((wrap64 (which.tmod 5 + 5)).tmod 5 == 1) = false := by rw [hm]; rfl
    have m2 : ((wrap64 (which.tmod 5 + 5)).tmod 5 == 2) = true := by rw [hm]; rfl
    by_cases hr : ty = 0
    · subst hr; exact fl_same2 id k tk rf sp ud dt hdt which hp m0 m1 m2 w
    · obtain ⟨a, b, c⟩ := ev_try hp hr
      exact fl_no2 id k tk rf sp ty ud dt hdt which hp m0 m1 m2 (fun h => hr h.symm) hr (ne_beq b) (ne_beq c) a w
  · have m0 : ((wrap64 (which.tmod 5 + 5)).tmod 5 == 0) = false := by rw [hm]; rfl
    have m1 : ((wrap64 (which.tmod 5 + 5)).tmod 5 == 1) = false := by rw [hm]; rfl
    have m2 : ((wrap64 (which.tmod 5 + 5)).tmod 5 == 2) = false := by rw [hm]; rfl
    have m3 : ((wrap64 (which.tmod 5 + 5)).tmod 5 == 3) = true := by rw [hm]; rfl
    obtain ⟨a, b⟩ := ev_undo hp
    by_cases h6 : k = 6
    · have q := a.2 h6
      subst h6
      cases ud with
      | true => exact fl_undo6t id tk rf sp ty dt hdt which hp m0 m1 m2 m3 q w
      | false => exact fl_undo6f id tk rf sp ty dt hdt which hp m0 m1 m2 m3 q w
    · have q : ¬ EvP (id, k, tk, rf, sp, ty, !ud, dt) := fun h => h6 (a.1 h)
      by_cases h10 : k = 10
      · have hu := b h10
        subst h10; subst hu
        exact fl_undo10 id tk rf sp ty dt hdt which hp m0 m1 m2 m3 q w
      · cases ud with
        | true => exact fl_undot id k tk rf sp ty dt hdt which hp m0 m1 m2 m3 (ne_beq h6) (ne_beq h10) q w
        | false => exact fl_undof id k tk rf sp ty dt hdt which hp m0 m1 m2 m3 (ne_beq h6) (ne_beq h10) q w
  · have m0 : ((wrap64 (which.tmod 5 + 5)).tmod 5 == 0) = false := by rw [hm]; rfl
    have m1 : ((wrap64 (which.tmod 5 + 5)).tmod 5 == 1) = false := by rw [hm]; rfl
    have m2 : ((wrap64 (which.tmod 5 + 5)).tmod 5 == 2) = false := by rw [hm]; rfl
    have m3 : ((wrap64 (which.tmod 5 + 5)).tmod 5 == 3) = false := by rw [hm]; rfl
    by_cases hr : dt = []
    · subst hr; exact fl_same4 id k tk rf sp ty ud which hp m0 m1 m2 m3 w
    · obtain ⟨a, b, c⟩ := ev_data hp hr
      exact fl_no4 id k tk rf sp ty ud dt hdt which hp m0 m1 m2 m3 (by cases dt with | nil => exact absurd rfl hr | cons _ _ => rfl) (by cases dt with | nil => exact absurd rfl hr | cons _ _ => rfl) (ne_beq b) (ne_beq c) a w
theorem eventFields_w (v : Value) (id k tk rf sp ty : Int) (ud : Bool) (dt : List UInt8) (hdt : dt.length ≤ 140737488351232) (which : Int) {B : Prop} (_ : B) (w : World) (e : v = .agg #[.int .i64 id, .int .i64 k, .int .i64 tk, .int .i64 rf, .int .i64 sp, .int .i64 ty, .bool ud, .string ⟨dt.toArray⟩]) :
    Calls Try.prog 3 #[v, .int .i64 which] w fun e w' => e = .returned (.bool true) ∧ Below w.heap.size w w' := by
  rw [e]; exact eventFields_walk id k tk rf sp ty ud dt hdt which w
end Go.Proofs.Ytjpbhdbmblalmaa
