/- The ways of EventFields (fl_same0, fl_same1, fl_same2, fl_same4). -/
import Derived.Test.YtjpbhdbmblalmaaEvtFl0
namespace Go.Proofs.Ytjpbhdbmblalmaa
open Go.RowKit
set_option linter.unusedVariables false
set_option linter.unusedSimpArgs false
set_option maxHeartbeats 3200000 in
set_option maxRecDepth 100000 in
theorem fl_same0 (id k tk sp ty : Int) (ud : Bool) (dt : List UInt8) (hdt : dt.length ≤ 140737488351232) (which : Int) (hp : EvP (id, k, tk, 0, sp, ty, ud, dt)) (m0 : ((wrap64 (which.tmod 5 + 5)).tmod 5 == 0) = true) (w : World) :
    Calls Try.prog 3 #[.agg #[.int .i64 id, .int .i64 k, .int .i64 tk, .int .i64 0, .int .i64 sp, .int .i64 ty, .bool ud, .string ⟨dt.toArray⟩], .int .i64 which] w fun e w' => e = .returned (.bool true) ∧ Below w.heap.size w w' := by
  have h0 := EHeld.new w (id, k, tk, 0, sp, ty, ud, dt)
  unfold evC at h0
  simp only [Ev.id, Ev.kd, Ev.tk, Ev.rf, Ev.sp, Ev.ty, Ev.ud, Ev.dt] at h0
  obtain ⟨W, hW⟩ : ∃ W, W = w.alloc (.cells #[.int .i64 id, .int .i64 k, .int .i64 tk, .int .i64 0, .int .i64 sp, .int .i64 ty, .bool ud, .string ⟨dt.toArray⟩] 23) := ⟨_, rfl⟩
  rw [← hW] at h0
  have HX := hid hW
  clear hW
  go_enter Try.func3, Try.ntmps3
  go_wp2_with fail
  rw [← HX.out]
  refine (eawake_any W).mono ?_
  rintro _ w1 ⟨rfl, b1⟩
  obtain ⟨p0, p1, p2, p3, p4, p5, p6, p7, _, _⟩ := h0.next b1
  simp only [Ev.id, Ev.kd, Ev.tk, Ev.rf, Ev.sp, Ev.ty, Ev.ud, Ev.dt] at p0 p1 p2 p3 p4 p5 p6 p7
  go_wp2_with fail
  refine (echeck_any id k tk 0 sp ty ud dt (by first | omega | decide) _).mono ?_
  rintro _ w2 ⟨rfl, b2⟩
  have h2 := (h0.next b1).next b2
  clear p0 p1 p2 p3 p4 p5 p6 p7
  rw [ev_yes hp]
  clear h0
  have h2' := h2
  obtain ⟨p0, p1, p2, p3, p4, p5, p6, p7, _, _⟩ := h2'
  simp only [Ev.id, Ev.kd, Ev.tk, Ev.rf, Ev.sp, Ev.ty, Ev.ud, Ev.dt] at p0 p1 p2 p3 p4 p5 p6 p7
  have HP := hid hp
  clear hp
  go_wp2_with fail
  have hx := EHeld.new w2 (id, k, tk, 0, sp, ty, ud, dt)
  unfold evC at hx
  simp only [Ev.id, Ev.kd, Ev.tk, Ev.rf, Ev.sp, Ev.ty, Ev.ud, Ev.dt] at hx
  obtain ⟨V, hV⟩ : ∃ V, V = w2.alloc (.cells #[.int .i64 id, .int .i64 k, .int .i64 tk, .int .i64 0, .int .i64 sp, .int .i64 ty, .bool ud, .string ⟨dt.toArray⟩] 23) := ⟨_, rfl⟩
  rw [← hV] at hx ⊢
  clear hV
  have he := h2.next hx.below
  have hg := he.lt
  have hgx := hx.lt
  clear p0 p1 p2 p3 p4 p5 p6 p7
  refine (echeck_any id k tk 0 sp ty ud dt (by first | omega | decide) V).mono ?_
  rintro _ w5 ⟨rfl, b5⟩
  rw [ev_yes HP.out]
  have hbf := (he.next b5).below
  go_wp2_with fail
  go_ret
  exact ⟨rfl, hbf⟩
set_option maxHeartbeats 3200000 in
set_option maxRecDepth 100000 in
theorem fl_same1 (id k tk rf ty : Int) (ud : Bool) (dt : List UInt8) (hdt : dt.length ≤ 140737488351232) (which : Int) (hp : EvP (id, k, tk, rf, 0, ty, ud, dt)) (m0 : ((wrap64 (which.tmod 5 + 5)).tmod 5 == 0) = false) (m1 : ((wrap64 (which.tmod 5 + 5)).tmod 5 == 1) = true) (w : World) :
    Calls Try.prog 3 #[.agg #[.int .i64 id, .int .i64 k, .int .i64 tk, .int .i64 rf, .int .i64 0, .int .i64 ty, .bool ud, .string ⟨dt.toArray⟩], .int .i64 which] w fun e w' => e = .returned (.bool true) ∧ Below w.heap.size w w' := by
  have h0 := EHeld.new w (id, k, tk, rf, 0, ty, ud, dt)
  unfold evC at h0
  simp only [Ev.id, Ev.kd, Ev.tk, Ev.rf, Ev.sp, Ev.ty, Ev.ud, Ev.dt] at h0
  obtain ⟨W, hW⟩ : ∃ W, W = w.alloc (.cells #[.int .i64 id, .int .i64 k, .int .i64 tk, .int .i64 rf, .int .i64 0, .int .i64 ty, .bool ud, .string ⟨dt.toArray⟩] 23) := ⟨_, rfl⟩
  rw [← hW] at h0
  have HX := hid hW
  clear hW
  go_enter Try.func3, Try.ntmps3
  go_wp2_with fail
  rw [← HX.out]
  refine (eawake_any W).mono ?_
  rintro _ w1 ⟨rfl, b1⟩
  obtain ⟨p0, p1, p2, p3, p4, p5, p6, p7, _, _⟩ := h0.next b1
  simp only [Ev.id, Ev.kd, Ev.tk, Ev.rf, Ev.sp, Ev.ty, Ev.ud, Ev.dt] at p0 p1 p2 p3 p4 p5 p6 p7
  go_wp2_with fail
  refine (echeck_any id k tk rf 0 ty ud dt (by first | omega | decide) _).mono ?_
  rintro _ w2 ⟨rfl, b2⟩
  have h2 := (h0.next b1).next b2
  clear p0 p1 p2 p3 p4 p5 p6 p7
  rw [ev_yes hp]
  clear h0
  have h2' := h2
  obtain ⟨p0, p1, p2, p3, p4, p5, p6, p7, _, _⟩ := h2'
  simp only [Ev.id, Ev.kd, Ev.tk, Ev.rf, Ev.sp, Ev.ty, Ev.ud, Ev.dt] at p0 p1 p2 p3 p4 p5 p6 p7
  have HP := hid hp
  clear hp
  go_wp2_with fail
  have hx := EHeld.new w2 (id, k, tk, rf, 0, ty, ud, dt)
  unfold evC at hx
  simp only [Ev.id, Ev.kd, Ev.tk, Ev.rf, Ev.sp, Ev.ty, Ev.ud, Ev.dt] at hx
  obtain ⟨V, hV⟩ : ∃ V, V = w2.alloc (.cells #[.int .i64 id, .int .i64 k, .int .i64 tk, .int .i64 rf, .int .i64 0, .int .i64 ty, .bool ud, .string ⟨dt.toArray⟩] 23) := ⟨_, rfl⟩
  rw [← hV] at hx ⊢
  clear hV
  have he := h2.next hx.below
  have hg := he.lt
  have hgx := hx.lt
  clear p0 p1 p2 p3 p4 p5 p6 p7
  refine (echeck_any id k tk rf 0 ty ud dt (by first | omega | decide) V).mono ?_
  rintro _ w5 ⟨rfl, b5⟩
  rw [ev_yes HP.out]
  have hbf := (he.next b5).below
  go_wp2_with fail
  go_ret
  exact ⟨rfl, hbf⟩
set_option maxHeartbeats 3200000 in
set_option maxRecDepth 100000 in
theorem fl_same2 (id k tk rf sp : Int) (ud : Bool) (dt : List UInt8) (hdt : dt.length ≤ 140737488351232) (which : Int) (hp : EvP (id, k, tk, rf, sp, 0, ud, dt)) (m0 : ((wrap64 (which.tmod 5 + 5)).tmod 5 == 0) = false) (m1 : ((wrap64 (which.tmod 5 + 5)).tmod 5 == 1) = false) (m2 : ((wrap64 (which.tmod 5 + 5)).tmod 5 == 2) = true) (w : World) :
    Calls Try.prog 3 #[.agg #[.int .i64 id, .int .i64 k, .int .i64 tk, .int .i64 rf, .int .i64 sp, .int .i64 0, .bool ud, .string ⟨dt.toArray⟩], .int .i64 which] w fun e w' => e = .returned (.bool true) ∧ Below w.heap.size w w' := by
  have h0 := EHeld.new w (id, k, tk, rf, sp, 0, ud, dt)
  unfold evC at h0
  simp only [Ev.id, Ev.kd, Ev.tk, Ev.rf, Ev.sp, Ev.ty, Ev.ud, Ev.dt] at h0
  obtain ⟨W, hW⟩ : ∃ W, W = w.alloc (.cells #[.int .i64 id, .int .i64 k, .int .i64 tk, .int .i64 rf, .int .i64 sp, .int .i64 0, .bool ud, .string ⟨dt.toArray⟩] 23) := ⟨_, rfl⟩
  rw [← hW] at h0
  have HX := hid hW
  clear hW
  go_enter Try.func3, Try.ntmps3
  go_wp2_with fail
  rw [← HX.out]
  refine (eawake_any W).mono ?_
  rintro _ w1 ⟨rfl, b1⟩
  obtain ⟨p0, p1, p2, p3, p4, p5, p6, p7, _, _⟩ := h0.next b1
  simp only [Ev.id, Ev.kd, Ev.tk, Ev.rf, Ev.sp, Ev.ty, Ev.ud, Ev.dt] at p0 p1 p2 p3 p4 p5 p6 p7
  go_wp2_with fail
  refine (echeck_any id k tk rf sp 0 ud dt (by first | omega | decide) _).mono ?_
  rintro _ w2 ⟨rfl, b2⟩
  have h2 := (h0.next b1).next b2
  clear p0 p1 p2 p3 p4 p5 p6 p7
  rw [ev_yes hp]
  clear h0
  have h2' := h2
  obtain ⟨p0, p1, p2, p3, p4, p5, p6, p7, _, _⟩ := h2'
  simp only [Ev.id, Ev.kd, Ev.tk, Ev.rf, Ev.sp, Ev.ty, Ev.ud, Ev.dt] at p0 p1 p2 p3 p4 p5 p6 p7
  have HP := hid hp
  clear hp
  go_wp2_with fail
  have hx := EHeld.new w2 (id, k, tk, rf, sp, 0, ud, dt)
  unfold evC at hx
  simp only [Ev.id, Ev.kd, Ev.tk, Ev.rf, Ev.sp, Ev.ty, Ev.ud, Ev.dt] at hx
  obtain ⟨V, hV⟩ : ∃ V, V = w2.alloc (.cells #[.int .i64 id, .int .i64 k, .int .i64 tk, .int .i64 rf, .int .i64 sp, .int .i64 0, .bool ud, .string ⟨dt.toArray⟩] 23) := ⟨_, rfl⟩
  rw [← hV] at hx ⊢
  clear hV
  have he := h2.next hx.below
  have hg := he.lt
  have hgx := hx.lt
  clear p0 p1 p2 p3 p4 p5 p6 p7
  refine (echeck_any id k tk rf sp 0 ud dt (by first | omega | decide) V).mono ?_
  rintro _ w5 ⟨rfl, b5⟩
  rw [ev_yes HP.out]
  have hbf := (he.next b5).below
  go_wp2_with fail
  go_ret
  exact ⟨rfl, hbf⟩
set_option maxHeartbeats 3200000 in
set_option maxRecDepth 100000 in
theorem fl_same4 (id k tk rf sp ty : Int) (ud : Bool) (which : Int) (hp : EvP (id, k, tk, rf, sp, ty, ud, [])) (m0 : ((wrap64 (which.tmod 5 + 5)).tmod 5 == 0) = false) (m1 : ((wrap64 (which.tmod 5 + 5)).tmod 5 == 1) = false) (m2 : ((wrap64 (which.tmod 5 + 5)).tmod 5 == 2) = false) (m3 : ((wrap64 (which.tmod 5 + 5)).tmod 5 == 3) = false) (w : World) :
    Calls Try.prog 3 #[.agg #[.int .i64 id, .int .i64 k, .int .i64 tk, .int .i64 rf, .int .i64 sp, .int .i64 ty, .bool ud, .string ⟨#[]⟩], .int .i64 which] w fun e w' => e = .returned (.bool true) ∧ Below w.heap.size w w' := by
  have h0 := EHeld.new w (id, k, tk, rf, sp, ty, ud, [])
  unfold evC at h0
  simp only [Ev.id, Ev.kd, Ev.tk, Ev.rf, Ev.sp, Ev.ty, Ev.ud, Ev.dt] at h0
  obtain ⟨W, hW⟩ : ∃ W, W = w.alloc (.cells #[.int .i64 id, .int .i64 k, .int .i64 tk, .int .i64 rf, .int .i64 sp, .int .i64 ty, .bool ud, .string ⟨#[]⟩] 23) := ⟨_, rfl⟩
  rw [← hW] at h0
  have HX := hid hW
  clear hW
  go_enter Try.func3, Try.ntmps3
  go_wp2_with fail
  rw [← HX.out]
  refine (eawake_any W).mono ?_
  rintro _ w1 ⟨rfl, b1⟩
  obtain ⟨p0, p1, p2, p3, p4, p5, p6, p7, _, _⟩ := h0.next b1
  simp only [Ev.id, Ev.kd, Ev.tk, Ev.rf, Ev.sp, Ev.ty, Ev.ud, Ev.dt] at p0 p1 p2 p3 p4 p5 p6 p7
  go_wp2_with fail
  refine (echeck_any id k tk rf sp ty ud [] (by first | omega | decide) _).mono ?_
  rintro _ w2 ⟨rfl, b2⟩
  have h2 := (h0.next b1).next b2
  clear p0 p1 p2 p3 p4 p5 p6 p7
  rw [ev_yes hp]
  clear h0
  have h2' := h2
  obtain ⟨p0, p1, p2, p3, p4, p5, p6, p7, _, _⟩ := h2'
  simp only [Ev.id, Ev.kd, Ev.tk, Ev.rf, Ev.sp, Ev.ty, Ev.ud, Ev.dt] at p0 p1 p2 p3 p4 p5 p6 p7
  have HP := hid hp
  clear hp
  go_wp2_with fail
  have hx := EHeld.new w2 (id, k, tk, rf, sp, ty, ud, [])
  unfold evC at hx
  simp only [Ev.id, Ev.kd, Ev.tk, Ev.rf, Ev.sp, Ev.ty, Ev.ud, Ev.dt] at hx
  obtain ⟨V, hV⟩ : ∃ V, V = w2.alloc (.cells #[.int .i64 id, .int .i64 k, .int .i64 tk, .int .i64 rf, .int .i64 sp, .int .i64 ty, .bool ud, .string ⟨#[]⟩] 23) := ⟨_, rfl⟩
  rw [← hV] at hx ⊢
  clear hV
  have he := h2.next hx.below
  have hg := he.lt
  have hgx := hx.lt
  clear p0 p1 p2 p3 p4 p5 p6 p7
  refine (echeck_any id k tk rf sp ty ud [] (by first | omega | decide) V).mono ?_
  rintro _ w5 ⟨rfl, b5⟩
  rw [ev_yes HP.out]
  have hbf := (he.next b5).below
  go_wp2_with fail
  go_ret
  exact ⟨rfl, hbf⟩
end Go.Proofs.Ytjpbhdbmblalmaa
