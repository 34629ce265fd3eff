/- THE WALKS of EventCodes, EventApart. -/
import Derived.Test.YtjpbhdbmblalmaaEvtAwake
import Derived.Test.YtjpbhdbmblalmaaEvtREnc
import Derived.BigRegion
namespace Go.Proofs.Ytjpbhdbmblalmaa
open Go.RowKit
set_option linter.unusedVariables false

set_option maxHeartbeats 1600000 in
set_option maxRecDepth 100000 in
theorem eventCodes_walk (id k tk rf sp ty : Int) (ud : Bool) (dt : List UInt8) (hdt : dt.length ≤ 140737488351232) (w : World) :
    Calls Try.prog 6 #[.agg #[.int .i64 id, .int .i64 k, .int .i64 tk, .int .i64 rf, .int .i64 sp, .int .i64 ty, .bool ud, .string ⟨dt.toArray⟩]] w fun e w' => e = .returned (.bool true) ∧ Below w.heap.size w w' := by
  have c1 := fun w => eencode_any id k tk rf sp ty ud dt (by omega) w
  have c2 := fun w => rencodeE_any id k tk rf sp ty ud dt (by omega) w
  have c3 := fun w => echeck_any id k tk rf sp ty ud dt (by omega) w
  generalize encEV (id, k, tk, rf, sp, ty, ud, dt) = L at c1 c2
  generalize evV (id, k, tk, rf, sp, ty, ud, dt) = V at c1 c2 c3
  have h0 := EHeld.new w (id, k, tk, rf, sp, ty, ud, dt)
  unfold evC at h0
  simp only [Ev.id, Ev.kd, Ev.tk, Ev.rf, Ev.sp, Ev.ty, Ev.ud, Ev.dt] at h0
  obtain ⟨W, hW⟩ : ∃ W, W = w.alloc (.cells #[.int .i64 id, .int .i64 k, .int .i64 tk, .int .i64 rf, .int .i64 sp, .int .i64 ty, .bool ud, .string ⟨dt.toArray⟩] 23) := ⟨_, rfl⟩
  rw [← hW] at h0
  have HX := hid hW
  clear hW
  go_enter Try.func6, Try.ntmps6
  go_wp2_with fail
  rw [← HX.out]
  refine (eawake_any W).mono ?_
  rintro _ w1 ⟨rfl, b1⟩
  have h1 := h0.next b1
  obtain ⟨p0, p1, p2, p3, p4, p5, p6, p7, _, _⟩ := h1
  simp only [Ev.id, Ev.kd, Ev.tk, Ev.rf, Ev.sp, Ev.ty, Ev.ud, Ev.dt] at p0 p1 p2 p3 p4 p5 p6 p7
  go_wp2_with fail
  refine (c1 _).mono ?_
  rintro _ w2 ⟨rfl, b2⟩
  have h2 := (h0.next b1).next b2
  clear p0 p1 p2 p3 p4 p5 p6 p7
  obtain ⟨p0, p1, p2, p3, p4, p5, p6, p7, _, _⟩ := h2
  simp only [Ev.id, Ev.kd, Ev.tk, Ev.rf, Ev.sp, Ev.ty, Ev.ud, Ev.dt] at p0 p1 p2 p3 p4 p5 p6 p7
  go_wp2_with fail
  refine (c2 _).mono ?_
  rintro _ w3 ⟨rfl, b3⟩
  have h3 := ((h0.next b1).next b2).next b3
  clear p0 p1 p2 p3 p4 p5 p6 p7
  obtain ⟨p0, p1, p2, p3, p4, p5, p6, p7, _, _⟩ := h3
  simp only [Ev.id, Ev.kd, Ev.tk, Ev.rf, Ev.sp, Ev.ty, Ev.ud, Ev.dt] at p0 p1 p2 p3 p4 p5 p6 p7
  go_wp2_with fail
  refine (c3 _).mono ?_
  rintro _ w4 ⟨rfl, b4⟩
  have h4 := (((h0.next b1).next b2).next b3).next b4
  clear p0 p1 p2 p3 p4 p5 p6 p7
  go_wp2_with fail
  go_ret
  exact ⟨rfl, h4.below⟩
set_option maxHeartbeats 1600000 in
set_option maxRecDepth 100000 in
theorem eventApart_walk (id k tk rf sp ty : Int) (ud : Bool) (dt : List UInt8) (hdt : dt.length ≤ 140737488351232) (id' k' tk' rf' sp' ty' : Int) (ud' : Bool) (dt' : List UInt8) (hdt' : dt'.length ≤ 140737488351232) (w : World) :
    Calls Try.prog 4 #[.agg #[.int .i64 id, .int .i64 k, .int .i64 tk, .int .i64 rf, .int .i64 sp, .int .i64 ty, .bool ud, .string ⟨dt.toArray⟩], .agg #[.int .i64 id', .int .i64 k', .int .i64 tk', .int .i64 rf', .int .i64 sp', .int .i64 ty', .bool ud', .string ⟨dt'.toArray⟩]] w fun e w' => e = .returned (.bool true) ∧ Below w.heap.size w w' := by
  have c1 := fun w => eencode_any id k tk rf sp ty ud dt (by omega) w
  have c2 := fun w => eencode_any id' k' tk' rf' sp' ty' ud' dt' (by omega) w
  have h0 := EHeld.new w (id, k, tk, rf, sp, ty, ud, dt)
  unfold evC at h0
  simp only [Ev.id, Ev.kd, Ev.tk, Ev.rf, Ev.sp, Ev.ty, Ev.ud, Ev.dt] at h0
  obtain ⟨W, hW⟩ : ∃ W, W = w.alloc (.cells #[.int .i64 id, .int .i64 k, .int .i64 tk, .int .i64 rf, .int .i64 sp, .int .i64 ty, .bool ud, .string ⟨dt.toArray⟩] 23) := ⟨_, rfl⟩
  rw [← hW] at h0
  have hsz : W.heap.size = w.heap.size + 1 := by rw [hW]; show (w.heap.push _).size = _; rw [Array.size_push]
  have j0 := EHeld.new W (id', k', tk', rf', sp', ty', ud', dt')
  unfold evC at j0
  simp only [Ev.id, Ev.kd, Ev.tk, Ev.rf, Ev.sp, Ev.ty, Ev.ud, Ev.dt] at j0
  obtain ⟨V, hV⟩ : ∃ V, V = W.alloc (.cells #[.int .i64 id', .int .i64 k', .int .i64 tk', .int .i64 rf', .int .i64 sp', .int .i64 ty', .bool ud', .string ⟨dt'.toArray⟩] 23) := ⟨_, rfl⟩
  rw [← hV] at j0
  have a0 := h0.next j0.below
  rw [hsz] at j0
  have HX := hid hW
  have HY := hid hV
  clear hW hV hsz h0
  go_enter Try.func4, Try.ntmps4
  go_wp2_with fail
  rw [← HX.out, ← HY.out]
  refine (eawake_any V).mono ?_
  rintro _ w1 ⟨rfl, b1⟩
  obtain ⟨p0, p1, p2, p3, p4, p5, p6, p7, _, _⟩ := a0.next b1
  simp only [Ev.id, Ev.kd, Ev.tk, Ev.rf, Ev.sp, Ev.ty, Ev.ud, Ev.dt] at p0 p1 p2 p3 p4 p5 p6 p7
  go_wp2_with fail
  refine (c1 _).mono ?_
  rintro _ w2 ⟨rfl, b2⟩
  clear p0 p1 p2 p3 p4 p5 p6 p7
  obtain ⟨q0, q1, q2, q3, q4, q5, q6, q7, _, _⟩ := (j0.next b1).next b2
  simp only [Ev.id, Ev.kd, Ev.tk, Ev.rf, Ev.sp, Ev.ty, Ev.ud, Ev.dt] at q0 q1 q2 q3 q4 q5 q6 q7
  go_wp2_with fail
  refine (c2 _).mono ?_
  rintro _ w3 ⟨rfl, b3⟩
  clear q0 q1 q2 q3 q4 q5 q6 q7
  have hbf := (((a0.next b1).next b2).next b3).below
  obtain ⟨p0, p1, p2, p3, p4, p5, p6, p7, _, _⟩ := ((a0.next b1).next b2).next b3
  obtain ⟨q0, q1, q2, q3, q4, q5, q6, q7, _, _⟩ := ((j0.next b1).next b2).next b3
  simp only [Ev.id, Ev.kd, Ev.tk, Ev.rf, Ev.sp, Ev.ty, Ev.ud, Ev.dt] at p0 p1 p2 p3 p4 p5 p6 p7 q0 q1 q2 q3 q4 q5 q6 q7
  clear c1 c2 a0 j0 b1 b2 b3
  by_cases hp : EvP (id, k, tk, rf, sp, ty, ud, dt)
  · rw [ev_yes hp]
    by_cases hq : EvP (id', k', tk', rf', sp', ty', ud', dt')
    · rw [ev_yes hq]
      have hE : encEV (id, k, tk, rf, sp, ty, ud, dt) = encE (id, k, tk, rf, sp, ty, ud, dt) := by unfold encEV; rw [if_pos hp]
      have hE' : encEV (id', k', tk', rf', sp', ty', ud', dt') = encE (id', k', tk', rf', sp', ty', ud', dt') := by unfold encEV; rw [if_pos hq]
      rw [hE, hE']
      have hinj : encE (id, k, tk, rf, sp, ty, ud, dt) = encE (id', k', tk', rf', sp', ty', ud', dt') ↔ (id = id' ∧ k = k' ∧ tk = tk' ∧ rf = rf' ∧ sp = sp' ∧ ty = ty' ∧ ud = ud' ∧ dt = dt') := by
        constructor
        · intro h
          have := encE_inj hp hq h
          simp only [Prod.mk.injEq] at this
          exact this
        · rintro ⟨rfl, rfl, rfl, rfl, rfl, rfl, rfl, rfl⟩; rfl
      have hbq : (encE (id, k, tk, rf, sp, ty, ud, dt) == encE (id', k', tk', rf', sp', ty', ud', dt')) = ((((((((id == id') && (k == k')) && (tk == tk')) && (rf == rf')) && (sp == sp')) && (ty == ty')) && (ud == ud')) && (dt == dt')) := by
        rw [Bool.eq_iff_iff, beq_iff_eq, hinj]
        simp only [Bool.and_eq_true, beq_iff_eq]
        constructor
        · rintro ⟨h1, h2, h3, h4, h5, h6, h7, h8⟩; exact ⟨⟨⟨⟨⟨⟨⟨h1, h2⟩, h3⟩, h4⟩, h5⟩, h6⟩, h7⟩, h8⟩
        · rintro ⟨⟨⟨⟨⟨⟨⟨h1, h2⟩, h3⟩, h4⟩, h5⟩, h6⟩, h7⟩, h8⟩; exact ⟨h1, h2, h3, h4, h5, h6, h7, h8⟩
      clear hE hE' hinj hp hq
      generalize encE (id, k, tk, rf, sp, ty, ud, dt) = L at *
      generalize encE (id', k', tk', rf', sp', ty', ud', dt') = M at *
      go_wp2_with fail
      all_goals
        go_ret
        exact ⟨by first | rfl | simp_all, hbf⟩
    · rw [ev_no hq]
      generalize encEV (id, k, tk, rf, sp, ty, ud, dt) = L
      generalize encEV (id', k', tk', rf', sp', ty', ud', dt') = M
      go_wp2_with fail
      go_ret
      exact ⟨rfl, hbf⟩
  · rw [ev_no hp]
    generalize encEV (id, k, tk, rf, sp, ty, ud, dt) = L
    generalize encEV (id', k', tk', rf', sp', ty', ud', dt') = M
    go_wp2_with fail
    go_ret
    exact ⟨rfl, hbf⟩
end Go.Proofs.Ytjpbhdbmblalmaa
