/- THE WALKS of EventReads, EventBack; Same. -/
import Derived.Test.YtjpbhdbmblalmaaEvtRUn
import Derived.Test.YtjpbhdbmblalmaaEvtSl
import Derived.Deep.QuietTactic
import Derived.BigQuiet
namespace Go.Proofs.Ytjpbhdbmblalmaa
open Go.RowKit
set_option linter.unusedVariables false

set_option maxHeartbeats 1600000 in
set_option maxRecDepth 100000 in
theorem same_any (v v' : Value) (l : List Ev) (w : World) (hs : Sl w v 8 l.length (l.flatMap evc)) (hs' : Sl w v' 8 l.length (l.flatMap evc)) : Calls Try.prog 15 #[v, v'] w fun e w' => e = .returned (.bool true) ∧ Below w.heap.size w w' := by
  have hm : l.length ≤ 9223372036854775807 := hs.2.1.1
  obtain ⟨_, _, a, cap, rfl, hc⟩ := hs
  obtain ⟨_, _, a', cap', rfl, hc'⟩ := hs'
  have C1 := hid hc
  have C2 := hid hc'
  clear hc hc'
  go_enter Try.func15, Try.ntmps15
  go_wp2_with fail
  go_loopw [5] (fun i0 wr => ∃ k : Nat, k ≤ l.length ∧ i0 = .int .i64 k ∧ Below w.heap.size w wr) (fun i0 _ => l.length - (intOf i0).toNat)
  case atStart => exact ⟨0, Nat.zero_le _, rfl, Below.refl _ _⟩
  case round =>
    obtain ⟨k, hk, rfl, hb⟩ := hrel
    by_cases hlt : k < l.length
    · obtain ⟨b, off, rfl, hblt, hc⟩ := C1.out.resolve_left (by omega)
      obtain ⟨b', off', rfl, hblt', hc'⟩ := C2.out.resolve_left (by omega)
      have c0 : wr.cell? ⟨b, off + k * 8, none⟩ = some (.int .i64 l[k].1) := (hb.cell (p := ⟨b, off + k * 8 + 0, none⟩) hblt).trans (ev_cell hc k 0 (by decide) hlt _ rfl)
      have c1 : wr.cell? ⟨b, off + k * 8 + 1, none⟩ = some (.int .i64 l[k].2.1) := (hb.cell (p := ⟨b, off + k * 8 + 1, none⟩) hblt).trans (ev_cell hc k 1 (by decide) hlt _ rfl)
      have c2 : wr.cell? ⟨b, off + k * 8 + 2, none⟩ = some (.int .i64 l[k].2.2.1) := (hb.cell (p := ⟨b, off + k * 8 + 2, none⟩) hblt).trans (ev_cell hc k 2 (by decide) hlt _ rfl)
      have c3 : wr.cell? ⟨b, off + k * 8 + 3, none⟩ = some (.int .i64 l[k].2.2.2.1) := (hb.cell (p := ⟨b, off + k * 8 + 3, none⟩) hblt).trans (ev_cell hc k 3 (by decide) hlt _ rfl)
      have c4 : wr.cell? ⟨b, off + k * 8 + 4, none⟩ = some (.int .i64 l[k].2.2.2.2.1) := (hb.cell (p := ⟨b, off + k * 8 + 4, none⟩) hblt).trans (ev_cell hc k 4 (by decide) hlt _ rfl)
      have c5 : wr.cell? ⟨b, off + k * 8 + 5, none⟩ = some (.int .i64 l[k].2.2.2.2.2.1) := (hb.cell (p := ⟨b, off + k * 8 + 5, none⟩) hblt).trans (ev_cell hc k 5 (by decide) hlt _ rfl)
      have c6 : wr.cell? ⟨b, off + k * 8 + 6, none⟩ = some (.bool l[k].2.2.2.2.2.2.1) := (hb.cell (p := ⟨b, off + k * 8 + 6, none⟩) hblt).trans (ev_cell hc k 6 (by decide) hlt _ rfl)
      have c7 : wr.cell? ⟨b, off + k * 8 + 7, none⟩ = some (.string ⟨l[k].2.2.2.2.2.2.2.toArray⟩) := (hb.cell (p := ⟨b, off + k * 8 + 7, none⟩) hblt).trans (ev_cell hc k 7 (by decide) hlt _ rfl)
      have d0 : wr.cell? ⟨b', off' + k * 8, none⟩ = some (.int .i64 l[k].1) := (hb.cell (p := ⟨b', off' + k * 8 + 0, none⟩) hblt').trans (ev_cell hc' k 0 (by decide) hlt _ rfl)
      have d1 : wr.cell? ⟨b', off' + k * 8 + 1, none⟩ = some (.int .i64 l[k].2.1) := (hb.cell (p := ⟨b', off' + k * 8 + 1, none⟩) hblt').trans (ev_cell hc' k 1 (by decide) hlt _ rfl)
      have d2 : wr.cell? ⟨b', off' + k * 8 + 2, none⟩ = some (.int .i64 l[k].2.2.1) := (hb.cell (p := ⟨b', off' + k * 8 + 2, none⟩) hblt').trans (ev_cell hc' k 2 (by decide) hlt _ rfl)
      have d3 : wr.cell? ⟨b', off' + k * 8 + 3, none⟩ = some (.int .i64 l[k].2.2.2.1) := (hb.cell (p := ⟨b', off' + k * 8 + 3, none⟩) hblt').trans (ev_cell hc' k 3 (by decide) hlt _ rfl)
      have d4 : wr.cell? ⟨b', off' + k * 8 + 4, none⟩ = some (.int .i64 l[k].2.2.2.2.1) := (hb.cell (p := ⟨b', off' + k * 8 + 4, none⟩) hblt').trans (ev_cell hc' k 4 (by decide) hlt _ rfl)
      have d5 : wr.cell? ⟨b', off' + k * 8 + 5, none⟩ = some (.int .i64 l[k].2.2.2.2.2.1) := (hb.cell (p := ⟨b', off' + k * 8 + 5, none⟩) hblt').trans (ev_cell hc' k 5 (by decide) hlt _ rfl)
      have d6 : wr.cell? ⟨b', off' + k * 8 + 6, none⟩ = some (.bool l[k].2.2.2.2.2.2.1) := (hb.cell (p := ⟨b', off' + k * 8 + 6, none⟩) hblt').trans (ev_cell hc' k 6 (by decide) hlt _ rfl)
      have d7 : wr.cell? ⟨b', off' + k * 8 + 7, none⟩ = some (.string ⟨l[k].2.2.2.2.2.2.2.toArray⟩) := (hb.cell (p := ⟨b', off' + k * 8 + 7, none⟩) hblt').trans (ev_cell hc' k 7 (by decide) hlt _ rfl)
      have hlt2 := hid (show k + 1 ≤ l.length from hlt)
      clear hc hc'
      generalize l[k] = x at c0 c1 c2 c3 c4 c5 c6 c7 d0 d1 d2 d3 d4 d5 d6 d7
      obtain ⟨id, kd, tk, rf, sp, ty, ud, dt⟩ := x
      simp only at c0 c1 c2 c3 c4 c5 c6 c7 d0 d1 d2 d3 d4 d5 d6 d7
      go_wp2_with fail
      go_quiet (fail)
      go_wp2_with fail
      go_roundw
      case rel => exact ⟨k + 1, hlt2.out, by go_num, bnext hb (below_drewN _ _ _)⟩
      case measure => have := hlt2.out; simp [intOf]; omega
    · obtain rfl : k = l.length := by omega
      go_wp2_with fail
      go_ret
      exact ⟨rfl, hb⟩
set_option maxHeartbeats 1600000 in
set_option maxRecDepth 100000 in
theorem eventReads_walk (l : List UInt8) (hl : l.length ≤ 140737488351232) (w : World) :
    Calls Try.prog 8 #[.string ⟨l.toArray⟩] w fun e w' => e = .returned (.bool true) ∧ Below w.heap.size w w' := by
  go_enter Try.func8, Try.ntmps8
  go_wp2_with fail
  refine (eawake_any w).mono ?_
  rintro _ w1 ⟨rfl, b1⟩
  go_wp2_with fail
  refine (edecode_any l (by omega) _).mono ?_
  rintro _ w2 ⟨x, er, rfl, b2, hr2⟩
  obtain ⟨id, kd, tk, rf, sp, ty, ud, dt⟩ := x
  rw [show evV' (id, kd, tk, rf, sp, ty, ud, dt) = .agg #[.int .i64 id, .int .i64 kd, .int .i64 tk, .int .i64 rf, .int .i64 sp, .int .i64 ty, .bool ud, .string ⟨dt.toArray⟩] from rfl]
  go_wp2_with fail
  have h0 := EHeld.new w2 (id, kd, tk, rf, sp, ty, ud, dt)
  unfold evC at h0
  simp only [Ev.id, Ev.kd, Ev.tk, Ev.rf, Ev.sp, Ev.ty, Ev.ud, Ev.dt] at h0
  obtain ⟨W, hW⟩ : ∃ W, W = w2.alloc (.cells #[.int .i64 id, .int .i64 kd, .int .i64 tk, .int .i64 rf, .int .i64 sp, .int .i64 ty, .bool ud, .string ⟨dt.toArray⟩] 23) := ⟨_, rfl⟩
  rw [← hW] at h0 ⊢
  clear hW
  refine (rdecodeE_any l (by omega) _).mono ?_
  rintro _ w3 ⟨x', er', rfl, b3, hr3⟩
  have hsame : x' = (id, kd, tk, rf, sp, ty, ud, dt) ∧ er' = er := by
    rcases hr2 with ⟨e1, e2⟩ | ⟨e1, e2, e3⟩
    · rcases hr3 with ⟨f1, f2⟩ | ⟨f1, f2, f3⟩
      · rw [e1] at f1; cases f1; exact ⟨rfl, f2.trans e2.symm⟩
      · rw [e1] at f1; cases f1
    · rcases hr3 with ⟨f1, f2⟩ | ⟨f1, f2, f3⟩
      · rw [e1] at f1; cases f1
      · exact ⟨f3.trans e3.symm, f2.trans e2.symm⟩
  obtain ⟨rfl, rfl⟩ := hsame
  clear hr2 hr3
  rw [show evV' (id, kd, tk, rf, sp, ty, ud, dt) = .agg #[.int .i64 id, .int .i64 kd, .int .i64 tk, .int .i64 rf, .int .i64 sp, .int .i64 ty, .bool ud, .string ⟨dt.toArray⟩] from rfl]
  have h3 := h0.next b3
  go_wp2_with fail
  have j0 := EHeld.new w3 (id, kd, tk, rf, sp, ty, ud, dt)
  unfold evC at j0
  simp only [Ev.id, Ev.kd, Ev.tk, Ev.rf, Ev.sp, Ev.ty, Ev.ud, Ev.dt] at j0
  obtain ⟨V, hV⟩ : ∃ V, V = w3.alloc (.cells #[.int .i64 id, .int .i64 kd, .int .i64 tk, .int .i64 rf, .int .i64 sp, .int .i64 ty, .bool ud, .string ⟨dt.toArray⟩] 23) := ⟨_, rfl⟩
  rw [← hV] at j0 ⊢
  clear hV
  refine (eunpack_any l (by omega) _).mono ?_
  rintro _ w4 ⟨v, xs, g, rfl, hs4, hf4, b4, hr4⟩
  go_wp2_with fail
  refine (runpack_any l (by omega) _).mono ?_
  rintro _ w5 ⟨v', ys, g', rfl, hs5, hf5, b5, hr5⟩
  have hsame : ys = xs ∧ g' = g := by
    rcases hr4 with ⟨e1, e2⟩ | ⟨e1, e2, e3⟩
    · rcases hr5 with ⟨f1, f2⟩ | ⟨f1, f2, f3⟩
      · rw [e1] at f1; cases f1; exact ⟨rfl, f2.trans e2.symm⟩
      · rw [e1] at f1; cases f1
    · rcases hr5 with ⟨f1, f2⟩ | ⟨f1, f2, f3⟩
      · rw [e1] at f1; cases f1
      · exact ⟨f3.trans e3.symm, f2.trans e2.symm⟩
  obtain ⟨rfl, rfl⟩ := hsame
  clear hr4 hr5
  have k3 := ((h3.next j0.below).next b4).next b5
  have k4 := (j0.next b4).next b5
  have hs4' := hs4.below b5
  have hbf := bnext (bnext b1 b2) k3.below
  obtain ⟨p0, p1, p2, p3, p4, p5, p6, p7, _, _⟩ := k3
  obtain ⟨q0, q1, q2, q3, q4, q5, q6, q7, _, _⟩ := k4
  simp only [Ev.id, Ev.kd, Ev.tk, Ev.rf, Ev.sp, Ev.ty, Ev.ud, Ev.dt] at p0 p1 p2 p3 p4 p5 p6 p7 q0 q1 q2 q3 q4 q5 q6 q7
  go_wp2_with fail
  refine (same_any _ _ _ w5 hs4' hs5).mono ?_
  rintro _ w6 ⟨rfl, b6⟩
  go_wp2_with fail
  go_ret
  exact ⟨rfl, bnext hbf b6⟩
end Go.Proofs.Ytjpbhdbmblalmaa
