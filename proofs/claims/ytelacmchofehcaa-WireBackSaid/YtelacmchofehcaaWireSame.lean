/- CONTRACTS: the references' Same, of a request, of a reply, twice the same. -/
import Derived.Test.YtelacmchofehcaaWmG
import Derived.Test.YtelacmchofehcaaPgmSame
import Derived.Deep.QuietTactic
import Derived.BigQuiet
namespace Go.Proofs.Ytelacmchofehcaa
open Go.RowKit
set_option linter.unusedVariables false
set_option linter.unusedSimpArgs false

set_option maxHeartbeats 3200000 in
set_option maxRecDepth 100000 in
theorem qsame_any (kd : Int) (rq wd nm : List UInt8) (hrq : rq.length ≤ 140737488355328) (hwd : wd.length ≤ 140737488355328) (hnm : nm.length ≤ 140737488355328) (v v' : Value) (lim : Int) (ss : List St) (au au' : Option Addr) (cu cu' : Nat) (cs : List Cm) (rf ty fr sh : Int) (gd : Bool) (w : World) (hv : Sl w v 6 ss.length (ss.flatMap stC)) (hv' : Sl w v' 6 ss.length (ss.flatMap stC)) (hu : Sl w (.slice au cs.length cu) 3 cs.length (cs.flatMap cmc)) (hu' : Sl w (.slice au' cs.length cu') 3 cs.length (cs.flatMap cmc)) :
    Calls Try.prog 11 #[.agg #[.int .i64 kd, .string ⟨rq.toArray⟩, .string ⟨wd.toArray⟩, .string ⟨nm.toArray⟩, v, .int .i64 lim, .slice au cs.length cu, .int .i64 rf, .int .i64 ty, .int .i64 fr, .int .i64 sh, .bool gd], .agg #[.int .i64 kd, .string ⟨rq.toArray⟩, .string ⟨wd.toArray⟩, .string ⟨nm.toArray⟩, v', .int .i64 lim, .slice au' cs.length cu', .int .i64 rf, .int .i64 ty, .int .i64 fr, .int .i64 sh, .bool gd]] w fun e w' => e = .returned (.bool true) ∧ Below w.heap.size w w' := by
  have hm : cs.length ≤ 9223372036854775807 := hu.2.1.1
  have h0 := (H12.new w 27 (.int .i64 kd) (.string ⟨rq.toArray⟩) (.string ⟨wd.toArray⟩) (.string ⟨nm.toArray⟩) (v) (.int .i64 lim) (.slice au cs.length cu) (.int .i64 rf) (.int .i64 ty) (.int .i64 fr) (.int .i64 sh) (.bool gd)).next ((Below.refl _ _).alloc (Nat.le_refl _) (.cells #[.int .i64 kd, .string ⟨rq.toArray⟩, .string ⟨wd.toArray⟩, .string ⟨nm.toArray⟩, v', .int .i64 lim, .slice au' cs.length cu', .int .i64 rf, .int .i64 ty, .int .i64 fr, .int .i64 sh, .bool gd] 27))
  have k0 := H12.new (w.alloc (.cells #[.int .i64 kd, .string ⟨rq.toArray⟩, .string ⟨wd.toArray⟩, .string ⟨nm.toArray⟩, v, .int .i64 lim, .slice au cs.length cu, .int .i64 rf, .int .i64 ty, .int .i64 fr, .int .i64 sh, .bool gd] 27)) 27 (.int .i64 kd) (.string ⟨rq.toArray⟩) (.string ⟨wd.toArray⟩) (.string ⟨nm.toArray⟩) (v') (.int .i64 lim) (.slice au' cs.length cu') (.int .i64 rf) (.int .i64 ty) (.int .i64 fr) (.int .i64 sh) (.bool gd)
  rw [show (w.alloc (.cells #[.int .i64 kd, .string ⟨rq.toArray⟩, .string ⟨wd.toArray⟩, .string ⟨nm.toArray⟩, v, .int .i64 lim, .slice au cs.length cu, .int .i64 rf, .int .i64 ty, .int .i64 fr, .int .i64 sh, .bool gd] 27)).heap.size = w.heap.size + 1 from Array.size_push ..] at k0
  obtain ⟨W, hW⟩ : ∃ W, W = ((w.alloc (.cells #[.int .i64 kd, .string ⟨rq.toArray⟩, .string ⟨wd.toArray⟩, .string ⟨nm.toArray⟩, v, .int .i64 lim, .slice au cs.length cu, .int .i64 rf, .int .i64 ty, .int .i64 fr, .int .i64 sh, .bool gd] 27)).alloc (.cells #[.int .i64 kd, .string ⟨rq.toArray⟩, .string ⟨wd.toArray⟩, .string ⟨nm.toArray⟩, v', .int .i64 lim, .slice au' cs.length cu', .int .i64 rf, .int .i64 ty, .int .i64 fr, .int .i64 sh, .bool gd] 27)) := ⟨_, rfl⟩
  have hb0 : Below w.heap.size w W := by rw [hW]; exact h0.below
  have h1 : H12 w W w.heap.size (.int .i64 kd) (.string ⟨rq.toArray⟩) (.string ⟨wd.toArray⟩) (.string ⟨nm.toArray⟩) (v) (.int .i64 lim) (.slice au cs.length cu) (.int .i64 rf) (.int .i64 ty) (.int .i64 fr) (.int .i64 sh) (.bool gd) := by rw [hW]; exact h0
  have k1 : H12 (w.alloc (.cells #[.int .i64 kd, .string ⟨rq.toArray⟩, .string ⟨wd.toArray⟩, .string ⟨nm.toArray⟩, v, .int .i64 lim, .slice au cs.length cu, .int .i64 rf, .int .i64 ty, .int .i64 fr, .int .i64 sh, .bool gd] 27)) W (w.heap.size + 1) (.int .i64 kd) (.string ⟨rq.toArray⟩) (.string ⟨wd.toArray⟩) (.string ⟨nm.toArray⟩) (v') (.int .i64 lim) (.slice au' cs.length cu') (.int .i64 rf) (.int .i64 ty) (.int .i64 fr) (.int .i64 sh) (.bool gd) := by rw [hW]; exact k0
  have HW := hid hW
  clear hW
  have h0' := h0
  obtain ⟨p0, p1, p2, p3, p4, p5, p6, p7, p8, p9, p10, p11, _, _⟩ := h0'
  have k0' := k0
  obtain ⟨q0, q1, q2, q3, q4, q5, q6, q7, q8, q9, q10, q11, _, _⟩ := k0'
  clear h0 k0
  go_enter Try.func11, Try.ntmps11
  go_wp2_with fail
  rw [← HW.out]
  clear p0 p1 p2 p3 p4 p5 p6 p7 p8 p9 p10 p11 q0 q1 q2 q3 q4 q5 q6 q7 q8 q9 q10 q11
  refine (psame_any v v' lim lim ss ss W (hv.below hb0) (hv'.below hb0)).mono ?_
  rintro _ W1 ⟨rfl, b1⟩
  rw [decide_eq_true (show lim = lim ∧ ss = ss from ⟨rfl, rfl⟩)]
  have hbW1 := bnext hb0 b1
  have h2 := h1.next b1
  have k2 := k1.next b1
  have hu1 := hu.below hbW1
  have hu1' := hu'.below hbW1
  obtain ⟨_, _, xa, xc, hxe, hcc⟩ := hu1
  injection hxe with e1 e2 e3
  subst e1
  subst e3
  have C1 := hid hcc
  clear hcc e2
  obtain ⟨_, _, xa, xc, hxe, hcc⟩ := hu1'
  injection hxe with e1 e2 e3
  subst e1
  subst e3
  have C2 := hid hcc
  clear hcc e2
  have h2' := h2
  obtain ⟨p0, p1, p2, p3, p4, p5, p6, p7, p8, p9, p10, p11, _, _⟩ := h2'
  have k2' := k2
  obtain ⟨q0, q1, q2, q3, q4, q5, q6, q7, q8, q9, q10, q11, _, _⟩ := k2'
  go_wp2_with fail
  clear p0 p1 p2 p3 p4 p5 p6 p7 p8 p9 p10 p11 q0 q1 q2 q3 q4 q5 q6 q7 q8 q9 q10 q11
  go_loopw [5] (fun i0 wr => ∃ k : Nat, k ≤ cs.length ∧ i0 = .int .i64 k ∧ Below W1.heap.size W1 wr) (fun i0 _ => cs.length - (intOf i0).toNat)
  case atStart => exact ⟨0, Nat.zero_le _, rfl, Below.refl _ _⟩
  case round =>
    obtain ⟨k, hk, rfl, hb⟩ := hrel
    have hr := h2.next hb
    have kr := k2.next hb
    have hr' := hr
    obtain ⟨p0, p1, p2, p3, p4, p5, p6, p7, p8, p9, p10, p11, _, _⟩ := hr'
    have kr' := kr
    obtain ⟨q0, q1, q2, q3, q4, q5, q6, q7, q8, q9, q10, q11, _, _⟩ := kr'
    by_cases hlt : k < cs.length
    · obtain ⟨b, off, rfl, hblt, hc⟩ := C1.out.resolve_left (by omega)
      obtain ⟨b', off', rfl, hblt', hc'⟩ := C2.out.resolve_left (by omega)
      have c0 : wr.cell? ⟨b, off + k * 3, none⟩ = some (.int .i64 cs[k].1) := (hb.cell (p := ⟨b, off + k * 3 + 0, none⟩) hblt).trans (cm_cell hc k 0 (by decide) hlt _ rfl)
      have c1 : wr.cell? ⟨b, off + k * 3 + 1, none⟩ = some (.int .i64 cs[k].2.1) := (hb.cell (p := ⟨b, off + k * 3 + 1, none⟩) hblt).trans (cm_cell hc k 1 (by decide) hlt _ rfl)
      have c2 : wr.cell? ⟨b, off + k * 3 + 2, none⟩ = some (.bool cs[k].2.2) := (hb.cell (p := ⟨b, off + k * 3 + 2, none⟩) hblt).trans (cm_cell hc k 2 (by decide) hlt _ rfl)
      have d0 : wr.cell? ⟨b', off' + k * 3, none⟩ = some (.int .i64 cs[k].1) := (hb.cell (p := ⟨b', off' + k * 3 + 0, none⟩) hblt').trans (cm_cell hc' k 0 (by decide) hlt _ rfl)
      have d1 : wr.cell? ⟨b', off' + k * 3 + 1, none⟩ = some (.int .i64 cs[k].2.1) := (hb.cell (p := ⟨b', off' + k * 3 + 1, none⟩) hblt').trans (cm_cell hc' k 1 (by decide) hlt _ rfl)
      have d2 : wr.cell? ⟨b', off' + k * 3 + 2, none⟩ = some (.bool cs[k].2.2) := (hb.cell (p := ⟨b', off' + k * 3 + 2, none⟩) hblt').trans (cm_cell hc' k 2 (by decide) hlt _ rfl)
      have hlt2 := hid (show k + 1 ≤ cs.length from hlt)
      clear hc hc'
      generalize cs[k] = x at c0 c1 c2 d0 d1 d2
      obtain ⟨e0, e1, e2⟩ := x
      simp only at c0 c1 c2 d0 d1 d2
      go_wp2_with fail
      go_quiet (fail)
      go_wp2_with fail
      go_roundw
      case rel => exact ⟨k + 1, hlt2.out, by go_num, bnext hb (below_drewN _ _ _)⟩
      case measure => have := hlt2.out; simp [intOf]; omega
    · obtain rfl : k = cs.length := by omega
      go_wp2_with fail
      go_ret
      exact ⟨rfl, bnext hbW1 hb⟩
set_option maxHeartbeats 3200000 in
set_option maxRecDepth 100000 in
theorem xsame_any (er st nx tn : Int) (tw : List UInt8) (tr tt : Int) (nm : List UInt8) (hnm : nm.length ≤ 140737488355328) (au au' : Option Addr) (cu cu' : Nat) (ev : List Ev) (w : World) (hu : Sl w (.slice au ev.length cu) 8 ev.length (ev.flatMap evc)) (hu' : Sl w (.slice au' ev.length cu') 8 ev.length (ev.flatMap evc)) :
    Calls Try.prog 14 #[.agg #[.int .i64 er, .int .i64 st, .int .i64 nx, .int .i64 tn, .string ⟨tw.toArray⟩, .int .i64 tr, .int .i64 tt, .string ⟨nm.toArray⟩, .slice au ev.length cu], .agg #[.int .i64 er, .int .i64 st, .int .i64 nx, .int .i64 tn, .string ⟨tw.toArray⟩, .int .i64 tr, .int .i64 tt, .string ⟨nm.toArray⟩, .slice au' ev.length cu']] w fun e w' => e = .returned (.bool true) ∧ Below w.heap.size w w' := by
  have hm : ev.length ≤ 9223372036854775807 := hu.2.1.1
  have h0 := (H9.new w 33 (.int .i64 er) (.int .i64 st) (.int .i64 nx) (.int .i64 tn) (.string ⟨tw.toArray⟩) (.int .i64 tr) (.int .i64 tt) (.string ⟨nm.toArray⟩) (.slice au ev.length cu)).next ((Below.refl _ _).alloc (Nat.le_refl _) (.cells #[.int .i64 er, .int .i64 st, .int .i64 nx, .int .i64 tn, .string ⟨tw.toArray⟩, .int .i64 tr, .int .i64 tt, .string ⟨nm.toArray⟩, .slice au' ev.length cu'] 33))
  have k0 := H9.new (w.alloc (.cells #[.int .i64 er, .int .i64 st, .int .i64 nx, .int .i64 tn, .string ⟨tw.toArray⟩, .int .i64 tr, .int .i64 tt, .string ⟨nm.toArray⟩, .slice au ev.length cu] 33)) 33 (.int .i64 er) (.int .i64 st) (.int .i64 nx) (.int .i64 tn) (.string ⟨tw.toArray⟩) (.int .i64 tr) (.int .i64 tt) (.string ⟨nm.toArray⟩) (.slice au' ev.length cu')
  rw [show (w.alloc (.cells #[.int .i64 er, .int .i64 st, .int .i64 nx, .int .i64 tn, .string ⟨tw.toArray⟩, .int .i64 tr, .int .i64 tt, .string ⟨nm.toArray⟩, .slice au ev.length cu] 33)).heap.size = w.heap.size + 1 from Array.size_push ..] at k0
  obtain ⟨W, hW⟩ : ∃ W, W = ((w.alloc (.cells #[.int .i64 er, .int .i64 st, .int .i64 nx, .int .i64 tn, .string ⟨tw.toArray⟩, .int .i64 tr, .int .i64 tt, .string ⟨nm.toArray⟩, .slice au ev.length cu] 33)).alloc (.cells #[.int .i64 er, .int .i64 st, .int .i64 nx, .int .i64 tn, .string ⟨tw.toArray⟩, .int .i64 tr, .int .i64 tt, .string ⟨nm.toArray⟩, .slice au' ev.length cu'] 33)) := ⟨_, rfl⟩
  have hb0 : Below w.heap.size w W := by rw [hW]; exact h0.below
  have h1 : H9 w W w.heap.size (.int .i64 er) (.int .i64 st) (.int .i64 nx) (.int .i64 tn) (.string ⟨tw.toArray⟩) (.int .i64 tr) (.int .i64 tt) (.string ⟨nm.toArray⟩) (.slice au ev.length cu) := by rw [hW]; exact h0
  have k1 : H9 (w.alloc (.cells #[.int .i64 er, .int .i64 st, .int .i64 nx, .int .i64 tn, .string ⟨tw.toArray⟩, .int .i64 tr, .int .i64 tt, .string ⟨nm.toArray⟩, .slice au ev.length cu] 33)) W (w.heap.size + 1) (.int .i64 er) (.int .i64 st) (.int .i64 nx) (.int .i64 tn) (.string ⟨tw.toArray⟩) (.int .i64 tr) (.int .i64 tt) (.string ⟨nm.toArray⟩) (.slice au' ev.length cu') := by rw [hW]; exact k0
  have HW := hid hW
  clear hW
  have h0' := h0
  obtain ⟨p0, p1, p2, p3, p4, p5, p6, p7, p8, _, _⟩ := h0'
  have k0' := k0
  obtain ⟨q0, q1, q2, q3, q4, q5, q6, q7, q8, _, _⟩ := k0'
  clear h0 k0
  go_enter Try.func14, Try.ntmps14
  go_wp2_with fail
  rw [← HW.out]
  clear p0 p1 p2 p3 p4 p5 p6 p7 p8 q0 q1 q2 q3 q4 q5 q6 q7 q8
  obtain ⟨W1, b1, hW1⟩ : ∃ x, Below W.heap.size W x ∧ x = W := ⟨W, Below.refl _ _, rfl⟩
  have hbW1 := bnext hb0 b1
  have h2 := h1.next b1
  have k2 := k1.next b1
  rw [← hW1]
  have hu1 := hu.below hbW1
  have hu1' := hu'.below hbW1
  obtain ⟨_, _, xa, xc, hxe, hcc⟩ := hu1
  injection hxe with e1 e2 e3
  subst e1
  subst e3
  have C1 := hid hcc
  clear hcc e2
  obtain ⟨_, _, xa, xc, hxe, hcc⟩ := hu1'
  injection hxe with e1 e2 e3
  subst e1
  subst e3
  have C2 := hid hcc
  clear hcc e2
  clear hW1
  go_loopw [5] (fun i0 wr => ∃ k : Nat, k ≤ ev.length ∧ i0 = .int .i64 k ∧ Below W1.heap.size W1 wr) (fun i0 _ => ev.length - (intOf i0).toNat)
  case atStart => exact ⟨0, Nat.zero_le _, rfl, Below.refl _ _⟩
  case round =>
    obtain ⟨k, hk, rfl, hb⟩ := hrel
    have hr := h2.next hb
    have kr := k2.next hb
    have hr' := hr
    obtain ⟨p0, p1, p2, p3, p4, p5, p6, p7, p8, _, _⟩ := hr'
    have kr' := kr
    obtain ⟨q0, q1, q2, q3, q4, q5, q6, q7, q8, _, _⟩ := kr'
    by_cases hlt : k < ev.length
    · obtain ⟨b, off, rfl, hblt, hc⟩ := C1.out.resolve_left (by omega)
      obtain ⟨b', off', rfl, hblt', hc'⟩ := C2.out.resolve_left (by omega)
      have c0 : wr.cell? ⟨b, off + k * 8, none⟩ = some (.int .i64 ev[k].1) := (hb.cell (p := ⟨b, off + k * 8 + 0, none⟩) hblt).trans (ev_cell hc k 0 (by decide) hlt _ rfl)
      have c1 : wr.cell? ⟨b, off + k * 8 + 1, none⟩ = some (.int .i64 ev[k].2.1) := (hb.cell (p := ⟨b, off + k * 8 + 1, none⟩) hblt).trans (ev_cell hc k 1 (by decide) hlt _ rfl)
      have c2 : wr.cell? ⟨b, off + k * 8 + 2, none⟩ = some (.int .i64 ev[k].2.2.1) := (hb.cell (p := ⟨b, off + k * 8 + 2, none⟩) hblt).trans (ev_cell hc k 2 (by decide) hlt _ rfl)
      have c3 : wr.cell? ⟨b, off + k * 8 + 3, none⟩ = some (.int .i64 ev[k].2.2.2.1) := (hb.cell (p := ⟨b, off + k * 8 + 3, none⟩) hblt).trans (ev_cell hc k 3 (by decide) hlt _ rfl)
      have c4 : wr.cell? ⟨b, off + k * 8 + 4, none⟩ = some (.int .i64 ev[k].2.2.2.2.1) := (hb.cell (p := ⟨b, off + k * 8 + 4, none⟩) hblt).trans (ev_cell hc k 4 (by decide) hlt _ rfl)
      have c5 : wr.cell? ⟨b, off + k * 8 + 5, none⟩ = some (.int .i64 ev[k].2.2.2.2.2.1) := (hb.cell (p := ⟨b, off + k * 8 + 5, none⟩) hblt).trans (ev_cell hc k 5 (by decide) hlt _ rfl)
      have c6 : wr.cell? ⟨b, off + k * 8 + 6, none⟩ = some (.bool ev[k].2.2.2.2.2.2.1) := (hb.cell (p := ⟨b, off + k * 8 + 6, none⟩) hblt).trans (ev_cell hc k 6 (by decide) hlt _ rfl)
      have c7 : wr.cell? ⟨b, off + k * 8 + 7, none⟩ = some (.string ⟨ev[k].2.2.2.2.2.2.2.toArray⟩) := (hb.cell (p := ⟨b, off + k * 8 + 7, none⟩) hblt).trans (ev_cell hc k 7 (by decide) hlt _ rfl)
      have d0 : wr.cell? ⟨b', off' + k * 8, none⟩ = some (.int .i64 ev[k].1) := (hb.cell (p := ⟨b', off' + k * 8 + 0, none⟩) hblt').trans (ev_cell hc' k 0 (by decide) hlt _ rfl)
      have d1 : wr.cell? ⟨b', off' + k * 8 + 1, none⟩ = some (.int .i64 ev[k].2.1) := (hb.cell (p := ⟨b', off' + k * 8 + 1, none⟩) hblt').trans (ev_cell hc' k 1 (by decide) hlt _ rfl)
      have d2 : wr.cell? ⟨b', off' + k * 8 + 2, none⟩ = some (.int .i64 ev[k].2.2.1) := (hb.cell (p := ⟨b', off' + k * 8 + 2, none⟩) hblt').trans (ev_cell hc' k 2 (by decide) hlt _ rfl)
      have d3 : wr.cell? ⟨b', off' + k * 8 + 3, none⟩ = some (.int .i64 ev[k].2.2.2.1) := (hb.cell (p := ⟨b', off' + k * 8 + 3, none⟩) hblt').trans (ev_cell hc' k 3 (by decide) hlt _ rfl)
      have d4 : wr.cell? ⟨b', off' + k * 8 + 4, none⟩ = some (.int .i64 ev[k].2.2.2.2.1) := (hb.cell (p := ⟨b', off' + k * 8 + 4, none⟩) hblt').trans (ev_cell hc' k 4 (by decide) hlt _ rfl)
      have d5 : wr.cell? ⟨b', off' + k * 8 + 5, none⟩ = some (.int .i64 ev[k].2.2.2.2.2.1) := (hb.cell (p := ⟨b', off' + k * 8 + 5, none⟩) hblt').trans (ev_cell hc' k 5 (by decide) hlt _ rfl)
      have d6 : wr.cell? ⟨b', off' + k * 8 + 6, none⟩ = some (.bool ev[k].2.2.2.2.2.2.1) := (hb.cell (p := ⟨b', off' + k * 8 + 6, none⟩) hblt').trans (ev_cell hc' k 6 (by decide) hlt _ rfl)
      have d7 : wr.cell? ⟨b', off' + k * 8 + 7, none⟩ = some (.string ⟨ev[k].2.2.2.2.2.2.2.toArray⟩) := (hb.cell (p := ⟨b', off' + k * 8 + 7, none⟩) hblt').trans (ev_cell hc' k 7 (by decide) hlt _ rfl)
      have hlt2 := hid (show k + 1 ≤ ev.length from hlt)
      clear hc hc'
      generalize ev[k] = x at c0 c1 c2 c3 c4 c5 c6 c7 d0 d1 d2 d3 d4 d5 d6 d7
      obtain ⟨e0, e1, e2, e3, e4, e5, e6, e7⟩ := x
      simp only at c0 c1 c2 c3 c4 c5 c6 c7 d0 d1 d2 d3 d4 d5 d6 d7
      go_wp2_with fail
      go_quiet (fail)
      go_wp2_with fail
      go_roundw
      case rel => exact ⟨k + 1, hlt2.out, by go_num, bnext hb (below_drewN _ _ _)⟩
      case measure => have := hlt2.out; simp [intOf]; omega
    · obtain rfl : k = ev.length := by omega
      go_wp2_with fail
      go_ret
      exact ⟨rfl, bnext hbW1 hb⟩
end Go.Proofs.Ytelacmchofehcaa
