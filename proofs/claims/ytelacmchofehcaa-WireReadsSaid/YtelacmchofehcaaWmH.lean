/- CONTRACTS: the references' Same, of a request, of a reply, twice the same. WHAT COMES IN: a request, a reply. THE WALK of WireBack. THE WALK of WireTurned. -/
import Derived.Test.YtelacmchofehcaaWmG
import Derived.Test.YtelacmchofehcaaPgmSame
import Derived.Deep.QuietTactic
import Derived.BigQuiet
import Derived.Test.YtelacmchofehcaaRows
import Derived.ProofKit
import Derived.OpenShut
import Derived.ShutString
import Derived.SliceStrings
import Derived.Deep.Fields
import Derived.SizedLaws
import Derived.Laws.IdiomStrings
import Derived.RegionTactic
namespace Go.Proofs.Ytelacmchofehcaa
open Go.RowKit
set_option linter.unusedVariables false
set_option linter.unusedSimpArgs false

set_option maxHeartbeats 3200000 in
set_option maxRecDepth 100000 in
theorem qsame_any (kd : Int) (rq wd nm : List UInt8) (hrq : rq.length ≤ 140737488355328) (hwd : wd.length ≤ 140737488355328) (hnm : nm.length ≤ 140737488355328) (v v' : Value) (lim : Int) (ss : List St) (au au' : Option Addr) (cu cu' : Nat) (cs : List Cm) (rf ty fr sh : Int) (gd : Bool) (w : World) (hv : Sl w v 6 ss.length (ss.flatMap stC)) (hv' : Sl w v' 6 ss.length (ss.flatMap stC)) (hu : Sl w (.slice au cs.length cu) 3 cs.length (cs.flatMap cmc)) (hu' : Sl w (.slice au' cs.length cu') 3 cs.length (cs.flatMap cmc)) :
    Calls Try.prog 11 #[.agg #[.int .i64 kd, .string ⟨rq.toArray⟩, .string ⟨wd.toArray⟩, .string ⟨nm.toArray⟩, v, .int .i64 lim, .slice au cs.length cu, .int .i64 rf, .int .i64 ty, .int .i64 fr, .int .i64 sh, .bool gd], .agg #[.int .i64 kd, .string ⟨rq.toArray⟩, .string ⟨wd.toArray⟩, .string ⟨nm.toArray⟩, v', .int .i64 lim, .slice au' cs.length cu', .int .i64 rf, .int .i64 ty, .int .i64 fr, .int .i64 sh, .bool gd]] w fun e w' => e = .returned (.bool true) ∧ Below w.heap.size w w' := by
  have hm : cs.length ≤ 9223372036854775807 := hu.2.1.1
  have h0 := (H12.new w 27 (.int .i64 kd) (.string ⟨rq.toArray⟩) (.string ⟨wd.toArray⟩) (.string ⟨nm.toArray⟩) (v) (.int .i64 lim) (.slice au cs.length cu) (.int .i64 rf) (.int .i64 ty) (.int .i64 fr) (.int .i64 sh) (.bool gd)).next ((Below.refl _ _).alloc (Nat.le_refl _) (.cells #[.int .i64 kd, .string ⟨rq.toArray⟩, .string ⟨wd.toArray⟩, .string ⟨nm.toArray⟩, v', .int .i64 lim, .slice au' cs.length cu', .int .i64 rf, .int .i64 ty, .int .i64 fr, .int .i64 sh, .bool gd] 27))
  have k0 := H12.new (w.alloc (.cells #[.int .i64 kd, .string ⟨rq.toArray⟩, .string ⟨wd.toArray⟩, .string ⟨nm.toArray⟩, v, .int .i64 lim, .slice au cs.length cu, .int .i64 rf, .int .i64 ty, .int .i64 fr, .int .i64 sh, .bool gd] 27)) 27 (.int .i64 kd) (.string ⟨rq.toArray⟩) (.string ⟨wd.toArray⟩) (.string ⟨nm.toArray⟩) (v') (.int .i64 lim) (.slice au' cs.length cu') (.int .i64 rf) (.int .i64 ty) (.int .i64 fr) (.int .i64 sh) (.bool gd)
  rw [show (w.alloc (.cells #[.int .i64 kd, .string ⟨rq.toArray⟩, .string ⟨wd.toArray⟩, .string ⟨nm.toArray⟩, v, .int .i64 lim, .slice au cs.length cu, .int .i64 rf, .int .i64 ty, .int .i64 fr, .int .i64 sh, .bool gd] 27)).heap.size = w.heap.size + 1 from Array.size_push ..] at k0
  obtain ⟨W, hW⟩ : ∃ W, W = ((w.alloc (.cells #[.int .i64 kd, .string ⟨rq.toArray⟩, .string ⟨wd.toArray⟩, .string ⟨nm.toArray⟩, v, .int .i64 lim, .slice au cs.length cu, .int .i64 rf, .int .i64 ty, .int .i64 fr, .int .i64 sh, .bool gd] 27)).alloc (.cells #[.int .i64 kd, .string ⟨rq.toArray⟩, .string ⟨wd.toArray⟩, .string ⟨nm.toArray⟩, v', .int .i64 lim, .slice au' cs.length cu', .int .i64 rf, .int .i64 ty, .int .i64 fr, .int .i64 sh, .bool gd] 27)) := ⟨_, rfl⟩
  have hb0 : Below w.heap.size w W := by rw [hW]; exact h0.below
  have h1 : H12 w W w.heap.size (.int .i64 kd) (.string ⟨rq.toArray⟩) (.string ⟨wd.toArray⟩) (.string ⟨nm.toArray⟩) (v) (.int .i64 lim) (.slice au cs.length cu) (.int .i64 rf) (.int .i64 ty) (.int .i64 fr) (.int .i64 sh) (.bool gd) := by rw [hW]; exact h0
  have k1 : H12 (w.alloc (.cells #[.int .i64 kd, .string ⟨rq.toArray⟩, .string ⟨wd.toArray⟩, .string ⟨nm.toArray⟩, v, .int .i64 lim, .slice au cs.length cu, .int .i64 rf, .int .i64 ty, .int .i64 fr, .int .i64 sh, .bool gd] 27)) W (w.heap.size + 1) (.int .i64 kd) (.string ⟨rq.toArray⟩) (.string ⟨wd.toArray⟩) (.string ⟨nm.toArray⟩) (v') (.int .i64 lim) (.slice au' cs.length cu') (.int .i64 rf) (.int .i64 ty) (.int .i64 fr) (.int .i64 sh) (.bool gd) := by rw [hW]; exact k0
  have HW := hid hW
  clear hW
  have h0' := h0
  obtain ⟨p0, p1, p2, p3, p4, p5, p6, p7, p8, p9, p10, p11, _, _⟩ := h0'
  have k0' := k0
  obtain ⟨q0, q1, q2, q3, q4, q5, q6, q7, q8, q9, q10, q11, _, _⟩ := k0'
  clear h0 k0
  go_enter Try.func11, Try.ntmps11
  go_wp2_with fail
  rw [← HW.out]
  clear p0 p1 p2 p3 p4 p5 p6 p7 p8 p9 p10 p11 q0 q1 q2 q3 q4 q5 q6 q7 q8 q9 q10 q11
  refine (psame_any v v' lim lim ss ss W (hv.below hb0) (hv'.below hb0)).mono ?_
  rintro _ W1 ⟨rfl, b1⟩
  rw [decide_eq_true (show lim = lim ∧ ss = ss from ⟨rfl, rfl⟩)]
  have hbW1 := bnext hb0 b1
  have h2 := h1.next b1
  have k2 := k1.next b1
  have hu1 := hu.below hbW1
  have hu1' := hu'.below hbW1
  obtain ⟨_, _, xa, xc, hxe, hcc⟩ := hu1
  injection hxe with e1 e2 e3
  subst e1
  subst e3
  have C1 := hid hcc
  clear hcc e2
  obtain ⟨_, _, xa, xc, hxe, hcc⟩ := hu1'
  injection hxe with e1 e2 e3
  subst e1
  subst e3
  have C2 := hid hcc
  clear hcc e2
  have h2' := h2
  obtain ⟨p0, p1, p2, p3, p4, p5, p6, p7, p8, p9, p10, p11, _, _⟩ := h2'
  have k2' := k2
  obtain ⟨q0, q1, q2, q3, q4, q5, q6, q7, q8, q9, q10, q11, _, _⟩ := k2'
  go_wp2_with fail
  clear p0 p1 p2 p3 p4 p5 p6 p7 p8 p9 p10 p11 q0 q1 q2 q3 q4 q5 q6 q7 q8 q9 q10 q11
  go_loopw [5] (fun i0 wr => ∃ k : Nat, k ≤ cs.length ∧ i0 = .int .i64 k ∧ Below W1.heap.size W1 wr) (fun i0 _ => cs.length - (intOf i0).toNat)
  case atStart => exact ⟨0, Nat.zero_le _, rfl, Below.refl _ _⟩
  case round =>
    obtain ⟨k, hk, rfl, hb⟩ := hrel
    have hr := h2.next hb
    have kr := k2.next hb
    have hr' := hr
    obtain ⟨p0, p1, p2, p3, p4, p5, p6, p7, p8, p9, p10, p11, _, _⟩ := hr'
    have kr' := kr
    obtain ⟨q0, q1, q2, q3, q4, q5, q6, q7, q8, q9, q10, q11, _, _⟩ := kr'
    by_cases hlt : k < cs.length
    · obtain ⟨b, off, rfl, hblt, hc⟩ := C1.out.resolve_left (by omega)
      obtain ⟨b', off', rfl, hblt', hc'⟩ := C2.out.resolve_left (by omega)
      have c0 : wr.cell? ⟨b, off + k * 3, none⟩ = some (.int .i64 cs[k].1) := (hb.cell (p := ⟨b, off + k * 3 + 0, none⟩) hblt).trans (cm_cell hc k 0 (by decide) hlt _ rfl)
      have c1 : wr.cell? ⟨b, off + k * 3 + 1, none⟩ = some (.int .i64 cs[k].2.1) := (hb.cell (p := ⟨b, off + k * 3 + 1, none⟩) hblt).trans (cm_cell hc k 1 (by decide) hlt _ rfl)
      have c2 : wr.cell? ⟨b, off + k * 3 + 2, none⟩ = some (.bool cs[k].2.2) := (hb.cell (p := ⟨b, off + k * 3 + 2, none⟩) hblt).trans (cm_cell hc k 2 (by decide) hlt _ rfl)
      have d0 : wr.cell? ⟨b', off' + k * 3, none⟩ = some (.int .i64 cs[k].1) := (hb.cell (p := ⟨b', off' + k * 3 + 0, none⟩) hblt').trans (cm_cell hc' k 0 (by decide) hlt _ rfl)
      have d1 : wr.cell? ⟨b', off' + k * 3 + 1, none⟩ = some (.int .i64 cs[k].2.1) := (hb.cell (p := ⟨b', off' + k * 3 + 1, none⟩) hblt').trans (cm_cell hc' k 1 (by decide) hlt _ rfl)
      have d2 : wr.cell? ⟨b', off' + k * 3 + 2, none⟩ = some (.bool cs[k].2.2) := (hb.cell (p := ⟨b', off' + k * 3 + 2, none⟩) hblt').trans (cm_cell hc' k 2 (by decide) hlt _ rfl)
      have hlt2 := hid (show k + 1 ≤ cs.length from hlt)
      clear hc hc'
      generalize cs[k] = x at c0 c1 c2 d0 d1 d2
      obtain ⟨e0, e1, e2⟩ := x
      simp only at c0 c1 c2 d0 d1 d2
      go_wp2_with fail
      go_quiet (fail)
      go_wp2_with fail
      go_roundw
      case rel => exact ⟨k + 1, hlt2.out, by go_num, bnext hb (below_drewN _ _ _)⟩
      case measure => have := hlt2.out; simp [intOf]; omega
    · obtain rfl : k = cs.length := by omega
      go_wp2_with fail
      go_ret
      exact ⟨rfl, bnext hbW1 hb⟩
set_option maxHeartbeats 3200000 in
set_option maxRecDepth 100000 in
theorem xsame_any (er st nx tn : Int) (tw : List UInt8) (tr tt : Int) (nm : List UInt8) (hnm : nm.length ≤ 140737488355328) (au au' : Option Addr) (cu cu' : Nat) (ev : List Ev) (w : World) (hu : Sl w (.slice au ev.length cu) 8 ev.length (ev.flatMap evc)) (hu' : Sl w (.slice au' ev.length cu') 8 ev.length (ev.flatMap evc)) :
    Calls Try.prog 14 #[.agg #[.int .i64 er, .int .i64 st, .int .i64 nx, .int .i64 tn, .string ⟨tw.toArray⟩, .int .i64 tr, .int .i64 tt, .string ⟨nm.toArray⟩, .slice au ev.length cu], .agg #[.int .i64 er, .int .i64 st, .int .i64 nx, .int .i64 tn, .string ⟨tw.toArray⟩, .int .i64 tr, .int .i64 tt, .string ⟨nm.toArray⟩, .slice au' ev.length cu']] w fun e w' => e = .returned (.bool true) ∧ Below w.heap.size w w' := by
  have hm : ev.length ≤ 9223372036854775807 := hu.2.1.1
  have h0 := (H9.new w 33 (.int .i64 er) (.int .i64 st) (.int .i64 nx) (.int .i64 tn) (.string ⟨tw.toArray⟩) (.int .i64 tr) (.int .i64 tt) (.string ⟨nm.toArray⟩) (.slice au ev.length cu)).next ((Below.refl _ _).alloc (Nat.le_refl _) (.cells #[.int .i64 er, .int .i64 st, .int .i64 nx, .int .i64 tn, .string ⟨tw.toArray⟩, .int .i64 tr, .int .i64 tt, .string ⟨nm.toArray⟩, .slice au' ev.length cu'] 33))
  have k0 := H9.new (w.alloc (.cells #[.int .i64 er, .int .i64 st, .int .i64 nx, .int .i64 tn, .string ⟨tw.toArray⟩, .int .i64 tr, .int .i64 tt, .string ⟨nm.toArray⟩, .slice au ev.length cu] 33)) 33 (.int .i64 er) (.int .i64 st) (.int .i64 nx) (.int .i64 tn) (.string ⟨tw.toArray⟩) (.int .i64 tr) (.int .i64 tt) (.string ⟨nm.toArray⟩) (.slice au' ev.length cu')
  rw [show (w.alloc (.cells #[.int .i64 er, .int .i64 st, .int .i64 nx, .int .i64 tn, .string ⟨tw.toArray⟩, .int .i64 tr, .int .i64 tt, .string ⟨nm.toArray⟩, .slice au ev.length cu] 33)).heap.size = w.heap.size + 1 from Array.size_push ..] at k0
  obtain ⟨W, hW⟩ : ∃ W, W = ((w.alloc (.cells #[.int .i64 er, .int .i64 st, .int .i64 nx, .int .i64 tn, .string ⟨tw.toArray⟩, .int .i64 tr, .int .i64 tt, .string ⟨nm.toArray⟩, .slice au ev.length cu] 33)).alloc (.cells #[.int .i64 er, .int .i64 st, .int .i64 nx, .int .i64 tn, .string ⟨tw.toArray⟩, .int .i64 tr, .int .i64 tt, .string ⟨nm.toArray⟩, .slice au' ev.length cu'] 33)) := ⟨_, rfl⟩
  have hb0 : Below w.heap.size w W := by rw [hW]; exact h0.below
  have h1 : H9 w W w.heap.size (.int .i64 er) (.int .i64 st) (.int .i64 nx) (.int .i64 tn) (.string ⟨tw.toArray⟩) (.int .i64 tr) (.int .i64 tt) (.string ⟨nm.toArray⟩) (.slice au ev.length cu) := by rw [hW]; exact h0
  have k1 : H9 (w.alloc (.cells #[.int .i64 er, .int .i64 st, .int .i64 nx, .int .i64 tn, .string ⟨tw.toArray⟩, .int .i64 tr, .int .i64 tt, .string ⟨nm.toArray⟩, .slice au ev.length cu] 33)) W (w.heap.size + 1) (.int .i64 er) (.int .i64 st) (.int .i64 nx) (.int .i64 tn) (.string ⟨tw.toArray⟩) (.int .i64 tr) (.int .i64 tt) (.string ⟨nm.toArray⟩) (.slice au' ev.length cu') := by rw [hW]; exact k0
  have HW := hid hW
  clear hW
  have h0' := h0
  obtain ⟨p0, p1, p2, p3, p4, p5, p6, p7, p8, _, _⟩ := h0'
  have k0' := k0
  obtain ⟨q0, q1, q2, q3, q4, q5, q6, q7, q8, _, _⟩ := k0'
  clear h0 k0
  go_enter Try.func14, Try.ntmps14
  go_wp2_with fail
  rw [← HW.out]
  clear p0 p1 p2 p3 p4 p5 p6 p7 p8 q0 q1 q2 q3 q4 q5 q6 q7 q8
  obtain ⟨W1, b1, hW1⟩ : ∃ x, Below W.heap.size W x ∧ x = W := ⟨W, Below.refl _ _, rfl⟩
  have hbW1 := bnext hb0 b1
  have h2 := h1.next b1
  have k2 := k1.next b1
  rw [← hW1]
  have hu1 := hu.below hbW1
  have hu1' := hu'.below hbW1
  obtain ⟨_, _, xa, xc, hxe, hcc⟩ := hu1
  injection hxe with e1 e2 e3
  subst e1
  subst e3
  have C1 := hid hcc
  clear hcc e2
  obtain ⟨_, _, xa, xc, hxe, hcc⟩ := hu1'
  injection hxe with e1 e2 e3
  subst e1
  subst e3
  have C2 := hid hcc
  clear hcc e2
  clear hW1
  go_loopw [5] (fun i0 wr => ∃ k : Nat, k ≤ ev.length ∧ i0 = .int .i64 k ∧ Below W1.heap.size W1 wr) (fun i0 _ => ev.length - (intOf i0).toNat)
  case atStart => exact ⟨0, Nat.zero_le _, rfl, Below.refl _ _⟩
  case round =>
    obtain ⟨k, hk, rfl, hb⟩ := hrel
    have hr := h2.next hb
    have kr := k2.next hb
    have hr' := hr
    obtain ⟨p0, p1, p2, p3, p4, p5, p6, p7, p8, _, _⟩ := hr'
    have kr' := kr
    obtain ⟨q0, q1, q2, q3, q4, q5, q6, q7, q8, _, _⟩ := kr'
    by_cases hlt : k < ev.length
    · obtain ⟨b, off, rfl, hblt, hc⟩ := C1.out.resolve_left (by omega)
      obtain ⟨b', off', rfl, hblt', hc'⟩ := C2.out.resolve_left (by omega)
      have c0 : wr.cell? ⟨b, off + k * 8, none⟩ = some (.int .i64 ev[k].1) := (hb.cell (p := ⟨b, off + k * 8 + 0, none⟩) hblt).trans (ev_cell hc k 0 (by decide) hlt _ rfl)
      have c1 : wr.cell? ⟨b, off + k * 8 + 1, none⟩ = some (.int .i64 ev[k].2.1) := (hb.cell (p := ⟨b, off + k * 8 + 1, none⟩) hblt).trans (ev_cell hc k 1 (by decide) hlt _ rfl)
      have c2 : wr.cell? ⟨b, off + k * 8 + 2, none⟩ = some (.int .i64 ev[k].2.2.1) := (hb.cell (p := ⟨b, off + k * 8 + 2, none⟩) hblt).trans (ev_cell hc k 2 (by decide) hlt _ rfl)
      have c3 : wr.cell? ⟨b, off + k * 8 + 3, none⟩ = some (.int .i64 ev[k].2.2.2.1) := (hb.cell (p := ⟨b, off + k * 8 + 3, none⟩) hblt).trans (ev_cell hc k 3 (by decide) hlt _ rfl)
      have c4 : wr.cell? ⟨b, off + k * 8 + 4, none⟩ = some (.int .i64 ev[k].2.2.2.2.1) := (hb.cell (p := ⟨b, off + k * 8 + 4, none⟩) hblt).trans (ev_cell hc k 4 (by decide) hlt _ rfl)
      have c5 : wr.cell? ⟨b, off + k * 8 + 5, none⟩ = some (.int .i64 ev[k].2.2.2.2.2.1) := (hb.cell (p := ⟨b, off + k * 8 + 5, none⟩) hblt).trans (ev_cell hc k 5 (by decide) hlt _ rfl)
      have c6 : wr.cell? ⟨b, off + k * 8 + 6, none⟩ = some (.bool ev[k].2.2.2.2.2.2.1) := (hb.cell (p := ⟨b, off + k * 8 + 6, none⟩) hblt).trans (ev_cell hc k 6 (by decide) hlt _ rfl)
      have c7 : wr.cell? ⟨b, off + k * 8 + 7, none⟩ = some (.string ⟨ev[k].2.2.2.2.2.2.2.toArray⟩) := (hb.cell (p := ⟨b, off + k * 8 + 7, none⟩) hblt).trans (ev_cell hc k 7 (by decide) hlt _ rfl)
      have d0 : wr.cell? ⟨b', off' + k * 8, none⟩ = some (.int .i64 ev[k].1) := (hb.cell (p := ⟨b', off' + k * 8 + 0, none⟩) hblt').trans (ev_cell hc' k 0 (by decide) hlt _ rfl)
      have d1 : wr.cell? ⟨b', off' + k * 8 + 1, none⟩ = some (.int .i64 ev[k].2.1) := (hb.cell (p := ⟨b', off' + k * 8 + 1, none⟩) hblt').trans (ev_cell hc' k 1 (by decide) hlt _ rfl)
      have d2 : wr.cell? ⟨b', off' + k * 8 + 2, none⟩ = some (.int .i64 ev[k].2.2.1) := (hb.cell (p := ⟨b', off' + k * 8 + 2, none⟩) hblt').trans (ev_cell hc' k 2 (by decide) hlt _ rfl)
      have d3 : wr.cell? ⟨b', off' + k * 8 + 3, none⟩ = some (.int .i64 ev[k].2.2.2.1) := (hb.cell (p := ⟨b', off' + k * 8 + 3, none⟩) hblt').trans (ev_cell hc' k 3 (by decide) hlt _ rfl)
      have d4 : wr.cell? ⟨b', off' + k * 8 + 4, none⟩ = some (.int .i64 ev[k].2.2.2.2.1) := (hb.cell (p := ⟨b', off' + k * 8 + 4, none⟩) hblt').trans (ev_cell hc' k 4 (by decide) hlt _ rfl)
      have d5 : wr.cell? ⟨b', off' + k * 8 + 5, none⟩ = some (.int .i64 ev[k].2.2.2.2.2.1) := (hb.cell (p := ⟨b', off' + k * 8 + 5, none⟩) hblt').trans (ev_cell hc' k 5 (by decide) hlt _ rfl)
      have d6 : wr.cell? ⟨b', off' + k * 8 + 6, none⟩ = some (.bool ev[k].2.2.2.2.2.2.1) := (hb.cell (p := ⟨b', off' + k * 8 + 6, none⟩) hblt').trans (ev_cell hc' k 6 (by decide) hlt _ rfl)
      have d7 : wr.cell? ⟨b', off' + k * 8 + 7, none⟩ = some (.string ⟨ev[k].2.2.2.2.2.2.2.toArray⟩) := (hb.cell (p := ⟨b', off' + k * 8 + 7, none⟩) hblt').trans (ev_cell hc' k 7 (by decide) hlt _ rfl)
      have hlt2 := hid (show k + 1 ≤ ev.length from hlt)
      clear hc hc'
      generalize ev[k] = x at c0 c1 c2 c3 c4 c5 c6 c7 d0 d1 d2 d3 d4 d5 d6 d7
      obtain ⟨e0, e1, e2, e3, e4, e5, e6, e7⟩ := x
      simp only at c0 c1 c2 c3 c4 c5 c6 c7 d0 d1 d2 d3 d4 d5 d6 d7
      go_wp2_with fail
      go_quiet (fail)
      go_wp2_with fail
      go_roundw
      case rel => exact ⟨k + 1, hlt2.out, by go_num, bnext hb (below_drewN _ _ _)⟩
      case measure => have := hlt2.out; simp [intOf]; omega
    · obtain rfl : k = ev.length := by omega
      go_wp2_with fail
      go_ret
      exact ⟨rfl, bnext hbW1 hb⟩
end Go.Proofs.Ytelacmchofehcaa
namespace Go.Proofs.Ytelacmchofehcaa
open Go.ChangeShapes Go.WideShapes Go.ChangeAt Go.RowKit Go.Deep
set_option linter.unusedVariables false
set_option linter.unusedSimpArgs false

def LenB (n : Nat) : Prop := n ≤ 140737488351232
theorem nest_le {H : Type} {P : Program} {ts : List TypeId} {ds : List (DataW H)} (h : (DataW.weightsEach P ts ds).all (· ≤ reachBytes) = true) {j : Nat} {t : TypeId} {d : DataW H} (ht : ts[j]? = some t) (hd : ds[j]? = some d) : ∀ n ∈ d.weights P t, LenB n := fun n hn => by
  have := List.all_eq_true.1 h _ (DataW.weights_mem_each ht hd n hn)
  exact Nat.le_trans (of_decide_eq_true this) (by decide)
theorem each_mem {H : Type} {P : Program} {fs : Array Field} {t : TypeId} {ps : List (DataW H)} (ht : P.underlying t = some (.struct fs)) : (DataW.agg ps).weights P t = DataW.weightsEach P (fs.toList.map (·.type)) ps := by
  simp only [DataW.weights, ht]
theorem part_le {H : Type} {P : Program} {fs : Array Field} {t : TypeId} {ps : List (DataW H)} (ht : P.underlying t = some (.struct fs)) (h : ∀ n ∈ (DataW.agg ps).weights P t, LenB n) {j : Nat} {f : Field} {d : DataW H} (hf : fs[j]? = some f) (hd : ps[j]? = some d) : ∀ n ∈ d.weights P f.type, LenB n := fun n hn => by
  rw [each_mem ht] at h
  refine h n (DataW.weights_mem_each (t := f.type) (j := j) ?_ hd n hn)
  rw [List.getElem?_map]
  have : fs.toList[j]? = some f := by rw [Array.getElem?_toList]; exact hf
  rw [this]; rfl
theorem text_le {H : Type} {P : Program} {t : TypeId} {l : List UInt8} (h : ∀ n ∈ (DataW.lit (H := H) (.string l)).weights P t, LenB n) : l.length ≤ 140737488351232 := h _ (by simp [DataW.weights])

theorem part_at {H : Type} {P : Program} {enc : TypeId × Value → H} {W : World} {base : Nat} {spare : Nat → Bool} {held : Bool} {m : Nat} {cs : List Value} {fs : Array Field} {xs : List (DataW H × List MemPlace)}
    (hg : ∀ (i : Nat) (f : Field), fs[i]? = some f → DataW.trod enc P W base spare held m f.type ((cs.drop f.offset).take (P.cellsOf f.type)) = xs[i]?) (i : Nat) {f : Field} (hf : fs[i]? = some f) (t o c : Nat) (ht : f.type = t) (ho : f.offset = o) (hc : P.cellsOf t = c) (hi : i < xs.length) :
    DataW.trod enc P W base spare held m t ((cs.drop o).take c) = some xs[i] := by
  have := hg i f hf
  rw [ht, ho, hc, List.getElem?_eq_getElem hi] at this
  exact this
set_option maxRecDepth 100000 in
theorem task_cells {H : Type} {enc : TypeId × Value → H} {W : World} {base : Nat} {spare : Nat → Bool} {held : Bool} {fuel : Nat} {cs : List Value} {x : DataW H × List MemPlace}
    (h : DataW.trod enc Try.prog W base spare held fuel 30 cs = some x) (hw : ∀ n ∈ x.1.weights Try.prog 30, LenB n) : ∃ (K : Int) (s : ByteArray) (R T : Int), cs = [.int .i64 K, .string s, .int .i64 R, .int .i64 T] ∧ s.data.toList.length ≤ 140737488351232 := by
  obtain ⟨ys, n, hx, _, hcl, hf⟩ := trod_fields Try.underlying30 (by kernel_rfl) (by kernel_rfl) h
  obtain ⟨c0, y0, e0, z0, t0⟩ := hf 0 _ rfl
  obtain ⟨c1, y1, e1, z1, t1⟩ := hf 1 _ rfl
  obtain ⟨c2, y2, e2, z2, t2⟩ := hf 2 _ rfl
  obtain ⟨c3, y3, e3, z3, t3⟩ := hf 3 _ rfl
  obtain ⟨K, k0, _, _⟩ := DataW.trod_int Try.underlying3 t0
  obtain ⟨s1, k1, j1, w1⟩ := DataW.trod_string Try.underlying9 t1
  obtain ⟨R, k2, _, _⟩ := DataW.trod_int Try.underlying3 t2
  obtain ⟨T, k3, _, _⟩ := DataW.trod_int Try.underlying3 t3
  simp only [List.cons.injEq, and_true] at k0 k1 k2 k3
  subst k0; subst k1; subst k2; subst k3; subst j1
  rw [hx] at hw
  have hl := text_le (part_le Try.underlying30 hw (j := 1) rfl (by rw [List.getElem?_map, z1]; rfl))
  match cs, hcl with
  | [d0, d1, d2, d3], _ =>
    simp at e0 e1 e2 e3
    subst e0; subst e1; subst e2; subst e3
    exact ⟨K, s1, R, T, rfl, hl⟩
set_option maxRecDepth 100000 in
theorem event_cells {H : Type} {enc : TypeId × Value → H} {W : World} {base : Nat} {spare : Nat → Bool} {held : Bool} {fuel : Nat} {cs : List Value} {x : DataW H × List MemPlace}
    (h : DataW.trod enc Try.prog W base spare held fuel 82 cs = some x) : ∃ (y : Ev) (ps : List (DataW H)), cs = evc y ∧ x.1 = .agg ps ∧ ps[7]? = some (.lit (.string y.dt)) := by
  obtain ⟨ys, n, hx, _, hcl, hf⟩ := trod_fields Try.underlying82 (by kernel_rfl) (by kernel_rfl) h
  obtain ⟨c0, y0, e0, z0, t0⟩ := hf 0 _ rfl
  obtain ⟨c1, y1, e1, z1, t1⟩ := hf 1 _ rfl
  obtain ⟨c2, y2, e2, z2, t2⟩ := hf 2 _ rfl
  obtain ⟨c3, y3, e3, z3, t3⟩ := hf 3 _ rfl
  obtain ⟨c4, y4, e4, z4, t4⟩ := hf 4 _ rfl
  obtain ⟨c5, y5, e5, z5, t5⟩ := hf 5 _ rfl
  obtain ⟨c6, y6, e6, z6, t6⟩ := hf 6 _ rfl
  obtain ⟨c7, y7, e7, z7, t7⟩ := hf 7 _ rfl
  obtain ⟨A, k0, _, _⟩ := DataW.trod_int Try.underlying3 t0
  obtain ⟨B, k1, _, _⟩ := DataW.trod_int Try.underlying3 t1
  obtain ⟨C, k2, _, _⟩ := DataW.trod_int Try.underlying3 t2
  obtain ⟨D, k3, _, _⟩ := DataW.trod_int Try.underlying3 t3
  obtain ⟨E, k4, _, _⟩ := DataW.trod_int Try.underlying3 t4
  obtain ⟨F, k5, _, _⟩ := DataW.trod_int Try.underlying3 t5
  obtain ⟨G, k6, _⟩ := DataW.trod_bool Try.underlying4 t6
  obtain ⟨s, k7, j7, _⟩ := DataW.trod_string Try.underlying9 t7
  simp only [List.cons.injEq, and_true] at k0 k1 k2 k3 k4 k5 k6 k7
  subst k0; subst k1; subst k2; subst k3; subst k4; subst k5; subst k6; subst k7; subst j7
  refine ⟨(A, B, C, D, E, F, G, s.data.toList), ys.map (·.1), ?_, hx, by rw [List.getElem?_map, z7]; rfl⟩
  match cs, hcl with
  | [d0, d1, d2, d3, d4, d5, d6, d7], _ =>
    simp at e0 e1 e2 e3 e4 e5 e6 e7
    subst e0; subst e1; subst e2; subst e3; subst e4; subst e5; subst e6; subst e7
    rfl
theorem event_le {H : Type} {ps : List (DataW H)} {l : List UInt8} (hw : ∀ n ∈ (DataW.agg ps).weights Try.prog 82, LenB n) (h : ps[7]? = some (.lit (.string l))) : l.length ≤ 140737488351232 :=
  text_le (part_le Try.underlying82 hw (j := 7) rfl h)
/-- a slice of whatever elements, opened: what is said of an element is said of its datum -/
theorem trod_slm {P : Program} {H : Type} {enc : TypeId × Value → H} {W : World} {t e : TypeId} {fuel : Nat} {v : Value} {d : DataW H × List MemPlace} {α : Type} [Inhabited α]
    (ht : P.underlying t = some (.slice e)) (k : Nat) (hk : P.cellsOf e = k) (hk0 : 0 < k) (cells : α → List Value) (hlen : ∀ a, (cells a).length = k) (rel : α → DataW H → Prop)
    (hel : ∀ (n : Nat) (cs : List Value) (x : DataW H × List MemPlace), DataW.trod enc P W 0 (fun _ => true) true n e cs = some x → ∃ a : α, cs = cells a ∧ rel a x.1)
    (hf : DataW.trod enc P W 0 (fun _ => true) true fuel t [v] = some d) :
    ∃ zs : List α, Sl W v k zs.length (zs.flatMap cells) ∧ ((d.1 = .nil ∧ zs = []) ∨ ∃ es rest : List (DataW H), d.1 = .slice es rest ∧ ∀ a ∈ zs, ∃ y ∈ es, rel a y) := by
  rcases open_slice ht hf with ⟨hcs, hx⟩ | ⟨a, len, cap, m, n, D, Pl, hcs, _, hl, hm, hmm, hx, hi⟩
  · simp at hcs
    subst hcs
    subst hx
    exact ⟨[], Sl.none _ _, .inl ⟨rfl, rfl⟩⟩
  · simp at hcs
    subst hcs
    simp only [if_true] at hmm
    subst hmm
    have hi' : ∀ i, i < len → ∃ y : α, W.cells? 0 (a.add (i * k)) k = some (cells y) ∧ rel y (D i) := fun i hil => by
      obtain ⟨cs', h1, h2⟩ := hi i (by omega)
      rw [hk] at h1
      obtain ⟨y, rfl, h3⟩ := hel n cs' _ h2
      exact ⟨y, h1, h3⟩
    obtain ⟨f, hf'⟩ := choose_lt hi'
    have hll : ((List.range len).map f).length = len := by simp
    refine ⟨(List.range len).map f, ?_, .inr ⟨_, _, by rw [hx], ?_⟩⟩
    · rw [hll]
      refine Sl.of_add (by rw [length_flatMap_const hlen, hll]) (by omega) hk0 (fun j hj => ?_)
      rw [length_flatMap_const hlen, hll] at hj
      have hq : j / k < len := by rw [Nat.div_lt_iff_lt_mul hk0]; exact hj
      have hr : j % k < k := Nat.mod_lt _ hk0
      obtain ⟨hc, _⟩ := hf' (j / k) hq
      obtain ⟨_, _, hat⟩ := World.cells?_some hc
      have h1 := hat (j % k) hr
      rw [add_add] at h1
      have e : j / k * k + j % k = j := Nat.div_add_mod' _ _
      rw [e] at h1
      rw [h1, ← List.getElem?_eq_getElem]
      have h2 := getElem?_flatMap_const hlen ((List.range len).map f) (j / k) (j % k) hr (by rw [hll]; exact hq)
      rw [e] at h2
      rw [h2]; simp
    · intro y hy
      simp only [List.mem_map, List.mem_range] at hy
      obtain ⟨i, hil, rfl⟩ := hy
      exact ⟨D i, List.mem_map.2 ⟨i, List.mem_range.2 hil, rfl⟩, (hf' i hil).2⟩
theorem all_mem {H : Type} {P : Program} {e : TypeId} {es : List (DataW H)} {y : DataW H} (hy : y ∈ es) : ∀ n ∈ y.weights P e, n ∈ DataW.weightsAll P e es := by
  induction es with
  | nil => cases hy
  | cons z r ih =>
    intro n hn
    simp only [DataW.weightsAll, List.mem_append]
    rcases List.mem_cons.1 hy with rfl | h
    · exact .inl hn
    · exact .inr (ih h n hn)
theorem elem_le {H : Type} {P : Program} {t e : TypeId} {es rest : List (DataW H)} (ht : P.underlying t = some (.slice e)) (h : ∀ n ∈ (DataW.slice es rest).weights P t, LenB n) {y : DataW H} (hy : y ∈ es) : ∀ n ∈ y.weights P e, LenB n := fun n hn => by
  refine h n ?_
  simp only [DataW.weights, ht, List.mem_cons, List.mem_append]
  exact .inr (.inl (all_mem hy n hn))
instance : Inhabited Ev := ⟨(0, 0, 0, 0, 0, 0, false, [])⟩
set_option maxRecDepth 100000 in
theorem prog_cells {H : Type} {enc : TypeId × Value → H} {W : World} {fuel : Nat} {cs : List Value} {x : DataW H × List MemPlace}
    (h : DataW.trod enc Try.prog W 0 (fun _ => true) true fuel 24 cs = some x) : ∃ (a : Option Addr) (c : Nat) (lim : Int) (ss : List St), cs = [.slice a ss.length c, .int .i64 lim] ∧ Sl W (.slice a ss.length c) 6 ss.length (ss.flatMap stC) ∧ Fit ss := by
  obtain ⟨ys, n, _, _, hcl, hg⟩ := trod_fields Try.underlying24 (by kernel_rfl) (by kernel_rfl) h
  obtain ⟨c0, y0, e0, _, t0⟩ := hg 0 _ rfl
  obtain ⟨c1, y1, e1, _, t1⟩ := hg 1 _ rfl
  obtain ⟨ss, g1, g2, _⟩ := trod_sl (P := Try.prog) Try.underlying22 6 (by kernel_rfl) (by omega) stC stC_len (fun a => a.nm.length ≤ maxLen ∧ a.un.length ≤ maxLen) (fun _ => 0) (fun _ => 0) (fun n cs x hx => by
    obtain ⟨ys, m, _, _, hcl, hf⟩ := trod_fields Try.underlying103 (by kernel_rfl) (by kernel_rfl) hx
    obtain ⟨c0, y0, e0, _, t0⟩ := hf 0 _ rfl
    obtain ⟨c1, y1, e1, _, t1⟩ := hf 1 _ rfl
    obtain ⟨c2, y2, e2, _, t2⟩ := hf 2 _ rfl
    obtain ⟨c3, y3, e3, _, t3⟩ := hf 3 _ rfl
    obtain ⟨c4, y4, e4, _, t4⟩ := hf 4 _ rfl
    obtain ⟨c5, y5, e5, _, t5⟩ := hf 5 _ rfl
    obtain ⟨K, k0, _, _⟩ := DataW.trod_int Try.underlying3 t0
    obtain ⟨s1, k1, _, w1⟩ := DataW.trod_string Try.underlying9 t1
    obtain ⟨s2, k2, _, w2⟩ := DataW.trod_string Try.underlying9 t2
    obtain ⟨T, k3, _, _⟩ := DataW.trod_int Try.underlying3 t3
    obtain ⟨U, k4, _, _⟩ := DataW.trod_int Try.underlying3 t4
    obtain ⟨V, k5, _, _⟩ := DataW.trod_int Try.underlying3 t5
    simp only [List.cons.injEq, and_true] at k0 k1 k2 k3 k4 k5
    subst k0; subst k1; subst k2; subst k3; subst k4; subst k5
    match cs, hcl with
    | [d0, d1, d2, d3, d4, d5], _ =>
      simp at e0 e1 e2 e3 e4 e5
      subst e0; subst e1; subst e2; subst e3; subst e4; subst e5
      refine ⟨(K, s1.data.toList, s2.data.toList, T, U, V), ?_, ⟨by rw [← Lib.size_eq]; exact w1, by rw [← Lib.size_eq]; exact w2⟩, Nat.zero_le _⟩
      unfold stC
      simp only [St.kd, St.nm, St.un, St.tr, St.ut, St.wt]) t0
  obtain ⟨N, k1, _, wn⟩ := DataW.trod_int Try.underlying3 t1
  simp only [List.cons.injEq, and_true] at k1
  subst k1
  obtain ⟨a, c, rfl⟩ := g1.shape
  match cs, hcl with
  | [d0, d1], _ =>
    simp at e0 e1
    subst e0; subst e1
    exact ⟨a, c, N, ss, rfl, g1, g2⟩
set_option maxRecDepth 100000 in
theorem cmds_cells {H : Type} {enc : TypeId × Value → H} {W : World} {fuel : Nat} {v : Value} {x : DataW H × List MemPlace}
    (h : DataW.trod enc Try.prog W 0 (fun _ => true) true fuel 25 [v] = some x) : ∃ (a : Option Addr) (c : Nat) (cs : List Cm), v = .slice a cs.length c ∧ Sl W (.slice a cs.length c) 3 cs.length (cs.flatMap cmc) := by
  obtain ⟨cs, g1, _⟩ := trod_slm (P := Try.prog) Try.underlying25 3 (by kernel_rfl) (by omega) cmc cmc_len (fun _ _ => True) (fun n cs x hx => by
    obtain ⟨ys, m, _, _, hcl, hf⟩ := trod_fields Try.underlying65 (by kernel_rfl) (by kernel_rfl) hx
    obtain ⟨c0, y0, e0, _, t0⟩ := hf 0 _ rfl
    obtain ⟨c1, y1, e1, _, t1⟩ := hf 1 _ rfl
    obtain ⟨c2, y2, e2, _, t2⟩ := hf 2 _ rfl
    obtain ⟨K, k0, _, _⟩ := DataW.trod_int Try.underlying3 t0
    obtain ⟨L, k1, _, _⟩ := DataW.trod_int Try.underlying3 t1
    obtain ⟨B, k2, _⟩ := DataW.trod_bool Try.underlying4 t2
    simp only [List.cons.injEq, and_true] at k0 k1 k2
    subst k0; subst k1; subst k2
    match cs, hcl with
    | [d0, d1, d2], _ =>
      simp at e0 e1 e2
      subst e0; subst e1; subst e2
      exact ⟨(K, L, B), rfl, trivial⟩) h
  obtain ⟨a, c, rfl⟩ := g1.shape
  exact ⟨a, c, cs, rfl, g1⟩
set_option maxRecDepth 100000 in
theorem evs_cells {H : Type} {enc : TypeId × Value → H} {W : World} {fuel : Nat} {v : Value} {x : DataW H × List MemPlace} (hw : ∀ n ∈ x.1.weights Try.prog 31, LenB n)
    (h : DataW.trod enc Try.prog W 0 (fun _ => true) true fuel 31 [v] = some x) : ∃ (a : Option Addr) (c : Nat) (l : List Ev), v = .slice a l.length c ∧ Sl W (.slice a l.length c) 8 l.length (l.flatMap evc) ∧ FitE l := by
  obtain ⟨l, g1, g2⟩ := trod_slm (P := Try.prog) Try.underlying31 8 (by kernel_rfl) (by omega) evc evc_len (fun a y => ∃ ps : List (DataW H), y = .agg ps ∧ ps[7]? = some (.lit (.string a.dt))) (fun n cs x hx => by
    obtain ⟨y, ps, e1, e2, e3⟩ := event_cells hx
    exact ⟨y, e1, ps, e2, e3⟩) h
  obtain ⟨a, c, rfl⟩ := g1.shape
  refine ⟨a, c, l, rfl, g1, fun y hy => ?_⟩
  rcases g2 with ⟨_, rfl⟩ | ⟨es, rest, hd, hrel⟩
  · cases hy
  · obtain ⟨z, hz, ps, rfl, h7⟩ := hrel y hy
    rw [hd] at hw
    have := event_le (elem_le Try.underlying31 hw hz) h7
    omega
set_option maxRecDepth 100000 in
set_option maxHeartbeats 1600000 in
theorem open_request {H : Type} {enc : TypeId × Value → H} {W : World} {base : Nat} {v : Value} {d : DataW H} {p : List MemPlace} (hw : ∀ n ∈ d.weights Try.prog 27, LenB n) (hv : Value.okWide Try.prog W .any base 27 v)
    (h : DataW.Trod enc Try.prog W 0 (fun _ => true) true 27 v d p) : ∃ (kd : Int) (rq wd nm : List UInt8) (pa : Option Addr) (pc : Nat) (ss : List St) (lim : Int) (ua : Option Addr) (uc : Nat) (cs : List Cm) (rf ty fr sh : Int) (gd : Bool), v = .agg #[.int .i64 kd, .string ⟨rq.toArray⟩, .string ⟨wd.toArray⟩, .string ⟨nm.toArray⟩, .slice pa ss.length pc, .int .i64 lim, .slice ua cs.length uc, .int .i64 rf, .int .i64 ty, .int .i64 fr, .int .i64 sh, .bool gd] ∧ (rq.length ≤ 140737488351232 ∧ wd.length ≤ 140737488351232 ∧ nm.length ≤ 140737488351232) ∧ Sl W (.slice pa ss.length pc) 6 ss.length (ss.flatMap stC) ∧ Fit ss ∧ Sl W (.slice ua cs.length uc) 3 cs.length (cs.flatMap cmc) := by
  obtain ⟨cs, rfl, hsz⟩ := okWide_struct Try.underlying27 hv
  obtain ⟨fuel, hf⟩ := h
  obtain ⟨xs, m, _, hx, hcl, hxl, hg⟩ := DataW.trod_struct Try.underlying27 hf
  have hcN : cs.toList.length = 12 := hcl.trans (by kernel_rfl)
  have hF : xs.length = 11 := hxl
  have g0 := part_at hg 0 rfl 3 0 1 rfl rfl (by kernel_rfl) (by omega)
  have g1 := part_at hg 1 rfl 9 1 1 rfl rfl (by kernel_rfl) (by omega)
  have g2 := part_at hg 2 rfl 9 2 1 rfl rfl (by kernel_rfl) (by omega)
  have g3 := part_at hg 3 rfl 9 3 1 rfl rfl (by kernel_rfl) (by omega)
  have g4 := part_at hg 4 rfl 24 4 2 rfl rfl (by kernel_rfl) (by omega)
  have g5 := part_at hg 5 rfl 25 6 1 rfl rfl (by kernel_rfl) (by omega)
  have g6 := part_at hg 6 rfl 3 7 1 rfl rfl (by kernel_rfl) (by omega)
  have g7 := part_at hg 7 rfl 3 8 1 rfl rfl (by kernel_rfl) (by omega)
  have g8 := part_at hg 8 rfl 3 9 1 rfl rfl (by kernel_rfl) (by omega)
  have g9 := part_at hg 9 rfl 3 10 1 rfl rfl (by kernel_rfl) (by omega)
  have g10 := part_at hg 10 rfl 4 11 1 rfl rfl (by kernel_rfl) (by omega)
  have hd : d = .agg (xs.map (·.1)) := congrArg Prod.fst hx
  subst hd
  have u1 := part_le Try.underlying27 hw (j := 1) rfl (by rw [List.getElem?_map, List.getElem?_eq_getElem (show 1 < xs.length by omega)]; rfl)
  have u2 := part_le Try.underlying27 hw (j := 2) rfl (by rw [List.getElem?_map, List.getElem?_eq_getElem (show 2 < xs.length by omega)]; rfl)
  have u3 := part_le Try.underlying27 hw (j := 3) rfl (by rw [List.getElem?_map, List.getElem?_eq_getElem (show 3 < xs.length by omega)]; rfl)
  obtain ⟨l⟩ := cs
  simp only [Value.cells] at hcN g0 g1 g2 g3 g4 g5 g6 g7 g8 g9 g10
  clear hg hx hcl hw hf hsz hv
  match l, hcN with
  | [d0, d1, d2, d3, d4, d5, d6, d7, d8, d9, d10, d11], _ =>
    replace g0 : DataW.trod enc Try.prog W 0 (fun _ => true) true m 3 [d0] = some xs[0] := g0
    replace g1 : DataW.trod enc Try.prog W 0 (fun _ => true) true m 9 [d1] = some xs[1] := g1
    replace g2 : DataW.trod enc Try.prog W 0 (fun _ => true) true m 9 [d2] = some xs[2] := g2
    replace g3 : DataW.trod enc Try.prog W 0 (fun _ => true) true m 9 [d3] = some xs[3] := g3
    replace g4 : DataW.trod enc Try.prog W 0 (fun _ => true) true m 24 [d4, d5] = some xs[4] := g4
    replace g5 : DataW.trod enc Try.prog W 0 (fun _ => true) true m 25 [d6] = some xs[5] := g5
    replace g6 : DataW.trod enc Try.prog W 0 (fun _ => true) true m 3 [d7] = some xs[6] := g6
    replace g7 : DataW.trod enc Try.prog W 0 (fun _ => true) true m 3 [d8] = some xs[7] := g7
    replace g8 : DataW.trod enc Try.prog W 0 (fun _ => true) true m 3 [d9] = some xs[8] := g8
    replace g9 : DataW.trod enc Try.prog W 0 (fun _ => true) true m 3 [d10] = some xs[9] := g9
    replace g10 : DataW.trod enc Try.prog W 0 (fun _ => true) true m 4 [d11] = some xs[10] := g10
    obtain ⟨A0, k0, _, _⟩ := DataW.trod_int Try.underlying3 g0
    obtain ⟨A6, k6, _, _⟩ := DataW.trod_int Try.underlying3 g6
    obtain ⟨A7, k7, _, _⟩ := DataW.trod_int Try.underlying3 g7
    obtain ⟨A8, k8, _, _⟩ := DataW.trod_int Try.underlying3 g8
    obtain ⟨A9, k9, _, _⟩ := DataW.trod_int Try.underlying3 g9
    obtain ⟨A1, k1, j1, _⟩ := DataW.trod_string Try.underlying9 g1
    rw [j1] at u1
    have l1 := text_le u1
    obtain ⟨A2, k2, j2, _⟩ := DataW.trod_string Try.underlying9 g2
    rw [j2] at u2
    have l2 := text_le u2
    obtain ⟨A3, k3, j3, _⟩ := DataW.trod_string Try.underlying9 g3
    rw [j3] at u3
    have l3 := text_le u3
    obtain ⟨A10, k10, _⟩ := DataW.trod_bool Try.underlying4 g10
    obtain ⟨pa, pc, lim, ss, k4, z1, z2⟩ := prog_cells g4
    obtain ⟨ua, uc, cs, k5, z3⟩ := cmds_cells g5
    simp only [List.cons.injEq, and_true] at k0 k1 k2 k3 k4 k6 k7 k8 k9 k10
    obtain ⟨rfl, rfl⟩ := k4
    subst k0; subst k1; subst k2; subst k3; subst k5; subst k6; subst k7; subst k8; subst k9; subst k10
    exact ⟨A0, A1.data.toList, A2.data.toList, A3.data.toList, pa, pc, ss, lim, ua, uc, cs, A6, A7, A8, A9, A10, rfl, ⟨l1, l2, l3⟩, z1, z2, z3⟩
set_option maxRecDepth 100000 in
set_option maxHeartbeats 1600000 in
theorem open_reply {H : Type} {enc : TypeId × Value → H} {W : World} {base : Nat} {v : Value} {d : DataW H} {p : List MemPlace} (hw : ∀ n ∈ d.weights Try.prog 33, LenB n) (hv : Value.okWide Try.prog W .any base 33 v)
    (h : DataW.Trod enc Try.prog W 0 (fun _ => true) true 33 v d p) : ∃ (er st nx tn : Int) (tw : List UInt8) (tr tt : Int) (nm : List UInt8) (ua : Option Addr) (uc : Nat) (ev : List Ev), v = .agg #[.int .i64 er, .int .i64 st, .int .i64 nx, .int .i64 tn, .string ⟨tw.toArray⟩, .int .i64 tr, .int .i64 tt, .string ⟨nm.toArray⟩, .slice ua ev.length uc] ∧ (tw.length ≤ 140737488351232 ∧ nm.length ≤ 140737488351232) ∧ Sl W (.slice ua ev.length uc) 8 ev.length (ev.flatMap evc) ∧ FitE ev := by
  obtain ⟨cs, rfl, hsz⟩ := okWide_struct Try.underlying33 hv
  obtain ⟨fuel, hf⟩ := h
  obtain ⟨xs, m, _, hx, hcl, hxl, hg⟩ := DataW.trod_struct Try.underlying33 hf
  have hcN : cs.toList.length = 9 := hcl.trans (by kernel_rfl)
  have hF : xs.length = 6 := hxl
  have g0 := part_at hg 0 rfl 28 0 1 rfl rfl (by kernel_rfl) (by omega)
  have g1 := part_at hg 1 rfl 3 1 1 rfl rfl (by kernel_rfl) (by omega)
  have g2 := part_at hg 2 rfl 3 2 1 rfl rfl (by kernel_rfl) (by omega)
  have g3 := part_at hg 3 rfl 30 3 4 rfl rfl (by kernel_rfl) (by omega)
  have g4 := part_at hg 4 rfl 9 7 1 rfl rfl (by kernel_rfl) (by omega)
  have g5 := part_at hg 5 rfl 31 8 1 rfl rfl (by kernel_rfl) (by omega)
  have hd : d = .agg (xs.map (·.1)) := congrArg Prod.fst hx
  subst hd
  have u3 := part_le Try.underlying33 hw (j := 3) rfl (by rw [List.getElem?_map, List.getElem?_eq_getElem (show 3 < xs.length by omega)]; rfl)
  have u4 := part_le Try.underlying33 hw (j := 4) rfl (by rw [List.getElem?_map, List.getElem?_eq_getElem (show 4 < xs.length by omega)]; rfl)
  have u5 := part_le Try.underlying33 hw (j := 5) rfl (by rw [List.getElem?_map, List.getElem?_eq_getElem (show 5 < xs.length by omega)]; rfl)
  obtain ⟨l⟩ := cs
  simp only [Value.cells] at hcN g0 g1 g2 g3 g4 g5
  clear hg hx hcl hw hf hsz hv
  match l, hcN with
  | [d0, d1, d2, d3, d4, d5, d6, d7, d8], _ =>
    replace g0 : DataW.trod enc Try.prog W 0 (fun _ => true) true m 28 [d0] = some xs[0] := g0
    replace g1 : DataW.trod enc Try.prog W 0 (fun _ => true) true m 3 [d1] = some xs[1] := g1
    replace g2 : DataW.trod enc Try.prog W 0 (fun _ => true) true m 3 [d2] = some xs[2] := g2
    replace g3 : DataW.trod enc Try.prog W 0 (fun _ => true) true m 30 [d3, d4, d5, d6] = some xs[3] := g3
    replace g4 : DataW.trod enc Try.prog W 0 (fun _ => true) true m 9 [d7] = some xs[4] := g4
    replace g5 : DataW.trod enc Try.prog W 0 (fun _ => true) true m 31 [d8] = some xs[5] := g5
    obtain ⟨A0, k0, _, _⟩ := DataW.trod_int Try.underlying28 g0
    obtain ⟨A1, k1, _, _⟩ := DataW.trod_int Try.underlying3 g1
    obtain ⟨A2, k2, _, _⟩ := DataW.trod_int Try.underlying3 g2
    obtain ⟨K, s, R, T, k3, l3⟩ := task_cells g3 u3
    obtain ⟨A4, k4, j4, _⟩ := DataW.trod_string Try.underlying9 g4
    rw [j4] at u4
    have l4 := text_le u4
    obtain ⟨ua, uc, ev, k5, z1, z2⟩ := evs_cells u5 g5
    simp only [List.cons.injEq, and_true] at k0 k1 k2 k3 k4
    obtain ⟨rfl, rfl, rfl, rfl⟩ := k3
    subst k0; subst k1; subst k2; subst k4; subst k5
    exact ⟨A0, A1, A2, K, s.data.toList, R, T, A4.data.toList, ua, uc, ev, rfl, ⟨l3, l4⟩, z1, z2⟩
end Go.Proofs.Ytelacmchofehcaa
namespace Go.Proofs.Ytelacmchofehcaa
open Go.RowKit
set_option linter.unusedVariables false
set_option linter.unusedSimpArgs false

theorem rqE_no {id : Int} {q : Rq} (h : ¬ RqP id q) : ¬ rqE id q = 0 := by
  unfold rqE
  rw [if_neg h]
  split <;> decide
theorem rpE_no {id : Int} {x : Rp} (h : ¬ RpP id x) : ¬ rpE id x = 0 := by
  unfold rpE
  rw [if_neg h]
  split
  · rename_i h2
    have hh : ¬ HistP x.ev := fun q => h ⟨h2.1, h2.2, q⟩
    unfold hiE
    split
    · decide
    · first | decide | (rw [if_neg hh]; decide)
  · decide
set_option maxHeartbeats 6400000 in
set_option maxRecDepth 100000 in
theorem wireBack_walk (id kd : Int) (rq wd nm : List UInt8) (lrq : rq.length ≤ 140737488355328) (lwd : wd.length ≤ 140737488355328) (lnm : nm.length ≤ 140737488355328) (pa : Option Addr) (pc : Nat) (ss : List St) (lim : Int) (ua : Option Addr) (uc : Nat) (cs : List Cm) (rf ty fr sh : Int) (gd : Bool)
    (er st nx tn : Int) (tw : List UInt8) (tr tt : Int) (nx2 : List UInt8) (ltw : tw.length ≤ 140737488355328) (lnx : nx2.length ≤ 140737488355328) (xa : Option Addr) (xc : Nat) (ev : List Ev) (w : World)
    (hsp : Sl w (.slice pa ss.length pc) 6 ss.length (ss.flatMap stC)) (hfs : Fit ss) (hsu : Sl w (.slice ua cs.length uc) 3 cs.length (cs.flatMap cmc)) (hse : Sl w (.slice xa ev.length xc) 8 ev.length (ev.flatMap evc)) (hfe : FitE ev) :
    Calls Try.prog 3 #[.int .i64 id, .agg #[.int .i64 kd, .string ⟨rq.toArray⟩, .string ⟨wd.toArray⟩, .string ⟨nm.toArray⟩, .slice pa ss.length pc, .int .i64 lim, .slice ua cs.length uc, .int .i64 rf, .int .i64 ty, .int .i64 fr, .int .i64 sh, .bool gd], .agg #[.int .i64 er, .int .i64 st, .int .i64 nx, .int .i64 tn, .string ⟨tw.toArray⟩, .int .i64 tr, .int .i64 tt, .string ⟨nx2.toArray⟩, .slice xa ev.length xc]] w fun e w' => e = .returned (.bool true) ∧ Below w.heap.size w w' := by
  have g0 := (H12.new w 27 (.int .i64 kd) (.string ⟨rq.toArray⟩) (.string ⟨wd.toArray⟩) (.string ⟨nm.toArray⟩) (.slice pa ss.length pc) (.int .i64 lim) (.slice ua cs.length uc) (.int .i64 rf) (.int .i64 ty) (.int .i64 fr) (.int .i64 sh) (.bool gd)).next ((Below.refl _ _).alloc (Nat.le_refl _) (.cells #[.int .i64 er, .int .i64 st, .int .i64 nx, .int .i64 tn, .string ⟨tw.toArray⟩, .int .i64 tr, .int .i64 tt, .string ⟨nx2.toArray⟩, .slice xa ev.length xc] 33))
  have k0 := H9.new (w.alloc (.cells #[.int .i64 kd, .string ⟨rq.toArray⟩, .string ⟨wd.toArray⟩, .string ⟨nm.toArray⟩, .slice pa ss.length pc, .int .i64 lim, .slice ua cs.length uc, .int .i64 rf, .int .i64 ty, .int .i64 fr, .int .i64 sh, .bool gd] 27)) 33 (.int .i64 er) (.int .i64 st) (.int .i64 nx) (.int .i64 tn) (.string ⟨tw.toArray⟩) (.int .i64 tr) (.int .i64 tt) (.string ⟨nx2.toArray⟩) (.slice xa ev.length xc)
  rw [show (w.alloc (.cells #[.int .i64 kd, .string ⟨rq.toArray⟩, .string ⟨wd.toArray⟩, .string ⟨nm.toArray⟩, .slice pa ss.length pc, .int .i64 lim, .slice ua cs.length uc, .int .i64 rf, .int .i64 ty, .int .i64 fr, .int .i64 sh, .bool gd] 27)).heap.size = w.heap.size + 1 from Array.size_push ..] at k0
  obtain ⟨W, hW⟩ : ∃ W, W = (w.alloc (.cells #[.int .i64 kd, .string ⟨rq.toArray⟩, .string ⟨wd.toArray⟩, .string ⟨nm.toArray⟩, .slice pa ss.length pc, .int .i64 lim, .slice ua cs.length uc, .int .i64 rf, .int .i64 ty, .int .i64 fr, .int .i64 sh, .bool gd] 27)).alloc (.cells #[.int .i64 er, .int .i64 st, .int .i64 nx, .int .i64 tn, .string ⟨tw.toArray⟩, .int .i64 tr, .int .i64 tt, .string ⟨nx2.toArray⟩, .slice xa ev.length xc] 33) := ⟨_, rfl⟩
  rw [← hW] at g0 k0
  have HW := hid hW
  clear hW
  go_enter Try.func3, Try.ntmps3
  go_wp2_with fail
  rw [← HW.out]
  refine (wawake_any W).mono ?_
  rintro _ w1 ⟨rfl, b1⟩
  have g1 := g0.next b1
  have k1 := k0.next b1
  have g1' := g1
  obtain ⟨p0, p1, p2, p3, p4, p5, p6, p7, p8, p9, p10, p11, _, _⟩ := g1'
  go_wp2_with fail
  refine (request_any id kd rq wd nm lrq lwd lnm (.slice pa ss.length pc) lim ss ua uc cs rf ty fr sh gd w1 (hsp.below g1.below) hfs (hsu.below g1.below)).mono ?_
  rintro _ w2 ⟨rfl, b2⟩
  have g2 := g1.next b2
  have k2 := k1.next b2
  clear p0 p1 p2 p3 p4 p5 p6 p7 p8 p9 p10 p11
  have g2' := g2
  obtain ⟨p0, p1, p2, p3, p4, p5, p6, p7, p8, p9, p10, p11, _, _⟩ := g2'
  have k2' := k2
  obtain ⟨q0, q1, q2, q3, q4, q5, q6, q7, q8, _, _⟩ := k2'
  by_cases hP : RqP id ⟨kd, rq, wd, nm, ss, lim, cs, rf, ty, fr, sh, gd⟩
  case neg =>
    have hne := rqE_no hP
    generalize rqE id ⟨kd, rq, wd, nm, ss, lim, cs, rf, ty, fr, sh, gd⟩ = E at *
    generalize rqV id ⟨kd, rq, wd, nm, ss, lim, cs, rf, ty, fr, sh, gd⟩ = V9 at *
    go_wp2_with fail
    clear q0 q1 q2 q3 q4 q5 q6 q7 q8
    have k2' := k2
    obtain ⟨q0, q1, q2, q3, q4, q5, q6, q7, q8, _, _⟩ := k2'
    clear p0 p1 p2 p3 p4 p5 p6 p7 p8 p9 p10 p11
    refine (reply_any id er st nx tn tw tr tt nx2 ltw lnx (.slice xa ev.length xc) ev w2 (hse.below g2.below) hfe).mono ?_
    rintro _ v2 ⟨rfl, c2⟩
    have k9 := k2.next c2
    have hd2 := bnext g2.below c2
    clear q0 q1 q2 q3 q4 q5 q6 q7 q8
    have k9' := k9
    obtain ⟨q0, q1, q2, q3, q4, q5, q6, q7, q8, _, _⟩ := k9'
    by_cases hX : RpP id ⟨er, st, nx, (tn, tw, tr, tt), nx2, ev⟩
    case neg =>
      have hne := rpE_no hX
      generalize rpE id ⟨er, st, nx, (tn, tw, tr, tt), nx2, ev⟩ = E at *
      generalize rpV id ⟨er, st, nx, (tn, tw, tr, tt), nx2, ev⟩ = V9 at *
      go_wp2_with fail
      go_ret
      exact ⟨rfl, hd2⟩
    rw [(rpV_yes hX).1, (rpV_yes hX).2]
    have hll2 := wrapRp_len hX
    obtain ⟨M, hM⟩ : ∃ M, M = wrapL (encRp id ⟨er, st, nx, (tn, tw, tr, tt), nx2, ev⟩) := ⟨_, rfl⟩
    rw [← hM] at hll2 ⊢
    have HM := hid hM
    have HX := hid hX
    clear hM hX
    go_wp2_with fail
    refine (replied_any M (by omega) v2).mono ?_
    rintro _ v3 ⟨id', x, v', e', rfl, hv', hf', c3, hres'⟩
    rcases hres' with ⟨rfl, hX', hm⟩ | ⟨-, -, -, -, hno'⟩
    case inr => exact absurd HM.out (hno' id _ HX.out)
    obtain ⟨h9, h10⟩ := wrapRp_inj HX.out hX' (HM.out.symm.trans hm)
    subst h9
    subst h10
    obtain ⟨ax, cx, rfl⟩ := hv'.shape
    have hd3 := bnext hd2 c3
    have k10 := k9.next c3
    clear hX' hm q0 q1 q2 q3 q4 q5 q6 q7 q8
    rw [show rpVal ⟨er, st, nx, (tn, tw, tr, tt), nx2, ev⟩ (.slice ax ev.length cx) = .agg #[.int .i64 er, .int .i64 st, .int .i64 nx, .int .i64 tn, .string ⟨tw.toArray⟩, .int .i64 tr, .int .i64 tt, .string ⟨nx2.toArray⟩, .slice ax ev.length cx] from rfl]
    have m0 := H9.new v3 33 (.int .i64 er) (.int .i64 st) (.int .i64 nx) (.int .i64 tn) (.string ⟨tw.toArray⟩) (.int .i64 tr) (.int .i64 tt) (.string ⟨nx2.toArray⟩) (.slice ax ev.length cx)
    obtain ⟨V, hV⟩ : ∃ V, V = v3.alloc (.cells #[.int .i64 er, .int .i64 st, .int .i64 nx, .int .i64 tn, .string ⟨tw.toArray⟩, .int .i64 tr, .int .i64 tt, .string ⟨nx2.toArray⟩, .slice ax ev.length cx] 33) := ⟨_, rfl⟩
    rw [← hV] at m0
    have HV := hid hV
    have k11 := k10.next m0.below
    have hdV := bnext hd3 m0.below
    have hvV := hv'.below m0.below
    rw [hV] at m0 k11
    have k11' := k11
    obtain ⟨q0, q1, q2, q3, q4, q5, q6, q7, q8, _, _⟩ := k11'
    have m0' := m0
    obtain ⟨r0, r1, r2, r3, r4, r5, r6, r7, r8, _, _⟩ := m0'
    clear hV m0 k11
    go_wp2_with fail
    rw [← HV.out]
    clear q0 q1 q2 q3 q4 q5 q6 q7 q8 r0 r1 r2 r3 r4 r5 r6 r7 r8
    refine (xsame_any er st nx tn tw tr tt nx2 lnx xa ax xc cx ev V (hse.below hdV) hvV).mono ?_
    rintro _ v5 ⟨rfl, c5⟩
    have hbf := bnext hdV c5
    go_wp2_with fail
    go_ret
    exact ⟨rfl, hbf⟩
  rw [(rqV_yes hP).1, (rqV_yes hP).2]
  have hll := wrapRq_len hP
  obtain ⟨L, hL⟩ : ∃ L, L = wrapL (encRq id ⟨kd, rq, wd, nm, ss, lim, cs, rf, ty, fr, sh, gd⟩) := ⟨_, rfl⟩
  rw [← hL] at hll ⊢
  have HL := hid hL
  have HP := hid hP
  clear hL hP
  go_wp2_with fail
  refine (requested_any L (by omega) w2).mono ?_
  rintro _ w3 ⟨id', q, v, u, e, rfl, hv, hu, b3, hres⟩
  rcases hres with ⟨rfl, hP', hl⟩ | ⟨-, -, -, -, -, hno⟩
  case inr => exact absurd HL.out (hno id _ HP.out)
  obtain ⟨h9, h10⟩ := wrapRq_inj HP.out hP' (HL.out.symm.trans hl)
  subst h9
  subst h10
  obtain ⟨av, cv, rfl⟩ := hv.shape
  obtain ⟨au, cu, rfl⟩ := hu.shape
  have g3 := g2.next b3
  have k3 := k2.next b3
  clear hP' hl p0 p1 p2 p3 p4 p5 p6 p7 p8 p9 p10 p11 q0 q1 q2 q3 q4 q5 q6 q7 q8
  rw [show rqVal ⟨kd, rq, wd, nm, ss, lim, cs, rf, ty, fr, sh, gd⟩ (.slice av ss.length cv) (.slice au cs.length cu) = .agg #[.int .i64 kd, .string ⟨rq.toArray⟩, .string ⟨wd.toArray⟩, .string ⟨nm.toArray⟩, .slice av ss.length cv, .int .i64 lim, .slice au cs.length cu, .int .i64 rf, .int .i64 ty, .int .i64 fr, .int .i64 sh, .bool gd] from rfl]
  have m0 := H12.new w3 27 (.int .i64 kd) (.string ⟨rq.toArray⟩) (.string ⟨wd.toArray⟩) (.string ⟨nm.toArray⟩) (.slice av ss.length cv) (.int .i64 lim) (.slice au cs.length cu) (.int .i64 rf) (.int .i64 ty) (.int .i64 fr) (.int .i64 sh) (.bool gd)
  obtain ⟨V, hV⟩ : ∃ V, V = w3.alloc (.cells #[.int .i64 kd, .string ⟨rq.toArray⟩, .string ⟨wd.toArray⟩, .string ⟨nm.toArray⟩, .slice av ss.length cv, .int .i64 lim, .slice au cs.length cu, .int .i64 rf, .int .i64 ty, .int .i64 fr, .int .i64 sh, .bool gd] 27) := ⟨_, rfl⟩
  rw [← hV] at m0
  have HV := hid hV
  have g4 := g3.next m0.below
  have k4 := k3.next m0.below
  have hbV := g4.below
  have hvV := hv.below m0.below
  have huV := hu.below m0.below
  have g4r := g4
  rw [hV] at m0 g4r
  have g4r' := g4r
  obtain ⟨p0, p1, p2, p3, p4, p5, p6, p7, p8, p9, p10, p11, _, _⟩ := g4r'
  have m0' := m0
  obtain ⟨r0, r1, r2, r3, r4, r5, r6, r7, r8, r9, r10, r11, _, _⟩ := m0'
  clear hV m0 g4r
  go_wp2_with fail
  rw [← HV.out]
  clear r0 r1 r2 r3 r4 r5 r6 r7 r8 r9 r10 r11 p0 p1 p2 p3 p4 p5 p6 p7 p8 p9 p10 p11
  refine (qsame_any kd rq wd nm lrq lwd lnm (.slice pa ss.length pc) (.slice av ss.length cv) lim ss ua au uc cu cs rf ty fr sh gd V (hsp.below hbV) hvV (hsu.below hbV) huV).mono ?_
  rintro _ w5 ⟨rfl, b5⟩
  have k5 := k4.next b5
  have hb5 := bnext hbV b5
  clear HV
  have k5' := k5
  obtain ⟨q0, q1, q2, q3, q4, q5, q6, q7, q8, _, _⟩ := k5'
  go_wp2_with fail
  clear q0 q1 q2 q3 q4 q5 q6 q7 q8
  have k5' := k5
  obtain ⟨q0, q1, q2, q3, q4, q5, q6, q7, q8, _, _⟩ := k5'
  refine (reply_any id er st nx tn tw tr tt nx2 ltw lnx (.slice xa ev.length xc) ev w5 (hse.below hb5) hfe).mono ?_
  rintro _ v2 ⟨rfl, c2⟩
  have k9 := k5.next c2
  have hd2 := bnext hb5 c2
  clear q0 q1 q2 q3 q4 q5 q6 q7 q8
  have k9' := k9
  obtain ⟨q0, q1, q2, q3, q4, q5, q6, q7, q8, _, _⟩ := k9'
  by_cases hX : RpP id ⟨er, st, nx, (tn, tw, tr, tt), nx2, ev⟩
  case neg =>
    have hne := rpE_no hX
    generalize rpE id ⟨er, st, nx, (tn, tw, tr, tt), nx2, ev⟩ = E at *
    generalize rpV id ⟨er, st, nx, (tn, tw, tr, tt), nx2, ev⟩ = V9 at *
    go_wp2_with fail
    go_ret
    exact ⟨rfl, hd2⟩
  rw [(rpV_yes hX).1, (rpV_yes hX).2]
  have hll2 := wrapRp_len hX
  obtain ⟨M, hM⟩ : ∃ M, M = wrapL (encRp id ⟨er, st, nx, (tn, tw, tr, tt), nx2, ev⟩) := ⟨_, rfl⟩
  rw [← hM] at hll2 ⊢
  have HM := hid hM
  have HX := hid hX
  clear hM hX
  go_wp2_with fail
  refine (replied_any M (by omega) v2).mono ?_
  rintro _ v3 ⟨id', x, v', e', rfl, hv', hf', c3, hres'⟩
  rcases hres' with ⟨rfl, hX', hm⟩ | ⟨-, -, -, -, hno'⟩
  case inr => exact absurd HM.out (hno' id _ HX.out)
  obtain ⟨h9, h10⟩ := wrapRp_inj HX.out hX' (HM.out.symm.trans hm)
  subst h9
  subst h10
  obtain ⟨ax, cx, rfl⟩ := hv'.shape
  have hd3 := bnext hd2 c3
  have k10 := k9.next c3
  clear hX' hm q0 q1 q2 q3 q4 q5 q6 q7 q8
  rw [show rpVal ⟨er, st, nx, (tn, tw, tr, tt), nx2, ev⟩ (.slice ax ev.length cx) = .agg #[.int .i64 er, .int .i64 st, .int .i64 nx, .int .i64 tn, .string ⟨tw.toArray⟩, .int .i64 tr, .int .i64 tt, .string ⟨nx2.toArray⟩, .slice ax ev.length cx] from rfl]
  have m0 := H9.new v3 33 (.int .i64 er) (.int .i64 st) (.int .i64 nx) (.int .i64 tn) (.string ⟨tw.toArray⟩) (.int .i64 tr) (.int .i64 tt) (.string ⟨nx2.toArray⟩) (.slice ax ev.length cx)
  obtain ⟨V, hV⟩ : ∃ V, V = v3.alloc (.cells #[.int .i64 er, .int .i64 st, .int .i64 nx, .int .i64 tn, .string ⟨tw.toArray⟩, .int .i64 tr, .int .i64 tt, .string ⟨nx2.toArray⟩, .slice ax ev.length cx] 33) := ⟨_, rfl⟩
  rw [← hV] at m0
  have HV := hid hV
  have k11 := k10.next m0.below
  have hdV := bnext hd3 m0.below
  have hvV := hv'.below m0.below
  rw [hV] at m0 k11
  have k11' := k11
  obtain ⟨q0, q1, q2, q3, q4, q5, q6, q7, q8, _, _⟩ := k11'
  have m0' := m0
  obtain ⟨r0, r1, r2, r3, r4, r5, r6, r7, r8, _, _⟩ := m0'
  clear hV m0 k11
  go_wp2_with fail
  rw [← HV.out]
  clear q0 q1 q2 q3 q4 q5 q6 q7 q8 r0 r1 r2 r3 r4 r5 r6 r7 r8
  refine (xsame_any er st nx tn tw tr tt nx2 lnx xa ax xc cx ev V (hse.below hdV) hvV).mono ?_
  rintro _ v5 ⟨rfl, c5⟩
  have hbf := bnext hdV c5
  go_wp2_with fail
  go_ret
  exact ⟨rfl, hbf⟩
theorem wireBack_w (id : Int) {B : Prop} (_ : B) (v : Value) (kd : Int) (rq wd nm : List UInt8) (pa : Option Addr) (pc : Nat) (ss : List St) (lim : Int) (ua : Option Addr) (uc : Nat) (cs : List Cm) (rf ty fr sh : Int) (gd : Bool)
    (v' : Value) (er st nx tn : Int) (tw : List UInt8) (tr tt : Int) (nx2 : List UInt8) (xa : Option Addr) (xc : Nat) (ev : List Ev) (w : World)
    (e : v = .agg #[.int .i64 kd, .string ⟨rq.toArray⟩, .string ⟨wd.toArray⟩, .string ⟨nm.toArray⟩, .slice pa ss.length pc, .int .i64 lim, .slice ua cs.length uc, .int .i64 rf, .int .i64 ty, .int .i64 fr, .int .i64 sh, .bool gd]) (l : rq.length ≤ 140737488351232 ∧ wd.length ≤ 140737488351232 ∧ nm.length ≤ 140737488351232) (hsp : Sl w (.slice pa ss.length pc) 6 ss.length (ss.flatMap stC)) (hfs : Fit ss) (hsu : Sl w (.slice ua cs.length uc) 3 cs.length (cs.flatMap cmc))
    (e' : v' = .agg #[.int .i64 er, .int .i64 st, .int .i64 nx, .int .i64 tn, .string ⟨tw.toArray⟩, .int .i64 tr, .int .i64 tt, .string ⟨nx2.toArray⟩, .slice xa ev.length xc]) (l' : tw.length ≤ 140737488351232 ∧ nx2.length ≤ 140737488351232) (hse : Sl w (.slice xa ev.length xc) 8 ev.length (ev.flatMap evc)) (hfe : FitE ev) :
    Calls Try.prog 3 #[.int .i64 id, v, v'] w fun e w' => e = .returned (.bool true) ∧ Below w.heap.size w w' := by
  rw [e, e']
  exact wireBack_walk id kd rq wd nm (by omega) (by omega) (by omega) pa pc ss lim ua uc cs rf ty fr sh gd er st nx tn tw tr tt nx2 (by omega) (by omega) xa xc ev w hsp hfs hsu hse hfe
end Go.Proofs.Ytelacmchofehcaa
namespace Go.Proofs.Ytelacmchofehcaa
open Go.RowKit
set_option linter.unusedVariables false
set_option linter.unusedSimpArgs false

set_option maxHeartbeats 3200000 in
set_option maxRecDepth 100000 in
theorem turned_no (kd : Int) (rq wd nm : List UInt8) (lrq : rq.length ≤ 140737488355328) (lwd : wd.length ≤ 140737488355328) (lnm : nm.length ≤ 140737488355328) (pa : Option Addr) (pc : Nat) (ss : List St) (lim : Int) (ua : Option Addr) (uc : Nat) (cs : List Cm) (rf ty fr sh : Int) (gd : Bool) (bit : Int) (w : World)
    (hsp : Sl w (.slice pa ss.length pc) 6 ss.length (ss.flatMap stC)) (hfs : Fit ss) (hsu : Sl w (.slice ua cs.length uc) 3 cs.length (cs.flatMap cmc)) (hP : ¬ RqP 3 ⟨kd, rq, wd, nm, ss, lim, cs, rf, ty, fr, sh, gd⟩) :
    Calls Try.prog 4 #[.agg #[.int .i64 kd, .string ⟨rq.toArray⟩, .string ⟨wd.toArray⟩, .string ⟨nm.toArray⟩, .slice pa ss.length pc, .int .i64 lim, .slice ua cs.length uc, .int .i64 rf, .int .i64 ty, .int .i64 fr, .int .i64 sh, .bool gd], .int .i64 bit] w fun e w' => e = .returned (.bool true) ∧ Below w.heap.size w w' := by
  have g0 := H12.new w 27 (.int .i64 kd) (.string ⟨rq.toArray⟩) (.string ⟨wd.toArray⟩) (.string ⟨nm.toArray⟩) (.slice pa ss.length pc) (.int .i64 lim) (.slice ua cs.length uc) (.int .i64 rf) (.int .i64 ty) (.int .i64 fr) (.int .i64 sh) (.bool gd)
  obtain ⟨W0, hW0⟩ : ∃ W, W = w.alloc (.cells #[.int .i64 kd, .string ⟨rq.toArray⟩, .string ⟨wd.toArray⟩, .string ⟨nm.toArray⟩, .slice pa ss.length pc, .int .i64 lim, .slice ua cs.length uc, .int .i64 rf, .int .i64 ty, .int .i64 fr, .int .i64 sh, .bool gd] 27) := ⟨_, rfl⟩
  rw [← hW0] at g0
  have HW0 := hid hW0
  clear hW0
  go_enter Try.func4, Try.ntmps4
  go_wp2_with fail
  rw [← HW0.out]
  refine (wawake_any W0).mono ?_
  rintro _ w1 ⟨rfl, b1⟩
  have g1 := g0.next b1
  have g1' := g1
  obtain ⟨p0, p1, p2, p3, p4, p5, p6, p7, p8, p9, p10, p11, _, _⟩ := g1'
  go_wp2_with fail
  refine (request_any 3 kd rq wd nm lrq lwd lnm (.slice pa ss.length pc) lim ss ua uc cs rf ty fr sh gd w1 (hsp.below g1.below) hfs (hsu.below g1.below)).mono ?_
  rintro _ w2 ⟨rfl, b2⟩
  have g2 := g1.next b2
  have hne := rqE_no hP
  clear p0 p1 p2 p3 p4 p5 p6 p7 p8 p9 p10 p11
  generalize rqE 3 ⟨kd, rq, wd, nm, ss, lim, cs, rf, ty, fr, sh, gd⟩ = E at *
  generalize rqV 3 ⟨kd, rq, wd, nm, ss, lim, cs, rf, ty, fr, sh, gd⟩ = V9 at *
  go_wp2_with fail
  go_ret
  exact ⟨rfl, g2.below⟩
set_option maxHeartbeats 3200000 in
set_option maxRecDepth 100000 in
theorem turned_1 (kd : Int) (rq wd nm : List UInt8) (lrq : rq.length ≤ 140737488355328) (lwd : wd.length ≤ 140737488355328) (lnm : nm.length ≤ 140737488355328) (pa : Option Addr) (pc : Nat) (ss : List St) (lim : Int) (ua : Option Addr) (uc : Nat) (cs : List Cm) (rf ty fr sh : Int) (gd : Bool) (bit : Int) (w : World)
    (hsp : Sl w (.slice pa ss.length pc) 6 ss.length (ss.flatMap stC)) (hfs : Fit ss) (hsu : Sl w (.slice ua cs.length uc) 3 cs.length (cs.flatMap cmc))
    (S : List UInt8) (n : Nat) (hn : n ≤ 2000) (hlen' : S.length = 1 + (4 + n)) (hs0 : (S[0]'(by omega)).toNat < 128) (HVL : Hid (rqV 3 ⟨kd, rq, wd, nm, ss, lim, cs, rf, ty, fr, sh, gd⟩ = S)) (HVE : Hid (rqE 3 ⟨kd, rq, wd, nm, ss, lim, cs, rf, ty, fr, sh, gd⟩ = 0)) (HN0 : Hid (∀ q, q < 4 + n → ∀ (hp : 1 + q < S.length) (c : UInt8), c ≠ S[1 + q] → nextF (S.set (1 + q) c) = ([], [], 21))) :
    Calls Try.prog 4 #[.agg #[.int .i64 kd, .string ⟨rq.toArray⟩, .string ⟨wd.toArray⟩, .string ⟨nm.toArray⟩, .slice pa ss.length pc, .int .i64 lim, .slice ua cs.length uc, .int .i64 rf, .int .i64 ty, .int .i64 fr, .int .i64 sh, .bool gd], .int .i64 bit] w fun e w' => e = .returned (.bool true) ∧ Below w.heap.size w w' := by
  obtain ⟨q, hq, eq, g1', g2'⟩ := turn_bit bit (8 * (n + 4)) (by omega)
  have hpl' : 1 + q / 8 < S.length := by omega
  have hnt0 := HN0.out (q / 8) (by omega) hpl'
  have hcv := fun w s => run_bytes_of_string (P := Try.prog) w 9 45 5 s Try.underlying9 Try.underlying45 Try.underlying5
  obtain ⟨c, hcc⟩ : ∃ c : UInt8, c = UInt8.ofNat ((S[1 + q / 8]).toNat ^^^ 2 ^ (q % 8)) := ⟨_, rfl⟩
  have hnt := hnt0 c (by rw [hcc]; exact flip_ne _ (q % 8) (by omega))
  clear hnt0
  have HNT := hid hnt
  have HCC := hid hcc
  clear hnt hcc
  have eqw : (wrap64 (bit.tmod (8 * ((n : Int) + 4)) + 8 * ((n : Int) + 4))).tmod (8 * ((n : Int) + 4)) = (q : Int) := by
    have e8 : (8 * ((n : Int) + 4)) = ((8 * (n + 4) : Nat) : Int) := by omega
    have hwr : wrap64 (bit.tmod ((8 * (n + 4) : Nat) : Int) + ((8 * (n + 4) : Nat) : Int)) = bit.tmod ((8 * (n + 4) : Nat) : Int) + ((8 * (n + 4) : Nat) : Int) := by simp only [wrap64]; omega
    rw [e8, hwr, eq]
  have ehd : ((1 + (4 + n) : Nat) : Int) - 1 = (n : Int) + 4 := by omega
  have ehd2 : (1 : Int) + (4 + (n : Int)) - 1 = (n : Int) + 4 := by omega
  have ehd3 : (4 : Int) + (n : Int) = (n : Int) + 4 := by omega
  have ehd4 : (1 : Int) + ((n : Int) + 4) - 1 = (n : Int) + 4 := by omega
  have hsb : 0 < (⟨S.toArray⟩ : ByteArray).size := by show 0 < S.toArray.size; simp; omega
  have hi0 : (((⟨S.toArray⟩ : ByteArray)[0]'hsb).toNat : Int) < 128 := by
    have : (⟨S.toArray⟩ : ByteArray)[0]'hsb = S[0]'(by omega) := rfl
    rw [this]; omega
  clear eq
  have g0 := H12.new w 27 (.int .i64 kd) (.string ⟨rq.toArray⟩) (.string ⟨wd.toArray⟩) (.string ⟨nm.toArray⟩) (.slice pa ss.length pc) (.int .i64 lim) (.slice ua cs.length uc) (.int .i64 rf) (.int .i64 ty) (.int .i64 fr) (.int .i64 sh) (.bool gd)
  obtain ⟨W0, hW0⟩ : ∃ W, W = w.alloc (.cells #[.int .i64 kd, .string ⟨rq.toArray⟩, .string ⟨wd.toArray⟩, .string ⟨nm.toArray⟩, .slice pa ss.length pc, .int .i64 lim, .slice ua cs.length uc, .int .i64 rf, .int .i64 ty, .int .i64 fr, .int .i64 sh, .bool gd] 27) := ⟨_, rfl⟩
  rw [← hW0] at g0
  have HW0 := hid hW0
  clear hW0
  go_enter Try.func4, Try.ntmps4
  go_wp2_with fail
  rw [← HW0.out]
  refine (wawake_any W0).mono ?_
  rintro _ w1 ⟨rfl, b1⟩
  have g1 := g0.next b1
  have g1' := g1
  obtain ⟨p0, p1, p2, p3, p4, p5, p6, p7, p8, p9, p10, p11, _, _⟩ := g1'
  go_wp2_with fail
  refine (request_any 3 kd rq wd nm lrq lwd lnm (.slice pa ss.length pc) lim ss ua uc cs rf ty fr sh gd w1 (hsp.below g1.below) hfs (hsu.below g1.below)).mono ?_
  rw [HVL.out, HVE.out]
  rintro _ w2 ⟨rfl, b2⟩
  have g2 := g1.next b2
  clear p0 p1 p2 p3 p4 p5 p6 p7 p8 p9 p10 p11
  go_wp2_with fail
  generalize grownCap w2 (1 + (4 + n)) 0 5 = cap
  have hcells : ∀ j (hj : j < S.length), (w2.alloc (.cells (bytesRow ⟨S.toArray⟩ cap) 5 ((bytesRow ⟨S.toArray⟩ cap).size, (bytesRow ⟨S.toArray⟩ cap).size + 1))).drew.cell? ⟨w2.heap.size, j, none⟩ = some (byteV S[j]) := fun j hj => by
    show (w2.alloc (.cells _ _ _)).cell? _ = _
    rw [World.cell?_alloc_mark, bytesRow_at _ _ j (by simpa using hj)]; rfl
  have hfz : ∀ j, j < S.length → (w2.alloc (.cells (bytesRow ⟨S.toArray⟩ cap) 5 ((bytesRow ⟨S.toArray⟩ cap).size, (bytesRow ⟨S.toArray⟩ cap).size + 1))).drew.frozen? ⟨w2.heap.size, j, none⟩ = false := fun j hj => by
    show (w2.alloc (.cells _ _ _)).frozen? _ = _
    rw [World.frozen?_alloc_mark]
    have : ¬ (bytesRow ⟨S.toArray⟩ cap).size ≤ j := by unfold bytesRow; simp; omega
    simp [this]
  have hb3 : Below w2.heap.size w2 (w2.alloc (.cells (bytesRow ⟨S.toArray⟩ cap) 5 ((bytesRow ⟨S.toArray⟩ cap).size, (bytesRow ⟨S.toArray⟩ cap).size + 1))).drew := below_to_drew ((Below.refl _ w2).alloc (Nat.le_refl _) _)
  obtain ⟨w3, hw3⟩ : ∃ w3, w3 = (w2.alloc (.cells (bytesRow ⟨S.toArray⟩ cap) 5 ((bytesRow ⟨S.toArray⟩ cap).size, (bytesRow ⟨S.toArray⟩ cap).size + 1))).drew := ⟨_, rfl⟩
  rw [← hw3] at hcells hfz hb3 ⊢
  clear hw3
  have hcell : w3.cell? ⟨w2.heap.size, 1 + q / 8, none⟩ = some (.int .u8 ((S[1 + q / 8]).toNat : Int)) := hcells (1 + q / 8) hpl'
  have hfr := hfz (1 + q / 8) hpl'
  have HCS := hid hcells
  clear hcells hfz
  have i1 : ((1 : Int) + (q : Int) / 8).toNat = 1 + q / 8 := by omega
  have i2 : (0 : Int) ≤ (1 : Int) + (q : Int) / 8 := by omega
  have i3 : (1 : Int) + (q : Int) / 8 < ((1 + (4 + n) : Nat) : Int) := by omega
  have i4 : (0 : Int) ≤ (q : Int) % 8 := by omega
  have i5 : (q : Int) % 8 ≤ 8 := by omega
  have hxor : bits .xor .u8 ((S[1 + q / 8]).toNat : Int) (2 ^ (q % 8) % 256) = (c.toNat : Int) := by
    have hk : (2 : Nat) ^ (q % 8) < 256 := Nat.pow_lt_pow_right (n := 8) (by omega) (by omega)
    have e1 : (2 : Int) ^ (q % 8) % 256 = ((2 ^ (q % 8) : Nat) : Int) := by
      have e2 : ((2 ^ (q % 8) : Nat) : Int) = (2 : Int) ^ (q % 8) := Int.natCast_pow ..
      rw [← e2]
      clear e2
      generalize (2 : Nat) ^ (q % 8) = v at hk ⊢
      omega
    have hx := UInt8.toNat_lt (S[1 + q / 8])
    rw [e1, u8_xor_nat _ _ (by omega) hk, HCC.out, UInt8.toNat_ofNat', Nat.mod_eq_of_lt (Nat.xor_lt_two_pow (n := 8) (by omega) (by omega))]
  go_region
  have hb4 : Below w2.heap.size w2 (w3.setCell ⟨w2.heap.size, 1 + q / 8, none⟩ (.int .u8 (c.toNat : Int))).drew := below_to_drew (hb3.setCell (Nat.le_refl _) _)
  have hback := turned_back w3 w2.heap.size _ c S hpl' (1 + (4 + n)) cap hlen'.symm HCS.out
  have hl' : (S.set (1 + q / 8) c).length = 1 + (4 + n) := by simp [hlen']
  clear hcell hfr hxor HCS hcv
  generalize (w3.setCell ⟨w2.heap.size, 1 + q / 8, none⟩ (.int .u8 (c.toNat : Int))).drew = w4 at hb4 hback ⊢
  have HNT2 := hid HNT.out
  clear HNT HCC HN0
  generalize S.set (1 + q / 8) c = TT at hback hl' HNT2
  go_wp2_with fail
  refine (requested_any TT (by omega) w4).mono ?_
  rintro _ w5 ⟨id, q9, v, u, er, rfl, hv, hu, b5, hres⟩
  rcases hres with ⟨rfl, hP, hl⟩ | ⟨rfl, rfl, rfl, rfl, rfl, hno⟩
  case inl =>
    have h1 := next_wrap (encRq id q9) [] (by have := encRq_len hP; omega)
    rw [List.append_nil, ← hl, HNT2.out] at h1
    simp at h1
  have her : erF TT = 21 := by unfold erF; rw [HNT2.out]; decide
  rw [her]
  clear her hno HNT2 hback
  rw [show rqVal rq0 (.slice none 0 0) (.slice none 0 0) = .agg #[.int .i64 0, .string ⟨#[]⟩, .string ⟨#[]⟩, .string ⟨#[]⟩, .slice none 0 0, .int .i64 0, .slice none 0 0, .int .i64 0, .int .i64 0, .int .i64 0, .int .i64 0, .bool false] from rfl]
  have m0 := H12.new w5 27 (.int .i64 0) (.string ⟨#[]⟩) (.string ⟨#[]⟩) (.string ⟨#[]⟩) (.slice none 0 0) (.int .i64 0) (.slice none 0 0) (.int .i64 0) (.int .i64 0) (.int .i64 0) (.int .i64 0) (.bool false)
  obtain ⟨V, hV⟩ : ∃ V, V = w5.alloc (.cells #[.int .i64 0, .string ⟨#[]⟩, .string ⟨#[]⟩, .string ⟨#[]⟩, .slice none 0 0, .int .i64 0, .slice none 0 0, .int .i64 0, .int .i64 0, .int .i64 0, .int .i64 0, .bool false] 27) := ⟨_, rfl⟩
  have HV := hid hV
  rw [← hV] at m0
  have hbV := bnext (bnext (bnext g2.below hb4) b5) m0.below
  clear hV
  obtain ⟨r0, r1, r2, r3, r4, r5, r6, r7, r8, r9, r10, r11, _, _⟩ := m0
  rw [HV.out] at r0 r1 r2 r3 r4 r5 r6 r7 r8 r9 r10 r11
  go_wp2_with fail
  rw [← HV.out]
  clear r0 r1 r2 r3 r4 r5 r6 r7 r8 r9 r10 r11
  refine (qsame_any 0 [] [] [] (by simp) (by simp) (by simp) (.slice none 0 0) (.slice none 0 0) 0 [] none none 0 0 [] 0 0 0 0 false V (Sl.none _ _) (Sl.none _ _) (Sl.none _ _) (Sl.none _ _)).mono ?_
  rintro _ w6 ⟨rfl, b6⟩
  have hbf := bnext hbV b6
  go_wp2_with fail
  go_ret
  exact ⟨rfl, hbf⟩
set_option maxHeartbeats 3200000 in
set_option maxRecDepth 100000 in
theorem turned_2 (kd : Int) (rq wd nm : List UInt8) (lrq : rq.length ≤ 140737488355328) (lwd : wd.length ≤ 140737488355328) (lnm : nm.length ≤ 140737488355328) (pa : Option Addr) (pc : Nat) (ss : List St) (lim : Int) (ua : Option Addr) (uc : Nat) (cs : List Cm) (rf ty fr sh : Int) (gd : Bool) (bit : Int) (w : World)
    (hsp : Sl w (.slice pa ss.length pc) 6 ss.length (ss.flatMap stC)) (hfs : Fit ss) (hsu : Sl w (.slice ua cs.length uc) 3 cs.length (cs.flatMap cmc))
    (S : List UInt8) (n : Nat) (hn : n ≤ 2000) (hlen' : S.length = 2 + (4 + n)) (hs0 : 128 ≤ (S[0]'(by omega)).toNat) (HVL : Hid (rqV 3 ⟨kd, rq, wd, nm, ss, lim, cs, rf, ty, fr, sh, gd⟩ = S)) (HVE : Hid (rqE 3 ⟨kd, rq, wd, nm, ss, lim, cs, rf, ty, fr, sh, gd⟩ = 0)) (HN0 : Hid (∀ q, q < 4 + n → ∀ (hp : 2 + q < S.length) (c : UInt8), c ≠ S[2 + q] → nextF (S.set (2 + q) c) = ([], [], 21))) :
    Calls Try.prog 4 #[.agg #[.int .i64 kd, .string ⟨rq.toArray⟩, .string ⟨wd.toArray⟩, .string ⟨nm.toArray⟩, .slice pa ss.length pc, .int .i64 lim, .slice ua cs.length uc, .int .i64 rf, .int .i64 ty, .int .i64 fr, .int .i64 sh, .bool gd], .int .i64 bit] w fun e w' => e = .returned (.bool true) ∧ Below w.heap.size w w' := by
  obtain ⟨q, hq, eq, g1', g2'⟩ := turn_bit bit (8 * (n + 4)) (by omega)
  have hpl' : 2 + q / 8 < S.length := by omega
  have hnt0 := HN0.out (q / 8) (by omega) hpl'
  have hcv := fun w s => run_bytes_of_string (P := Try.prog) w 9 45 5 s Try.underlying9 Try.underlying45 Try.underlying5
  obtain ⟨c, hcc⟩ : ∃ c : UInt8, c = UInt8.ofNat ((S[2 + q / 8]).toNat ^^^ 2 ^ (q % 8)) := ⟨_, rfl⟩
  have hnt := hnt0 c (by rw [hcc]; exact flip_ne _ (q % 8) (by omega))
  clear hnt0
  have HNT := hid hnt
  have HCC := hid hcc
  clear hnt hcc
  have eqw : (wrap64 (bit.tmod (8 * ((n : Int) + 4)) + 8 * ((n : Int) + 4))).tmod (8 * ((n : Int) + 4)) = (q : Int) := by
    have e8 : (8 * ((n : Int) + 4)) = ((8 * (n + 4) : Nat) : Int) := by omega
    have hwr : wrap64 (bit.tmod ((8 * (n + 4) : Nat) : Int) + ((8 * (n + 4) : Nat) : Int)) = bit.tmod ((8 * (n + 4) : Nat) : Int) + ((8 * (n + 4) : Nat) : Int) := by simp only [wrap64]; omega
    rw [e8, hwr, eq]
  have ehd : ((2 + (4 + n) : Nat) : Int) - 2 = (n : Int) + 4 := by omega
  have ehd2 : (2 : Int) + (4 + (n : Int)) - 2 = (n : Int) + 4 := by omega
  have ehd3 : (4 : Int) + (n : Int) = (n : Int) + 4 := by omega
  have ehd4 : (2 : Int) + ((n : Int) + 4) - 2 = (n : Int) + 4 := by omega
  have hsb : 0 < (⟨S.toArray⟩ : ByteArray).size := by show 0 < S.toArray.size; simp; omega
  have hi0 : 128 ≤ (((⟨S.toArray⟩ : ByteArray)[0]'hsb).toNat : Int) := by
    have : (⟨S.toArray⟩ : ByteArray)[0]'hsb = S[0]'(by omega) := rfl
    rw [this]; omega
  clear eq
  have g0 := H12.new w 27 (.int .i64 kd) (.string ⟨rq.toArray⟩) (.string ⟨wd.toArray⟩) (.string ⟨nm.toArray⟩) (.slice pa ss.length pc) (.int .i64 lim) (.slice ua cs.length uc) (.int .i64 rf) (.int .i64 ty) (.int .i64 fr) (.int .i64 sh) (.bool gd)
  obtain ⟨W0, hW0⟩ : ∃ W, W = w.alloc (.cells #[.int .i64 kd, .string ⟨rq.toArray⟩, .string ⟨wd.toArray⟩, .string ⟨nm.toArray⟩, .slice pa ss.length pc, .int .i64 lim, .slice ua cs.length uc, .int .i64 rf, .int .i64 ty, .int .i64 fr, .int .i64 sh, .bool gd] 27) := ⟨_, rfl⟩
  rw [← hW0] at g0
  have HW0 := hid hW0
  clear hW0
  go_enter Try.func4, Try.ntmps4
  go_wp2_with fail
  rw [← HW0.out]
  refine (wawake_any W0).mono ?_
  rintro _ w1 ⟨rfl, b1⟩
  have g1 := g0.next b1
  have g1' := g1
  obtain ⟨p0, p1, p2, p3, p4, p5, p6, p7, p8, p9, p10, p11, _, _⟩ := g1'
  go_wp2_with fail
  refine (request_any 3 kd rq wd nm lrq lwd lnm (.slice pa ss.length pc) lim ss ua uc cs rf ty fr sh gd w1 (hsp.below g1.below) hfs (hsu.below g1.below)).mono ?_
  rw [HVL.out, HVE.out]
  rintro _ w2 ⟨rfl, b2⟩
  have g2 := g1.next b2
  clear p0 p1 p2 p3 p4 p5 p6 p7 p8 p9 p10 p11
  go_wp2_with fail
  generalize grownCap w2 (2 + (4 + n)) 0 5 = cap
  have hcells : ∀ j (hj : j < S.length), (w2.alloc (.cells (bytesRow ⟨S.toArray⟩ cap) 5 ((bytesRow ⟨S.toArray⟩ cap).size, (bytesRow ⟨S.toArray⟩ cap).size + 1))).drew.cell? ⟨w2.heap.size, j, none⟩ = some (byteV S[j]) := fun j hj => by
    show (w2.alloc (.cells _ _ _)).cell? _ = _
    rw [World.cell?_alloc_mark, bytesRow_at _ _ j (by simpa using hj)]; rfl
  have hfz : ∀ j, j < S.length → (w2.alloc (.cells (bytesRow ⟨S.toArray⟩ cap) 5 ((bytesRow ⟨S.toArray⟩ cap).size, (bytesRow ⟨S.toArray⟩ cap).size + 1))).drew.frozen? ⟨w2.heap.size, j, none⟩ = false := fun j hj => by
    show (w2.alloc (.cells _ _ _)).frozen? _ = _
    rw [World.frozen?_alloc_mark]
    have : ¬ (bytesRow ⟨S.toArray⟩ cap).size ≤ j := by unfold bytesRow; simp; omega
    simp [this]
  have hb3 : Below w2.heap.size w2 (w2.alloc (.cells (bytesRow ⟨S.toArray⟩ cap) 5 ((bytesRow ⟨S.toArray⟩ cap).size, (bytesRow ⟨S.toArray⟩ cap).size + 1))).drew := below_to_drew ((Below.refl _ w2).alloc (Nat.le_refl _) _)
  obtain ⟨w3, hw3⟩ : ∃ w3, w3 = (w2.alloc (.cells (bytesRow ⟨S.toArray⟩ cap) 5 ((bytesRow ⟨S.toArray⟩ cap).size, (bytesRow ⟨S.toArray⟩ cap).size + 1))).drew := ⟨_, rfl⟩
  rw [← hw3] at hcells hfz hb3 ⊢
  clear hw3
  have hcell : w3.cell? ⟨w2.heap.size, 2 + q / 8, none⟩ = some (.int .u8 ((S[2 + q / 8]).toNat : Int)) := hcells (2 + q / 8) hpl'
  have hfr := hfz (2 + q / 8) hpl'
  have HCS := hid hcells
  clear hcells hfz
  have i1 : ((2 : Int) + (q : Int) / 8).toNat = 2 + q / 8 := by omega
  have i2 : (0 : Int) ≤ (2 : Int) + (q : Int) / 8 := by omega
  have i3 : (2 : Int) + (q : Int) / 8 < ((2 + (4 + n) : Nat) : Int) := by omega
  have i4 : (0 : Int) ≤ (q : Int) % 8 := by omega
  have i5 : (q : Int) % 8 ≤ 8 := by omega
  have hxor : bits .xor .u8 ((S[2 + q / 8]).toNat : Int) (2 ^ (q % 8) % 256) = (c.toNat : Int) := by
    have hk : (2 : Nat) ^ (q % 8) < 256 := Nat.pow_lt_pow_right (n := 8) (by omega) (by omega)
    have e1 : (2 : Int) ^ (q % 8) % 256 = ((2 ^ (q % 8) : Nat) : Int) := by
      have e2 : ((2 ^ (q % 8) : Nat) : Int) = (2 : Int) ^ (q % 8) := Int.natCast_pow ..
      rw [← e2]
      clear e2
      generalize (2 : Nat) ^ (q % 8) = v at hk ⊢
      omega
    have hx := UInt8.toNat_lt (S[2 + q / 8])
    rw [e1, u8_xor_nat _ _ (by omega) hk, HCC.out, UInt8.toNat_ofNat', Nat.mod_eq_of_lt (Nat.xor_lt_two_pow (n := 8) (by omega) (by omega))]
  go_region
  have hb4 : Below w2.heap.size w2 (w3.setCell ⟨w2.heap.size, 2 + q / 8, none⟩ (.int .u8 (c.toNat : Int))).drew := below_to_drew (hb3.setCell (Nat.le_refl _) _)
  have hback := turned_back w3 w2.heap.size _ c S hpl' (2 + (4 + n)) cap hlen'.symm HCS.out
  have hl' : (S.set (2 + q / 8) c).length = 2 + (4 + n) := by simp [hlen']
  clear hcell hfr hxor HCS hcv
  generalize (w3.setCell ⟨w2.heap.size, 2 + q / 8, none⟩ (.int .u8 (c.toNat : Int))).drew = w4 at hb4 hback ⊢
  have HNT2 := hid HNT.out
  clear HNT HCC HN0
  generalize S.set (2 + q / 8) c = TT at hback hl' HNT2
  go_wp2_with fail
  refine (requested_any TT (by omega) w4).mono ?_
  rintro _ w5 ⟨id, q9, v, u, er, rfl, hv, hu, b5, hres⟩
  rcases hres with ⟨rfl, hP, hl⟩ | ⟨rfl, rfl, rfl, rfl, rfl, hno⟩
  case inl =>
    have h1 := next_wrap (encRq id q9) [] (by have := encRq_len hP; omega)
    rw [List.append_nil, ← hl, HNT2.out] at h1
    simp at h1
  have her : erF TT = 21 := by unfold erF; rw [HNT2.out]; decide
  rw [her]
  clear her hno HNT2 hback
  rw [show rqVal rq0 (.slice none 0 0) (.slice none 0 0) = .agg #[.int .i64 0, .string ⟨#[]⟩, .string ⟨#[]⟩, .string ⟨#[]⟩, .slice none 0 0, .int .i64 0, .slice none 0 0, .int .i64 0, .int .i64 0, .int .i64 0, .int .i64 0, .bool false] from rfl]
  have m0 := H12.new w5 27 (.int .i64 0) (.string ⟨#[]⟩) (.string ⟨#[]⟩) (.string ⟨#[]⟩) (.slice none 0 0) (.int .i64 0) (.slice none 0 0) (.int .i64 0) (.int .i64 0) (.int .i64 0) (.int .i64 0) (.bool false)
  obtain ⟨V, hV⟩ : ∃ V, V = w5.alloc (.cells #[.int .i64 0, .string ⟨#[]⟩, .string ⟨#[]⟩, .string ⟨#[]⟩, .slice none 0 0, .int .i64 0, .slice none 0 0, .int .i64 0, .int .i64 0, .int .i64 0, .int .i64 0, .bool false] 27) := ⟨_, rfl⟩
  have HV := hid hV
  rw [← hV] at m0
  have hbV := bnext (bnext (bnext g2.below hb4) b5) m0.below
  clear hV
  obtain ⟨r0, r1, r2, r3, r4, r5, r6, r7, r8, r9, r10, r11, _, _⟩ := m0
  rw [HV.out] at r0 r1 r2 r3 r4 r5 r6 r7 r8 r9 r10 r11
  go_wp2_with fail
  rw [← HV.out]
  clear r0 r1 r2 r3 r4 r5 r6 r7 r8 r9 r10 r11
  refine (qsame_any 0 [] [] [] (by simp) (by simp) (by simp) (.slice none 0 0) (.slice none 0 0) 0 [] none none 0 0 [] 0 0 0 0 false V (Sl.none _ _) (Sl.none _ _) (Sl.none _ _) (Sl.none _ _)).mono ?_
  rintro _ w6 ⟨rfl, b6⟩
  have hbf := bnext hbV b6
  go_wp2_with fail
  go_ret
  exact ⟨rfl, hbf⟩
theorem wireTurned_walk (kd : Int) (rq wd nm : List UInt8) (lrq : rq.length ≤ 140737488355328) (lwd : wd.length ≤ 140737488355328) (lnm : nm.length ≤ 140737488355328) (pa : Option Addr) (pc : Nat) (ss : List St) (lim : Int) (ua : Option Addr) (uc : Nat) (cs : List Cm) (rf ty fr sh : Int) (gd : Bool) (bit : Int) (w : World)
    (hsp : Sl w (.slice pa ss.length pc) 6 ss.length (ss.flatMap stC)) (hfs : Fit ss) (hsu : Sl w (.slice ua cs.length uc) 3 cs.length (cs.flatMap cmc)) :
    Calls Try.prog 4 #[.agg #[.int .i64 kd, .string ⟨rq.toArray⟩, .string ⟨wd.toArray⟩, .string ⟨nm.toArray⟩, .slice pa ss.length pc, .int .i64 lim, .slice ua cs.length uc, .int .i64 rf, .int .i64 ty, .int .i64 fr, .int .i64 sh, .bool gd], .int .i64 bit] w fun e w' => e = .returned (.bool true) ∧ Below w.heap.size w w' := by
  by_cases hP : RqP 3 ⟨kd, rq, wd, nm, ss, lim, cs, rf, ty, fr, sh, gd⟩
  case neg => exact turned_no kd rq wd nm lrq lwd lnm pa pc ss lim ua uc cs rf ty fr sh gd bit w hsp hfs hsu hP
  have hln := encRq_len hP
  have hyes := rqV_yes hP
  generalize encRq 3 ⟨kd, rq, wd, nm, ss, lim, cs, rf, ty, fr, sh, gd⟩ = L at hln hyes
  by_cases h1 : L.length < 128
  · have hpl : putL L.length = [last7 L.length] := putL_lt h1
    have hlen : (wrapL L).length = 1 + (4 + L.length) := by unfold wrapL; rw [hpl, List.length_append, List.length_append, fourL_len]; rfl
    have h0 : (wrapL L)[0]? = some (last7 L.length) := by unfold wrapL; rw [hpl]; rfl
    refine turned_1 kd rq wd nm lrq lwd lnm pa pc ss lim ua uc cs rf ty fr sh gd bit w hsp hfs hsu (wrapL L) L.length hln hlen ?_ (hid hyes.1) (hid hyes.2) (hid fun q hq hp c hc => next_turned L (by omega) q hq _ (by rw [hpl]; rfl) hp c hc)
    rw [List.getElem?_eq_getElem (by omega)] at h0
    injection h0 with h0
    rw [h0]
    unfold last7
    rw [UInt8.toNat_ofNat']; omega
  · have hpl : putL L.length = [more7 L.length, last7 (L.length / 128)] := by rw [putL_ge h1, putL_lt (by omega)]
    have hlen : (wrapL L).length = 2 + (4 + L.length) := by unfold wrapL; rw [hpl, List.length_append, List.length_append, fourL_len]; rfl
    have h0 : (wrapL L)[0]? = some (more7 L.length) := by unfold wrapL; rw [hpl]; rfl
    refine turned_2 kd rq wd nm lrq lwd lnm pa pc ss lim ua uc cs rf ty fr sh gd bit w hsp hfs hsu (wrapL L) L.length hln hlen ?_ (hid hyes.1) (hid hyes.2) (hid fun q hq hp c hc => next_turned L (by omega) q hq _ (by rw [hpl]; rfl) hp c hc)
    rw [List.getElem?_eq_getElem (by omega)] at h0
    injection h0 with h0
    rw [h0]
    unfold more7
    rw [UInt8.toNat_ofNat']; omega
theorem wireTurned_w (v : Value) (kd : Int) (rq wd nm : List UInt8) (pa : Option Addr) (pc : Nat) (ss : List St) (lim : Int) (ua : Option Addr) (uc : Nat) (cs : List Cm) (rf ty fr sh : Int) (gd : Bool) (bit : Int) {B : Prop} (_ : B) (w : World)
    (e : v = .agg #[.int .i64 kd, .string ⟨rq.toArray⟩, .string ⟨wd.toArray⟩, .string ⟨nm.toArray⟩, .slice pa ss.length pc, .int .i64 lim, .slice ua cs.length uc, .int .i64 rf, .int .i64 ty, .int .i64 fr, .int .i64 sh, .bool gd]) (l : rq.length ≤ 140737488351232 ∧ wd.length ≤ 140737488351232 ∧ nm.length ≤ 140737488351232) (hsp : Sl w (.slice pa ss.length pc) 6 ss.length (ss.flatMap stC)) (hfs : Fit ss) (hsu : Sl w (.slice ua cs.length uc) 3 cs.length (cs.flatMap cmc)) :
    Calls Try.prog 4 #[v, .int .i64 bit] w fun e w' => e = .returned (.bool true) ∧ Below w.heap.size w w' := by
  rw [e]
  exact wireTurned_walk kd rq wd nm (by omega) (by omega) (by omega) pa pc ss lim ua uc cs rf ty fr sh gd bit w hsp hfs hsu
end Go.Proofs.Ytelacmchofehcaa
