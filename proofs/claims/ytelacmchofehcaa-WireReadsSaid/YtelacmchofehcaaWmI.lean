/- CONTRACT, part: the reference's Request, the ways that end ahead of the program's bytes. CONTRACT: the reference's Request. CONTRACT: the reference's Reply. THE WALK of WireSends. -/
import Derived.Test.YtelacmchofehcaaWmH
import Derived.Test.YtelacmchofehcaaWmJ
import Derived.Test.YtelacmchofehcaaPgmREnc
import Derived.Deep.RegionHeld3
import Derived.Test.YtelacmchofehcaaRowTask
namespace Go.Proofs.Ytelacmchofehcaa
open Go.RowKit
set_option linter.unusedVariables false
set_option linter.unusedSimpArgs false

set_option maxHeartbeats 1600000 in
set_option maxRecDepth 100000 in
theorem rrq_no0 (id kd : Int) (rq wd nm : List UInt8) (hrq : rq.length ≤ 140737488355328) (hwd : wd.length ≤ 140737488355328) (hnm : nm.length ≤ 140737488355328) (v : Value) (lim : Int) (ua : Option Addr) (un uc : Nat) (rf ty fr sh : Int) (gd : Bool) (hun : un ≤ 9223372036854775807) (e0 : ¬ (0 ≤ id ∧ id ≤ 2147483647)) (w : World) :
    Calls Try.prog 15 #[.int .i64 id, .agg #[.int .i64 kd, .string ⟨rq.toArray⟩, .string ⟨wd.toArray⟩, .string ⟨nm.toArray⟩, v, .int .i64 lim, .slice ua un uc, .int .i64 rf, .int .i64 ty, .int .i64 fr, .int .i64 sh, .bool gd]] w fun e w' => e = .returned (.tuple #[.string ⟨#[]⟩, .int .i64 1]) ∧ Below w.heap.size w w' := by
  have h0 := H12.new w 27 (.int .i64 kd) (.string ⟨rq.toArray⟩) (.string ⟨wd.toArray⟩) (.string ⟨nm.toArray⟩) (v) (.int .i64 lim) (.slice ua un uc) (.int .i64 rf) (.int .i64 ty) (.int .i64 fr) (.int .i64 sh) (.bool gd)
  obtain ⟨W, hW⟩ : ∃ W, W = w.alloc (.cells #[.int .i64 kd, .string ⟨rq.toArray⟩, .string ⟨wd.toArray⟩, .string ⟨nm.toArray⟩, v, .int .i64 lim, .slice ua un uc, .int .i64 rf, .int .i64 ty, .int .i64 fr, .int .i64 sh, .bool gd] 27) := ⟨_, rfl⟩
  rw [← hW] at h0
  have HX := hid hW
  clear hW
  have h0' := h0
  obtain ⟨p0, p1, p2, p3, p4, p5, p6, p7, p8, p9, p10, p11, _, _⟩ := h0'
  go_enter Try.func15, Try.ntmps15
  go_wp2_with fail
  rw [← HX.out]
  refine (win_any id 2147483647 W).mono ?_
  rintro _ wz ⟨rfl, hwz⟩
  rw [hwz, decide_eq_false e0]
  clear hwz wz
  go_wp2_with fail
  go_ret2
  exact ⟨rfl, h0.below⟩
set_option maxHeartbeats 1600000 in
set_option maxRecDepth 100000 in
theorem rrq_no1 (id kd : Int) (rq wd nm : List UInt8) (hrq : rq.length ≤ 140737488355328) (hwd : wd.length ≤ 140737488355328) (hnm : nm.length ≤ 140737488355328) (v : Value) (lim : Int) (ua : Option Addr) (un uc : Nat) (rf ty fr sh : Int) (gd : Bool) (hun : un ≤ 9223372036854775807) (e0 : 0 ≤ id ∧ id ≤ 2147483647) (e1 : ¬ (1 ≤ kd)) (w : World) :
    Calls Try.prog 15 #[.int .i64 id, .agg #[.int .i64 kd, .string ⟨rq.toArray⟩, .string ⟨wd.toArray⟩, .string ⟨nm.toArray⟩, v, .int .i64 lim, .slice ua un uc, .int .i64 rf, .int .i64 ty, .int .i64 fr, .int .i64 sh, .bool gd]] w fun e w' => e = .returned (.tuple #[.string ⟨#[]⟩, .int .i64 1]) ∧ Below w.heap.size w w' := by
  have h0 := H12.new w 27 (.int .i64 kd) (.string ⟨rq.toArray⟩) (.string ⟨wd.toArray⟩) (.string ⟨nm.toArray⟩) (v) (.int .i64 lim) (.slice ua un uc) (.int .i64 rf) (.int .i64 ty) (.int .i64 fr) (.int .i64 sh) (.bool gd)
  obtain ⟨W, hW⟩ : ∃ W, W = w.alloc (.cells #[.int .i64 kd, .string ⟨rq.toArray⟩, .string ⟨wd.toArray⟩, .string ⟨nm.toArray⟩, v, .int .i64 lim, .slice ua un uc, .int .i64 rf, .int .i64 ty, .int .i64 fr, .int .i64 sh, .bool gd] 27) := ⟨_, rfl⟩
  rw [← hW] at h0
  have HX := hid hW
  clear hW
  have h0' := h0
  obtain ⟨p0, p1, p2, p3, p4, p5, p6, p7, p8, p9, p10, p11, _, _⟩ := h0'
  go_enter Try.func15, Try.ntmps15
  go_wp2_with fail
  rw [← HX.out]
  refine (win_any id 2147483647 W).mono ?_
  rintro _ wz ⟨rfl, hwz⟩
  rw [hwz, decide_eq_true e0]
  clear hwz wz
  go_wp2_with fail
  go_ret2
  exact ⟨rfl, h0.below⟩
set_option maxHeartbeats 1600000 in
set_option maxRecDepth 100000 in
theorem rrq_no2 (id kd : Int) (rq wd nm : List UInt8) (hrq : rq.length ≤ 140737488355328) (hwd : wd.length ≤ 140737488355328) (hnm : nm.length ≤ 140737488355328) (v : Value) (lim : Int) (ua : Option Addr) (un uc : Nat) (rf ty fr sh : Int) (gd : Bool) (hun : un ≤ 9223372036854775807) (e0 : 0 ≤ id ∧ id ≤ 2147483647) (e1 : 1 ≤ kd) (e2 : ¬ (kd ≤ 11)) (w : World) :
    Calls Try.prog 15 #[.int .i64 id, .agg #[.int .i64 kd, .string ⟨rq.toArray⟩, .string ⟨wd.toArray⟩, .string ⟨nm.toArray⟩, v, .int .i64 lim, .slice ua un uc, .int .i64 rf, .int .i64 ty, .int .i64 fr, .int .i64 sh, .bool gd]] w fun e w' => e = .returned (.tuple #[.string ⟨#[]⟩, .int .i64 1]) ∧ Below w.heap.size w w' := by
  have h0 := H12.new w 27 (.int .i64 kd) (.string ⟨rq.toArray⟩) (.string ⟨wd.toArray⟩) (.string ⟨nm.toArray⟩) (v) (.int .i64 lim) (.slice ua un uc) (.int .i64 rf) (.int .i64 ty) (.int .i64 fr) (.int .i64 sh) (.bool gd)
  obtain ⟨W, hW⟩ : ∃ W, W = w.alloc (.cells #[.int .i64 kd, .string ⟨rq.toArray⟩, .string ⟨wd.toArray⟩, .string ⟨nm.toArray⟩, v, .int .i64 lim, .slice ua un uc, .int .i64 rf, .int .i64 ty, .int .i64 fr, .int .i64 sh, .bool gd] 27) := ⟨_, rfl⟩
  rw [← hW] at h0
  have HX := hid hW
  clear hW
  have h0' := h0
  obtain ⟨p0, p1, p2, p3, p4, p5, p6, p7, p8, p9, p10, p11, _, _⟩ := h0'
  go_enter Try.func15, Try.ntmps15
  go_wp2_with fail
  rw [← HX.out]
  refine (win_any id 2147483647 W).mono ?_
  rintro _ wz ⟨rfl, hwz⟩
  rw [hwz, decide_eq_true e0]
  clear hwz wz
  go_wp2_with fail
  go_ret2
  exact ⟨rfl, h0.below⟩
set_option maxHeartbeats 1600000 in
set_option maxRecDepth 100000 in
theorem rrq_no3 (id kd : Int) (rq wd nm : List UInt8) (hrq : rq.length ≤ 140737488355328) (hwd : wd.length ≤ 140737488355328) (hnm : nm.length ≤ 140737488355328) (v : Value) (lim : Int) (ua : Option Addr) (un uc : Nat) (rf ty fr sh : Int) (gd : Bool) (hun : un ≤ 9223372036854775807) (e0 : 0 ≤ id ∧ id ≤ 2147483647) (e1 : 1 ≤ kd) (e2 : kd ≤ 11) (e3 : ¬ (rq.length ≤ 16)) (w : World) :
    Calls Try.prog 15 #[.int .i64 id, .agg #[.int .i64 kd, .string ⟨rq.toArray⟩, .string ⟨wd.toArray⟩, .string ⟨nm.toArray⟩, v, .int .i64 lim, .slice ua un uc, .int .i64 rf, .int .i64 ty, .int .i64 fr, .int .i64 sh, .bool gd]] w fun e w' => e = .returned (.tuple #[.string ⟨#[]⟩, .int .i64 1]) ∧ Below w.heap.size w w' := by
  have h0 := H12.new w 27 (.int .i64 kd) (.string ⟨rq.toArray⟩) (.string ⟨wd.toArray⟩) (.string ⟨nm.toArray⟩) (v) (.int .i64 lim) (.slice ua un uc) (.int .i64 rf) (.int .i64 ty) (.int .i64 fr) (.int .i64 sh) (.bool gd)
  obtain ⟨W, hW⟩ : ∃ W, W = w.alloc (.cells #[.int .i64 kd, .string ⟨rq.toArray⟩, .string ⟨wd.toArray⟩, .string ⟨nm.toArray⟩, v, .int .i64 lim, .slice ua un uc, .int .i64 rf, .int .i64 ty, .int .i64 fr, .int .i64 sh, .bool gd] 27) := ⟨_, rfl⟩
  rw [← hW] at h0
  have HX := hid hW
  clear hW
  have h0' := h0
  obtain ⟨p0, p1, p2, p3, p4, p5, p6, p7, p8, p9, p10, p11, _, _⟩ := h0'
  go_enter Try.func15, Try.ntmps15
  go_wp2_with fail
  rw [← HX.out]
  refine (win_any id 2147483647 W).mono ?_
  rintro _ wz ⟨rfl, hwz⟩
  rw [hwz, decide_eq_true e0]
  clear hwz wz
  go_wp2_with fail
  go_ret2
  exact ⟨rfl, h0.below⟩
set_option maxHeartbeats 1600000 in
set_option maxRecDepth 100000 in
theorem rrq_no4 (id kd : Int) (rq wd nm : List UInt8) (hrq : rq.length ≤ 140737488355328) (hwd : wd.length ≤ 140737488355328) (hnm : nm.length ≤ 140737488355328) (v : Value) (lim : Int) (ua : Option Addr) (un uc : Nat) (rf ty fr sh : Int) (gd : Bool) (hun : un ≤ 9223372036854775807) (e0 : 0 ≤ id ∧ id ≤ 2147483647) (e1 : 1 ≤ kd) (e2 : kd ≤ 11) (e3 : rq.length ≤ 16) (e4 : ¬ (wd.length ≤ 16)) (w : World) :
    Calls Try.prog 15 #[.int .i64 id, .agg #[.int .i64 kd, .string ⟨rq.toArray⟩, .string ⟨wd.toArray⟩, .string ⟨nm.toArray⟩, v, .int .i64 lim, .slice ua un uc, .int .i64 rf, .int .i64 ty, .int .i64 fr, .int .i64 sh, .bool gd]] w fun e w' => e = .returned (.tuple #[.string ⟨#[]⟩, .int .i64 1]) ∧ Below w.heap.size w w' := by
  have h0 := H12.new w 27 (.int .i64 kd) (.string ⟨rq.toArray⟩) (.string ⟨wd.toArray⟩) (.string ⟨nm.toArray⟩) (v) (.int .i64 lim) (.slice ua un uc) (.int .i64 rf) (.int .i64 ty) (.int .i64 fr) (.int .i64 sh) (.bool gd)
  obtain ⟨W, hW⟩ : ∃ W, W = w.alloc (.cells #[.int .i64 kd, .string ⟨rq.toArray⟩, .string ⟨wd.toArray⟩, .string ⟨nm.toArray⟩, v, .int .i64 lim, .slice ua un uc, .int .i64 rf, .int .i64 ty, .int .i64 fr, .int .i64 sh, .bool gd] 27) := ⟨_, rfl⟩
  rw [← hW] at h0
  have HX := hid hW
  clear hW
  have h0' := h0
  obtain ⟨p0, p1, p2, p3, p4, p5, p6, p7, p8, p9, p10, p11, _, _⟩ := h0'
  go_enter Try.func15, Try.ntmps15
  go_wp2_with fail
  rw [← HX.out]
  refine (win_any id 2147483647 W).mono ?_
  rintro _ wz ⟨rfl, hwz⟩
  rw [hwz, decide_eq_true e0]
  clear hwz wz
  go_wp2_with fail
  go_ret2
  exact ⟨rfl, h0.below⟩
set_option maxHeartbeats 1600000 in
set_option maxRecDepth 100000 in
theorem rrq_no5 (id kd : Int) (rq wd nm : List UInt8) (hrq : rq.length ≤ 140737488355328) (hwd : wd.length ≤ 140737488355328) (hnm : nm.length ≤ 140737488355328) (v : Value) (lim : Int) (ua : Option Addr) (un uc : Nat) (rf ty fr sh : Int) (gd : Bool) (hun : un ≤ 9223372036854775807) (e0 : 0 ≤ id ∧ id ≤ 2147483647) (e1 : 1 ≤ kd) (e2 : kd ≤ 11) (e3 : rq.length ≤ 16) (e4 : wd.length ≤ 16) (e5 : ¬ (nm.length ≤ 16)) (w : World) :
    Calls Try.prog 15 #[.int .i64 id, .agg #[.int .i64 kd, .string ⟨rq.toArray⟩, .string ⟨wd.toArray⟩, .string ⟨nm.toArray⟩, v, .int .i64 lim, .slice ua un uc, .int .i64 rf, .int .i64 ty, .int .i64 fr, .int .i64 sh, .bool gd]] w fun e w' => e = .returned (.tuple #[.string ⟨#[]⟩, .int .i64 1]) ∧ Below w.heap.size w w' := by
  have h0 := H12.new w 27 (.int .i64 kd) (.string ⟨rq.toArray⟩) (.string ⟨wd.toArray⟩) (.string ⟨nm.toArray⟩) (v) (.int .i64 lim) (.slice ua un uc) (.int .i64 rf) (.int .i64 ty) (.int .i64 fr) (.int .i64 sh) (.bool gd)
  obtain ⟨W, hW⟩ : ∃ W, W = w.alloc (.cells #[.int .i64 kd, .string ⟨rq.toArray⟩, .string ⟨wd.toArray⟩, .string ⟨nm.toArray⟩, v, .int .i64 lim, .slice ua un uc, .int .i64 rf, .int .i64 ty, .int .i64 fr, .int .i64 sh, .bool gd] 27) := ⟨_, rfl⟩
  rw [← hW] at h0
  have HX := hid hW
  clear hW
  have h0' := h0
  obtain ⟨p0, p1, p2, p3, p4, p5, p6, p7, p8, p9, p10, p11, _, _⟩ := h0'
  go_enter Try.func15, Try.ntmps15
  go_wp2_with fail
  rw [← HX.out]
  refine (win_any id 2147483647 W).mono ?_
  rintro _ wz ⟨rfl, hwz⟩
  rw [hwz, decide_eq_true e0]
  clear hwz wz
  go_wp2_with fail
  go_ret2
  exact ⟨rfl, h0.below⟩
set_option maxHeartbeats 1600000 in
set_option maxRecDepth 100000 in
theorem rrq_no6 (id kd : Int) (rq wd nm : List UInt8) (hrq : rq.length ≤ 140737488355328) (hwd : wd.length ≤ 140737488355328) (hnm : nm.length ≤ 140737488355328) (v : Value) (lim : Int) (ua : Option Addr) (un uc : Nat) (rf ty fr sh : Int) (gd : Bool) (hun : un ≤ 9223372036854775807) (e0 : 0 ≤ id ∧ id ≤ 2147483647) (e1 : 1 ≤ kd) (e2 : kd ≤ 11) (e3 : rq.length ≤ 16) (e4 : wd.length ≤ 16) (e5 : nm.length ≤ 16) (e6 : ¬ (0 ≤ rf ∧ rf ≤ 501)) (w : World) :
    Calls Try.prog 15 #[.int .i64 id, .agg #[.int .i64 kd, .string ⟨rq.toArray⟩, .string ⟨wd.toArray⟩, .string ⟨nm.toArray⟩, v, .int .i64 lim, .slice ua un uc, .int .i64 rf, .int .i64 ty, .int .i64 fr, .int .i64 sh, .bool gd]] w fun e w' => e = .returned (.tuple #[.string ⟨#[]⟩, .int .i64 1]) ∧ Below w.heap.size w w' := by
  have h0 := H12.new w 27 (.int .i64 kd) (.string ⟨rq.toArray⟩) (.string ⟨wd.toArray⟩) (.string ⟨nm.toArray⟩) (v) (.int .i64 lim) (.slice ua un uc) (.int .i64 rf) (.int .i64 ty) (.int .i64 fr) (.int .i64 sh) (.bool gd)
  obtain ⟨W, hW⟩ : ∃ W, W = w.alloc (.cells #[.int .i64 kd, .string ⟨rq.toArray⟩, .string ⟨wd.toArray⟩, .string ⟨nm.toArray⟩, v, .int .i64 lim, .slice ua un uc, .int .i64 rf, .int .i64 ty, .int .i64 fr, .int .i64 sh, .bool gd] 27) := ⟨_, rfl⟩
  rw [← hW] at h0
  have HX := hid hW
  clear hW
  have h0' := h0
  obtain ⟨p0, p1, p2, p3, p4, p5, p6, p7, p8, p9, p10, p11, _, _⟩ := h0'
  go_enter Try.func15, Try.ntmps15
  go_wp2_with fail
  rw [← HX.out]
  refine (win_any id 2147483647 W).mono ?_
  rintro _ wz ⟨rfl, hwz⟩
  rw [hwz, decide_eq_true e0]
  clear hwz wz
  go_wp2_with fail
  refine (win_any rf 501 W).mono ?_
  rintro _ wz ⟨rfl, hwz⟩
  rw [hwz, decide_eq_false e6]
  clear hwz wz
  go_wp2_with fail
  go_ret2
  exact ⟨rfl, h0.below⟩
set_option maxHeartbeats 1600000 in
set_option maxRecDepth 100000 in
theorem rrq_no7 (id kd : Int) (rq wd nm : List UInt8) (hrq : rq.length ≤ 140737488355328) (hwd : wd.length ≤ 140737488355328) (hnm : nm.length ≤ 140737488355328) (v : Value) (lim : Int) (ua : Option Addr) (un uc : Nat) (rf ty fr sh : Int) (gd : Bool) (hun : un ≤ 9223372036854775807) (e0 : 0 ≤ id ∧ id ≤ 2147483647) (e1 : 1 ≤ kd) (e2 : kd ≤ 11) (e3 : rq.length ≤ 16) (e4 : wd.length ≤ 16) (e5 : nm.length ≤ 16) (e6 : 0 ≤ rf ∧ rf ≤ 501) (e7 : ¬ (0 ≤ ty ∧ ty ≤ 501)) (w : World) :
    Calls Try.prog 15 #[.int .i64 id, .agg #[.int .i64 kd, .string ⟨rq.toArray⟩, .string ⟨wd.toArray⟩, .string ⟨nm.toArray⟩, v, .int .i64 lim, .slice ua un uc, .int .i64 rf, .int .i64 ty, .int .i64 fr, .int .i64 sh, .bool gd]] w fun e w' => e = .returned (.tuple #[.string ⟨#[]⟩, .int .i64 1]) ∧ Below w.heap.size w w' := by
  have h0 := H12.new w 27 (.int .i64 kd) (.string ⟨rq.toArray⟩) (.string ⟨wd.toArray⟩) (.string ⟨nm.toArray⟩) (v) (.int .i64 lim) (.slice ua un uc) (.int .i64 rf) (.int .i64 ty) (.int .i64 fr) (.int .i64 sh) (.bool gd)
  obtain ⟨W, hW⟩ : ∃ W, W = w.alloc (.cells #[.int .i64 kd, .string ⟨rq.toArray⟩, .string ⟨wd.toArray⟩, .string ⟨nm.toArray⟩, v, .int .i64 lim, .slice ua un uc, .int .i64 rf, .int .i64 ty, .int .i64 fr, .int .i64 sh, .bool gd] 27) := ⟨_, rfl⟩
  rw [← hW] at h0
  have HX := hid hW
  clear hW
  have h0' := h0
  obtain ⟨p0, p1, p2, p3, p4, p5, p6, p7, p8, p9, p10, p11, _, _⟩ := h0'
  go_enter Try.func15, Try.ntmps15
  go_wp2_with fail
  rw [← HX.out]
  refine (win_any id 2147483647 W).mono ?_
  rintro _ wz ⟨rfl, hwz⟩
  rw [hwz, decide_eq_true e0]
  clear hwz wz
  go_wp2_with fail
  refine (win_any rf 501 W).mono ?_
  rintro _ wz ⟨rfl, hwz⟩
  rw [hwz, decide_eq_true e6]
  clear hwz wz
  go_wp2_with fail
  refine (win_any ty 501 W).mono ?_
  rintro _ wz ⟨rfl, hwz⟩
  rw [hwz, decide_eq_false e7]
  clear hwz wz
  go_wp2_with fail
  go_ret2
  exact ⟨rfl, h0.below⟩
set_option maxHeartbeats 1600000 in
set_option maxRecDepth 100000 in
theorem rrq_no8 (id kd : Int) (rq wd nm : List UInt8) (hrq : rq.length ≤ 140737488355328) (hwd : wd.length ≤ 140737488355328) (hnm : nm.length ≤ 140737488355328) (v : Value) (lim : Int) (ua : Option Addr) (un uc : Nat) (rf ty fr sh : Int) (gd : Bool) (hun : un ≤ 9223372036854775807) (e0 : 0 ≤ id ∧ id ≤ 2147483647) (e1 : 1 ≤ kd) (e2 : kd ≤ 11) (e3 : rq.length ≤ 16) (e4 : wd.length ≤ 16) (e5 : nm.length ≤ 16) (e6 : 0 ≤ rf ∧ rf ≤ 501) (e7 : 0 ≤ ty ∧ ty ≤ 501) (e8 : ¬ (0 ≤ fr ∧ fr ≤ 501)) (w : World) :
    Calls Try.prog 15 #[.int .i64 id, .agg #[.int .i64 kd, .string ⟨rq.toArray⟩, .string ⟨wd.toArray⟩, .string ⟨nm.toArray⟩, v, .int .i64 lim, .slice ua un uc, .int .i64 rf, .int .i64 ty, .int .i64 fr, .int .i64 sh, .bool gd]] w fun e w' => e = .returned (.tuple #[.string ⟨#[]⟩, .int .i64 1]) ∧ Below w.heap.size w w' := by
  have h0 := H12.new w 27 (.int .i64 kd) (.string ⟨rq.toArray⟩) (.string ⟨wd.toArray⟩) (.string ⟨nm.toArray⟩) (v) (.int .i64 lim) (.slice ua un uc) (.int .i64 rf) (.int .i64 ty) (.int .i64 fr) (.int .i64 sh) (.bool gd)
  obtain ⟨W, hW⟩ : ∃ W, W = w.alloc (.cells #[.int .i64 kd, .string ⟨rq.toArray⟩, .string ⟨wd.toArray⟩, .string ⟨nm.toArray⟩, v, .int .i64 lim, .slice ua un uc, .int .i64 rf, .int .i64 ty, .int .i64 fr, .int .i64 sh, .bool gd] 27) := ⟨_, rfl⟩
  rw [← hW] at h0
  have HX := hid hW
  clear hW
  have h0' := h0
  obtain ⟨p0, p1, p2, p3, p4, p5, p6, p7, p8, p9, p10, p11, _, _⟩ := h0'
  go_enter Try.func15, Try.ntmps15
  go_wp2_with fail
  rw [← HX.out]
  refine (win_any id 2147483647 W).mono ?_
  rintro _ wz ⟨rfl, hwz⟩
  rw [hwz, decide_eq_true e0]
  clear hwz wz
  go_wp2_with fail
  refine (win_any rf 501 W).mono ?_
  rintro _ wz ⟨rfl, hwz⟩
  rw [hwz, decide_eq_true e6]
  clear hwz wz
  go_wp2_with fail
  refine (win_any ty 501 W).mono ?_
  rintro _ wz ⟨rfl, hwz⟩
  rw [hwz, decide_eq_true e7]
  clear hwz wz
  go_wp2_with fail
  refine (win_any fr 501 W).mono ?_
  rintro _ wz ⟨rfl, hwz⟩
  rw [hwz, decide_eq_false e8]
  clear hwz wz
  go_wp2_with fail
  go_ret2
  exact ⟨rfl, h0.below⟩
set_option maxHeartbeats 1600000 in
set_option maxRecDepth 100000 in
theorem rrq_no9 (id kd : Int) (rq wd nm : List UInt8) (hrq : rq.length ≤ 140737488355328) (hwd : wd.length ≤ 140737488355328) (hnm : nm.length ≤ 140737488355328) (v : Value) (lim : Int) (ua : Option Addr) (un uc : Nat) (rf ty fr sh : Int) (gd : Bool) (hun : un ≤ 9223372036854775807) (e0 : 0 ≤ id ∧ id ≤ 2147483647) (e1 : 1 ≤ kd) (e2 : kd ≤ 11) (e3 : rq.length ≤ 16) (e4 : wd.length ≤ 16) (e5 : nm.length ≤ 16) (e6 : 0 ≤ rf ∧ rf ≤ 501) (e7 : 0 ≤ ty ∧ ty ≤ 501) (e8 : 0 ≤ fr ∧ fr ≤ 501) (e9 : ¬ (0 ≤ sh ∧ sh ≤ 16)) (w : World) :
    Calls Try.prog 15 #[.int .i64 id, .agg #[.int .i64 kd, .string ⟨rq.toArray⟩, .string ⟨wd.toArray⟩, .string ⟨nm.toArray⟩, v, .int .i64 lim, .slice ua un uc, .int .i64 rf, .int .i64 ty, .int .i64 fr, .int .i64 sh, .bool gd]] w fun e w' => e = .returned (.tuple #[.string ⟨#[]⟩, .int .i64 1]) ∧ Below w.heap.size w w' := by
  have h0 := H12.new w 27 (.int .i64 kd) (.string ⟨rq.toArray⟩) (.string ⟨wd.toArray⟩) (.string ⟨nm.toArray⟩) (v) (.int .i64 lim) (.slice ua un uc) (.int .i64 rf) (.int .i64 ty) (.int .i64 fr) (.int .i64 sh) (.bool gd)
  obtain ⟨W, hW⟩ : ∃ W, W = w.alloc (.cells #[.int .i64 kd, .string ⟨rq.toArray⟩, .string ⟨wd.toArray⟩, .string ⟨nm.toArray⟩, v, .int .i64 lim, .slice ua un uc, .int .i64 rf, .int .i64 ty, .int .i64 fr, .int .i64 sh, .bool gd] 27) := ⟨_, rfl⟩
  rw [← hW] at h0
  have HX := hid hW
  clear hW
  have h0' := h0
  obtain ⟨p0, p1, p2, p3, p4, p5, p6, p7, p8, p9, p10, p11, _, _⟩ := h0'
  go_enter Try.func15, Try.ntmps15
  go_wp2_with fail
  rw [← HX.out]
  refine (win_any id 2147483647 W).mono ?_
  rintro _ wz ⟨rfl, hwz⟩
  rw [hwz, decide_eq_true e0]
  clear hwz wz
  go_wp2_with fail
  refine (win_any rf 501 W).mono ?_
  rintro _ wz ⟨rfl, hwz⟩
  rw [hwz, decide_eq_true e6]
  clear hwz wz
  go_wp2_with fail
  refine (win_any ty 501 W).mono ?_
  rintro _ wz ⟨rfl, hwz⟩
  rw [hwz, decide_eq_true e7]
  clear hwz wz
  go_wp2_with fail
  refine (win_any fr 501 W).mono ?_
  rintro _ wz ⟨rfl, hwz⟩
  rw [hwz, decide_eq_true e8]
  clear hwz wz
  go_wp2_with fail
  refine (win_any sh 16 W).mono ?_
  rintro _ wz ⟨rfl, hwz⟩
  rw [hwz, decide_eq_false e9]
  clear hwz wz
  go_wp2_with fail
  go_ret2
  exact ⟨rfl, h0.below⟩
set_option maxHeartbeats 1600000 in
set_option maxRecDepth 100000 in
theorem rrq_no10 (id kd : Int) (rq wd nm : List UInt8) (hrq : rq.length ≤ 140737488355328) (hwd : wd.length ≤ 140737488355328) (hnm : nm.length ≤ 140737488355328) (v : Value) (lim : Int) (ua : Option Addr) (un uc : Nat) (rf ty fr sh : Int) (gd : Bool) (hun : un ≤ 9223372036854775807) (e0 : 0 ≤ id ∧ id ≤ 2147483647) (e1 : 1 ≤ kd) (e2 : kd ≤ 11) (e3 : rq.length ≤ 16) (e4 : wd.length ≤ 16) (e5 : nm.length ≤ 16) (e6 : 0 ≤ rf ∧ rf ≤ 501) (e7 : 0 ≤ ty ∧ ty ≤ 501) (e8 : 0 ≤ fr ∧ fr ≤ 501) (e9 : 0 ≤ sh ∧ sh ≤ 16) (e10 : ¬ (un ≤ 4)) (w : World) :
    Calls Try.prog 15 #[.int .i64 id, .agg #[.int .i64 kd, .string ⟨rq.toArray⟩, .string ⟨wd.toArray⟩, .string ⟨nm.toArray⟩, v, .int .i64 lim, .slice ua un uc, .int .i64 rf, .int .i64 ty, .int .i64 fr, .int .i64 sh, .bool gd]] w fun e w' => e = .returned (.tuple #[.string ⟨#[]⟩, .int .i64 1]) ∧ Below w.heap.size w w' := by
  have h0 := H12.new w 27 (.int .i64 kd) (.string ⟨rq.toArray⟩) (.string ⟨wd.toArray⟩) (.string ⟨nm.toArray⟩) (v) (.int .i64 lim) (.slice ua un uc) (.int .i64 rf) (.int .i64 ty) (.int .i64 fr) (.int .i64 sh) (.bool gd)
  obtain ⟨W, hW⟩ : ∃ W, W = w.alloc (.cells #[.int .i64 kd, .string ⟨rq.toArray⟩, .string ⟨wd.toArray⟩, .string ⟨nm.toArray⟩, v, .int .i64 lim, .slice ua un uc, .int .i64 rf, .int .i64 ty, .int .i64 fr, .int .i64 sh, .bool gd] 27) := ⟨_, rfl⟩
  rw [← hW] at h0
  have HX := hid hW
  clear hW
  have h0' := h0
  obtain ⟨p0, p1, p2, p3, p4, p5, p6, p7, p8, p9, p10, p11, _, _⟩ := h0'
  go_enter Try.func15, Try.ntmps15
  go_wp2_with fail
  rw [← HX.out]
  refine (win_any id 2147483647 W).mono ?_
  rintro _ wz ⟨rfl, hwz⟩
  rw [hwz, decide_eq_true e0]
  clear hwz wz
  go_wp2_with fail
  refine (win_any rf 501 W).mono ?_
  rintro _ wz ⟨rfl, hwz⟩
  rw [hwz, decide_eq_true e6]
  clear hwz wz
  go_wp2_with fail
  refine (win_any ty 501 W).mono ?_
  rintro _ wz ⟨rfl, hwz⟩
  rw [hwz, decide_eq_true e7]
  clear hwz wz
  go_wp2_with fail
  refine (win_any fr 501 W).mono ?_
  rintro _ wz ⟨rfl, hwz⟩
  rw [hwz, decide_eq_true e8]
  clear hwz wz
  go_wp2_with fail
  refine (win_any sh 16 W).mono ?_
  rintro _ wz ⟨rfl, hwz⟩
  rw [hwz, decide_eq_true e9]
  clear hwz wz
  go_wp2_with fail
  go_ret2
  exact ⟨rfl, h0.below⟩
end Go.Proofs.Ytelacmchofehcaa
namespace Go.Proofs.Ytelacmchofehcaa
open Go.RowKit
set_option linter.unusedVariables false
set_option linter.unusedSimpArgs false

set_option maxHeartbeats 6400000 in
set_option maxRecDepth 100000 in
theorem rrq_prog (id kd : Int) (rq wd nm : List UInt8) (hrq : rq.length ≤ 140737488355328) (hwd : wd.length ≤ 140737488355328) (hnm : nm.length ≤ 140737488355328) (v : Value) (lim : Int) (ss : List St) (ua : Option Addr) (uc : Nat) (cs : List Cm) (rf ty fr sh : Int) (gd : Bool) (e0 : 0 ≤ id ∧ id ≤ 2147483647) (e1 : 1 ≤ kd) (e2 : kd ≤ 11) (e3 : rq.length ≤ 16) (e4 : wd.length ≤ 16) (e5 : nm.length ≤ 16) (e6 : 0 ≤ rf ∧ rf ≤ 501) (e7 : 0 ≤ ty ∧ ty ≤ 501) (e8 : 0 ≤ fr ∧ fr ≤ 501) (e9 : 0 ≤ sh ∧ sh ≤ 16) (e10 : cs.length ≤ 4) (hp : ¬ ProgP lim ss) (w : World) (hs : Sl w v 6 ss.length (ss.flatMap stC)) (hf : Fit ss) (hu : Sl w (.slice ua cs.length uc) 3 cs.length (cs.flatMap cmc)) :
    Calls Try.prog 15 #[.int .i64 id, .agg #[.int .i64 kd, .string ⟨rq.toArray⟩, .string ⟨wd.toArray⟩, .string ⟨nm.toArray⟩, v, .int .i64 lim, .slice ua cs.length uc, .int .i64 rf, .int .i64 ty, .int .i64 fr, .int .i64 sh, .bool gd]] w fun e w' => e = .returned (.tuple #[.string ⟨#[]⟩, .int .i64 130]) ∧ Below w.heap.size w w' := by
  have h0 := H12.new w 27 (.int .i64 kd) (.string ⟨rq.toArray⟩) (.string ⟨wd.toArray⟩) (.string ⟨nm.toArray⟩) (v) (.int .i64 lim) (.slice ua cs.length uc) (.int .i64 rf) (.int .i64 ty) (.int .i64 fr) (.int .i64 sh) (.bool gd)
  obtain ⟨W, hW⟩ : ∃ W, W = w.alloc (.cells #[.int .i64 kd, .string ⟨rq.toArray⟩, .string ⟨wd.toArray⟩, .string ⟨nm.toArray⟩, v, .int .i64 lim, .slice ua cs.length uc, .int .i64 rf, .int .i64 ty, .int .i64 fr, .int .i64 sh, .bool gd] 27) := ⟨_, rfl⟩
  rw [← hW] at h0
  have HX := hid hW
  clear hW
  have h0' := h0
  obtain ⟨p0, p1, p2, p3, p4, p5, p6, p7, p8, p9, p10, p11, _, _⟩ := h0'
  go_enter Try.func15, Try.ntmps15
  go_wp2_with fail
  rw [← HX.out]
  refine (win_any id 2147483647 W).mono ?_
  rintro _ wz ⟨rfl, hwz⟩
  rw [hwz, decide_eq_true e0]
  clear hwz wz
  go_wp2_with fail
  refine (win_any rf 501 W).mono ?_
  rintro _ wz ⟨rfl, hwz⟩
  rw [hwz, decide_eq_true e6]
  clear hwz wz
  go_wp2_with fail
  refine (win_any ty 501 W).mono ?_
  rintro _ wz ⟨rfl, hwz⟩
  rw [hwz, decide_eq_true e7]
  clear hwz wz
  go_wp2_with fail
  refine (win_any fr 501 W).mono ?_
  rintro _ wz ⟨rfl, hwz⟩
  rw [hwz, decide_eq_true e8]
  clear hwz wz
  go_wp2_with fail
  refine (win_any sh 16 W).mono ?_
  rintro _ wz ⟨rfl, hwz⟩
  rw [hwz, decide_eq_true e9]
  clear hwz wz
  go_wp2_with fail
  refine (rencode_any v lim ss W (hs.below h0.below) hf).mono ?_
  rintro _ w1 ⟨rfl, b1⟩
  rw [show encV lim ss = [] by unfold encV; rw [if_neg hp], show chkV lim ss = 130 by unfold chkV; rw [if_neg hp]]
  go_wp2_with fail
  go_ret2
  exact ⟨rfl, (h0.next b1).below⟩
set_option maxHeartbeats 6400000 in
set_option maxRecDepth 100000 in
theorem rrq_go (id kd : Int) (rq wd nm : List UInt8) (hrq : rq.length ≤ 140737488355328) (hwd : wd.length ≤ 140737488355328) (hnm : nm.length ≤ 140737488355328) (v : Value) (lim : Int) (ss : List St) (ua : Option Addr) (uc : Nat) (cs : List Cm) (rf ty fr sh : Int) (gd : Bool) (e0 : 0 ≤ id ∧ id ≤ 2147483647) (e1 : 1 ≤ kd) (e2 : kd ≤ 11) (e3 : rq.length ≤ 16) (e4 : wd.length ≤ 16) (e5 : nm.length ≤ 16) (e6 : 0 ≤ rf ∧ rf ≤ 501) (e7 : 0 ≤ ty ∧ ty ≤ 501) (e8 : 0 ≤ fr ∧ fr ≤ 501) (e9 : 0 ≤ sh ∧ sh ≤ 16) (e10 : cs.length ≤ 4) (hp : ProgP lim ss) {V : List UInt8} {E : Int} (HB : Hid (¬ (∀ c ∈ cs, CmP c) → V = [] ∧ E = 1)) (HG : Hid ((∀ c ∈ cs, CmP c) → V = wrapL (encRq id ⟨kd, rq, wd, nm, ss, lim, cs, rf, ty, fr, sh, gd⟩) ∧ E = 0)) (w : World) (hs : Sl w v 6 ss.length (ss.flatMap stC)) (hf : Fit ss) (hu : Sl w (.slice ua cs.length uc) 3 cs.length (cs.flatMap cmc)) :
    Calls Try.prog 15 #[.int .i64 id, .agg #[.int .i64 kd, .string ⟨rq.toArray⟩, .string ⟨wd.toArray⟩, .string ⟨nm.toArray⟩, v, .int .i64 lim, .slice ua cs.length uc, .int .i64 rf, .int .i64 ty, .int .i64 fr, .int .i64 sh, .bool gd]] w fun e w' => e = .returned (.tuple #[.string ⟨V.toArray⟩, .int .i64 E]) ∧ Below w.heap.size w w' := by
  have h0 := H12.new w 27 (.int .i64 kd) (.string ⟨rq.toArray⟩) (.string ⟨wd.toArray⟩) (.string ⟨nm.toArray⟩) (v) (.int .i64 lim) (.slice ua cs.length uc) (.int .i64 rf) (.int .i64 ty) (.int .i64 fr) (.int .i64 sh) (.bool gd)
  obtain ⟨W, hW⟩ : ∃ W, W = w.alloc (.cells #[.int .i64 kd, .string ⟨rq.toArray⟩, .string ⟨wd.toArray⟩, .string ⟨nm.toArray⟩, v, .int .i64 lim, .slice ua cs.length uc, .int .i64 rf, .int .i64 ty, .int .i64 fr, .int .i64 sh, .bool gd] 27) := ⟨_, rfl⟩
  rw [← hW] at h0
  have HX := hid hW
  clear hW
  have h0' := h0
  obtain ⟨p0, p1, p2, p3, p4, p5, p6, p7, p8, p9, p10, p11, _, _⟩ := h0'
  go_enter Try.func15, Try.ntmps15
  go_wp2_with fail
  rw [← HX.out]
  refine (win_any id 2147483647 W).mono ?_
  rintro _ wz ⟨rfl, hwz⟩
  rw [hwz, decide_eq_true e0]
  clear hwz wz
  go_wp2_with fail
  refine (win_any rf 501 W).mono ?_
  rintro _ wz ⟨rfl, hwz⟩
  rw [hwz, decide_eq_true e6]
  clear hwz wz
  go_wp2_with fail
  refine (win_any ty 501 W).mono ?_
  rintro _ wz ⟨rfl, hwz⟩
  rw [hwz, decide_eq_true e7]
  clear hwz wz
  go_wp2_with fail
  refine (win_any fr 501 W).mono ?_
  rintro _ wz ⟨rfl, hwz⟩
  rw [hwz, decide_eq_true e8]
  clear hwz wz
  go_wp2_with fail
  refine (win_any sh 16 W).mono ?_
  rintro _ wz ⟨rfl, hwz⟩
  rw [hwz, decide_eq_true e9]
  clear hwz wz
  go_wp2_with fail
  refine (rencode_any v lim ss W (hs.below h0.below) hf).mono ?_
  rintro _ w1 ⟨rfl, b1⟩
  rw [show encV lim ss = encP lim ss by unfold encV; rw [if_pos hp], show chkV lim ss = 0 by unfold chkV; rw [if_pos hp]]
  have hpl := encP_len hp
  have HP := hid hp
  clear hp p0 p1 p2 p3 p4 p5 p6 p7 p8 p9 p10 p11
  have h1 := h0.next b1
  have hg := h1.lt
  have hc0 := h1.c0
  have hc1 := h1.c1
  have hc2 := h1.c2
  have hc3 := h1.c3
  generalize hPG : encP lim ss = pg at *
  have l0 := putL_len10' 1 (by decide)
  have l1 : (putL id.toNat).length ≤ 10 := putL_len10 (by unfold U64; omega)
  have l2 := putL_len10' kd.toNat (by omega)
  have l3 := textL_len e3
  have l4 := textL_len e4
  have l5 := textL_len e5
  have l6 : (textL pg).length ≤ 1410 := by
    have := putL_len10' pg.length (by omega)
    unfold textL; rw [List.length_append]; omega
  have f1 := fun w => run_cat (P := Try.prog) w (putL 1) (putL id.toNat) (by (try simp only [List.length_append]); omega)
  have f2 := fun w => run_cat (P := Try.prog) w (putL 1 ++ putL id.toNat) (putL kd.toNat) (by (try simp only [List.length_append]); omega)
  have f3 := fun w => run_cat (P := Try.prog) w (putL 1 ++ (putL id.toNat ++ putL kd.toNat)) (textL rq) (by (try simp only [List.length_append]); omega)
  have f4 := fun w => run_cat (P := Try.prog) w (putL 1 ++ (putL id.toNat ++ (putL kd.toNat ++ textL rq))) (textL wd) (by (try simp only [List.length_append]); omega)
  have f5 := fun w => run_cat (P := Try.prog) w (putL 1 ++ (putL id.toNat ++ (putL kd.toNat ++ (textL rq ++ textL wd)))) (textL nm) (by (try simp only [List.length_append]); omega)
  have f6 := fun w => run_cat (P := Try.prog) w (putL 1 ++ (putL id.toNat ++ (putL kd.toNat ++ (textL rq ++ (textL wd ++ textL nm))))) (textL pg) (by (try simp only [List.length_append]); omega)
  simp only [List.append_assoc] at f2 f3 f4 f5 f6
  have hHd : (putL 1 ++ (putL id.toNat ++ (putL kd.toNat ++ (textL rq ++ (textL wd ++ (textL nm ++ textL pg)))))).length ≤ 1600 := by simp only [List.length_append]; omega
  clear l0 l1 l2 l3 l4 l5 l6
  have hkeep : ∀ w' w'' : World, (Below w1.heap.size w1 w' ∧ w'.cell? ⟨w.heap.size, 0, none⟩ = some (.int .i64 kd) ∧ w'.cell? ⟨w.heap.size, 1, none⟩ = some (.string ⟨rq.toArray⟩) ∧ w'.cell? ⟨w.heap.size, 2, none⟩ = some (.string ⟨wd.toArray⟩) ∧ w'.cell? ⟨w.heap.size, 3, none⟩ = some (.string ⟨nm.toArray⟩)) → Below w'.heap.size w' w'' → (Below w1.heap.size w1 w'' ∧ w''.cell? ⟨w.heap.size, 0, none⟩ = some (.int .i64 kd) ∧ w''.cell? ⟨w.heap.size, 1, none⟩ = some (.string ⟨rq.toArray⟩) ∧ w''.cell? ⟨w.heap.size, 2, none⟩ = some (.string ⟨wd.toArray⟩) ∧ w''.cell? ⟨w.heap.size, 3, none⟩ = some (.string ⟨nm.toArray⟩)) := fun w' w'' h k => by
    have hb := bnext h.1 k
    exact ⟨hb, (hb.cell hg).trans hc0, (hb.cell hg).trans hc1, (hb.cell hg).trans hc2, (hb.cell hg).trans hc3⟩
  go_wp2_with fail
  go_region_held3 (fun w' => Below w1.heap.size w1 w' ∧ w'.cell? ⟨w.heap.size, 0, none⟩ = some (.int .i64 kd) ∧ w'.cell? ⟨w.heap.size, 1, none⟩ = some (.string ⟨rq.toArray⟩) ∧ w'.cell? ⟨w.heap.size, 2, none⟩ = some (.string ⟨wd.toArray⟩) ∧ w'.cell? ⟨w.heap.size, 3, none⟩ = some (.string ⟨nm.toArray⟩)) (first | exact hS | exact ⟨Below.refl _ _, hc0, hc1, hc2, hc3⟩ | exact ⟨below_drewN _ _ 1, hc0, hc1, hc2, hc3⟩)
    ((first | (go_at_call 38; refine (rint_w _ (by omega) _).mono ?_; rintro _ wz ⟨rfl, hbz⟩; (try simp only [Int.toNat_one, Int.toNat_natCast]); have hS := hkeep _ _ (by assumption) hbz) | (go_at_call 39; refine (rtext_any _ (by omega) _).mono ?_; rintro _ wz ⟨rfl, hbz⟩; have hS := hkeep _ _ (by assumption) hbz)))
  have h2 := h1.next hS.1
  clear f1 f2 f3 f4 f5 f6 hkeep hc0 hc1 hc2 hc3 hg
  generalize hHD : putL 1 ++ (putL id.toNat ++ (putL kd.toNat ++ (textL rq ++ (textL wd ++ (textL nm ++ textL pg))))) = S1 at *
  generalize wz = wy at *
  have hg := h2.lt
  have hc6 := h2.c6
  have hc7 := h2.c7
  have hc8 := h2.c8
  have hc9 := h2.c9
  have hc10 := h2.c10
  have hc11 := h2.c11
  have m1 := putL_len10' rf.toNat (by omega)
  have m2 := putL_len10' ty.toNat (by omega)
  have m3 := putL_len10' fr.toNat (by omega)
  have m4 := putL_len10' sh.toNat (by omega)
  have hud : udN gd ≤ 1 := by unfold udN; split <;> omega
  have m5 := putL_len10' (udN gd) (by omega)
  have m6 := putL_len10' cs.length (by omega)
  have f1 := fun w => run_cat (P := Try.prog) w (putL rf.toNat) (putL ty.toNat) (by (try simp only [List.length_append]); omega)
  have f2 := fun w => run_cat (P := Try.prog) w (putL rf.toNat ++ putL ty.toNat) (putL fr.toNat) (by (try simp only [List.length_append]); omega)
  have f3 := fun w => run_cat (P := Try.prog) w (putL rf.toNat ++ (putL ty.toNat ++ putL fr.toNat)) (putL sh.toNat) (by (try simp only [List.length_append]); omega)
  have f4 := fun w => run_cat (P := Try.prog) w (putL rf.toNat ++ (putL ty.toNat ++ (putL fr.toNat ++ putL sh.toNat))) (putL (udN gd)) (by (try simp only [List.length_append]); omega)
  have f5 := fun w => run_cat (P := Try.prog) w (putL rf.toNat ++ (putL ty.toNat ++ (putL fr.toNat ++ (putL sh.toNat ++ putL (udN gd))))) (putL cs.length) (by (try simp only [List.length_append]); omega)
  simp only [List.append_assoc] at f2 f3 f4 f5
  have f9 := fun w => run_cat (P := Try.prog) w S1 (putL rf.toNat ++ (putL ty.toNat ++ (putL fr.toNat ++ (putL sh.toNat ++ (putL (udN gd) ++ putL cs.length))))) (by simp only [List.length_append]; omega)
  have hS3l : (S1 ++ (putL rf.toNat ++ (putL ty.toNat ++ (putL fr.toNat ++ (putL sh.toNat ++ (putL (udN gd) ++ putL cs.length)))))).length ≤ 1700 := by simp only [List.length_append]; omega
  clear m1 m2 m3 m4 m5 m6
  have hkeep : ∀ w' w'' : World, (Below wy.heap.size wy w' ∧ w'.cell? ⟨w.heap.size, 6, none⟩ = some (.slice ua cs.length uc) ∧ w'.cell? ⟨w.heap.size, 7, none⟩ = some (.int .i64 rf) ∧ w'.cell? ⟨w.heap.size, 8, none⟩ = some (.int .i64 ty) ∧ w'.cell? ⟨w.heap.size, 9, none⟩ = some (.int .i64 fr) ∧ w'.cell? ⟨w.heap.size, 10, none⟩ = some (.int .i64 sh) ∧ w'.cell? ⟨w.heap.size, 11, none⟩ = some (.bool gd)) → Below w'.heap.size w' w'' → (Below wy.heap.size wy w'' ∧ w''.cell? ⟨w.heap.size, 6, none⟩ = some (.slice ua cs.length uc) ∧ w''.cell? ⟨w.heap.size, 7, none⟩ = some (.int .i64 rf) ∧ w''.cell? ⟨w.heap.size, 8, none⟩ = some (.int .i64 ty) ∧ w''.cell? ⟨w.heap.size, 9, none⟩ = some (.int .i64 fr) ∧ w''.cell? ⟨w.heap.size, 10, none⟩ = some (.int .i64 sh) ∧ w''.cell? ⟨w.heap.size, 11, none⟩ = some (.bool gd)) := fun w' w'' h k => by
    have hb := bnext h.1 k
    exact ⟨hb, (hb.cell hg).trans hc6, (hb.cell hg).trans hc7, (hb.cell hg).trans hc8, (hb.cell hg).trans hc9, (hb.cell hg).trans hc10, (hb.cell hg).trans hc11⟩
  go_wp2_with fail
  go_region_held3 (fun w' => Below wy.heap.size wy w' ∧ w'.cell? ⟨w.heap.size, 6, none⟩ = some (.slice ua cs.length uc) ∧ w'.cell? ⟨w.heap.size, 7, none⟩ = some (.int .i64 rf) ∧ w'.cell? ⟨w.heap.size, 8, none⟩ = some (.int .i64 ty) ∧ w'.cell? ⟨w.heap.size, 9, none⟩ = some (.int .i64 fr) ∧ w'.cell? ⟨w.heap.size, 10, none⟩ = some (.int .i64 sh) ∧ w'.cell? ⟨w.heap.size, 11, none⟩ = some (.bool gd)) (first | exact hS | exact ⟨Below.refl _ _, hc6, hc7, hc8, hc9, hc10, hc11⟩ | exact ⟨below_drewN _ _ 1, hc6, hc7, hc8, hc9, hc10, hc11⟩)
    ((first | (go_at_call 38; refine (rint_w _ (by omega) _).mono ?_; rintro _ wz ⟨rfl, hbz⟩; (try simp only [Int.toNat_one, Int.toNat_natCast]); have hS := hkeep _ _ (by assumption) hbz) | (go_at_call 40; refine (wyes_any _ _).mono ?_; rintro _ wz ⟨rfl, hbz⟩; have hS := hkeep _ _ (by assumption) hbz)))
  have h3 := h2.next hS.1
  clear f1 f2 f3 f4 f5 f9 hkeep hc6 hc7 hc8 hc9 hc10 hc11 hg
  generalize hS3 : S1 ++ (putL rf.toNat ++ (putL ty.toNat ++ (putL fr.toNat ++ (putL sh.toNat ++ (putL (udN gd) ++ putL cs.length))))) = S3 at *
  generalize wz = wx at *
  have hu3 := hu.below h3.below
  have hb3 := h3.below
  obtain ⟨_, _, au, cu, hue, hcu⟩ := hu3
  injection hue with hu1 hu2 hu3
  subst hu1
  subst hu3
  have CU := hid hcu
  clear hcu
  have h3' := h3
  obtain ⟨p0, p1, p2, p3, p4, p5, p6, p7, p8, p9, p10, p11, _, _⟩ := h3'
  go_wp2_with fail
  clear p0 p1 p2 p3 p4 p5 p6 p7 p8 p9 p10 p11
  go_loopw [8, 9] (fun s0 i0 wr => ∃ k : Nat, k ≤ cs.length ∧ i0 = .int .i64 k ∧ s0 = .string ⟨(S3 ++ cmK cs k).toArray⟩ ∧ (∀ c ∈ cs.take k, CmP c) ∧ Below wx.heap.size wx wr) (fun _ i0 _ => cs.length - (intOf i0).toNat)
  case atStart => exact ⟨0, Nat.zero_le _, rfl, by rw [show cmK cs 0 = [] from rfl, List.append_nil], (by intro x hx; simp at hx), Below.refl _ _⟩
  case round =>
    obtain ⟨k, hk, rfl, rfl, hall, hb⟩ := hrel
    have hln3 := cmK_len hall e10
    have p6 := (h3.next hb).c6
    by_cases hlt : k < cs.length
    · obtain ⟨b, off, rfl, hblt, hc⟩ := CU.out.resolve_left (by omega)
      have hsucc := cmK_succ cs k hlt
      have c0 : wr.cell? ⟨b, off + k * 3, none⟩ = some (.int .i64 cs[k].1) := (hb.cell (p := ⟨b, off + k * 3 + 0, none⟩) hblt).trans (cm_cell hc k 0 (by decide) hlt _ rfl)
      have c1 : wr.cell? ⟨b, off + k * 3 + 1, none⟩ = some (.int .i64 cs[k].2.1) := (hb.cell (p := ⟨b, off + k * 3 + 1, none⟩) hblt).trans (cm_cell hc k 1 (by decide) hlt _ rfl)
      have c2 : wr.cell? ⟨b, off + k * 3 + 2, none⟩ = some (.bool cs[k].2.2) := (hb.cell (p := ⟨b, off + k * 3 + 2, none⟩) hblt).trans (cm_cell hc k 2 (by decide) hlt _ rfl)
      have hnx := take_all (p := CmP) hall hlt
      have hno : ¬ CmP cs[k] → V = [] ∧ E = 1 := fun h => HB.out (fun q => h (q _ (List.getElem_mem hlt)))
      generalize cs[k] = c at c0 c1 c2 hsucc hnx hno
      obtain ⟨ck, cst, cu⟩ := c
      simp only at c0 c1 c2
      have HS := hid hsucc
      have HNX := hid hnx
      have HNO := hid hno
      clear hsucc hnx hno hc hall
      generalize cmK cs k = pr at *
      obtain ⟨Wc, hWc⟩ : ∃ W, W = wr.alloc (.cells #[.int .i64 ck, .int .i64 cst, .bool cu] 65) := ⟨_, rfl⟩
      have bWc : Below wr.heap.size wr Wc := by rw [hWc]; exact (Below.refl _ _).alloc (Nat.le_refl _) _
      have hszc : Wc.heap.size = wr.heap.size + 1 := by rw [hWc]; exact Array.size_push ..
      have hCc : Wc.heap[wr.heap.size]? = some (.cells #[.int .i64 ck, .int .i64 cst, .bool cu] 65 (0, 0)) := by rw [hWc]; exact heap_alloc_new wr _
      have hlc : wr.heap.size < Wc.heap.size := (Array.getElem?_eq_some_iff.1 hCc).1
      have x0 : Wc.cell? ⟨wr.heap.size, 0, none⟩ = some (.int .i64 ck) := by rw [cell_of_row Wc _ 0 _ _ (0, 0) hCc]; rfl
      have x1 : Wc.cell? ⟨wr.heap.size, 1, none⟩ = some (.int .i64 cst) := by rw [cell_of_row Wc _ 1 _ _ (0, 0) hCc]; rfl
      have x2 : Wc.cell? ⟨wr.heap.size, 2, none⟩ = some (.bool cu) := by rw [cell_of_row Wc _ 2 _ _ (0, 0) hCc]; rfl
      have HWc := hid hWc
      have HZc := hid hszc
      clear hWc hszc hCc
      have hbc := bnext hb bWc
      go_wp2_with fail
      rw [← HWc.out]
      refine (win_any ck 5 Wc).mono ?_
      rintro _ v1 ⟨rfl, hv1⟩
      have d1 : Below Wc.heap.size Wc v1 := by rw [hv1]; exact Below.refl _ _
      clear hv1
      have y1 := (d1.cell (p := ⟨wr.heap.size, 1, none⟩) hlc).trans x1
      clear c0 c1 c2
      by_cases g1 : 0 ≤ ck ∧ ck ≤ 5
      case neg =>
        have HE := hid (HNO.out (fun q => g1 q.1))
        rw [decide_eq_false g1]
        go_wp2_with fail
        go_ret2
        exact ⟨by rw [HE.out.1, HE.out.2]; rfl, bnext hb3 (bnext hbc d1)⟩
      rw [decide_eq_true g1]
      go_wp2_with fail
      refine (win_any cst 16 v1).mono ?_
      rintro _ v2 ⟨rfl, hv2⟩
      have d2 : Below v1.heap.size v1 v2 := by rw [hv2]; exact Below.refl _ _
      clear hv2
      have d12 := bnext d1 d2
      by_cases g2 : 0 ≤ cst ∧ cst ≤ 16
      case neg =>
        have HE := hid (HNO.out (fun q => g2 q.2))
        rw [decide_eq_false g2]
        go_wp2_with fail
        go_ret2
        exact ⟨by rw [HE.out.1, HE.out.2]; rfl, bnext hb3 (bnext hbc d12)⟩
      rw [decide_eq_true g2]
      have z0 := (d12.cell (p := ⟨wr.heap.size, 0, none⟩) hlc).trans x0
      have z1 := (d12.cell (p := ⟨wr.heap.size, 1, none⟩) hlc).trans x1
      have z2 := (d12.cell (p := ⟨wr.heap.size, 2, none⟩) hlc).trans x2
      have hlc2 : wr.heap.size < v2.heap.size := Nat.lt_of_lt_of_le hlc d12.size
      clear x0 x1 x2 y1
      have m1 := putL_len10' ck.toNat (by omega)
      have m2 := putL_len10' cst.toNat (by omega)
      have hud2 : udN cu ≤ 1 := by unfold udN; split <;> omega
      have m3 := putL_len10' (udN cu) (by omega)
      have f1 := fun w => run_cat (P := Try.prog) w (putL ck.toNat) (putL cst.toNat) (by omega)
      have f2 := fun w => run_cat (P := Try.prog) w (putL ck.toNat ++ putL cst.toNat) (putL (udN cu)) (by rw [List.length_append]; omega)
      have f3 := fun w => run_cat (P := Try.prog) w (S3 ++ pr) (putL ck.toNat ++ (putL cst.toNat ++ putL (udN cu))) (by simp only [List.length_append]; omega)
      simp only [List.append_assoc] at f2 f3
      have hkeep := fun w' w'' h k => held3 hlc2 z0 z1 z2 (w' := w') (w'' := w'') h k
      go_wp2_with fail
      go_region_held3 (fun w' => Below v2.heap.size v2 w' ∧ w'.cell? ⟨wr.heap.size, 0, none⟩ = some (.int .i64 ck) ∧ w'.cell? ⟨wr.heap.size, 1, none⟩ = some (.int .i64 cst) ∧ w'.cell? ⟨wr.heap.size, 2, none⟩ = some (.bool cu)) (first | exact hS | exact ⟨Below.refl _ _, z0, z1, z2⟩ | exact ⟨below_drewN _ _ 1, z0, z1, z2⟩)
        ((first
          | (go_at_call 40; refine (wyes_any _ _).mono ?_; rintro _ wz ⟨rfl, hbz⟩; have hS := hkeep _ _ (by assumption) hbz)
          | (go_at_call 38; refine (rint_w _ (by omega) _).mono ?_; rintro _ wz ⟨rfl, hbz⟩; (try simp only [Int.toNat_natCast]); have hS := hkeep _ _ (by assumption) hbz)))
      have hbf := bnext hbc (bnext d12 hS.1)
      clear hkeep f1 f2 f3 z0 z1 z2
      go_wp2_with fail
      go_roundw
      case rel => exact ⟨k + 1, hlt, by go_num, by rw [HS.out]; simp [encC], HNX.out ⟨g1, g2⟩, hbf⟩
      case measure => simp [intOf]; omega
    · obtain rfl : k = cs.length := by omega
      rw [List.take_length] at hall
      have HE := hid (HG.out hall)
      have hbody : S3 ++ cmK cs cs.length = encRq id ⟨kd, rq, wd, nm, ss, lim, cs, rf, ty, fr, sh, gd⟩ := by
        rw [← hS3, ← hHD, ← hPG]
        simp [encRq, cmK]
      generalize hLL : S3 ++ cmK cs cs.length = LL at *
      have hLl : LL.length ≤ 1048576 := by rw [← hLL, List.length_append]; omega
      have HBODY := hid hbody
      clear hbody hall hLL
      go_wp2_with fail
      refine (rwrap_any LL hLl _).mono ?_
      rintro _ wl ⟨rfl, bl⟩
      go_wp2_with fail
      go_ret2
      exact ⟨by rw [HE.out.1, HE.out.2, ← HBODY.out]; rfl, bnext hb3 (bnext hb bl)⟩
theorem rrequest_any (id kd : Int) (rq wd nm : List UInt8) (hrq : rq.length ≤ 140737488355328) (hwd : wd.length ≤ 140737488355328) (hnm : nm.length ≤ 140737488355328) (v : Value) (lim : Int) (ss : List St) (ua : Option Addr) (uc : Nat) (cs : List Cm) (rf ty fr sh : Int) (gd : Bool) (w : World) (hs : Sl w v 6 ss.length (ss.flatMap stC)) (hf : Fit ss) (hu : Sl w (.slice ua cs.length uc) 3 cs.length (cs.flatMap cmc)) :
    Calls Try.prog 15 #[.int .i64 id, .agg #[.int .i64 kd, .string ⟨rq.toArray⟩, .string ⟨wd.toArray⟩, .string ⟨nm.toArray⟩, v, .int .i64 lim, .slice ua cs.length uc, .int .i64 rf, .int .i64 ty, .int .i64 fr, .int .i64 sh, .bool gd]] w fun e w' => e = .returned (.tuple #[.string ⟨(rqV id ⟨kd, rq, wd, nm, ss, lim, cs, rf, ty, fr, sh, gd⟩).toArray⟩, .int .i64 (rqE id ⟨kd, rq, wd, nm, ss, lim, cs, rf, ty, fr, sh, gd⟩)]) ∧ Below w.heap.size w w' := by
  have hun : cs.length ≤ 9223372036854775807 := hu.2.1.1
  obtain ⟨k1, k2, k3, k4⟩ := rq_codes (id := id) (q := ⟨kd, rq, wd, nm, ss, lim, cs, rf, ty, fr, sh, gd⟩)
  by_cases hA : RqA id ⟨kd, rq, wd, nm, ss, lim, cs, rf, ty, fr, sh, gd⟩
  · obtain ⟨e0, ⟨e1, e2⟩, ⟨e3, e4, e5⟩, ⟨e6, e7, e8⟩, e9, e10⟩ := hA
    have hA : RqA id ⟨kd, rq, wd, nm, ss, lim, cs, rf, ty, fr, sh, gd⟩ := ⟨e0, ⟨e1, e2⟩, ⟨e3, e4, e5⟩, ⟨e6, e7, e8⟩, e9, e10⟩
    by_cases hp : ProgP lim ss
    · exact rrq_go id kd rq wd nm hrq hwd hnm v lim ss ua uc cs rf ty fr sh gd e0 e1 e2 e3 e4 e5 e6 e7 e8 e9 e10 hp (hid (k3 hA hp)) (hid (k4 hA hp)) w hs hf hu
    · have := k2 hA hp
      rw [this.1, this.2]
      exact rrq_prog id kd rq wd nm hrq hwd hnm v lim ss ua uc cs rf ty fr sh gd e0 e1 e2 e3 e4 e5 e6 e7 e8 e9 e10 hp w hs hf hu
  · have := k1 hA
    rw [this.1, this.2]
    clear k1 k2 k3 k4 this
    by_cases e0 : 0 ≤ id ∧ id ≤ 2147483647
    case neg => exact rrq_no0 id kd rq wd nm hrq hwd hnm v lim ua cs.length uc rf ty fr sh gd hun e0 w
    by_cases e1 : 1 ≤ kd
    case neg => exact rrq_no1 id kd rq wd nm hrq hwd hnm v lim ua cs.length uc rf ty fr sh gd hun e0 e1 w
    by_cases e2 : kd ≤ 11
    case neg => exact rrq_no2 id kd rq wd nm hrq hwd hnm v lim ua cs.length uc rf ty fr sh gd hun e0 e1 e2 w
    by_cases e3 : rq.length ≤ 16
    case neg => exact rrq_no3 id kd rq wd nm hrq hwd hnm v lim ua cs.length uc rf ty fr sh gd hun e0 e1 e2 e3 w
    by_cases e4 : wd.length ≤ 16
    case neg => exact rrq_no4 id kd rq wd nm hrq hwd hnm v lim ua cs.length uc rf ty fr sh gd hun e0 e1 e2 e3 e4 w
    by_cases e5 : nm.length ≤ 16
    case neg => exact rrq_no5 id kd rq wd nm hrq hwd hnm v lim ua cs.length uc rf ty fr sh gd hun e0 e1 e2 e3 e4 e5 w
    by_cases e6 : 0 ≤ rf ∧ rf ≤ 501
    case neg => exact rrq_no6 id kd rq wd nm hrq hwd hnm v lim ua cs.length uc rf ty fr sh gd hun e0 e1 e2 e3 e4 e5 e6 w
    by_cases e7 : 0 ≤ ty ∧ ty ≤ 501
    case neg => exact rrq_no7 id kd rq wd nm hrq hwd hnm v lim ua cs.length uc rf ty fr sh gd hun e0 e1 e2 e3 e4 e5 e6 e7 w
    by_cases e8 : 0 ≤ fr ∧ fr ≤ 501
    case neg => exact rrq_no8 id kd rq wd nm hrq hwd hnm v lim ua cs.length uc rf ty fr sh gd hun e0 e1 e2 e3 e4 e5 e6 e7 e8 w
    by_cases e9 : 0 ≤ sh ∧ sh ≤ 16
    case neg => exact rrq_no9 id kd rq wd nm hrq hwd hnm v lim ua cs.length uc rf ty fr sh gd hun e0 e1 e2 e3 e4 e5 e6 e7 e8 e9 w
    by_cases e10 : cs.length ≤ 4
    case neg => exact rrq_no10 id kd rq wd nm hrq hwd hnm v lim ua cs.length uc rf ty fr sh gd hun e0 e1 e2 e3 e4 e5 e6 e7 e8 e9 e10 w
    exact absurd ⟨e0, ⟨e1, e2⟩, ⟨e3, e4, e5⟩, ⟨e6, e7, e8⟩, e9, e10⟩ hA
end Go.Proofs.Ytelacmchofehcaa
namespace Go.Proofs.Ytelacmchofehcaa
open Go.RowKit
set_option linter.unusedVariables false
set_option linter.unusedSimpArgs false

set_option maxHeartbeats 3200000 in
set_option maxRecDepth 100000 in
theorem rrp_no0 (id er st nx tn : Int) (tw : List UInt8) (tr ty : Int) (nm : List UInt8) (htw : tw.length ≤ 140737488355328) (hnm : nm.length ≤ 140737488355328) (v : Value) (e0 : ¬ (0 ≤ id ∧ id ≤ 2147483647)) (w : World)  :
    Calls Try.prog 16 #[.int .i64 id, .agg #[.int .i64 er, .int .i64 st, .int .i64 nx, .int .i64 tn, .string ⟨tw.toArray⟩, .int .i64 tr, .int .i64 ty, .string ⟨nm.toArray⟩, v]] w fun e w' => e = .returned (.tuple #[.string ⟨#[]⟩, .int .i64 1]) ∧ Below w.heap.size w w' := by
  have h0 := H9.new w 33 (.int .i64 er) (.int .i64 st) (.int .i64 nx) (.int .i64 tn) (.string ⟨tw.toArray⟩) (.int .i64 tr) (.int .i64 ty) (.string ⟨nm.toArray⟩) (v)
  obtain ⟨W, hW⟩ : ∃ W, W = w.alloc (.cells #[.int .i64 er, .int .i64 st, .int .i64 nx, .int .i64 tn, .string ⟨tw.toArray⟩, .int .i64 tr, .int .i64 ty, .string ⟨nm.toArray⟩, v] 33) := ⟨_, rfl⟩
  rw [← hW] at h0
  have HX := hid hW
  clear hW
  have h0' := h0
  obtain ⟨p0, p1, p2, p3, p4, p5, p6, p7, p8, _, _⟩ := h0'
  go_enter Try.func16, Try.ntmps16
  go_wp2_with fail
  rw [← HX.out]
  refine (win_any id 2147483647 W).mono ?_
  rintro _ wz ⟨rfl, hwz⟩
  rw [hwz, decide_eq_false e0]
  clear hwz wz
  go_wp2_with fail
  go_ret2
  exact ⟨rfl, h0.below⟩
set_option maxHeartbeats 3200000 in
set_option maxRecDepth 100000 in
theorem rrp_no1 (id er st nx tn : Int) (tw : List UInt8) (tr ty : Int) (nm : List UInt8) (htw : tw.length ≤ 140737488355328) (hnm : nm.length ≤ 140737488355328) (v : Value) (e0 : 0 ≤ id ∧ id ≤ 2147483647) (e1 : ¬ (0 ≤ er ∧ er ≤ 999)) (w : World)  :
    Calls Try.prog 16 #[.int .i64 id, .agg #[.int .i64 er, .int .i64 st, .int .i64 nx, .int .i64 tn, .string ⟨tw.toArray⟩, .int .i64 tr, .int .i64 ty, .string ⟨nm.toArray⟩, v]] w fun e w' => e = .returned (.tuple #[.string ⟨#[]⟩, .int .i64 1]) ∧ Below w.heap.size w w' := by
  have h0 := H9.new w 33 (.int .i64 er) (.int .i64 st) (.int .i64 nx) (.int .i64 tn) (.string ⟨tw.toArray⟩) (.int .i64 tr) (.int .i64 ty) (.string ⟨nm.toArray⟩) (v)
  obtain ⟨W, hW⟩ : ∃ W, W = w.alloc (.cells #[.int .i64 er, .int .i64 st, .int .i64 nx, .int .i64 tn, .string ⟨tw.toArray⟩, .int .i64 tr, .int .i64 ty, .string ⟨nm.toArray⟩, v] 33) := ⟨_, rfl⟩
  rw [← hW] at h0
  have HX := hid hW
  clear hW
  have h0' := h0
  obtain ⟨p0, p1, p2, p3, p4, p5, p6, p7, p8, _, _⟩ := h0'
  go_enter Try.func16, Try.ntmps16
  go_wp2_with fail
  rw [← HX.out]
  refine (win_any id 2147483647 W).mono ?_
  rintro _ wz ⟨rfl, hwz⟩
  rw [hwz, decide_eq_true e0]
  clear hwz wz
  go_wp2_with fail
  refine (win_any er 999 W).mono ?_
  rintro _ wz ⟨rfl, hwz⟩
  rw [hwz, decide_eq_false e1]
  clear hwz wz
  go_wp2_with fail
  go_ret2
  exact ⟨rfl, h0.below⟩
set_option maxHeartbeats 3200000 in
set_option maxRecDepth 100000 in
theorem rrp_no2 (id er st nx tn : Int) (tw : List UInt8) (tr ty : Int) (nm : List UInt8) (htw : tw.length ≤ 140737488355328) (hnm : nm.length ≤ 140737488355328) (v : Value) (e0 : 0 ≤ id ∧ id ≤ 2147483647) (e1 : 0 ≤ er ∧ er ≤ 999) (e2 : ¬ (0 ≤ st ∧ st ≤ 4)) (w : World)  :
    Calls Try.prog 16 #[.int .i64 id, .agg #[.int .i64 er, .int .i64 st, .int .i64 nx, .int .i64 tn, .string ⟨tw.toArray⟩, .int .i64 tr, .int .i64 ty, .string ⟨nm.toArray⟩, v]] w fun e w' => e = .returned (.tuple #[.string ⟨#[]⟩, .int .i64 1]) ∧ Below w.heap.size w w' := by
  have h0 := H9.new w 33 (.int .i64 er) (.int .i64 st) (.int .i64 nx) (.int .i64 tn) (.string ⟨tw.toArray⟩) (.int .i64 tr) (.int .i64 ty) (.string ⟨nm.toArray⟩) (v)
  obtain ⟨W, hW⟩ : ∃ W, W = w.alloc (.cells #[.int .i64 er, .int .i64 st, .int .i64 nx, .int .i64 tn, .string ⟨tw.toArray⟩, .int .i64 tr, .int .i64 ty, .string ⟨nm.toArray⟩, v] 33) := ⟨_, rfl⟩
  rw [← hW] at h0
  have HX := hid hW
  clear hW
  have h0' := h0
  obtain ⟨p0, p1, p2, p3, p4, p5, p6, p7, p8, _, _⟩ := h0'
  go_enter Try.func16, Try.ntmps16
  go_wp2_with fail
  rw [← HX.out]
  refine (win_any id 2147483647 W).mono ?_
  rintro _ wz ⟨rfl, hwz⟩
  rw [hwz, decide_eq_true e0]
  clear hwz wz
  go_wp2_with fail
  refine (win_any er 999 W).mono ?_
  rintro _ wz ⟨rfl, hwz⟩
  rw [hwz, decide_eq_true e1]
  clear hwz wz
  go_wp2_with fail
  refine (win_any st 4 W).mono ?_
  rintro _ wz ⟨rfl, hwz⟩
  rw [hwz, decide_eq_false e2]
  clear hwz wz
  go_wp2_with fail
  go_ret2
  exact ⟨rfl, h0.below⟩
set_option maxHeartbeats 3200000 in
set_option maxRecDepth 100000 in
theorem rrp_no3 (id er st nx tn : Int) (tw : List UInt8) (tr ty : Int) (nm : List UInt8) (htw : tw.length ≤ 140737488355328) (hnm : nm.length ≤ 140737488355328) (v : Value) (e0 : 0 ≤ id ∧ id ≤ 2147483647) (e1 : 0 ≤ er ∧ er ≤ 999) (e2 : 0 ≤ st ∧ st ≤ 4) (e3 : ¬ (0 ≤ nx ∧ nx ≤ 501)) (w : World)  :
    Calls Try.prog 16 #[.int .i64 id, .agg #[.int .i64 er, .int .i64 st, .int .i64 nx, .int .i64 tn, .string ⟨tw.toArray⟩, .int .i64 tr, .int .i64 ty, .string ⟨nm.toArray⟩, v]] w fun e w' => e = .returned (.tuple #[.string ⟨#[]⟩, .int .i64 1]) ∧ Below w.heap.size w w' := by
  have h0 := H9.new w 33 (.int .i64 er) (.int .i64 st) (.int .i64 nx) (.int .i64 tn) (.string ⟨tw.toArray⟩) (.int .i64 tr) (.int .i64 ty) (.string ⟨nm.toArray⟩) (v)
  obtain ⟨W, hW⟩ : ∃ W, W = w.alloc (.cells #[.int .i64 er, .int .i64 st, .int .i64 nx, .int .i64 tn, .string ⟨tw.toArray⟩, .int .i64 tr, .int .i64 ty, .string ⟨nm.toArray⟩, v] 33) := ⟨_, rfl⟩
  rw [← hW] at h0
  have HX := hid hW
  clear hW
  have h0' := h0
  obtain ⟨p0, p1, p2, p3, p4, p5, p6, p7, p8, _, _⟩ := h0'
  go_enter Try.func16, Try.ntmps16
  go_wp2_with fail
  rw [← HX.out]
  refine (win_any id 2147483647 W).mono ?_
  rintro _ wz ⟨rfl, hwz⟩
  rw [hwz, decide_eq_true e0]
  clear hwz wz
  go_wp2_with fail
  refine (win_any er 999 W).mono ?_
  rintro _ wz ⟨rfl, hwz⟩
  rw [hwz, decide_eq_true e1]
  clear hwz wz
  go_wp2_with fail
  refine (win_any st 4 W).mono ?_
  rintro _ wz ⟨rfl, hwz⟩
  rw [hwz, decide_eq_true e2]
  clear hwz wz
  go_wp2_with fail
  refine (win_any nx 501 W).mono ?_
  rintro _ wz ⟨rfl, hwz⟩
  rw [hwz, decide_eq_false e3]
  clear hwz wz
  go_wp2_with fail
  go_ret2
  exact ⟨rfl, h0.below⟩
set_option maxHeartbeats 3200000 in
set_option maxRecDepth 100000 in
theorem rrp_no4 (id er st nx tn : Int) (tw : List UInt8) (tr ty : Int) (nm : List UInt8) (htw : tw.length ≤ 140737488355328) (hnm : nm.length ≤ 140737488355328) (v : Value) (e0 : 0 ≤ id ∧ id ≤ 2147483647) (e1 : 0 ≤ er ∧ er ≤ 999) (e2 : 0 ≤ st ∧ st ≤ 4) (e3 : 0 ≤ nx ∧ nx ≤ 501) (e4 : ¬ (nm.length ≤ 16)) (w : World)  :
    Calls Try.prog 16 #[.int .i64 id, .agg #[.int .i64 er, .int .i64 st, .int .i64 nx, .int .i64 tn, .string ⟨tw.toArray⟩, .int .i64 tr, .int .i64 ty, .string ⟨nm.toArray⟩, v]] w fun e w' => e = .returned (.tuple #[.string ⟨#[]⟩, .int .i64 1]) ∧ Below w.heap.size w w' := by
  have h0 := H9.new w 33 (.int .i64 er) (.int .i64 st) (.int .i64 nx) (.int .i64 tn) (.string ⟨tw.toArray⟩) (.int .i64 tr) (.int .i64 ty) (.string ⟨nm.toArray⟩) (v)
  obtain ⟨W, hW⟩ : ∃ W, W = w.alloc (.cells #[.int .i64 er, .int .i64 st, .int .i64 nx, .int .i64 tn, .string ⟨tw.toArray⟩, .int .i64 tr, .int .i64 ty, .string ⟨nm.toArray⟩, v] 33) := ⟨_, rfl⟩
  rw [← hW] at h0
  have HX := hid hW
  clear hW
  have h0' := h0
  obtain ⟨p0, p1, p2, p3, p4, p5, p6, p7, p8, _, _⟩ := h0'
  go_enter Try.func16, Try.ntmps16
  go_wp2_with fail
  rw [← HX.out]
  refine (win_any id 2147483647 W).mono ?_
  rintro _ wz ⟨rfl, hwz⟩
  rw [hwz, decide_eq_true e0]
  clear hwz wz
  go_wp2_with fail
  refine (win_any er 999 W).mono ?_
  rintro _ wz ⟨rfl, hwz⟩
  rw [hwz, decide_eq_true e1]
  clear hwz wz
  go_wp2_with fail
  refine (win_any st 4 W).mono ?_
  rintro _ wz ⟨rfl, hwz⟩
  rw [hwz, decide_eq_true e2]
  clear hwz wz
  go_wp2_with fail
  refine (win_any nx 501 W).mono ?_
  rintro _ wz ⟨rfl, hwz⟩
  rw [hwz, decide_eq_true e3]
  clear hwz wz
  go_wp2_with fail
  go_ret2
  exact ⟨rfl, h0.below⟩
set_option maxHeartbeats 3200000 in
set_option maxRecDepth 100000 in
theorem rrp_bad0 (id er st nx tn : Int) (tw : List UInt8) (tr ty : Int) (nm : List UInt8) (htw : tw.length ≤ 140737488355328) (hnm : nm.length ≤ 140737488355328) (v : Value) (e0 : 0 ≤ id ∧ id ≤ 2147483647) (e1 : 0 ≤ er ∧ er ≤ 999) (e2 : 0 ≤ st ∧ st ≤ 4) (e3 : 0 ≤ nx ∧ nx ≤ 501) (e4 : nm.length ≤ 16) (hz : ¬ tn = 0) (hT : ¬ TaskP (tn, tw, tr, ty)) (w : World)  :
    Calls Try.prog 16 #[.int .i64 id, .agg #[.int .i64 er, .int .i64 st, .int .i64 nx, .int .i64 tn, .string ⟨tw.toArray⟩, .int .i64 tr, .int .i64 ty, .string ⟨nm.toArray⟩, v]] w fun e w' => e = .returned (.tuple #[.string ⟨#[]⟩, .int .i64 1]) ∧ Below w.heap.size w w' := by
  have h0 := H9.new w 33 (.int .i64 er) (.int .i64 st) (.int .i64 nx) (.int .i64 tn) (.string ⟨tw.toArray⟩) (.int .i64 tr) (.int .i64 ty) (.string ⟨nm.toArray⟩) (v)
  obtain ⟨W, hW⟩ : ∃ W, W = w.alloc (.cells #[.int .i64 er, .int .i64 st, .int .i64 nx, .int .i64 tn, .string ⟨tw.toArray⟩, .int .i64 tr, .int .i64 ty, .string ⟨nm.toArray⟩, v] 33) := ⟨_, rfl⟩
  rw [← hW] at h0
  have HX := hid hW
  clear hW
  have h0' := h0
  obtain ⟨p0, p1, p2, p3, p4, p5, p6, p7, p8, _, _⟩ := h0'
  go_enter Try.func16, Try.ntmps16
  go_wp2_with fail
  rw [← HX.out]
  refine (win_any id 2147483647 W).mono ?_
  rintro _ wz ⟨rfl, hwz⟩
  rw [hwz, decide_eq_true e0]
  clear hwz wz
  go_wp2_with fail
  refine (win_any er 999 W).mono ?_
  rintro _ wz ⟨rfl, hwz⟩
  rw [hwz, decide_eq_true e1]
  clear hwz wz
  go_wp2_with fail
  refine (win_any st 4 W).mono ?_
  rintro _ wz ⟨rfl, hwz⟩
  rw [hwz, decide_eq_true e2]
  clear hwz wz
  go_wp2_with fail
  refine (win_any nx 501 W).mono ?_
  rintro _ wz ⟨rfl, hwz⟩
  rw [hwz, decide_eq_true e3]
  clear hwz wz
  have bz : Below W.heap.size W (W.alloc (.cells #[.int .i64 0, .string ⟨#[]⟩, .int .i64 0, .int .i64 0] 30)) := (Below.refl _ _).alloc (Nat.le_refl _) _
  have hz0 := h0.next bz
  have hz0' := hz0
  obtain ⟨q0, q1, q2, q3, q4, q5, q6, q7, q8, _, _⟩ := hz0'
  obtain ⟨Wz, hWz⟩ : ∃ x, x = W.alloc (.cells #[.int .i64 0, .string ⟨#[]⟩, .int .i64 0, .int .i64 0] 30) := ⟨_, rfl⟩
  have h5 : H9 w Wz w.heap.size (.int .i64 er) (.int .i64 st) (.int .i64 nx) (.int .i64 tn) (.string ⟨tw.toArray⟩) (.int .i64 tr) (.int .i64 ty) (.string ⟨nm.toArray⟩) (v) := by rw [hWz]; exact hz0
  have HWZ := hid hWz
  clear hWz bz hz0
  go_wp2_with fail
  (try rw [← HWZ.out])
  clear q0 q1 q2 q3 q4 q5 q6 q7 q8
  refine (rtask_any tn tw tr ty (by unfold maxLen; omega) _).mono ?_
  rintro _ w6 ⟨rfl, b6⟩
  rw [show encTV (tn, tw, tr, ty) = [] by unfold encTV; rw [if_neg hT], show tkV (tn, tw, tr, ty) = 1 by unfold tkV; rw [if_neg hT]]
  have h6 := h5.next b6
  go_wp2_with fail
  go_ret2
  exact ⟨rfl, h6.below⟩
set_option maxHeartbeats 3200000 in
set_option maxRecDepth 100000 in
theorem rrp_bad1 (id er st nx : Int) (tw : List UInt8) (tr ty : Int) (nm : List UInt8) (htw : tw.length ≤ 140737488355328) (hnm : nm.length ≤ 140737488355328) (v : Value) (e0 : 0 ≤ id ∧ id ≤ 2147483647) (e1 : 0 ≤ er ∧ er ≤ 999) (e2 : 0 ≤ st ∧ st ≤ 4) (e3 : 0 ≤ nx ∧ nx ≤ 501) (e4 : nm.length ≤ 16) (hz : ¬ tw = []) (hz1 : (tw == []) = false) (hz2 : ([] == tw) = false) (hz3 : ¬ tw.length = 0) (hT : ¬ TaskP (0, tw, tr, ty)) (w : World)  :
    Calls Try.prog 16 #[.int .i64 id, .agg #[.int .i64 er, .int .i64 st, .int .i64 nx, .int .i64 0, .string ⟨tw.toArray⟩, .int .i64 tr, .int .i64 ty, .string ⟨nm.toArray⟩, v]] w fun e w' => e = .returned (.tuple #[.string ⟨#[]⟩, .int .i64 1]) ∧ Below w.heap.size w w' := by
  have h0 := H9.new w 33 (.int .i64 er) (.int .i64 st) (.int .i64 nx) (.int .i64 0) (.string ⟨tw.toArray⟩) (.int .i64 tr) (.int .i64 ty) (.string ⟨nm.toArray⟩) (v)
  obtain ⟨W, hW⟩ : ∃ W, W = w.alloc (.cells #[.int .i64 er, .int .i64 st, .int .i64 nx, .int .i64 0, .string ⟨tw.toArray⟩, .int .i64 tr, .int .i64 ty, .string ⟨nm.toArray⟩, v] 33) := ⟨_, rfl⟩
  rw [← hW] at h0
  have HX := hid hW
  clear hW
  have h0' := h0
  obtain ⟨p0, p1, p2, p3, p4, p5, p6, p7, p8, _, _⟩ := h0'
  go_enter Try.func16, Try.ntmps16
  go_wp2_with fail
  rw [← HX.out]
  refine (win_any id 2147483647 W).mono ?_
  rintro _ wz ⟨rfl, hwz⟩
  rw [hwz, decide_eq_true e0]
  clear hwz wz
  go_wp2_with fail
  refine (win_any er 999 W).mono ?_
  rintro _ wz ⟨rfl, hwz⟩
  rw [hwz, decide_eq_true e1]
  clear hwz wz
  go_wp2_with fail
  refine (win_any st 4 W).mono ?_
  rintro _ wz ⟨rfl, hwz⟩
  rw [hwz, decide_eq_true e2]
  clear hwz wz
  go_wp2_with fail
  refine (win_any nx 501 W).mono ?_
  rintro _ wz ⟨rfl, hwz⟩
  rw [hwz, decide_eq_true e3]
  clear hwz wz
  have bz : Below W.heap.size W (W.alloc (.cells #[.int .i64 0, .string ⟨#[]⟩, .int .i64 0, .int .i64 0] 30)) := (Below.refl _ _).alloc (Nat.le_refl _) _
  have hz0 := h0.next bz
  have hz0' := hz0
  obtain ⟨q0, q1, q2, q3, q4, q5, q6, q7, q8, _, _⟩ := hz0'
  obtain ⟨Wz, hWz⟩ : ∃ x, x = W.alloc (.cells #[.int .i64 0, .string ⟨#[]⟩, .int .i64 0, .int .i64 0] 30) := ⟨_, rfl⟩
  have h5 : H9 w Wz w.heap.size (.int .i64 er) (.int .i64 st) (.int .i64 nx) (.int .i64 0) (.string ⟨tw.toArray⟩) (.int .i64 tr) (.int .i64 ty) (.string ⟨nm.toArray⟩) (v) := by rw [hWz]; exact hz0
  have HWZ := hid hWz
  clear hWz bz hz0
  go_wp2_with fail
  (try rw [← HWZ.out])
  clear q0 q1 q2 q3 q4 q5 q6 q7 q8
  refine (rtask_any 0 tw tr ty (by unfold maxLen; omega) _).mono ?_
  rintro _ w6 ⟨rfl, b6⟩
  rw [show encTV (0, tw, tr, ty) = [] by unfold encTV; rw [if_neg hT], show tkV (0, tw, tr, ty) = 1 by unfold tkV; rw [if_neg hT]]
  have h6 := h5.next b6
  go_wp2_with fail
  go_ret2
  exact ⟨rfl, h6.below⟩
set_option maxHeartbeats 3200000 in
set_option maxRecDepth 100000 in
theorem rrp_bad2 (id er st nx : Int) (tr ty : Int) (nm : List UInt8) (hnm : nm.length ≤ 140737488355328) (v : Value) (e0 : 0 ≤ id ∧ id ≤ 2147483647) (e1 : 0 ≤ er ∧ er ≤ 999) (e2 : 0 ≤ st ∧ st ≤ 4) (e3 : 0 ≤ nx ∧ nx ≤ 501) (e4 : nm.length ≤ 16) (hz : ¬ tr = 0) (hT : ¬ TaskP (0, [], tr, ty)) (w : World)  :
    Calls Try.prog 16 #[.int .i64 id, .agg #[.int .i64 er, .int .i64 st, .int .i64 nx, .int .i64 0, .string ⟨#[]⟩, .int .i64 tr, .int .i64 ty, .string ⟨nm.toArray⟩, v]] w fun e w' => e = .returned (.tuple #[.string ⟨#[]⟩, .int .i64 1]) ∧ Below w.heap.size w w' := by
  have h0 := H9.new w 33 (.int .i64 er) (.int .i64 st) (.int .i64 nx) (.int .i64 0) (.string ⟨#[]⟩) (.int .i64 tr) (.int .i64 ty) (.string ⟨nm.toArray⟩) (v)
  obtain ⟨W, hW⟩ : ∃ W, W = w.alloc (.cells #[.int .i64 er, .int .i64 st, .int .i64 nx, .int .i64 0, .string ⟨#[]⟩, .int .i64 tr, .int .i64 ty, .string ⟨nm.toArray⟩, v] 33) := ⟨_, rfl⟩
  rw [← hW] at h0
  have HX := hid hW
  clear hW
  have h0' := h0
  obtain ⟨p0, p1, p2, p3, p4, p5, p6, p7, p8, _, _⟩ := h0'
  go_enter Try.func16, Try.ntmps16
  go_wp2_with fail
  rw [← HX.out]
  refine (win_any id 2147483647 W).mono ?_
  rintro _ wz ⟨rfl, hwz⟩
  rw [hwz, decide_eq_true e0]
  clear hwz wz
  go_wp2_with fail
  refine (win_any er 999 W).mono ?_
  rintro _ wz ⟨rfl, hwz⟩
  rw [hwz, decide_eq_true e1]
  clear hwz wz
  go_wp2_with fail
  refine (win_any st 4 W).mono ?_
  rintro _ wz ⟨rfl, hwz⟩
  rw [hwz, decide_eq_true e2]
  clear hwz wz
  go_wp2_with fail
  refine (win_any nx 501 W).mono ?_
  rintro _ wz ⟨rfl, hwz⟩
  rw [hwz, decide_eq_true e3]
  clear hwz wz
  have bz : Below W.heap.size W (W.alloc (.cells #[.int .i64 0, .string ⟨#[]⟩, .int .i64 0, .int .i64 0] 30)) := (Below.refl _ _).alloc (Nat.le_refl _) _
  have hz0 := h0.next bz
  have hz0' := hz0
  obtain ⟨q0, q1, q2, q3, q4, q5, q6, q7, q8, _, _⟩ := hz0'
  obtain ⟨Wz, hWz⟩ : ∃ x, x = W.alloc (.cells #[.int .i64 0, .string ⟨#[]⟩, .int .i64 0, .int .i64 0] 30) := ⟨_, rfl⟩
  have h5 : H9 w Wz w.heap.size (.int .i64 er) (.int .i64 st) (.int .i64 nx) (.int .i64 0) (.string ⟨#[]⟩) (.int .i64 tr) (.int .i64 ty) (.string ⟨nm.toArray⟩) (v) := by rw [hWz]; exact hz0
  have HWZ := hid hWz
  clear hWz bz hz0
  go_wp2_with fail
  (try rw [← HWZ.out])
  clear q0 q1 q2 q3 q4 q5 q6 q7 q8
  refine (rtask_any 0 [] tr ty (by simp) _).mono ?_
  rintro _ w6 ⟨rfl, b6⟩
  rw [show encTV (0, [], tr, ty) = [] by unfold encTV; rw [if_neg hT], show tkV (0, [], tr, ty) = 1 by unfold tkV; rw [if_neg hT]]
  have h6 := h5.next b6
  go_wp2_with fail
  go_ret2
  exact ⟨rfl, h6.below⟩
set_option maxHeartbeats 3200000 in
set_option maxRecDepth 100000 in
theorem rrp_bad3 (id er st nx : Int) (ty : Int) (nm : List UInt8) (hnm : nm.length ≤ 140737488355328) (v : Value) (e0 : 0 ≤ id ∧ id ≤ 2147483647) (e1 : 0 ≤ er ∧ er ≤ 999) (e2 : 0 ≤ st ∧ st ≤ 4) (e3 : 0 ≤ nx ∧ nx ≤ 501) (e4 : nm.length ≤ 16) (hz : ¬ ty = 0) (hT : ¬ TaskP (0, [], 0, ty)) (w : World)  :
    Calls Try.prog 16 #[.int .i64 id, .agg #[.int .i64 er, .int .i64 st, .int .i64 nx, .int .i64 0, .string ⟨#[]⟩, .int .i64 0, .int .i64 ty, .string ⟨nm.toArray⟩, v]] w fun e w' => e = .returned (.tuple #[.string ⟨#[]⟩, .int .i64 1]) ∧ Below w.heap.size w w' := by
  have h0 := H9.new w 33 (.int .i64 er) (.int .i64 st) (.int .i64 nx) (.int .i64 0) (.string ⟨#[]⟩) (.int .i64 0) (.int .i64 ty) (.string ⟨nm.toArray⟩) (v)
  obtain ⟨W, hW⟩ : ∃ W, W = w.alloc (.cells #[.int .i64 er, .int .i64 st, .int .i64 nx, .int .i64 0, .string ⟨#[]⟩, .int .i64 0, .int .i64 ty, .string ⟨nm.toArray⟩, v] 33) := ⟨_, rfl⟩
  rw [← hW] at h0
  have HX := hid hW
  clear hW
  have h0' := h0
  obtain ⟨p0, p1, p2, p3, p4, p5, p6, p7, p8, _, _⟩ := h0'
  go_enter Try.func16, Try.ntmps16
  go_wp2_with fail
  rw [← HX.out]
  refine (win_any id 2147483647 W).mono ?_
  rintro _ wz ⟨rfl, hwz⟩
  rw [hwz, decide_eq_true e0]
  clear hwz wz
  go_wp2_with fail
  refine (win_any er 999 W).mono ?_
  rintro _ wz ⟨rfl, hwz⟩
  rw [hwz, decide_eq_true e1]
  clear hwz wz
  go_wp2_with fail
  refine (win_any st 4 W).mono ?_
  rintro _ wz ⟨rfl, hwz⟩
  rw [hwz, decide_eq_true e2]
  clear hwz wz
  go_wp2_with fail
  refine (win_any nx 501 W).mono ?_
  rintro _ wz ⟨rfl, hwz⟩
  rw [hwz, decide_eq_true e3]
  clear hwz wz
  have bz : Below W.heap.size W (W.alloc (.cells #[.int .i64 0, .string ⟨#[]⟩, .int .i64 0, .int .i64 0] 30)) := (Below.refl _ _).alloc (Nat.le_refl _) _
  have hz0 := h0.next bz
  have hz0' := hz0
  obtain ⟨q0, q1, q2, q3, q4, q5, q6, q7, q8, _, _⟩ := hz0'
  obtain ⟨Wz, hWz⟩ : ∃ x, x = W.alloc (.cells #[.int .i64 0, .string ⟨#[]⟩, .int .i64 0, .int .i64 0] 30) := ⟨_, rfl⟩
  have h5 : H9 w Wz w.heap.size (.int .i64 er) (.int .i64 st) (.int .i64 nx) (.int .i64 0) (.string ⟨#[]⟩) (.int .i64 0) (.int .i64 ty) (.string ⟨nm.toArray⟩) (v) := by rw [hWz]; exact hz0
  have HWZ := hid hWz
  clear hWz bz hz0
  go_wp2_with fail
  (try rw [← HWZ.out])
  clear q0 q1 q2 q3 q4 q5 q6 q7 q8
  refine (rtask_any 0 [] 0 ty (by simp) _).mono ?_
  rintro _ w6 ⟨rfl, b6⟩
  rw [show encTV (0, [], 0, ty) = [] by unfold encTV; rw [if_neg hT], show tkV (0, [], 0, ty) = 1 by unfold tkV; rw [if_neg hT]]
  have h6 := h5.next b6
  go_wp2_with fail
  go_ret2
  exact ⟨rfl, h6.below⟩
set_option maxHeartbeats 3200000 in
set_option maxRecDepth 100000 in
theorem rrp_zero (id er st nx : Int) (nm : List UInt8) (hnm : nm.length ≤ 140737488355328) (v : Value) (ev : List Ev) (e0 : 0 ≤ id ∧ id ≤ 2147483647) (e1 : 0 ≤ er ∧ er ≤ 999) (e2 : 0 ≤ st ∧ st ≤ 4) (e3 : 0 ≤ nx ∧ nx ≤ 501) (e4 : nm.length ≤ 16) {V : List UInt8} {E : Int} (hbad : ¬ HistP ev → V = [] ∧ E = hiE ev) (hgood : HistP ev → V = wrapL (encRp id ⟨er, st, nx, tk0, nm, ev⟩) ∧ E = 0) (w : World) (hs : Sl w v 8 ev.length (ev.flatMap evc)) (hf : FitE ev) :
    Calls Try.prog 16 #[.int .i64 id, .agg #[.int .i64 er, .int .i64 st, .int .i64 nx, .int .i64 0, .string ⟨#[]⟩, .int .i64 0, .int .i64 0, .string ⟨nm.toArray⟩, v]] w fun e w' => e = .returned (.tuple #[.string ⟨V.toArray⟩, .int .i64 E]) ∧ Below w.heap.size w w' := by
  have h0 := H9.new w 33 (.int .i64 er) (.int .i64 st) (.int .i64 nx) (.int .i64 0) (.string ⟨#[]⟩) (.int .i64 0) (.int .i64 0) (.string ⟨nm.toArray⟩) (v)
  obtain ⟨W, hW⟩ : ∃ W, W = w.alloc (.cells #[.int .i64 er, .int .i64 st, .int .i64 nx, .int .i64 0, .string ⟨#[]⟩, .int .i64 0, .int .i64 0, .string ⟨nm.toArray⟩, v] 33) := ⟨_, rfl⟩
  rw [← hW] at h0
  have HX := hid hW
  clear hW
  have h0' := h0
  obtain ⟨p0, p1, p2, p3, p4, p5, p6, p7, p8, _, _⟩ := h0'
  go_enter Try.func16, Try.ntmps16
  go_wp2_with fail
  rw [← HX.out]
  refine (win_any id 2147483647 W).mono ?_
  rintro _ wz ⟨rfl, hwz⟩
  rw [hwz, decide_eq_true e0]
  clear hwz wz
  go_wp2_with fail
  refine (win_any er 999 W).mono ?_
  rintro _ wz ⟨rfl, hwz⟩
  rw [hwz, decide_eq_true e1]
  clear hwz wz
  go_wp2_with fail
  refine (win_any st 4 W).mono ?_
  rintro _ wz ⟨rfl, hwz⟩
  rw [hwz, decide_eq_true e2]
  clear hwz wz
  go_wp2_with fail
  refine (win_any nx 501 W).mono ?_
  rintro _ wz ⟨rfl, hwz⟩
  rw [hwz, decide_eq_true e3]
  clear hwz wz
  have bz : Below W.heap.size W (W.alloc (.cells #[.int .i64 0, .string ⟨#[]⟩, .int .i64 0, .int .i64 0] 30)) := (Below.refl _ _).alloc (Nat.le_refl _) _
  have hz0 := h0.next bz
  have hz0' := hz0
  obtain ⟨q0, q1, q2, q3, q4, q5, q6, q7, q8, _, _⟩ := hz0'
  obtain ⟨Wz, hWz⟩ : ∃ x, x = W.alloc (.cells #[.int .i64 0, .string ⟨#[]⟩, .int .i64 0, .int .i64 0] 30) := ⟨_, rfl⟩
  have h5 : H9 w Wz w.heap.size (.int .i64 er) (.int .i64 st) (.int .i64 nx) (.int .i64 0) (.string ⟨#[]⟩) (.int .i64 0) (.int .i64 0) (.string ⟨nm.toArray⟩) (v) := by rw [hWz]; exact hz0
  have HWZ := hid hWz
  clear hWz bz hz0
  go_wp2_with fail
  (try rw [← HWZ.out])
  clear q0 q1 q2 q3 q4 q5 q6 q7 q8
  refine (rpack_any v ev _ (hs.below h5.below) hf).mono ?_
  rintro _ w6 ⟨rfl, b6⟩
  have h6 := h5.next b6
  clear p0 p1 p2 p3 p4 p5 p6 p7 p8
  by_cases hh : HistP ev
  case neg =>
    have hE : ¬ hiE ev = 0 := by
      unfold hiE
      split
      · decide
      · first | decide | (rw [if_neg hh]; decide)
    rw [show hiV ev = [] by unfold hiV; rw [if_neg hh]]
    have HNO := hid (hbad hh)
    generalize hiE ev = E9 at *
    go_wp2_with fail
    go_ret2
    exact ⟨by rw [HNO.out.1, HNO.out.2]; rfl, h6.below⟩
  rw [show hiV ev = encHi ev by unfold hiV; rw [if_pos hh], show hiE ev = 0 by unfold hiE; rw [if_neg (by have := hh.1; omega), if_pos hh]]
  have HOK := hid (hgood hh)
  have hel := encHi_len' hh
  clear hgood hbad
  generalize hEV : encHi ev = pe at *
  have l0 := putL_len10' 1 (by decide)
  have l1 : (putL id.toNat).length ≤ 10 := putL_len10 (by unfold U64; omega)
  have l2 := putL_len10' er.toNat (by omega)
  have l3 := putL_len10' st.toNat (by omega)
  have l4 := putL_len10' nx.toNat (by omega)
  have lt1 : (textL ([] : List UInt8)).length ≤ 120 := by
    have := putL_len10' 0 (by decide)
    unfold textL; simp; omega
  have lt2 := textL_len e4
  have lt3 : (textL pe).length ≤ 800010 := by
    have : (putL pe.length).length ≤ 10 := putL_len10 (by unfold U64; omega)
    unfold textL; rw [List.length_append]; omega
  have hg := h6.lt
  have hc0 := h6.c0
  have hc1 := h6.c1
  have hc2 := h6.c2
  have hc7 := h6.c7
  have f1 := fun w => run_cat (P := Try.prog) w (putL 1) (putL id.toNat) (by (try simp only [List.length_append]); omega)
  have f2 := fun w => run_cat (P := Try.prog) w (putL 1 ++ putL id.toNat) (putL er.toNat) (by (try simp only [List.length_append]); omega)
  have f3 := fun w => run_cat (P := Try.prog) w (putL 1 ++ (putL id.toNat ++ putL er.toNat)) (putL st.toNat) (by (try simp only [List.length_append]); omega)
  have f4 := fun w => run_cat (P := Try.prog) w (putL 1 ++ (putL id.toNat ++ (putL er.toNat ++ putL st.toNat))) (putL nx.toNat) (by (try simp only [List.length_append]); omega)
  have f5 := fun w => run_cat (P := Try.prog) w (putL 1 ++ (putL id.toNat ++ (putL er.toNat ++ (putL st.toNat ++ putL nx.toNat)))) (textL ([] : List UInt8)) (by (try simp only [List.length_append]); omega)
  have f6 := fun w => run_cat (P := Try.prog) w (putL 1 ++ (putL id.toNat ++ (putL er.toNat ++ (putL st.toNat ++ (putL nx.toNat ++ textL ([] : List UInt8)))))) (textL nm) (by (try simp only [List.length_append]); omega)
  have f7 := fun w => run_cat (P := Try.prog) w (putL 1 ++ (putL id.toNat ++ (putL er.toNat ++ (putL st.toNat ++ (putL nx.toNat ++ (textL ([] : List UInt8) ++ textL nm)))))) (textL pe) (by (try simp only [List.length_append]); omega)
  simp only [List.append_assoc] at f2 f3 f4 f5 f6 f7
  have hLL : (putL 1 ++ (putL id.toNat ++ (putL er.toNat ++ (putL st.toNat ++ (putL nx.toNat ++ (textL ([] : List UInt8) ++ (textL nm ++ textL pe))))))).length ≤ 1048576 := by simp only [List.length_append]; omega
  clear l0 l1 l2 l3 l4 lt1 lt2 lt3
  have hkeep : ∀ w' w'' : World, (Below w6.heap.size w6 w' ∧ w'.cell? ⟨w.heap.size, 0, none⟩ = some (.int .i64 er) ∧ w'.cell? ⟨w.heap.size, 1, none⟩ = some (.int .i64 st) ∧ w'.cell? ⟨w.heap.size, 2, none⟩ = some (.int .i64 nx) ∧ w'.cell? ⟨w.heap.size, 7, none⟩ = some (.string ⟨nm.toArray⟩)) → Below w'.heap.size w' w'' → (Below w6.heap.size w6 w'' ∧ w''.cell? ⟨w.heap.size, 0, none⟩ = some (.int .i64 er) ∧ w''.cell? ⟨w.heap.size, 1, none⟩ = some (.int .i64 st) ∧ w''.cell? ⟨w.heap.size, 2, none⟩ = some (.int .i64 nx) ∧ w''.cell? ⟨w.heap.size, 7, none⟩ = some (.string ⟨nm.toArray⟩)) := fun w' w'' h k => by
    have hb := bnext h.1 k
    exact ⟨hb, (hb.cell hg).trans hc0, (hb.cell hg).trans hc1, (hb.cell hg).trans hc2, (hb.cell hg).trans hc7⟩
  go_wp2_with fail
  go_region_held3 (fun w' => Below w6.heap.size w6 w' ∧ w'.cell? ⟨w.heap.size, 0, none⟩ = some (.int .i64 er) ∧ w'.cell? ⟨w.heap.size, 1, none⟩ = some (.int .i64 st) ∧ w'.cell? ⟨w.heap.size, 2, none⟩ = some (.int .i64 nx) ∧ w'.cell? ⟨w.heap.size, 7, none⟩ = some (.string ⟨nm.toArray⟩)) (first | exact hS | exact ⟨Below.refl _ _, hc0, hc1, hc2, hc7⟩ | exact ⟨below_drewN _ _ 1, hc0, hc1, hc2, hc7⟩)
    ((first
      | (go_at_call 38; refine (rint_w _ (by omega) _).mono ?_; rintro _ wz ⟨rfl, hbz⟩; (try simp only [Int.toNat_one]); have hS := hkeep _ _ (by assumption) hbz)
      | (go_at_call 39; refine (rtext_any _ (by first | omega | simp) _).mono ?_; rintro _ wz ⟨rfl, hbz⟩; have hS := hkeep _ _ (by assumption) hbz)
      | (go_at_call 41; refine (rwrap_any _ hLL _).mono ?_; rintro _ wz ⟨rfl, hbz⟩; have hS := hkeep _ _ (by assumption) hbz)))
  have h7 := h6.next hS.1
  go_wp2_with fail
  go_ret2
  exact ⟨by rw [HOK.out.1, HOK.out.2, show encRp id ⟨er, st, nx, tk0, nm, ev⟩ = putL 1 ++ (putL id.toNat ++ (putL er.toNat ++ (putL st.toNat ++ (putL nx.toNat ++ (textL ([] : List UInt8) ++ (textL nm ++ textL pe)))))) by rw [← hEV]; simp [encRp, taskB]]; rfl, h7.below⟩
set_option maxHeartbeats 3200000 in
set_option maxRecDepth 100000 in
theorem rrp_task (id er st nx tn : Int) (tw : List UInt8) (tr ty : Int) (nm : List UInt8) (htw : tw.length ≤ 140737488355328) (hnm : nm.length ≤ 140737488355328) (v : Value) (ev : List Ev) (e0 : 0 ≤ id ∧ id ≤ 2147483647) (e1 : 0 ≤ er ∧ er ≤ 999) (e2 : 0 ≤ st ∧ st ≤ 4) (e3 : 0 ≤ nx ∧ nx ≤ 501) (e4 : nm.length ≤ 16) (hz : ¬ tn = 0) (hT : TaskP (tn, tw, tr, ty)) {V : List UInt8} {E : Int} (hbad : ¬ HistP ev → V = [] ∧ E = hiE ev) (hgood : HistP ev → V = wrapL (encRp id ⟨er, st, nx, (tn, tw, tr, ty), nm, ev⟩) ∧ E = 0) (w : World) (hs : Sl w v 8 ev.length (ev.flatMap evc)) (hf : FitE ev) :
    Calls Try.prog 16 #[.int .i64 id, .agg #[.int .i64 er, .int .i64 st, .int .i64 nx, .int .i64 tn, .string ⟨tw.toArray⟩, .int .i64 tr, .int .i64 ty, .string ⟨nm.toArray⟩, v]] w fun e w' => e = .returned (.tuple #[.string ⟨V.toArray⟩, .int .i64 E]) ∧ Below w.heap.size w w' := by
  have h0 := H9.new w 33 (.int .i64 er) (.int .i64 st) (.int .i64 nx) (.int .i64 tn) (.string ⟨tw.toArray⟩) (.int .i64 tr) (.int .i64 ty) (.string ⟨nm.toArray⟩) (v)
  obtain ⟨W, hW⟩ : ∃ W, W = w.alloc (.cells #[.int .i64 er, .int .i64 st, .int .i64 nx, .int .i64 tn, .string ⟨tw.toArray⟩, .int .i64 tr, .int .i64 ty, .string ⟨nm.toArray⟩, v] 33) := ⟨_, rfl⟩
  rw [← hW] at h0
  have HX := hid hW
  clear hW
  have h0' := h0
  obtain ⟨p0, p1, p2, p3, p4, p5, p6, p7, p8, _, _⟩ := h0'
  go_enter Try.func16, Try.ntmps16
  go_wp2_with fail
  rw [← HX.out]
  refine (win_any id 2147483647 W).mono ?_
  rintro _ wz ⟨rfl, hwz⟩
  rw [hwz, decide_eq_true e0]
  clear hwz wz
  go_wp2_with fail
  refine (win_any er 999 W).mono ?_
  rintro _ wz ⟨rfl, hwz⟩
  rw [hwz, decide_eq_true e1]
  clear hwz wz
  go_wp2_with fail
  refine (win_any st 4 W).mono ?_
  rintro _ wz ⟨rfl, hwz⟩
  rw [hwz, decide_eq_true e2]
  clear hwz wz
  go_wp2_with fail
  refine (win_any nx 501 W).mono ?_
  rintro _ wz ⟨rfl, hwz⟩
  rw [hwz, decide_eq_true e3]
  clear hwz wz
  have bz : Below W.heap.size W (W.alloc (.cells #[.int .i64 0, .string ⟨#[]⟩, .int .i64 0, .int .i64 0] 30)) := (Below.refl _ _).alloc (Nat.le_refl _) _
  have hz0 := h0.next bz
  have hz0' := hz0
  obtain ⟨q0, q1, q2, q3, q4, q5, q6, q7, q8, _, _⟩ := hz0'
  obtain ⟨Wz, hWz⟩ : ∃ x, x = W.alloc (.cells #[.int .i64 0, .string ⟨#[]⟩, .int .i64 0, .int .i64 0] 30) := ⟨_, rfl⟩
  have h5 : H9 w Wz w.heap.size (.int .i64 er) (.int .i64 st) (.int .i64 nx) (.int .i64 tn) (.string ⟨tw.toArray⟩) (.int .i64 tr) (.int .i64 ty) (.string ⟨nm.toArray⟩) (v) := by rw [hWz]; exact hz0
  have HWZ := hid hWz
  clear hWz bz hz0
  go_wp2_with fail
  (try rw [← HWZ.out])
  clear q0 q1 q2 q3 q4 q5 q6 q7 q8
  refine (rtask_any tn tw tr ty (by unfold maxLen; omega) _).mono ?_
  rintro _ w6 ⟨rfl, b6⟩
  rw [show encTV (tn, tw, tr, ty) = encT (tn, tw, tr, ty) by unfold encTV; rw [if_pos hT], show tkV (tn, tw, tr, ty) = 0 by unfold tkV; rw [if_pos hT]]
  have h6 := h5.next b6
  have htl : (encT (tn, tw, tr, ty)).length ≤ 100 := by
    have := taskB_len (.inr hT)
    rw [show taskB (tn, tw, tr, ty) = encT (tn, tw, tr, ty) by unfold taskB; rw [if_neg (fun q => hz (by rw [tk0] at q; injection q))]] at this
    exact this
  have htb := hid (show taskB (tn, tw, tr, ty) = encT (tn, tw, tr, ty) by unfold taskB; rw [if_neg (fun q => hz (by rw [tk0] at q; injection q))])
  clear hT
  generalize hTB : encT (tn, tw, tr, ty) = tb at *
  clear p0 p1 p2 p3 p4 p5 p6 p7 p8
  have h6' := h6
  obtain ⟨p0, p1, p2, p3, p4, p5, p6, p7, p8, _, _⟩ := h6'
  go_wp2_with fail
  refine (rpack_any v ev _ (hs.below h6.below) hf).mono ?_
  rintro _ w7 ⟨rfl, b7⟩
  have h7 := h6.next b7
  clear p0 p1 p2 p3 p4 p5 p6 p7 p8
  by_cases hh : HistP ev
  case neg =>
    have hE : ¬ hiE ev = 0 := by
      unfold hiE
      split
      · decide
      · first | decide | (rw [if_neg hh]; decide)
    rw [show hiV ev = [] by unfold hiV; rw [if_neg hh]]
    have HNO := hid (hbad hh)
    generalize hiE ev = E9 at *
    go_wp2_with fail
    go_ret2
    exact ⟨by rw [HNO.out.1, HNO.out.2]; rfl, h7.below⟩
  rw [show hiV ev = encHi ev by unfold hiV; rw [if_pos hh], show hiE ev = 0 by unfold hiE; rw [if_neg (by have := hh.1; omega), if_pos hh]]
  have HOK := hid (hgood hh)
  have hel := encHi_len' hh
  clear hgood hbad
  generalize hEV : encHi ev = pe at *
  have l0 := putL_len10' 1 (by decide)
  have l1 : (putL id.toNat).length ≤ 10 := putL_len10 (by unfold U64; omega)
  have l2 := putL_len10' er.toNat (by omega)
  have l3 := putL_len10' st.toNat (by omega)
  have l4 := putL_len10' nx.toNat (by omega)
  have lt1 : (textL tb).length ≤ 120 := by
    have := putL_len10' tb.length (by omega)
    unfold textL; rw [List.length_append]; omega
  have lt2 := textL_len e4
  have lt3 : (textL pe).length ≤ 800010 := by
    have : (putL pe.length).length ≤ 10 := putL_len10 (by unfold U64; omega)
    unfold textL; rw [List.length_append]; omega
  have hg := h7.lt
  have hc0 := h7.c0
  have hc1 := h7.c1
  have hc2 := h7.c2
  have hc7 := h7.c7
  have f1 := fun w => run_cat (P := Try.prog) w (putL 1) (putL id.toNat) (by (try simp only [List.length_append]); omega)
  have f2 := fun w => run_cat (P := Try.prog) w (putL 1 ++ putL id.toNat) (putL er.toNat) (by (try simp only [List.length_append]); omega)
  have f3 := fun w => run_cat (P := Try.prog) w (putL 1 ++ (putL id.toNat ++ putL er.toNat)) (putL st.toNat) (by (try simp only [List.length_append]); omega)
  have f4 := fun w => run_cat (P := Try.prog) w (putL 1 ++ (putL id.toNat ++ (putL er.toNat ++ putL st.toNat))) (putL nx.toNat) (by (try simp only [List.length_append]); omega)
  have f5 := fun w => run_cat (P := Try.prog) w (putL 1 ++ (putL id.toNat ++ (putL er.toNat ++ (putL st.toNat ++ putL nx.toNat)))) (textL tb) (by (try simp only [List.length_append]); omega)
  have f6 := fun w => run_cat (P := Try.prog) w (putL 1 ++ (putL id.toNat ++ (putL er.toNat ++ (putL st.toNat ++ (putL nx.toNat ++ textL tb))))) (textL nm) (by (try simp only [List.length_append]); omega)
  have f7 := fun w => run_cat (P := Try.prog) w (putL 1 ++ (putL id.toNat ++ (putL er.toNat ++ (putL st.toNat ++ (putL nx.toNat ++ (textL tb ++ textL nm)))))) (textL pe) (by (try simp only [List.length_append]); omega)
  simp only [List.append_assoc] at f2 f3 f4 f5 f6 f7
  have hLL : (putL 1 ++ (putL id.toNat ++ (putL er.toNat ++ (putL st.toNat ++ (putL nx.toNat ++ (textL tb ++ (textL nm ++ textL pe))))))).length ≤ 1048576 := by simp only [List.length_append]; omega
  clear l0 l1 l2 l3 l4 lt1 lt2 lt3
  have hkeep : ∀ w' w'' : World, (Below w7.heap.size w7 w' ∧ w'.cell? ⟨w.heap.size, 0, none⟩ = some (.int .i64 er) ∧ w'.cell? ⟨w.heap.size, 1, none⟩ = some (.int .i64 st) ∧ w'.cell? ⟨w.heap.size, 2, none⟩ = some (.int .i64 nx) ∧ w'.cell? ⟨w.heap.size, 7, none⟩ = some (.string ⟨nm.toArray⟩)) → Below w'.heap.size w' w'' → (Below w7.heap.size w7 w'' ∧ w''.cell? ⟨w.heap.size, 0, none⟩ = some (.int .i64 er) ∧ w''.cell? ⟨w.heap.size, 1, none⟩ = some (.int .i64 st) ∧ w''.cell? ⟨w.heap.size, 2, none⟩ = some (.int .i64 nx) ∧ w''.cell? ⟨w.heap.size, 7, none⟩ = some (.string ⟨nm.toArray⟩)) := fun w' w'' h k => by
    have hb := bnext h.1 k
    exact ⟨hb, (hb.cell hg).trans hc0, (hb.cell hg).trans hc1, (hb.cell hg).trans hc2, (hb.cell hg).trans hc7⟩
  go_wp2_with fail
  go_region_held3 (fun w' => Below w7.heap.size w7 w' ∧ w'.cell? ⟨w.heap.size, 0, none⟩ = some (.int .i64 er) ∧ w'.cell? ⟨w.heap.size, 1, none⟩ = some (.int .i64 st) ∧ w'.cell? ⟨w.heap.size, 2, none⟩ = some (.int .i64 nx) ∧ w'.cell? ⟨w.heap.size, 7, none⟩ = some (.string ⟨nm.toArray⟩)) (first | exact hS | exact ⟨Below.refl _ _, hc0, hc1, hc2, hc7⟩ | exact ⟨below_drewN _ _ 1, hc0, hc1, hc2, hc7⟩)
    ((first
      | (go_at_call 38; refine (rint_w _ (by omega) _).mono ?_; rintro _ wz ⟨rfl, hbz⟩; (try simp only [Int.toNat_one]); have hS := hkeep _ _ (by assumption) hbz)
      | (go_at_call 39; refine (rtext_any _ (by first | omega | simp) _).mono ?_; rintro _ wz ⟨rfl, hbz⟩; have hS := hkeep _ _ (by assumption) hbz)
      | (go_at_call 41; refine (rwrap_any _ hLL _).mono ?_; rintro _ wz ⟨rfl, hbz⟩; have hS := hkeep _ _ (by assumption) hbz)))
  have h8 := h7.next hS.1
  go_wp2_with fail
  go_ret2
  exact ⟨by rw [HOK.out.1, HOK.out.2, show encRp id ⟨er, st, nx, (tn, tw, tr, ty), nm, ev⟩ = putL 1 ++ (putL id.toNat ++ (putL er.toNat ++ (putL st.toNat ++ (putL nx.toNat ++ (textL tb ++ (textL nm ++ textL pe)))))) by rw [← hEV]; simp [encRp, htb.out]]; rfl, h8.below⟩
theorem rreply_any (id er st nx tn : Int) (tw : List UInt8) (tr ty : Int) (nm : List UInt8) (htw : tw.length ≤ 140737488355328) (hnm : nm.length ≤ 140737488355328) (v : Value) (ev : List Ev) (w : World) (hs : Sl w v 8 ev.length (ev.flatMap evc)) (hf : FitE ev) :
    Calls Try.prog 16 #[.int .i64 id, .agg #[.int .i64 er, .int .i64 st, .int .i64 nx, .int .i64 tn, .string ⟨tw.toArray⟩, .int .i64 tr, .int .i64 ty, .string ⟨nm.toArray⟩, v]] w fun e w' => e = .returned (.tuple #[.string ⟨(rpV id ⟨er, st, nx, (tn, tw, tr, ty), nm, ev⟩).toArray⟩, .int .i64 (rpE id ⟨er, st, nx, (tn, tw, tr, ty), nm, ev⟩)]) ∧ Below w.heap.size w w' := by
  obtain ⟨k1, k2, k3, k4⟩ := rp_codes (id := id) (x := ⟨er, st, nx, (tn, tw, tr, ty), nm, ev⟩)
  by_cases hA : RpA id ⟨er, st, nx, (tn, tw, tr, ty), nm, ev⟩
  · obtain ⟨e0, e1, e2, e3, e4⟩ := hA
    have hA : RpA id ⟨er, st, nx, (tn, tw, tr, ty), nm, ev⟩ := ⟨e0, e1, e2, e3, e4⟩
    by_cases hz : (tn, tw, tr, ty) = tk0
    · have hT : RpT ⟨er, st, nx, (tn, tw, tr, ty), nm, ev⟩ := .inl hz
      have k3 := k3 hA hT
      have k4 := k4 hA hT
      rw [tk0, Prod.mk.injEq, Prod.mk.injEq, Prod.mk.injEq] at hz
      obtain ⟨rfl, rfl, rfl, rfl⟩ := hz
      exact rrp_zero id er st nx nm hnm v ev e0 e1 e2 e3 e4 k3 k4 w hs hf
    · by_cases hT : TaskP (tn, tw, tr, ty)
      · have hT' : RpT ⟨er, st, nx, (tn, tw, tr, ty), nm, ev⟩ := .inr hT
        exact rrp_task id er st nx tn tw tr ty nm htw hnm v ev e0 e1 e2 e3 e4 (by have := hT.1.1; simp only at this; omega) hT (k3 hA hT') (k4 hA hT') w hs hf
      · have := k2 hA (fun q => q.elim hz hT)
        rw [this.1, this.2]
        clear this k1 k2 k3 k4
        by_cases h0 : tn = 0
        case neg => exact rrp_bad0 id er st nx tn tw tr ty nm htw hnm v e0 e1 e2 e3 e4 h0 hT w
        subst h0
        by_cases h1 : tw = []
        case neg => exact rrp_bad1 id er st nx tw tr ty nm htw hnm v e0 e1 e2 e3 e4 h1 (by cases tw with | nil => exact absurd rfl h1 | cons _ _ => rfl) (by cases tw with | nil => exact absurd rfl h1 | cons _ _ => rfl) (fun q => h1 (List.eq_nil_of_length_eq_zero q)) hT w
        subst h1
        by_cases h2 : tr = 0
        case neg => exact rrp_bad2 id er st nx tr ty nm hnm v e0 e1 e2 e3 e4 h2 hT w
        subst h2
        by_cases h3 : ty = 0
        case neg => exact rrp_bad3 id er st nx ty nm hnm v e0 e1 e2 e3 e4 h3 hT w
        subst h3
        exact absurd rfl hz
  · have := k1 hA
    rw [this.1, this.2]
    clear k1 k2 k3 k4 this
    by_cases e0 : 0 ≤ id ∧ id ≤ 2147483647
    case neg => exact rrp_no0 id er st nx tn tw tr ty nm htw hnm v e0 w
    by_cases e1 : 0 ≤ er ∧ er ≤ 999
    case neg => exact rrp_no1 id er st nx tn tw tr ty nm htw hnm v e0 e1 w
    by_cases e2 : 0 ≤ st ∧ st ≤ 4
    case neg => exact rrp_no2 id er st nx tn tw tr ty nm htw hnm v e0 e1 e2 w
    by_cases e3 : 0 ≤ nx ∧ nx ≤ 501
    case neg => exact rrp_no3 id er st nx tn tw tr ty nm htw hnm v e0 e1 e2 e3 w
    by_cases e4 : nm.length ≤ 16
    case neg => exact rrp_no4 id er st nx tn tw tr ty nm htw hnm v e0 e1 e2 e3 e4 w
    exact absurd ⟨e0, e1, e2, e3, e4⟩ hA
end Go.Proofs.Ytelacmchofehcaa
namespace Go.Proofs.Ytelacmchofehcaa
open Go.RowKit
set_option linter.unusedVariables false
set_option linter.unusedSimpArgs false

set_option maxHeartbeats 3200000 in
set_option maxRecDepth 100000 in
theorem wireSends_walk (id kd : Int) (rq wd nm : List UInt8) (lrq : rq.length ≤ 140737488355328) (lwd : wd.length ≤ 140737488355328) (lnm : nm.length ≤ 140737488355328) (pa : Option Addr) (pc : Nat) (ss : List St) (lim : Int) (ua : Option Addr) (uc : Nat) (cs : List Cm) (rf ty fr sh : Int) (gd : Bool)
    (er st nx tn : Int) (tw : List UInt8) (tr tt : Int) (nx2 : List UInt8) (ltw : tw.length ≤ 140737488355328) (lnx : nx2.length ≤ 140737488355328) (xa : Option Addr) (xc : Nat) (ev : List Ev) (w : World)
    (hsp : Sl w (.slice pa ss.length pc) 6 ss.length (ss.flatMap stC)) (hfs : Fit ss) (hsu : Sl w (.slice ua cs.length uc) 3 cs.length (cs.flatMap cmc)) (hse : Sl w (.slice xa ev.length xc) 8 ev.length (ev.flatMap evc)) (hfe : FitE ev) :
    Calls Try.prog 6 #[.int .i64 id, .agg #[.int .i64 kd, .string ⟨rq.toArray⟩, .string ⟨wd.toArray⟩, .string ⟨nm.toArray⟩, .slice pa ss.length pc, .int .i64 lim, .slice ua cs.length uc, .int .i64 rf, .int .i64 ty, .int .i64 fr, .int .i64 sh, .bool gd], .agg #[.int .i64 er, .int .i64 st, .int .i64 nx, .int .i64 tn, .string ⟨tw.toArray⟩, .int .i64 tr, .int .i64 tt, .string ⟨nx2.toArray⟩, .slice xa ev.length xc]] w fun e w' => e = .returned (.bool true) ∧ Below w.heap.size w w' := by
  have g0 := (H12.new w 27 (.int .i64 kd) (.string ⟨rq.toArray⟩) (.string ⟨wd.toArray⟩) (.string ⟨nm.toArray⟩) (.slice pa ss.length pc) (.int .i64 lim) (.slice ua cs.length uc) (.int .i64 rf) (.int .i64 ty) (.int .i64 fr) (.int .i64 sh) (.bool gd)).next ((Below.refl _ _).alloc (Nat.le_refl _) (.cells #[.int .i64 er, .int .i64 st, .int .i64 nx, .int .i64 tn, .string ⟨tw.toArray⟩, .int .i64 tr, .int .i64 tt, .string ⟨nx2.toArray⟩, .slice xa ev.length xc] 33))
  have k0 := H9.new (w.alloc (.cells #[.int .i64 kd, .string ⟨rq.toArray⟩, .string ⟨wd.toArray⟩, .string ⟨nm.toArray⟩, .slice pa ss.length pc, .int .i64 lim, .slice ua cs.length uc, .int .i64 rf, .int .i64 ty, .int .i64 fr, .int .i64 sh, .bool gd] 27)) 33 (.int .i64 er) (.int .i64 st) (.int .i64 nx) (.int .i64 tn) (.string ⟨tw.toArray⟩) (.int .i64 tr) (.int .i64 tt) (.string ⟨nx2.toArray⟩) (.slice xa ev.length xc)
  rw [show (w.alloc (.cells #[.int .i64 kd, .string ⟨rq.toArray⟩, .string ⟨wd.toArray⟩, .string ⟨nm.toArray⟩, .slice pa ss.length pc, .int .i64 lim, .slice ua cs.length uc, .int .i64 rf, .int .i64 ty, .int .i64 fr, .int .i64 sh, .bool gd] 27)).heap.size = w.heap.size + 1 from Array.size_push ..] at k0
  obtain ⟨W, hW⟩ : ∃ W, W = (w.alloc (.cells #[.int .i64 kd, .string ⟨rq.toArray⟩, .string ⟨wd.toArray⟩, .string ⟨nm.toArray⟩, .slice pa ss.length pc, .int .i64 lim, .slice ua cs.length uc, .int .i64 rf, .int .i64 ty, .int .i64 fr, .int .i64 sh, .bool gd] 27)).alloc (.cells #[.int .i64 er, .int .i64 st, .int .i64 nx, .int .i64 tn, .string ⟨tw.toArray⟩, .int .i64 tr, .int .i64 tt, .string ⟨nx2.toArray⟩, .slice xa ev.length xc] 33) := ⟨_, rfl⟩
  rw [← hW] at g0 k0
  have HW := hid hW
  clear hW
  go_enter Try.func6, Try.ntmps6
  go_wp2_with fail
  rw [← HW.out]
  refine (wawake_any W).mono ?_
  rintro _ w1 ⟨rfl, b1⟩
  have g1 := g0.next b1
  have k1 := k0.next b1
  have c1 := fun (w' : World) (h : Below w.heap.size w w') => request_any id kd rq wd nm lrq lwd lnm (.slice pa ss.length pc) lim ss ua uc cs rf ty fr sh gd w' (hsp.below h) hfs (hsu.below h)
  have c2 := fun (w' : World) (h : Below w.heap.size w w') => rrequest_any id kd rq wd nm lrq lwd lnm (.slice pa ss.length pc) lim ss ua uc cs rf ty fr sh gd w' (hsp.below h) hfs (hsu.below h)
  have c3 := fun (w' : World) (h : Below w.heap.size w w') => reply_any id er st nx tn tw tr tt nx2 ltw lnx (.slice xa ev.length xc) ev w' (hse.below h) hfe
  have c4 := fun (w' : World) (h : Below w.heap.size w w') => rreply_any id er st nx tn tw tr tt nx2 ltw lnx (.slice xa ev.length xc) ev w' (hse.below h) hfe
  generalize rqV id ⟨kd, rq, wd, nm, ss, lim, cs, rf, ty, fr, sh, gd⟩ = V1 at c1 c2
  generalize rqE id ⟨kd, rq, wd, nm, ss, lim, cs, rf, ty, fr, sh, gd⟩ = E1 at c1 c2
  generalize rpV id ⟨er, st, nx, (tn, tw, tr, tt), nx2, ev⟩ = V2 at c3 c4
  generalize rpE id ⟨er, st, nx, (tn, tw, tr, tt), nx2, ev⟩ = E2 at c3 c4
  have g1' := g1
  obtain ⟨p0, p1, p2, p3, p4, p5, p6, p7, p8, p9, p10, p11, _, _⟩ := g1'
  go_wp2_with fail
  refine (c1 w1 g1.below).mono ?_
  rintro _ w2 ⟨rfl, b2⟩
  have g2 := g1.next b2
  have k2 := k1.next b2
  clear p0 p1 p2 p3 p4 p5 p6 p7 p8 p9 p10 p11
  have g2' := g2
  obtain ⟨p0, p1, p2, p3, p4, p5, p6, p7, p8, p9, p10, p11, _, _⟩ := g2'
  go_wp2_with fail
  refine (c2 w2 g2.below).mono ?_
  rintro _ w3 ⟨rfl, b3⟩
  have g3 := g2.next b3
  have k3 := k2.next b3
  clear p0 p1 p2 p3 p4 p5 p6 p7 p8 p9 p10 p11
  have k3' := k3
  obtain ⟨q0, q1, q2, q3, q4, q5, q6, q7, q8, _, _⟩ := k3'
  go_wp2_with fail
  refine (c3 w3 g3.below).mono ?_
  rintro _ w4 ⟨rfl, b4⟩
  have g4 := g3.next b4
  have k4 := k3.next b4
  clear q0 q1 q2 q3 q4 q5 q6 q7 q8
  have k4' := k4
  obtain ⟨q0, q1, q2, q3, q4, q5, q6, q7, q8, _, _⟩ := k4'
  go_wp2_with fail
  refine (c4 w4 g4.below).mono ?_
  rintro _ w5 ⟨rfl, b5⟩
  have g5 := g4.next b5
  clear q0 q1 q2 q3 q4 q5 q6 q7 q8 c1 c2 c3 c4
  go_wp2_with fail
  go_ret
  exact ⟨rfl, g5.below⟩
theorem wireSends_w (id : Int) {B : Prop} (_ : B) (v : Value) (kd : Int) (rq wd nm : List UInt8) (pa : Option Addr) (pc : Nat) (ss : List St) (lim : Int) (ua : Option Addr) (uc : Nat) (cs : List Cm) (rf ty fr sh : Int) (gd : Bool)
    (v' : Value) (er st nx tn : Int) (tw : List UInt8) (tr tt : Int) (nx2 : List UInt8) (xa : Option Addr) (xc : Nat) (ev : List Ev) (w : World)
    (e : v = .agg #[.int .i64 kd, .string ⟨rq.toArray⟩, .string ⟨wd.toArray⟩, .string ⟨nm.toArray⟩, .slice pa ss.length pc, .int .i64 lim, .slice ua cs.length uc, .int .i64 rf, .int .i64 ty, .int .i64 fr, .int .i64 sh, .bool gd]) (l : rq.length ≤ 140737488351232 ∧ wd.length ≤ 140737488351232 ∧ nm.length ≤ 140737488351232) (hsp : Sl w (.slice pa ss.length pc) 6 ss.length (ss.flatMap stC)) (hfs : Fit ss) (hsu : Sl w (.slice ua cs.length uc) 3 cs.length (cs.flatMap cmc))
    (e' : v' = .agg #[.int .i64 er, .int .i64 st, .int .i64 nx, .int .i64 tn, .string ⟨tw.toArray⟩, .int .i64 tr, .int .i64 tt, .string ⟨nx2.toArray⟩, .slice xa ev.length xc]) (l' : tw.length ≤ 140737488351232 ∧ nx2.length ≤ 140737488351232) (hse : Sl w (.slice xa ev.length xc) 8 ev.length (ev.flatMap evc)) (hfe : FitE ev) :
    Calls Try.prog 6 #[.int .i64 id, v, v'] w fun e w' => e = .returned (.bool true) ∧ Below w.heap.size w w' := by
  rw [e, e']
  exact wireSends_walk id kd rq wd nm (by omega) (by omega) (by omega) pa pc ss lim ua uc cs rf ty fr sh gd er st nx tn tw tr tt nx2 (by omega) (by omega) xa xc ev w hsp hfs hsu hse hfe
end Go.Proofs.Ytelacmchofehcaa
