/- CONTRACT, part: wire.Request's ways that end ahead of the program's bytes. CONTRACT: wire.Request. -/
import Derived.Test.YtelacmchofehcaaWmB
import Derived.Test.YtelacmchofehcaaPgmEnc
import Derived.Test.YtelacmchofehcaaEvtEnc
import Derived.Deep.RegionHeld3
namespace Go.Proofs.Ytelacmchofehcaa
open Go.RowKit
set_option linter.unusedVariables false

set_option maxHeartbeats 1600000 in
set_option maxRecDepth 100000 in
theorem rq_no0 (id kd : Int) (rq wd nm : List UInt8) (hrq : rq.length ≤ 140737488355328) (hwd : wd.length ≤ 140737488355328) (hnm : nm.length ≤ 140737488355328) (v : Value) (lim : Int) (ua : Option Addr) (un uc : Nat) (rf ty fr sh : Int) (gd : Bool) (hun : un ≤ 9223372036854775807) (e0 : ¬ (0 ≤ id ∧ id ≤ 2147483647)) (w : World) :
    Calls Try.prog 9 #[.int .i64 id, .agg #[.int .i64 kd, .string ⟨rq.toArray⟩, .string ⟨wd.toArray⟩, .string ⟨nm.toArray⟩, v, .int .i64 lim, .slice ua un uc, .int .i64 rf, .int .i64 ty, .int .i64 fr, .int .i64 sh, .bool gd]] w fun e w' => e = .returned (.tuple #[.string ⟨#[]⟩, .int .i64 1]) ∧ Below w.heap.size w w' := by
  have h0 := H12.new w 27 (.int .i64 kd) (.string ⟨rq.toArray⟩) (.string ⟨wd.toArray⟩) (.string ⟨nm.toArray⟩) (v) (.int .i64 lim) (.slice ua un uc) (.int .i64 rf) (.int .i64 ty) (.int .i64 fr) (.int .i64 sh) (.bool gd)
  obtain ⟨W, hW⟩ : ∃ W, W = w.alloc (.cells #[.int .i64 kd, .string ⟨rq.toArray⟩, .string ⟨wd.toArray⟩, .string ⟨nm.toArray⟩, v, .int .i64 lim, .slice ua un uc, .int .i64 rf, .int .i64 ty, .int .i64 fr, .int .i64 sh, .bool gd] 27) := ⟨_, rfl⟩
  rw [← hW] at h0
  have hsz : W.heap.size = w.heap.size + 1 := by rw [hW]; exact Array.size_push ..
  have HX := hid hW
  have HZ := hid hsz
  clear hW hsz
  go_enter Try.func9, Try.ntmps9
  go_wp2_with fail
  rw [← HX.out, ← HZ.out]
  refine (within1 2147483647 id _).mono ?_
  rintro _ w1 ⟨rfl, b1⟩
  rw [decide_eq_false e0]
  have h1 := h0.next b1
  have h1' := h1
  obtain ⟨p0, p1, p2, p3, p4, p5, p6, p7, p8, p9, p10, p11, _, _⟩ := h1'
  go_wp2_with fail
  go_ret2
  exact ⟨rfl, h1.below⟩
set_option maxHeartbeats 1600000 in
set_option maxRecDepth 100000 in
theorem rq_no1 (id kd : Int) (rq wd nm : List UInt8) (hrq : rq.length ≤ 140737488355328) (hwd : wd.length ≤ 140737488355328) (hnm : nm.length ≤ 140737488355328) (v : Value) (lim : Int) (ua : Option Addr) (un uc : Nat) (rf ty fr sh : Int) (gd : Bool) (hun : un ≤ 9223372036854775807) (e0 : 0 ≤ id ∧ id ≤ 2147483647) (e1 : ¬ (1 ≤ kd)) (w : World) :
    Calls Try.prog 9 #[.int .i64 id, .agg #[.int .i64 kd, .string ⟨rq.toArray⟩, .string ⟨wd.toArray⟩, .string ⟨nm.toArray⟩, v, .int .i64 lim, .slice ua un uc, .int .i64 rf, .int .i64 ty, .int .i64 fr, .int .i64 sh, .bool gd]] w fun e w' => e = .returned (.tuple #[.string ⟨#[]⟩, .int .i64 1]) ∧ Below w.heap.size w w' := by
  have h0 := H12.new w 27 (.int .i64 kd) (.string ⟨rq.toArray⟩) (.string ⟨wd.toArray⟩) (.string ⟨nm.toArray⟩) (v) (.int .i64 lim) (.slice ua un uc) (.int .i64 rf) (.int .i64 ty) (.int .i64 fr) (.int .i64 sh) (.bool gd)
  obtain ⟨W, hW⟩ : ∃ W, W = w.alloc (.cells #[.int .i64 kd, .string ⟨rq.toArray⟩, .string ⟨wd.toArray⟩, .string ⟨nm.toArray⟩, v, .int .i64 lim, .slice ua un uc, .int .i64 rf, .int .i64 ty, .int .i64 fr, .int .i64 sh, .bool gd] 27) := ⟨_, rfl⟩
  rw [← hW] at h0
  have hsz : W.heap.size = w.heap.size + 1 := by rw [hW]; exact Array.size_push ..
  have HX := hid hW
  have HZ := hid hsz
  clear hW hsz
  go_enter Try.func9, Try.ntmps9
  go_wp2_with fail
  rw [← HX.out, ← HZ.out]
  refine (within1 2147483647 id _).mono ?_
  rintro _ w1 ⟨rfl, b1⟩
  rw [decide_eq_true e0]
  have h1 := h0.next b1
  have h1' := h1
  obtain ⟨p0, p1, p2, p3, p4, p5, p6, p7, p8, p9, p10, p11, _, _⟩ := h1'
  go_wp2_with fail
  go_ret2
  exact ⟨rfl, h1.below⟩
set_option maxHeartbeats 1600000 in
set_option maxRecDepth 100000 in
theorem rq_no2 (id kd : Int) (rq wd nm : List UInt8) (hrq : rq.length ≤ 140737488355328) (hwd : wd.length ≤ 140737488355328) (hnm : nm.length ≤ 140737488355328) (v : Value) (lim : Int) (ua : Option Addr) (un uc : Nat) (rf ty fr sh : Int) (gd : Bool) (hun : un ≤ 9223372036854775807) (e0 : 0 ≤ id ∧ id ≤ 2147483647) (e1 : 1 ≤ kd) (e2 : ¬ (kd ≤ 11)) (w : World) :
    Calls Try.prog 9 #[.int .i64 id, .agg #[.int .i64 kd, .string ⟨rq.toArray⟩, .string ⟨wd.toArray⟩, .string ⟨nm.toArray⟩, v, .int .i64 lim, .slice ua un uc, .int .i64 rf, .int .i64 ty, .int .i64 fr, .int .i64 sh, .bool gd]] w fun e w' => e = .returned (.tuple #[.string ⟨#[]⟩, .int .i64 1]) ∧ Below w.heap.size w w' := by
  have h0 := H12.new w 27 (.int .i64 kd) (.string ⟨rq.toArray⟩) (.string ⟨wd.toArray⟩) (.string ⟨nm.toArray⟩) (v) (.int .i64 lim) (.slice ua un uc) (.int .i64 rf) (.int .i64 ty) (.int .i64 fr) (.int .i64 sh) (.bool gd)
  obtain ⟨W, hW⟩ : ∃ W, W = w.alloc (.cells #[.int .i64 kd, .string ⟨rq.toArray⟩, .string ⟨wd.toArray⟩, .string ⟨nm.toArray⟩, v, .int .i64 lim, .slice ua un uc, .int .i64 rf, .int .i64 ty, .int .i64 fr, .int .i64 sh, .bool gd] 27) := ⟨_, rfl⟩
  rw [← hW] at h0
  have hsz : W.heap.size = w.heap.size + 1 := by rw [hW]; exact Array.size_push ..
  have HX := hid hW
  have HZ := hid hsz
  clear hW hsz
  go_enter Try.func9, Try.ntmps9
  go_wp2_with fail
  rw [← HX.out, ← HZ.out]
  refine (within1 2147483647 id _).mono ?_
  rintro _ w1 ⟨rfl, b1⟩
  rw [decide_eq_true e0]
  have h1 := h0.next b1
  have h1' := h1
  obtain ⟨p0, p1, p2, p3, p4, p5, p6, p7, p8, p9, p10, p11, _, _⟩ := h1'
  go_wp2_with fail
  go_ret2
  exact ⟨rfl, h1.below⟩
set_option maxHeartbeats 1600000 in
set_option maxRecDepth 100000 in
theorem rq_no3 (id kd : Int) (rq wd nm : List UInt8) (hrq : rq.length ≤ 140737488355328) (hwd : wd.length ≤ 140737488355328) (hnm : nm.length ≤ 140737488355328) (v : Value) (lim : Int) (ua : Option Addr) (un uc : Nat) (rf ty fr sh : Int) (gd : Bool) (hun : un ≤ 9223372036854775807) (e0 : 0 ≤ id ∧ id ≤ 2147483647) (e1 : 1 ≤ kd) (e2 : kd ≤ 11) (e3 : ¬ (rq.length ≤ 16 ∧ wd.length ≤ 16 ∧ nm.length ≤ 16)) (w : World) :
    Calls Try.prog 9 #[.int .i64 id, .agg #[.int .i64 kd, .string ⟨rq.toArray⟩, .string ⟨wd.toArray⟩, .string ⟨nm.toArray⟩, v, .int .i64 lim, .slice ua un uc, .int .i64 rf, .int .i64 ty, .int .i64 fr, .int .i64 sh, .bool gd]] w fun e w' => e = .returned (.tuple #[.string ⟨#[]⟩, .int .i64 1]) ∧ Below w.heap.size w w' := by
  have h0 := H12.new w 27 (.int .i64 kd) (.string ⟨rq.toArray⟩) (.string ⟨wd.toArray⟩) (.string ⟨nm.toArray⟩) (v) (.int .i64 lim) (.slice ua un uc) (.int .i64 rf) (.int .i64 ty) (.int .i64 fr) (.int .i64 sh) (.bool gd)
  obtain ⟨W, hW⟩ : ∃ W, W = w.alloc (.cells #[.int .i64 kd, .string ⟨rq.toArray⟩, .string ⟨wd.toArray⟩, .string ⟨nm.toArray⟩, v, .int .i64 lim, .slice ua un uc, .int .i64 rf, .int .i64 ty, .int .i64 fr, .int .i64 sh, .bool gd] 27) := ⟨_, rfl⟩
  rw [← hW] at h0
  have hsz : W.heap.size = w.heap.size + 1 := by rw [hW]; exact Array.size_push ..
  have HX := hid hW
  have HZ := hid hsz
  clear hW hsz
  go_enter Try.func9, Try.ntmps9
  go_wp2_with fail
  rw [← HX.out, ← HZ.out]
  refine (within1 2147483647 id _).mono ?_
  rintro _ w1 ⟨rfl, b1⟩
  rw [decide_eq_true e0]
  have h1 := h0.next b1
  have h1' := h1
  obtain ⟨p0, p1, p2, p3, p4, p5, p6, p7, p8, p9, p10, p11, _, _⟩ := h1'
  go_wp2_with fail
  refine (short3 rq wd nm hrq hwd hnm _).mono ?_
  rintro _ w2 ⟨rfl, b2⟩
  rw [decide_eq_false e3]
  have h2 := h1.next b2
  clear p0 p1 p2 p3 p4 p5 p6 p7 p8 p9 p10 p11
  have h2' := h2
  obtain ⟨p0, p1, p2, p3, p4, p5, p6, p7, p8, p9, p10, p11, _, _⟩ := h2'
  go_wp2_with fail
  go_ret2
  exact ⟨rfl, h2.below⟩
set_option maxHeartbeats 1600000 in
set_option maxRecDepth 100000 in
theorem rq_no4 (id kd : Int) (rq wd nm : List UInt8) (hrq : rq.length ≤ 140737488355328) (hwd : wd.length ≤ 140737488355328) (hnm : nm.length ≤ 140737488355328) (v : Value) (lim : Int) (ua : Option Addr) (un uc : Nat) (rf ty fr sh : Int) (gd : Bool) (hun : un ≤ 9223372036854775807) (e0 : 0 ≤ id ∧ id ≤ 2147483647) (e1 : 1 ≤ kd) (e2 : kd ≤ 11) (e3 : rq.length ≤ 16 ∧ wd.length ≤ 16 ∧ nm.length ≤ 16) (e4 : ¬ ((0 ≤ rf ∧ rf ≤ 501) ∧ (0 ≤ ty ∧ ty ≤ 501) ∧ (0 ≤ fr ∧ fr ≤ 501))) (w : World) :
    Calls Try.prog 9 #[.int .i64 id, .agg #[.int .i64 kd, .string ⟨rq.toArray⟩, .string ⟨wd.toArray⟩, .string ⟨nm.toArray⟩, v, .int .i64 lim, .slice ua un uc, .int .i64 rf, .int .i64 ty, .int .i64 fr, .int .i64 sh, .bool gd]] w fun e w' => e = .returned (.tuple #[.string ⟨#[]⟩, .int .i64 1]) ∧ Below w.heap.size w w' := by
  have h0 := H12.new w 27 (.int .i64 kd) (.string ⟨rq.toArray⟩) (.string ⟨wd.toArray⟩) (.string ⟨nm.toArray⟩) (v) (.int .i64 lim) (.slice ua un uc) (.int .i64 rf) (.int .i64 ty) (.int .i64 fr) (.int .i64 sh) (.bool gd)
  obtain ⟨W, hW⟩ : ∃ W, W = w.alloc (.cells #[.int .i64 kd, .string ⟨rq.toArray⟩, .string ⟨wd.toArray⟩, .string ⟨nm.toArray⟩, v, .int .i64 lim, .slice ua un uc, .int .i64 rf, .int .i64 ty, .int .i64 fr, .int .i64 sh, .bool gd] 27) := ⟨_, rfl⟩
  rw [← hW] at h0
  have hsz : W.heap.size = w.heap.size + 1 := by rw [hW]; exact Array.size_push ..
  have HX := hid hW
  have HZ := hid hsz
  clear hW hsz
  go_enter Try.func9, Try.ntmps9
  go_wp2_with fail
  rw [← HX.out, ← HZ.out]
  refine (within1 2147483647 id _).mono ?_
  rintro _ w1 ⟨rfl, b1⟩
  rw [decide_eq_true e0]
  have h1 := h0.next b1
  have h1' := h1
  obtain ⟨p0, p1, p2, p3, p4, p5, p6, p7, p8, p9, p10, p11, _, _⟩ := h1'
  go_wp2_with fail
  refine (short3 rq wd nm hrq hwd hnm _).mono ?_
  rintro _ w2 ⟨rfl, b2⟩
  rw [decide_eq_true e3]
  have h2 := h1.next b2
  clear p0 p1 p2 p3 p4 p5 p6 p7 p8 p9 p10 p11
  have h2' := h2
  obtain ⟨p0, p1, p2, p3, p4, p5, p6, p7, p8, p9, p10, p11, _, _⟩ := h2'
  go_wp2_with fail
  refine (within3 501 rf ty fr _).mono ?_
  rintro _ w3 ⟨rfl, b3⟩
  rw [decide_eq_false e4]
  have h3 := h2.next b3
  clear p0 p1 p2 p3 p4 p5 p6 p7 p8 p9 p10 p11
  have h3' := h3
  obtain ⟨p0, p1, p2, p3, p4, p5, p6, p7, p8, p9, p10, p11, _, _⟩ := h3'
  go_wp2_with fail
  go_ret2
  exact ⟨rfl, h3.below⟩
set_option maxHeartbeats 1600000 in
set_option maxRecDepth 100000 in
theorem rq_no5 (id kd : Int) (rq wd nm : List UInt8) (hrq : rq.length ≤ 140737488355328) (hwd : wd.length ≤ 140737488355328) (hnm : nm.length ≤ 140737488355328) (v : Value) (lim : Int) (ua : Option Addr) (un uc : Nat) (rf ty fr sh : Int) (gd : Bool) (hun : un ≤ 9223372036854775807) (e0 : 0 ≤ id ∧ id ≤ 2147483647) (e1 : 1 ≤ kd) (e2 : kd ≤ 11) (e3 : rq.length ≤ 16 ∧ wd.length ≤ 16 ∧ nm.length ≤ 16) (e4 : (0 ≤ rf ∧ rf ≤ 501) ∧ (0 ≤ ty ∧ ty ≤ 501) ∧ (0 ≤ fr ∧ fr ≤ 501)) (e5 : ¬ (0 ≤ sh ∧ sh ≤ 16)) (w : World) :
    Calls Try.prog 9 #[.int .i64 id, .agg #[.int .i64 kd, .string ⟨rq.toArray⟩, .string ⟨wd.toArray⟩, .string ⟨nm.toArray⟩, v, .int .i64 lim, .slice ua un uc, .int .i64 rf, .int .i64 ty, .int .i64 fr, .int .i64 sh, .bool gd]] w fun e w' => e = .returned (.tuple #[.string ⟨#[]⟩, .int .i64 1]) ∧ Below w.heap.size w w' := by
  have h0 := H12.new w 27 (.int .i64 kd) (.string ⟨rq.toArray⟩) (.string ⟨wd.toArray⟩) (.string ⟨nm.toArray⟩) (v) (.int .i64 lim) (.slice ua un uc) (.int .i64 rf) (.int .i64 ty) (.int .i64 fr) (.int .i64 sh) (.bool gd)
  obtain ⟨W, hW⟩ : ∃ W, W = w.alloc (.cells #[.int .i64 kd, .string ⟨rq.toArray⟩, .string ⟨wd.toArray⟩, .string ⟨nm.toArray⟩, v, .int .i64 lim, .slice ua un uc, .int .i64 rf, .int .i64 ty, .int .i64 fr, .int .i64 sh, .bool gd] 27) := ⟨_, rfl⟩
  rw [← hW] at h0
  have hsz : W.heap.size = w.heap.size + 1 := by rw [hW]; exact Array.size_push ..
  have HX := hid hW
  have HZ := hid hsz
  clear hW hsz
  go_enter Try.func9, Try.ntmps9
  go_wp2_with fail
  rw [← HX.out, ← HZ.out]
  refine (within1 2147483647 id _).mono ?_
  rintro _ w1 ⟨rfl, b1⟩
  rw [decide_eq_true e0]
  have h1 := h0.next b1
  have h1' := h1
  obtain ⟨p0, p1, p2, p3, p4, p5, p6, p7, p8, p9, p10, p11, _, _⟩ := h1'
  go_wp2_with fail
  refine (short3 rq wd nm hrq hwd hnm _).mono ?_
  rintro _ w2 ⟨rfl, b2⟩
  rw [decide_eq_true e3]
  have h2 := h1.next b2
  clear p0 p1 p2 p3 p4 p5 p6 p7 p8 p9 p10 p11
  have h2' := h2
  obtain ⟨p0, p1, p2, p3, p4, p5, p6, p7, p8, p9, p10, p11, _, _⟩ := h2'
  go_wp2_with fail
  refine (within3 501 rf ty fr _).mono ?_
  rintro _ w3 ⟨rfl, b3⟩
  rw [decide_eq_true e4]
  have h3 := h2.next b3
  clear p0 p1 p2 p3 p4 p5 p6 p7 p8 p9 p10 p11
  have h3' := h3
  obtain ⟨p0, p1, p2, p3, p4, p5, p6, p7, p8, p9, p10, p11, _, _⟩ := h3'
  go_wp2_with fail
  refine (within1 16 sh _).mono ?_
  rintro _ w4 ⟨rfl, b4⟩
  rw [decide_eq_false e5]
  have h4 := h3.next b4
  clear p0 p1 p2 p3 p4 p5 p6 p7 p8 p9 p10 p11
  have h4' := h4
  obtain ⟨p0, p1, p2, p3, p4, p5, p6, p7, p8, p9, p10, p11, _, _⟩ := h4'
  go_wp2_with fail
  go_ret2
  exact ⟨rfl, h4.below⟩
set_option maxHeartbeats 1600000 in
set_option maxRecDepth 100000 in
theorem rq_no6 (id kd : Int) (rq wd nm : List UInt8) (hrq : rq.length ≤ 140737488355328) (hwd : wd.length ≤ 140737488355328) (hnm : nm.length ≤ 140737488355328) (v : Value) (lim : Int) (ua : Option Addr) (un uc : Nat) (rf ty fr sh : Int) (gd : Bool) (hun : un ≤ 9223372036854775807) (e0 : 0 ≤ id ∧ id ≤ 2147483647) (e1 : 1 ≤ kd) (e2 : kd ≤ 11) (e3 : rq.length ≤ 16 ∧ wd.length ≤ 16 ∧ nm.length ≤ 16) (e4 : (0 ≤ rf ∧ rf ≤ 501) ∧ (0 ≤ ty ∧ ty ≤ 501) ∧ (0 ≤ fr ∧ fr ≤ 501)) (e5 : 0 ≤ sh ∧ sh ≤ 16) (e6 : ¬ (un ≤ 4)) (w : World) :
    Calls Try.prog 9 #[.int .i64 id, .agg #[.int .i64 kd, .string ⟨rq.toArray⟩, .string ⟨wd.toArray⟩, .string ⟨nm.toArray⟩, v, .int .i64 lim, .slice ua un uc, .int .i64 rf, .int .i64 ty, .int .i64 fr, .int .i64 sh, .bool gd]] w fun e w' => e = .returned (.tuple #[.string ⟨#[]⟩, .int .i64 1]) ∧ Below w.heap.size w w' := by
  have h0 := H12.new w 27 (.int .i64 kd) (.string ⟨rq.toArray⟩) (.string ⟨wd.toArray⟩) (.string ⟨nm.toArray⟩) (v) (.int .i64 lim) (.slice ua un uc) (.int .i64 rf) (.int .i64 ty) (.int .i64 fr) (.int .i64 sh) (.bool gd)
  obtain ⟨W, hW⟩ : ∃ W, W = w.alloc (.cells #[.int .i64 kd, .string ⟨rq.toArray⟩, .string ⟨wd.toArray⟩, .string ⟨nm.toArray⟩, v, .int .i64 lim, .slice ua un uc, .int .i64 rf, .int .i64 ty, .int .i64 fr, .int .i64 sh, .bool gd] 27) := ⟨_, rfl⟩
  rw [← hW] at h0
  have hsz : W.heap.size = w.heap.size + 1 := by rw [hW]; exact Array.size_push ..
  have HX := hid hW
  have HZ := hid hsz
  clear hW hsz
  go_enter Try.func9, Try.ntmps9
  go_wp2_with fail
  rw [← HX.out, ← HZ.out]
  refine (within1 2147483647 id _).mono ?_
  rintro _ w1 ⟨rfl, b1⟩
  rw [decide_eq_true e0]
  have h1 := h0.next b1
  have h1' := h1
  obtain ⟨p0, p1, p2, p3, p4, p5, p6, p7, p8, p9, p10, p11, _, _⟩ := h1'
  go_wp2_with fail
  refine (short3 rq wd nm hrq hwd hnm _).mono ?_
  rintro _ w2 ⟨rfl, b2⟩
  rw [decide_eq_true e3]
  have h2 := h1.next b2
  clear p0 p1 p2 p3 p4 p5 p6 p7 p8 p9 p10 p11
  have h2' := h2
  obtain ⟨p0, p1, p2, p3, p4, p5, p6, p7, p8, p9, p10, p11, _, _⟩ := h2'
  go_wp2_with fail
  refine (within3 501 rf ty fr _).mono ?_
  rintro _ w3 ⟨rfl, b3⟩
  rw [decide_eq_true e4]
  have h3 := h2.next b3
  clear p0 p1 p2 p3 p4 p5 p6 p7 p8 p9 p10 p11
  have h3' := h3
  obtain ⟨p0, p1, p2, p3, p4, p5, p6, p7, p8, p9, p10, p11, _, _⟩ := h3'
  go_wp2_with fail
  refine (within1 16 sh _).mono ?_
  rintro _ w4 ⟨rfl, b4⟩
  rw [decide_eq_true e5]
  have h4 := h3.next b4
  clear p0 p1 p2 p3 p4 p5 p6 p7 p8 p9 p10 p11
  have h4' := h4
  obtain ⟨p0, p1, p2, p3, p4, p5, p6, p7, p8, p9, p10, p11, _, _⟩ := h4'
  go_wp2_with fail
  go_ret2
  exact ⟨rfl, h4.below⟩
end Go.Proofs.Ytelacmchofehcaa
namespace Go.Proofs.Ytelacmchofehcaa
open Go.RowKit
set_option linter.unusedVariables false
set_option linter.unusedSimpArgs false

theorem held1 {w2 w' w'' : World} {g j : Nat} {x : Value} (hg : g < w2.heap.size) (h0 : w2.cell? ⟨g, j, none⟩ = some x)
    (h : Below w2.heap.size w2 w' ∧ w'.cell? ⟨g, j, none⟩ = some x) (k : Below w'.heap.size w' w'') :
    Below w2.heap.size w2 w'' ∧ w''.cell? ⟨g, j, none⟩ = some x := by
  have hb := bnext h.1 k
  exact ⟨hb, (hb.cell hg).trans h0⟩
def txK (T : List (List UInt8)) (k : Nat) : List UInt8 := (T.take k).flatMap textL
theorem txK_succ (T : List (List UInt8)) (k : Nat) (h : k < T.length) : txK T (k + 1) = txK T k ++ textL T[k] := by
  unfold txK
  rw [List.take_succ_eq_append_getElem h, List.flatMap_append, List.flatMap_cons, List.flatMap_nil, List.append_nil]
theorem txK_len {T : List (List UInt8)} (h : ∀ t ∈ T, t.length ≤ 1400) (k : Nat) : (txK T k).length ≤ 1410 * T.length := by
  have : ∀ m : List (List UInt8), (∀ t ∈ m, t.length ≤ 1400) → (m.flatMap textL).length ≤ 1410 * m.length := by
    intro m
    induction m with
    | nil => intro _; simp
    | cons x m ih =>
      intro hm
      have hx := hm x (by simp)
      have i2 := ih (fun y hy => hm y (by simp [hy]))
      have h3 := putL_len10' x.length (by omega)
      rw [List.flatMap_cons, List.length_append, List.length_cons]
      have : (textL x).length ≤ 1410 := by unfold textL; rw [List.length_append]; omega
      omega
  have h2 := this (T.take k) (fun t ht => h t (List.mem_of_mem_take ht))
  have h3 : (T.take k).length ≤ T.length := by rw [List.length_take]; omega
  unfold txK
  omega
def nmK (N : List Int) (k : Nat) : List UInt8 := (N.take k).flatMap (fun n => putL n.toNat)
theorem nmK_succ (N : List Int) (k : Nat) (h : k < N.length) : nmK N (k + 1) = nmK N k ++ putL N[k].toNat := by
  unfold nmK
  rw [List.take_succ_eq_append_getElem h, List.flatMap_append, List.flatMap_cons, List.flatMap_nil, List.append_nil]
theorem nmK_len {N : List Int} (h : ∀ n ∈ N, n ≤ 16000) (k : Nat) : (nmK N k).length ≤ 10 * N.length := by
  have : ∀ m : List Int, (∀ n ∈ m, n ≤ 16000) → (m.flatMap (fun n => putL n.toNat)).length ≤ 10 * m.length := by
    intro m
    induction m with
    | nil => intro _; simp
    | cons x m ih =>
      intro hm
      have hx := hm x (by simp)
      have i2 := ih (fun y hy => hm y (by simp [hy]))
      have h3 := putL_len10' x.toNat (by omega)
      rw [List.flatMap_cons, List.length_append, List.length_cons]
      omega
  have h2 := this (N.take k) (fun t ht => h t (List.mem_of_mem_take ht))
  have h3 : (N.take k).length ≤ N.length := by rw [List.length_take]; omega
  unfold nmK
  omega
def cmK (cs : List Cm) (k : Nat) : List UInt8 := (cs.take k).flatMap encC
theorem cmK_succ (cs : List Cm) (k : Nat) (h : k < cs.length) : cmK cs (k + 1) = cmK cs k ++ encC cs[k] := by
  unfold cmK
  rw [List.take_succ_eq_append_getElem h, List.flatMap_append, List.flatMap_cons, List.flatMap_nil, List.append_nil]
theorem cmK_len {cs : List Cm} {k : Nat} (h : ∀ c ∈ cs.take k, CmP c) (hl : cs.length ≤ 4) : (cmK cs k).length ≤ 120 := by
  have h1 := encCs_len h
  have h2 : (cs.take k).length ≤ 4 := by rw [List.length_take]; omega
  unfold cmK
  omega
set_option maxHeartbeats 6400000 in
set_option maxRecDepth 100000 in
theorem rq_prog (id kd : Int) (rq wd nm : List UInt8) (hrq : rq.length ≤ 140737488355328) (hwd : wd.length ≤ 140737488355328) (hnm : nm.length ≤ 140737488355328) (v : Value) (lim : Int) (ss : List St) (ua : Option Addr) (uc : Nat) (cs : List Cm) (rf ty fr sh : Int) (gd : Bool) (e0 : 0 ≤ id ∧ id ≤ 2147483647) (e1 : 1 ≤ kd) (e2 : kd ≤ 11) (e3 : rq.length ≤ 16 ∧ wd.length ≤ 16 ∧ nm.length ≤ 16) (e4 : (0 ≤ rf ∧ rf ≤ 501) ∧ (0 ≤ ty ∧ ty ≤ 501) ∧ (0 ≤ fr ∧ fr ≤ 501)) (e5 : 0 ≤ sh ∧ sh ≤ 16) (e6 : cs.length ≤ 4) (hp : ¬ ProgP lim ss) (w : World) (hs : Sl w v 6 ss.length (ss.flatMap stC)) (hf : Fit ss) (hu : Sl w (.slice ua cs.length uc) 3 cs.length (cs.flatMap cmc)) :
    Calls Try.prog 9 #[.int .i64 id, .agg #[.int .i64 kd, .string ⟨rq.toArray⟩, .string ⟨wd.toArray⟩, .string ⟨nm.toArray⟩, v, .int .i64 lim, .slice ua cs.length uc, .int .i64 rf, .int .i64 ty, .int .i64 fr, .int .i64 sh, .bool gd]] w fun e w' => e = .returned (.tuple #[.string ⟨#[]⟩, .int .i64 130]) ∧ Below w.heap.size w w' := by
  have h0 := H12.new w 27 (.int .i64 kd) (.string ⟨rq.toArray⟩) (.string ⟨wd.toArray⟩) (.string ⟨nm.toArray⟩) (v) (.int .i64 lim) (.slice ua cs.length uc) (.int .i64 rf) (.int .i64 ty) (.int .i64 fr) (.int .i64 sh) (.bool gd)
  obtain ⟨W, hW⟩ : ∃ W, W = w.alloc (.cells #[.int .i64 kd, .string ⟨rq.toArray⟩, .string ⟨wd.toArray⟩, .string ⟨nm.toArray⟩, v, .int .i64 lim, .slice ua cs.length uc, .int .i64 rf, .int .i64 ty, .int .i64 fr, .int .i64 sh, .bool gd] 27) := ⟨_, rfl⟩
  rw [← hW] at h0
  have hsz : W.heap.size = w.heap.size + 1 := by rw [hW]; exact Array.size_push ..
  have HX := hid hW
  have HZ := hid hsz
  clear hW hsz
  go_enter Try.func9, Try.ntmps9
  go_wp2_with fail
  rw [← HX.out, ← HZ.out]
  refine (within1 2147483647 id _).mono ?_
  rintro _ w1 ⟨rfl, b1⟩
  rw [decide_eq_true e0]
  have h1 := h0.next b1
  have h1' := h1
  obtain ⟨p0, p1, p2, p3, p4, p5, p6, p7, p8, p9, p10, p11, _, _⟩ := h1'
  go_wp2_with fail
  refine (short3 rq wd nm hrq hwd hnm _).mono ?_
  rintro _ w2 ⟨rfl, b2⟩
  rw [decide_eq_true e3]
  have h2 := h1.next b2
  clear p0 p1 p2 p3 p4 p5 p6 p7 p8 p9 p10 p11
  have h2' := h2
  obtain ⟨p0, p1, p2, p3, p4, p5, p6, p7, p8, p9, p10, p11, _, _⟩ := h2'
  go_wp2_with fail
  refine (within3 501 rf ty fr _).mono ?_
  rintro _ w3 ⟨rfl, b3⟩
  rw [decide_eq_true e4]
  have h3 := h2.next b3
  clear p0 p1 p2 p3 p4 p5 p6 p7 p8 p9 p10 p11
  have h3' := h3
  obtain ⟨p0, p1, p2, p3, p4, p5, p6, p7, p8, p9, p10, p11, _, _⟩ := h3'
  go_wp2_with fail
  refine (within1 16 sh _).mono ?_
  rintro _ w4 ⟨rfl, b4⟩
  rw [decide_eq_true e5]
  have h4 := h3.next b4
  clear p0 p1 p2 p3 p4 p5 p6 p7 p8 p9 p10 p11
  have h4' := h4
  obtain ⟨p0, p1, p2, p3, p4, p5, p6, p7, p8, p9, p10, p11, _, _⟩ := h4'
  go_wp2_with fail
  refine (encode_any v lim ss _ (hs.below h4.below) hf).mono ?_
  rintro _ w5 ⟨rfl, b5⟩
  rw [show encV lim ss = [] by unfold encV; rw [if_neg hp], show chkV lim ss = 130 by unfold chkV; rw [if_neg hp]]
  go_wp2_with fail
  go_ret2
  exact ⟨rfl, (h4.next b5).below⟩
set_option maxHeartbeats 6400000 in
set_option maxRecDepth 100000 in
theorem rq_go (id kd : Int) (rq wd nm : List UInt8) (hrq : rq.length ≤ 140737488355328) (hwd : wd.length ≤ 140737488355328) (hnm : nm.length ≤ 140737488355328) (v : Value) (lim : Int) (ss : List St) (ua : Option Addr) (uc : Nat) (cs : List Cm) (rf ty fr sh : Int) (gd : Bool) (e0 : 0 ≤ id ∧ id ≤ 2147483647) (e1 : 1 ≤ kd) (e2 : kd ≤ 11) (e3 : rq.length ≤ 16 ∧ wd.length ≤ 16 ∧ nm.length ≤ 16) (e4 : (0 ≤ rf ∧ rf ≤ 501) ∧ (0 ≤ ty ∧ ty ≤ 501) ∧ (0 ≤ fr ∧ fr ≤ 501)) (e5 : 0 ≤ sh ∧ sh ≤ 16) (e6 : cs.length ≤ 4) (hp : ProgP lim ss) {V : List UInt8} {E : Int} (HB : Hid (¬ (∀ c ∈ cs, CmP c) → V = [] ∧ E = 1)) (HG : Hid ((∀ c ∈ cs, CmP c) → V = wrapL (encRq id ⟨kd, rq, wd, nm, ss, lim, cs, rf, ty, fr, sh, gd⟩) ∧ E = 0)) (w : World) (hs : Sl w v 6 ss.length (ss.flatMap stC)) (hf : Fit ss) (hu : Sl w (.slice ua cs.length uc) 3 cs.length (cs.flatMap cmc)) :
    Calls Try.prog 9 #[.int .i64 id, .agg #[.int .i64 kd, .string ⟨rq.toArray⟩, .string ⟨wd.toArray⟩, .string ⟨nm.toArray⟩, v, .int .i64 lim, .slice ua cs.length uc, .int .i64 rf, .int .i64 ty, .int .i64 fr, .int .i64 sh, .bool gd]] w fun e w' => e = .returned (.tuple #[.string ⟨V.toArray⟩, .int .i64 E]) ∧ Below w.heap.size w w' := by
  have uid : IntKind.u64.wrap id = id := wrap_u64 (by omega) (by omega)
  have ukd : IntKind.u64.wrap kd = kd := wrap_u64 (by omega) (by omega)
  have ucs : IntKind.u64.wrap (cs.length : Int) = cs.length := wrap_u64 (by omega) (by omega)
  have h0 := H12.new w 27 (.int .i64 kd) (.string ⟨rq.toArray⟩) (.string ⟨wd.toArray⟩) (.string ⟨nm.toArray⟩) (v) (.int .i64 lim) (.slice ua cs.length uc) (.int .i64 rf) (.int .i64 ty) (.int .i64 fr) (.int .i64 sh) (.bool gd)
  obtain ⟨W, hW⟩ : ∃ W, W = w.alloc (.cells #[.int .i64 kd, .string ⟨rq.toArray⟩, .string ⟨wd.toArray⟩, .string ⟨nm.toArray⟩, v, .int .i64 lim, .slice ua cs.length uc, .int .i64 rf, .int .i64 ty, .int .i64 fr, .int .i64 sh, .bool gd] 27) := ⟨_, rfl⟩
  rw [← hW] at h0
  have hsz : W.heap.size = w.heap.size + 1 := by rw [hW]; exact Array.size_push ..
  have HX := hid hW
  have HZ := hid hsz
  clear hW hsz
  go_enter Try.func9, Try.ntmps9
  go_wp2_with fail
  rw [← HX.out, ← HZ.out]
  refine (within1 2147483647 id _).mono ?_
  rintro _ w1 ⟨rfl, b1⟩
  rw [decide_eq_true e0]
  have h1 := h0.next b1
  have h1' := h1
  obtain ⟨p0, p1, p2, p3, p4, p5, p6, p7, p8, p9, p10, p11, _, _⟩ := h1'
  go_wp2_with fail
  refine (short3 rq wd nm hrq hwd hnm _).mono ?_
  rintro _ w2 ⟨rfl, b2⟩
  rw [decide_eq_true e3]
  have h2 := h1.next b2
  clear p0 p1 p2 p3 p4 p5 p6 p7 p8 p9 p10 p11
  have h2' := h2
  obtain ⟨p0, p1, p2, p3, p4, p5, p6, p7, p8, p9, p10, p11, _, _⟩ := h2'
  go_wp2_with fail
  refine (within3 501 rf ty fr _).mono ?_
  rintro _ w3 ⟨rfl, b3⟩
  rw [decide_eq_true e4]
  have h3 := h2.next b3
  clear p0 p1 p2 p3 p4 p5 p6 p7 p8 p9 p10 p11
  have h3' := h3
  obtain ⟨p0, p1, p2, p3, p4, p5, p6, p7, p8, p9, p10, p11, _, _⟩ := h3'
  go_wp2_with fail
  refine (within1 16 sh _).mono ?_
  rintro _ w4 ⟨rfl, b4⟩
  rw [decide_eq_true e5]
  have h4 := h3.next b4
  clear p0 p1 p2 p3 p4 p5 p6 p7 p8 p9 p10 p11
  have h4' := h4
  obtain ⟨p0, p1, p2, p3, p4, p5, p6, p7, p8, p9, p10, p11, _, _⟩ := h4'
  go_wp2_with fail
  refine (encode_any v lim ss _ (hs.below h4.below) hf).mono ?_
  rintro _ w5 ⟨rfl, b5⟩
  rw [show encV lim ss = encP lim ss by unfold encV; rw [if_pos hp], show chkV lim ss = 0 by unfold chkV; rw [if_pos hp]]
  have hpl := encP_len hp
  have HP := hid hp
  clear hp
  have h5 := h4.next b5
  clear p0 p1 p2 p3 p4 p5 p6 p7 p8 p9 p10 p11
  have hg := h5.lt
  have hc0 := h5.c0
  generalize hPG : encP lim ss = pg at *
  have l0 := putL_len10' 1 (by decide)
  have l1 : (putL id.toNat).length ≤ 10 := putL_len10 (by unfold U64; omega)
  have l2 := putL_len10' kd.toNat (by omega)
  have f1 := fun w => run_cat (P := Try.prog) w (putL 1) (putL id.toNat) (by omega)
  have f2 := fun w => run_cat (P := Try.prog) w (putL 1 ++ putL id.toNat) (putL kd.toNat) (by rw [List.length_append]; omega)
  simp only [List.append_assoc] at f2
  have hHd : (putL 1 ++ (putL id.toNat ++ putL kd.toNat)).length ≤ 30 := by simp only [List.length_append]; omega
  clear l0 l1 l2
  have hkeep := fun w' w'' h k => held1 hg hc0 (w' := w') (w'' := w'') h k
  go_wp2_with fail
  go_region_held3 (fun w' => Below w5.heap.size w5 w' ∧ w'.cell? ⟨w.heap.size, 0, none⟩ = some (.int .i64 kd)) (first | exact hS | exact ⟨Below.refl _ _, hc0⟩ | exact ⟨below_drewN _ _ 1, hc0⟩)
    ((go_at_call 22; refine (put_w _ (by omega) _).mono ?_; rintro _ wz ⟨rfl, hbz⟩; (try simp only [Int.toNat_one]); have hS := hkeep _ _ (by assumption) hbz))
  have h6 := h5.next hS.1
  clear f1 f2 hkeep hc0 hg
  generalize hHD : putL 1 ++ (putL id.toNat ++ putL kd.toNat) = Hd at *
  have h6' := h6
  obtain ⟨p0, p1, p2, p3, p4, p5, p6, p7, p8, p9, p10, p11, _, _⟩ := h6'
  obtain ⟨tl, htl⟩ : ∃ T : List (List UInt8), T = [rq, wd, nm, pg] := ⟨_, rfl⟩
  have htn : tl.length = 4 := by rw [htl]; rfl
  have ht14 : ∀ t ∈ tl, t.length ≤ 1400 := by
    rw [htl]
    intro t ht
    simp only [List.mem_cons, List.not_mem_nil, or_false] at ht
    rcases ht with rfl | rfl | rfl | rfl <;> omega
  obtain ⟨W7, hW7⟩ : ∃ W, W = wz.alloc (.cells #[.string ⟨rq.toArray⟩, .string ⟨wd.toArray⟩, .string ⟨nm.toArray⟩, .string ⟨pg.toArray⟩] 9) := ⟨_, rfl⟩
  have htc : ∀ k (hk : k < tl.length), W7.cell? ⟨wz.heap.size, k, none⟩ = some (.string ⟨tl[k].toArray⟩) := by
    intro k hk
    rw [hW7]
    refine (World.cell?_alloc_at _ _ _ _ rfl).trans ?_
    subst htl
    have : k = 0 ∨ k = 1 ∨ k = 2 ∨ k = 3 := by omega
    rcases this with rfl | rfl | rfl | rfl <;> rfl
  have b7 : Below wz.heap.size wz W7 := by rw [hW7]; exact (Below.refl _ _).alloc (Nat.le_refl _) _
  have g7 : wz.heap.size < W7.heap.size := by rw [hW7]; simp
  have h7 := h6.next b7
  have HTL := hid htl
  have HW7 := hid hW7
  clear hW7 htl
  go_wp2_with fail
  rw [← HW7.out]
  clear p0 p1 p2 p3 p4 p5 p6 p7 p8 p9 p10 p11
  go_loopw [8, 92] (fun s0 i0 wr => ∃ k : Nat, k ≤ 4 ∧ i0 = .int .i64 k ∧ s0 = .string ⟨(Hd ++ txK tl k).toArray⟩ ∧ Below W7.heap.size W7 wr) (fun _ i0 _ => 4 - (intOf i0).toNat)
  case atStart => exact ⟨0, by omega, rfl, by rw [show txK tl 0 = [] from rfl, List.append_nil], Below.refl _ _⟩
  case round =>
    obtain ⟨k, hk, rfl, rfl, hb⟩ := hrel
    have hln := txK_len ht14 k
    by_cases hlt : k < 4
    · have c0 := (hb.cell (p := ⟨wz.heap.size, k, none⟩) g7).trans (htc k (by omega))
      have hsucc := txK_succ tl k (by omega)
      have ht := ht14 _ (List.getElem_mem (show k < tl.length by omega))
      have hlt' : (k : Int) < 4 := by omega
      generalize tl[k]'(by omega) = t at c0 hsucc ht
      have HS := hid hsucc
      clear hsucc htc h7 b7
      generalize txK tl k = pr at *
      go_wp2_with fail
      refine (text_any t (by omega) _).mono ?_
      rintro _ w8 ⟨rfl, b8⟩
      have hb8 := bnext hb b8
      have htx : (textL t).length ≤ 1410 := by
        have := putL_len10' t.length (by omega)
        unfold textL; rw [List.length_append]; omega
      have hcat := run_cat (P := Try.prog) w8 (Hd ++ pr) (textL t) (by rw [List.length_append]; omega)
      simp only [List.append_assoc] at hcat
      go_wp2_with fail
      go_roundw
      case rel => exact ⟨k + 1, by omega, by go_num, by rw [HS.out], hb8⟩
      case measure => simp [intOf]; omega
    · obtain rfl : k = 4 := by omega
      have h8 := h7.next hb
      clear htc h7 b7
      generalize wr = wa at *
      generalize hS1 : Hd ++ txK tl 4 = S1 at *
      have hS1l : S1.length ≤ 6000 := by rw [← hS1, List.length_append]; omega
      have h8' := h8
      obtain ⟨p0, p1, p2, p3, p4, p5, p6, p7, p8, p9, p10, p11, _, _⟩ := h8'
      obtain ⟨nl, hnl⟩ : ∃ N : List Int, N = [rf, ty, fr, sh] := ⟨_, rfl⟩
      have hnn : nl.length = 4 := by rw [hnl]; rfl
      have hn5 : ∀ n ∈ nl, 0 ≤ n ∧ n ≤ 501 := by
        rw [hnl]
        intro t ht
        simp only [List.mem_cons, List.not_mem_nil, or_false] at ht
        rcases ht with rfl | rfl | rfl | rfl <;> omega
      obtain ⟨W9, hW9⟩ : ∃ W, W = wa.alloc (.cells #[.int .i64 rf, .int .i64 ty, .int .i64 fr, .int .i64 sh] 3) := ⟨_, rfl⟩
      have hnc : ∀ k (hk : k < nl.length), W9.cell? ⟨wa.heap.size, k, none⟩ = some (.int .i64 nl[k]) := by
        intro k hk
        rw [hW9]
        refine (World.cell?_alloc_at _ _ _ _ rfl).trans ?_
        subst hnl
        have : k = 0 ∨ k = 1 ∨ k = 2 ∨ k = 3 := by omega
        rcases this with rfl | rfl | rfl | rfl <;> rfl
      have b9 : Below wa.heap.size wa W9 := by rw [hW9]; exact (Below.refl _ _).alloc (Nat.le_refl _) _
      have g9 : wa.heap.size < W9.heap.size := by rw [hW9]; simp
      have h9 := h8.next b9
      have HNL := hid hnl
      have HW9 := hid hW9
      clear hW9 hnl hb b9
      go_wp2_with fail
      rw [← HW9.out]
      clear p0 p1 p2 p3 p4 p5 p6 p7 p8 p9 p10 p11
      go_loopw [8, 111] (fun s0 i0 wr => ∃ k : Nat, k ≤ 4 ∧ i0 = .int .i64 k ∧ s0 = .string ⟨(S1 ++ nmK nl k).toArray⟩ ∧ Below W9.heap.size W9 wr) (fun _ i0 _ => 4 - (intOf i0).toNat)
      case atStart => exact ⟨0, by omega, rfl, by rw [show nmK nl 0 = [] from rfl, List.append_nil], Below.refl _ _⟩
      case round =>
        obtain ⟨k, hk, rfl, rfl, hb⟩ := hrel
        have hln2 := nmK_len (N := nl) (fun n hn => by have := hn5 n hn; omega) k
        by_cases hlt : k < 4
        · have c0 := (hb.cell (p := ⟨wa.heap.size, k, none⟩) g9).trans (hnc k (by omega))
          have hsucc := nmK_succ nl k (by omega)
          have ht := hn5 _ (List.getElem_mem (show k < nl.length by omega))
          have hlt' : (k : Int) < 4 := by omega
          generalize nl[k]'(by omega) = t at c0 hsucc ht
          have ut : IntKind.u64.wrap t = t := wrap_u64 (by omega) (by omega)
          have HS := hid hsucc
          clear hsucc hnc h9
          generalize nmK nl k = pr at *
          go_wp2_with fail
          refine (put_w t (by omega) _).mono ?_
          rintro _ w8 ⟨rfl, b8⟩
          have hb8 := bnext hb b8
          have htx := putL_len10' t.toNat (by omega)
          have hcat := run_cat (P := Try.prog) w8 (S1 ++ pr) (putL t.toNat) (by rw [List.length_append]; omega)
          simp only [List.append_assoc] at hcat
          go_wp2_with fail
          go_roundw
          case rel => ((repeat apply Exists.intro); exact ⟨⟨k + 1, by omega, by go_num, by rw [HS.out], hb8⟩, rfl⟩)
          case measure => simp [intOf]; omega
        · obtain rfl : k = 4 := by omega
          have h10 := h9.next hb
          clear hnc h9 hb
          generalize wr = wq at *
          generalize hS2 : S1 ++ nmK nl 4 = S2 at *
          have hS2l : S2.length ≤ 6100 := by rw [← hS2, List.length_append]; omega
          have hg := h10.lt
          have hc6 := h10.c6
          have hc11 := h10.c11
          have l1 := putL_len10' (udN gd) (by unfold udN; split <;> omega)
          have l2 := putL_len10' cs.length (by omega)
          have f1 := fun w => run_cat (P := Try.prog) w (putL (udN gd)) (putL cs.length) (by omega)
          have f2 := fun w => run_cat (P := Try.prog) w S2 (putL (udN gd) ++ putL cs.length) (by rw [List.length_append]; omega)
          have hkeep := fun w' w'' h k => held2 (A := ⟨w.heap.size, 6, none⟩) (C := ⟨w.heap.size, 11, none⟩) hg hg hc6 hc11 (w' := w') (w'' := w'') h k
          have hud : udN gd ≤ 1 := by unfold udN; split <;> omega
          go_wp2_with fail
          go_region_held3 (fun w' => Below wq.heap.size wq w' ∧ w'.cell? ⟨w.heap.size, 6, none⟩ = some (.slice ua cs.length uc) ∧ w'.cell? ⟨w.heap.size, 11, none⟩ = some (.bool gd)) (first | exact hS | exact ⟨Below.refl _ _, hc6, hc11⟩ | exact ⟨below_drewN _ _ 1, hc6, hc11⟩)
            ((first
              | (go_at_call 24; refine (wbit_any _ _).mono ?_; rintro _ wz ⟨rfl, hbz⟩; rw [hbz]; clear hbz)
              | (go_at_call 22; refine (put_w _ (by omega) _).mono ?_; rintro _ wz ⟨rfl, hbz⟩; simp only [Int.toNat_natCast]; have hS := hkeep _ _ (by assumption) hbz)))
          have hbz9 := hS.1
          have h11 := h10.next hbz9
          clear f1 f2 hkeep hc6 hc11 hg l1 l2
          generalize hS3 : S2 ++ (putL (udN gd) ++ putL cs.length) = S3 at *
          have hS3l : S3.length ≤ 6200 := by
            have l1 := putL_len10' (udN gd) (by omega)
            have l2 := putL_len10' cs.length (by omega)
            rw [← hS3]; simp only [List.length_append]; omega
          have hu11 := hu.below h11.below
          have hb11 := h11.below
          obtain ⟨_, _, au, cu, hue, hcu⟩ := hu11
          injection hue with hu1 hu2 hu3
          subst hu1
          subst hu3
          have CU := hid hcu
          clear hcu
          have h11' := h11
          obtain ⟨p0, p1, p2, p3, p4, p5, p6, p7, p8, p9, p10, p11, _, _⟩ := h11'
          generalize wz = wy at *
          go_wp2_with fail
          clear p0 p1 p2 p3 p4 p5 p6 p7 p8 p9 p10 p11
          go_loopw [8, 136] (fun s0 i0 wr => ∃ k : Nat, k ≤ cs.length ∧ i0 = .int .i64 k ∧ s0 = .string ⟨(S3 ++ cmK cs k).toArray⟩ ∧ (∀ c ∈ cs.take k, CmP c) ∧ Below wy.heap.size wy wr) (fun _ i0 _ => cs.length - (intOf i0).toNat)
          case atStart => exact ⟨0, Nat.zero_le _, rfl, by rw [show cmK cs 0 = [] from rfl, List.append_nil], (by intro x hx; simp at hx), Below.refl _ _⟩
          case round =>
            obtain ⟨k, hk, rfl, rfl, hall, hb⟩ := hrel
            have hln3 := cmK_len hall e6
            by_cases hlt : k < cs.length
            · obtain ⟨b, off, rfl, hblt, hc⟩ := CU.out.resolve_left (by omega)
              have hsucc := cmK_succ cs k hlt
              have c0 : wr.cell? ⟨b, off + k * 3, none⟩ = some (.int .i64 cs[k].1) := (hb.cell (p := ⟨b, off + k * 3 + 0, none⟩) hblt).trans (cm_cell hc k 0 (by decide) hlt _ rfl)
              have c1 : wr.cell? ⟨b, off + k * 3 + 1, none⟩ = some (.int .i64 cs[k].2.1) := (hb.cell (p := ⟨b, off + k * 3 + 1, none⟩) hblt).trans (cm_cell hc k 1 (by decide) hlt _ rfl)
              have c2 : wr.cell? ⟨b, off + k * 3 + 2, none⟩ = some (.bool cs[k].2.2) := (hb.cell (p := ⟨b, off + k * 3 + 2, none⟩) hblt).trans (cm_cell hc k 2 (by decide) hlt _ rfl)
              have hnx := take_all (p := CmP) hall hlt
              have hno : ¬ CmP cs[k] → V = [] ∧ E = 1 := fun h => HB.out (fun q => h (q _ (List.getElem_mem hlt)))
              generalize cs[k] = c at c0 c1 c2 hsucc hnx hno
              obtain ⟨ck, cst, cu⟩ := c
              simp only at c0 c1 c2
              have HS := hid hsucc
              have HNX := hid hnx
              have HNO := hid hno
              clear hsucc hnx hno hc hall
              generalize cmK cs k = pr at *
              obtain ⟨Wc, hWc⟩ : ∃ W, W = wr.alloc (.cells #[.int .i64 ck, .int .i64 cst, .bool cu] 65) := ⟨_, rfl⟩
              have bWc : Below wr.heap.size wr Wc := by rw [hWc]; exact (Below.refl _ _).alloc (Nat.le_refl _) _
              have hszc : Wc.heap.size = wr.heap.size + 1 := by rw [hWc]; exact Array.size_push ..
              have hCc : Wc.heap[wr.heap.size]? = some (.cells #[.int .i64 ck, .int .i64 cst, .bool cu] 65 (0, 0)) := by rw [hWc]; exact heap_alloc_new wr _
              have hlc : wr.heap.size < Wc.heap.size := (Array.getElem?_eq_some_iff.1 hCc).1
              have x0 : Wc.cell? ⟨wr.heap.size, 0, none⟩ = some (.int .i64 ck) := by rw [cell_of_row Wc _ 0 _ _ (0, 0) hCc]; rfl
              have x1 : Wc.cell? ⟨wr.heap.size, 1, none⟩ = some (.int .i64 cst) := by rw [cell_of_row Wc _ 1 _ _ (0, 0) hCc]; rfl
              have x2 : Wc.cell? ⟨wr.heap.size, 2, none⟩ = some (.bool cu) := by rw [cell_of_row Wc _ 2 _ _ (0, 0) hCc]; rfl
              have HWc := hid hWc
              have HZc := hid hszc
              clear hWc hszc hCc
              have hbc := bnext hb bWc
              go_wp2_with fail
              rw [← HWc.out, ← HZc.out]
              refine (within1 5 ck _).mono ?_
              rintro _ v1 ⟨rfl, d1⟩
              have y1 := (d1.cell (p := ⟨wr.heap.size, 1, none⟩) hlc).trans x1
              clear c0 c1 c2
              by_cases g1 : 0 ≤ ck ∧ ck ≤ 5
              case neg =>
                have HE := hid (HNO.out (fun q => g1 q.1))
                rw [decide_eq_false g1]
                go_wp2_with fail
                go_ret2
                exact ⟨by rw [HE.out.1, HE.out.2]; rfl, bnext hb11 (bnext hbc d1)⟩
              rw [decide_eq_true g1]
              go_wp2_with fail
              refine (within1 16 cst _).mono ?_
              rintro _ v2 ⟨rfl, d2⟩
              have d12 := bnext d1 d2
              by_cases g2 : 0 ≤ cst ∧ cst ≤ 16
              case neg =>
                have HE := hid (HNO.out (fun q => g2 q.2))
                rw [decide_eq_false g2]
                go_wp2_with fail
                go_ret2
                exact ⟨by rw [HE.out.1, HE.out.2]; rfl, bnext hb11 (bnext hbc d12)⟩
              rw [decide_eq_true g2]
              have z0 := (d12.cell (p := ⟨wr.heap.size, 0, none⟩) hlc).trans x0
              have z1 := (d12.cell (p := ⟨wr.heap.size, 1, none⟩) hlc).trans x1
              have z2 := (d12.cell (p := ⟨wr.heap.size, 2, none⟩) hlc).trans x2
              have hlc2 : wr.heap.size < v2.heap.size := Nat.lt_of_lt_of_le hlc d12.size
              clear x0 x1 x2 y1
              have uk : IntKind.u64.wrap ck = ck := wrap_u64 (by omega) (by omega)
              have us : IntKind.u64.wrap cst = cst := wrap_u64 (by omega) (by omega)
              have m1 := putL_len10' ck.toNat (by omega)
              have m2 := putL_len10' cst.toNat (by omega)
              have hud2 : udN cu ≤ 1 := by unfold udN; split <;> omega
              have m3 := putL_len10' (udN cu) (by omega)
              have f1 := fun w => run_cat (P := Try.prog) w (putL ck.toNat) (putL cst.toNat) (by omega)
              have f2 := fun w => run_cat (P := Try.prog) w (putL ck.toNat ++ putL cst.toNat) (putL (udN cu)) (by rw [List.length_append]; omega)
              have f3 := fun w => run_cat (P := Try.prog) w (S3 ++ pr) (putL ck.toNat ++ (putL cst.toNat ++ putL (udN cu))) (by simp only [List.length_append]; omega)
              simp only [List.append_assoc] at f2 f3
              have hkeep := fun w' w'' h k => held3 hlc2 z0 z1 z2 (w' := w') (w'' := w'') h k
              go_wp2_with fail
              go_region_held3 (fun w' => Below v2.heap.size v2 w' ∧ w'.cell? ⟨wr.heap.size, 0, none⟩ = some (.int .i64 ck) ∧ w'.cell? ⟨wr.heap.size, 1, none⟩ = some (.int .i64 cst) ∧ w'.cell? ⟨wr.heap.size, 2, none⟩ = some (.bool cu)) (first | exact hS | exact ⟨Below.refl _ _, z0, z1, z2⟩ | exact ⟨below_drewN _ _ 1, z0, z1, z2⟩)
                ((first
                  | (go_at_call 24; refine (wbit_any _ _).mono ?_; rintro _ wz ⟨rfl, hbz⟩; rw [hbz]; clear hbz)
                  | (go_at_call 22; refine (put_w _ (by omega) _).mono ?_; rintro _ wz ⟨rfl, hbz⟩; (try simp only [Int.toNat_natCast]); have hS := hkeep _ _ (by assumption) hbz)))
              have hbf := bnext hbc (bnext d12 hS.1)
              clear hkeep f1 f2 f3 z0 z1 z2
              go_wp2_with fail
              go_roundw
              case rel => exact ⟨k + 1, hlt, by go_num, by rw [HS.out]; simp [encC], HNX.out ⟨g1, g2⟩, hbf⟩
              case measure => simp [intOf]; omega
            · obtain rfl : k = cs.length := by omega
              rw [List.take_length] at hall
              have HE := hid (HG.out hall)
              have hbody : S3 ++ cmK cs cs.length = encRq id ⟨kd, rq, wd, nm, ss, lim, cs, rf, ty, fr, sh, gd⟩ := by
                rw [← hS3, ← hS2, ← hS1, ← hHD, HTL.out, HNL.out, ← hPG]
                simp [encRq, txK, nmK, cmK]
              generalize hLL : S3 ++ cmK cs cs.length = LL at *
              have hLl : LL.length ≤ 1048576 := by rw [← hLL, List.length_append]; omega
              have HBODY := hid hbody
              clear hbody hall hLL
              go_wp2_with fail
              refine (wrap_any LL hLl _).mono ?_
              rintro _ wl ⟨rfl, bl⟩
              go_wp2_with fail
              go_ret2
              exact ⟨by rw [HE.out.1, HE.out.2, ← HBODY.out]; rfl, bnext hb11 (bnext hb bl)⟩
theorem rq_codes {id : Int} {q : Rq} : (¬ RqA id q → rqV id q = [] ∧ rqE id q = 1) ∧ (RqA id q → ¬ ProgP q.lim q.ss → rqV id q = [] ∧ rqE id q = 130) ∧ (RqA id q → ProgP q.lim q.ss → ¬ (∀ c ∈ q.cs, CmP c) → rqV id q = [] ∧ rqE id q = 1) ∧ (RqA id q → ProgP q.lim q.ss → (∀ c ∈ q.cs, CmP c) → rqV id q = wrapL (encRq id q) ∧ rqE id q = 0) := by
  unfold rqV rqE
  refine ⟨fun h => ?_, fun h1 h2 => ?_, fun h1 h2 h3 => ?_, fun h1 h2 h3 => ?_⟩
  · rw [if_neg (fun k => h k.1), if_neg (fun k => h k.1), if_neg (fun k => h k.1)]; exact ⟨rfl, rfl⟩
  · rw [if_neg (fun k => h2 k.2.1), if_neg (fun k => h2 k.2.1), if_pos ⟨h1, h2⟩]; exact ⟨rfl, rfl⟩
  · rw [if_neg (fun k => h3 k.2.2), if_neg (fun k => h3 k.2.2), if_neg (fun k => k.2 h2)]; exact ⟨rfl, rfl⟩
  · rw [if_pos ⟨h1, h2, h3⟩, if_pos ⟨h1, h2, h3⟩]; exact ⟨rfl, rfl⟩
theorem request_any (id kd : Int) (rq wd nm : List UInt8) (hrq : rq.length ≤ 140737488355328) (hwd : wd.length ≤ 140737488355328) (hnm : nm.length ≤ 140737488355328) (v : Value) (lim : Int) (ss : List St) (ua : Option Addr) (uc : Nat) (cs : List Cm) (rf ty fr sh : Int) (gd : Bool) (w : World) (hs : Sl w v 6 ss.length (ss.flatMap stC)) (hf : Fit ss) (hu : Sl w (.slice ua cs.length uc) 3 cs.length (cs.flatMap cmc)) :
    Calls Try.prog 9 #[.int .i64 id, .agg #[.int .i64 kd, .string ⟨rq.toArray⟩, .string ⟨wd.toArray⟩, .string ⟨nm.toArray⟩, v, .int .i64 lim, .slice ua cs.length uc, .int .i64 rf, .int .i64 ty, .int .i64 fr, .int .i64 sh, .bool gd]] w fun e w' => e = .returned (.tuple #[.string ⟨(rqV id ⟨kd, rq, wd, nm, ss, lim, cs, rf, ty, fr, sh, gd⟩).toArray⟩, .int .i64 (rqE id ⟨kd, rq, wd, nm, ss, lim, cs, rf, ty, fr, sh, gd⟩)]) ∧ Below w.heap.size w w' := by
  have hun : cs.length ≤ 9223372036854775807 := hu.2.1.1
  obtain ⟨k1, k2, k3, k4⟩ := rq_codes (id := id) (q := ⟨kd, rq, wd, nm, ss, lim, cs, rf, ty, fr, sh, gd⟩)
  by_cases hA : RqA id ⟨kd, rq, wd, nm, ss, lim, cs, rf, ty, fr, sh, gd⟩
  · obtain ⟨e0, ⟨e1, e2⟩, e3, e4, e5, e6⟩ := hA
    have hA : RqA id ⟨kd, rq, wd, nm, ss, lim, cs, rf, ty, fr, sh, gd⟩ := ⟨e0, ⟨e1, e2⟩, e3, e4, e5, e6⟩
    by_cases hp : ProgP lim ss
    · exact rq_go id kd rq wd nm hrq hwd hnm v lim ss ua uc cs rf ty fr sh gd e0 e1 e2 e3 e4 e5 e6 hp (hid (k3 hA hp)) (hid (k4 hA hp)) w hs hf hu
    · have := k2 hA hp
      rw [this.1, this.2]
      exact rq_prog id kd rq wd nm hrq hwd hnm v lim ss ua uc cs rf ty fr sh gd e0 e1 e2 e3 e4 e5 e6 hp w hs hf hu
  · have := k1 hA
    rw [this.1, this.2]
    clear k1 k2 k3 k4 this
    by_cases e0 : 0 ≤ id ∧ id ≤ 2147483647
    case neg => exact rq_no0 id kd rq wd nm hrq hwd hnm v lim ua cs.length uc rf ty fr sh gd hun e0 w
    by_cases e1 : 1 ≤ kd
    case neg => exact rq_no1 id kd rq wd nm hrq hwd hnm v lim ua cs.length uc rf ty fr sh gd hun e0 e1 w
    by_cases e2 : kd ≤ 11
    case neg => exact rq_no2 id kd rq wd nm hrq hwd hnm v lim ua cs.length uc rf ty fr sh gd hun e0 e1 e2 w
    by_cases e3 : rq.length ≤ 16 ∧ wd.length ≤ 16 ∧ nm.length ≤ 16
    case neg => exact rq_no3 id kd rq wd nm hrq hwd hnm v lim ua cs.length uc rf ty fr sh gd hun e0 e1 e2 e3 w
    by_cases e4 : (0 ≤ rf ∧ rf ≤ 501) ∧ (0 ≤ ty ∧ ty ≤ 501) ∧ (0 ≤ fr ∧ fr ≤ 501)
    case neg => exact rq_no4 id kd rq wd nm hrq hwd hnm v lim ua cs.length uc rf ty fr sh gd hun e0 e1 e2 e3 e4 w
    by_cases e5 : 0 ≤ sh ∧ sh ≤ 16
    case neg => exact rq_no5 id kd rq wd nm hrq hwd hnm v lim ua cs.length uc rf ty fr sh gd hun e0 e1 e2 e3 e4 e5 w
    by_cases e6 : cs.length ≤ 4
    case neg => exact rq_no6 id kd rq wd nm hrq hwd hnm v lim ua cs.length uc rf ty fr sh gd hun e0 e1 e2 e3 e4 e5 e6 w
    exact absurd ⟨e0, ⟨e1, e2⟩, e3, e4, e5, e6⟩ hA
end Go.Proofs.Ytelacmchofehcaa
