/- CONTRACT, part: wire.Reply's ways that end ahead of the task's bytes. CONTRACT: wire.Reply. CONTRACT: wire.Reply, its ways joined. -/
import Derived.Test.YtelacmchofehcaaWmB
import Derived.Test.YtelacmchofehcaaWmC
import Derived.Test.YtelacmchofehcaaRowTask
import Derived.Test.YtelacmchofehcaaEvtPack
namespace Go.Proofs.Ytelacmchofehcaa
open Go.RowKit
set_option linter.unusedVariables false

set_option maxHeartbeats 3200000 in
set_option maxRecDepth 100000 in
theorem rp_no0 (id er st nx tn : Int) (tw : List UInt8) (tr ty : Int) (nm : List UInt8) (htw : tw.length ≤ 140737488355328) (hnm : nm.length ≤ 140737488355328) (v : Value) (e0 : ¬ (0 ≤ id ∧ id ≤ 2147483647)) (w : World)  :
    Calls Try.prog 12 #[.int .i64 id, .agg #[.int .i64 er, .int .i64 st, .int .i64 nx, .int .i64 tn, .string ⟨tw.toArray⟩, .int .i64 tr, .int .i64 ty, .string ⟨nm.toArray⟩, v]] w fun e w' => e = .returned (.tuple #[.string ⟨#[]⟩, .int .i64 1]) ∧ Below w.heap.size w w' := by
  have h0 := H9.new w 33 (.int .i64 er) (.int .i64 st) (.int .i64 nx) (.int .i64 tn) (.string ⟨tw.toArray⟩) (.int .i64 tr) (.int .i64 ty) (.string ⟨nm.toArray⟩) (v)
  obtain ⟨W, hW⟩ : ∃ W, W = w.alloc (.cells #[.int .i64 er, .int .i64 st, .int .i64 nx, .int .i64 tn, .string ⟨tw.toArray⟩, .int .i64 tr, .int .i64 ty, .string ⟨nm.toArray⟩, v] 33) := ⟨_, rfl⟩
  rw [← hW] at h0
  have hsz : W.heap.size = w.heap.size + 1 := by rw [hW]; exact Array.size_push ..
  have HX := hid hW
  have HZ := hid hsz
  clear hW hsz
  go_enter Try.func12, Try.ntmps12
  go_wp2_with fail
  rw [← HX.out, ← HZ.out]
  refine (within1 2147483647 id _).mono ?_
  rintro _ w1 ⟨rfl, b1⟩
  rw [decide_eq_false e0]
  have h1 := h0.next b1
  have h1' := h1
  obtain ⟨p0, p1, p2, p3, p4, p5, p6, p7, p8, _, _⟩ := h1'
  go_wp2_with fail
  go_ret2
  exact ⟨rfl, h1.below⟩
set_option maxHeartbeats 3200000 in
set_option maxRecDepth 100000 in
theorem rp_no1 (id er st nx tn : Int) (tw : List UInt8) (tr ty : Int) (nm : List UInt8) (htw : tw.length ≤ 140737488355328) (hnm : nm.length ≤ 140737488355328) (v : Value) (e0 : 0 ≤ id ∧ id ≤ 2147483647) (e1 : ¬ (0 ≤ er ∧ er ≤ 999)) (w : World)  :
    Calls Try.prog 12 #[.int .i64 id, .agg #[.int .i64 er, .int .i64 st, .int .i64 nx, .int .i64 tn, .string ⟨tw.toArray⟩, .int .i64 tr, .int .i64 ty, .string ⟨nm.toArray⟩, v]] w fun e w' => e = .returned (.tuple #[.string ⟨#[]⟩, .int .i64 1]) ∧ Below w.heap.size w w' := by
  have h0 := H9.new w 33 (.int .i64 er) (.int .i64 st) (.int .i64 nx) (.int .i64 tn) (.string ⟨tw.toArray⟩) (.int .i64 tr) (.int .i64 ty) (.string ⟨nm.toArray⟩) (v)
  obtain ⟨W, hW⟩ : ∃ W, W = w.alloc (.cells #[.int .i64 er, .int .i64 st, .int .i64 nx, .int .i64 tn, .string ⟨tw.toArray⟩, .int .i64 tr, .int .i64 ty, .string ⟨nm.toArray⟩, v] 33) := ⟨_, rfl⟩
  rw [← hW] at h0
  have hsz : W.heap.size = w.heap.size + 1 := by rw [hW]; exact Array.size_push ..
  have HX := hid hW
  have HZ := hid hsz
  clear hW hsz
  go_enter Try.func12, Try.ntmps12
  go_wp2_with fail
  rw [← HX.out, ← HZ.out]
  refine (within1 2147483647 id _).mono ?_
  rintro _ w1 ⟨rfl, b1⟩
  rw [decide_eq_true e0]
  have h1 := h0.next b1
  have h1' := h1
  obtain ⟨p0, p1, p2, p3, p4, p5, p6, p7, p8, _, _⟩ := h1'
  go_wp2_with fail
  refine (within1 999 er _).mono ?_
  rintro _ w2 ⟨rfl, b2⟩
  rw [decide_eq_false e1]
  have h2 := h1.next b2
  clear p0 p1 p2 p3 p4 p5 p6 p7 p8
  have h2' := h2
  obtain ⟨p0, p1, p2, p3, p4, p5, p6, p7, p8, _, _⟩ := h2'
  go_wp2_with fail
  go_ret2
  exact ⟨rfl, h2.below⟩
set_option maxHeartbeats 3200000 in
set_option maxRecDepth 100000 in
theorem rp_no2 (id er st nx tn : Int) (tw : List UInt8) (tr ty : Int) (nm : List UInt8) (htw : tw.length ≤ 140737488355328) (hnm : nm.length ≤ 140737488355328) (v : Value) (e0 : 0 ≤ id ∧ id ≤ 2147483647) (e1 : 0 ≤ er ∧ er ≤ 999) (e2 : ¬ (0 ≤ st ∧ st ≤ 4)) (w : World)  :
    Calls Try.prog 12 #[.int .i64 id, .agg #[.int .i64 er, .int .i64 st, .int .i64 nx, .int .i64 tn, .string ⟨tw.toArray⟩, .int .i64 tr, .int .i64 ty, .string ⟨nm.toArray⟩, v]] w fun e w' => e = .returned (.tuple #[.string ⟨#[]⟩, .int .i64 1]) ∧ Below w.heap.size w w' := by
  have h0 := H9.new w 33 (.int .i64 er) (.int .i64 st) (.int .i64 nx) (.int .i64 tn) (.string ⟨tw.toArray⟩) (.int .i64 tr) (.int .i64 ty) (.string ⟨nm.toArray⟩) (v)
  obtain ⟨W, hW⟩ : ∃ W, W = w.alloc (.cells #[.int .i64 er, .int .i64 st, .int .i64 nx, .int .i64 tn, .string ⟨tw.toArray⟩, .int .i64 tr, .int .i64 ty, .string ⟨nm.toArray⟩, v] 33) := ⟨_, rfl⟩
  rw [← hW] at h0
  have hsz : W.heap.size = w.heap.size + 1 := by rw [hW]; exact Array.size_push ..
  have HX := hid hW
  have HZ := hid hsz
  clear hW hsz
  go_enter Try.func12, Try.ntmps12
  go_wp2_with fail
  rw [← HX.out, ← HZ.out]
  refine (within1 2147483647 id _).mono ?_
  rintro _ w1 ⟨rfl, b1⟩
  rw [decide_eq_true e0]
  have h1 := h0.next b1
  have h1' := h1
  obtain ⟨p0, p1, p2, p3, p4, p5, p6, p7, p8, _, _⟩ := h1'
  go_wp2_with fail
  refine (within1 999 er _).mono ?_
  rintro _ w2 ⟨rfl, b2⟩
  rw [decide_eq_true e1]
  have h2 := h1.next b2
  clear p0 p1 p2 p3 p4 p5 p6 p7 p8
  have h2' := h2
  obtain ⟨p0, p1, p2, p3, p4, p5, p6, p7, p8, _, _⟩ := h2'
  go_wp2_with fail
  refine (within1 4 st _).mono ?_
  rintro _ w3 ⟨rfl, b3⟩
  rw [decide_eq_false e2]
  have h3 := h2.next b3
  clear p0 p1 p2 p3 p4 p5 p6 p7 p8
  have h3' := h3
  obtain ⟨p0, p1, p2, p3, p4, p5, p6, p7, p8, _, _⟩ := h3'
  go_wp2_with fail
  go_ret2
  exact ⟨rfl, h3.below⟩
set_option maxHeartbeats 3200000 in
set_option maxRecDepth 100000 in
theorem rp_no3 (id er st nx tn : Int) (tw : List UInt8) (tr ty : Int) (nm : List UInt8) (htw : tw.length ≤ 140737488355328) (hnm : nm.length ≤ 140737488355328) (v : Value) (e0 : 0 ≤ id ∧ id ≤ 2147483647) (e1 : 0 ≤ er ∧ er ≤ 999) (e2 : 0 ≤ st ∧ st ≤ 4) (e3 : ¬ (0 ≤ nx ∧ nx ≤ 501)) (w : World)  :
    Calls Try.prog 12 #[.int .i64 id, .agg #[.int .i64 er, .int .i64 st, .int .i64 nx, .int .i64 tn, .string ⟨tw.toArray⟩, .int .i64 tr, .int .i64 ty, .string ⟨nm.toArray⟩, v]] w fun e w' => e = .returned (.tuple #[.string ⟨#[]⟩, .int .i64 1]) ∧ Below w.heap.size w w' := by
  have h0 := H9.new w 33 (.int .i64 er) (.int .i64 st) (.int .i64 nx) (.int .i64 tn) (.string ⟨tw.toArray⟩) (.int .i64 tr) (.int .i64 ty) (.string ⟨nm.toArray⟩) (v)
  obtain ⟨W, hW⟩ : ∃ W, W = w.alloc (.cells #[.int .i64 er, .int .i64 st, .int .i64 nx, .int .i64 tn, .string ⟨tw.toArray⟩, .int .i64 tr, .int .i64 ty, .string ⟨nm.toArray⟩, v] 33) := ⟨_, rfl⟩
  rw [← hW] at h0
  have hsz : W.heap.size = w.heap.size + 1 := by rw [hW]; exact Array.size_push ..
  have HX := hid hW
  have HZ := hid hsz
  clear hW hsz
  go_enter Try.func12, Try.ntmps12
  go_wp2_with fail
  rw [← HX.out, ← HZ.out]
  refine (within1 2147483647 id _).mono ?_
  rintro _ w1 ⟨rfl, b1⟩
  rw [decide_eq_true e0]
  have h1 := h0.next b1
  have h1' := h1
  obtain ⟨p0, p1, p2, p3, p4, p5, p6, p7, p8, _, _⟩ := h1'
  go_wp2_with fail
  refine (within1 999 er _).mono ?_
  rintro _ w2 ⟨rfl, b2⟩
  rw [decide_eq_true e1]
  have h2 := h1.next b2
  clear p0 p1 p2 p3 p4 p5 p6 p7 p8
  have h2' := h2
  obtain ⟨p0, p1, p2, p3, p4, p5, p6, p7, p8, _, _⟩ := h2'
  go_wp2_with fail
  refine (within1 4 st _).mono ?_
  rintro _ w3 ⟨rfl, b3⟩
  rw [decide_eq_true e2]
  have h3 := h2.next b3
  clear p0 p1 p2 p3 p4 p5 p6 p7 p8
  have h3' := h3
  obtain ⟨p0, p1, p2, p3, p4, p5, p6, p7, p8, _, _⟩ := h3'
  go_wp2_with fail
  refine (within1 501 nx _).mono ?_
  rintro _ w4 ⟨rfl, b4⟩
  rw [decide_eq_false e3]
  have h4 := h3.next b4
  clear p0 p1 p2 p3 p4 p5 p6 p7 p8
  have h4' := h4
  obtain ⟨p0, p1, p2, p3, p4, p5, p6, p7, p8, _, _⟩ := h4'
  go_wp2_with fail
  go_ret2
  exact ⟨rfl, h4.below⟩
set_option maxHeartbeats 3200000 in
set_option maxRecDepth 100000 in
theorem rp_no4 (id er st nx tn : Int) (tw : List UInt8) (tr ty : Int) (nm : List UInt8) (htw : tw.length ≤ 140737488355328) (hnm : nm.length ≤ 140737488355328) (v : Value) (e0 : 0 ≤ id ∧ id ≤ 2147483647) (e1 : 0 ≤ er ∧ er ≤ 999) (e2 : 0 ≤ st ∧ st ≤ 4) (e3 : 0 ≤ nx ∧ nx ≤ 501) (e4 : ¬ (nm.length ≤ 16)) (w : World)  :
    Calls Try.prog 12 #[.int .i64 id, .agg #[.int .i64 er, .int .i64 st, .int .i64 nx, .int .i64 tn, .string ⟨tw.toArray⟩, .int .i64 tr, .int .i64 ty, .string ⟨nm.toArray⟩, v]] w fun e w' => e = .returned (.tuple #[.string ⟨#[]⟩, .int .i64 1]) ∧ Below w.heap.size w w' := by
  have h0 := H9.new w 33 (.int .i64 er) (.int .i64 st) (.int .i64 nx) (.int .i64 tn) (.string ⟨tw.toArray⟩) (.int .i64 tr) (.int .i64 ty) (.string ⟨nm.toArray⟩) (v)
  obtain ⟨W, hW⟩ : ∃ W, W = w.alloc (.cells #[.int .i64 er, .int .i64 st, .int .i64 nx, .int .i64 tn, .string ⟨tw.toArray⟩, .int .i64 tr, .int .i64 ty, .string ⟨nm.toArray⟩, v] 33) := ⟨_, rfl⟩
  rw [← hW] at h0
  have hsz : W.heap.size = w.heap.size + 1 := by rw [hW]; exact Array.size_push ..
  have HX := hid hW
  have HZ := hid hsz
  clear hW hsz
  go_enter Try.func12, Try.ntmps12
  go_wp2_with fail
  rw [← HX.out, ← HZ.out]
  refine (within1 2147483647 id _).mono ?_
  rintro _ w1 ⟨rfl, b1⟩
  rw [decide_eq_true e0]
  have h1 := h0.next b1
  have h1' := h1
  obtain ⟨p0, p1, p2, p3, p4, p5, p6, p7, p8, _, _⟩ := h1'
  go_wp2_with fail
  refine (within1 999 er _).mono ?_
  rintro _ w2 ⟨rfl, b2⟩
  rw [decide_eq_true e1]
  have h2 := h1.next b2
  clear p0 p1 p2 p3 p4 p5 p6 p7 p8
  have h2' := h2
  obtain ⟨p0, p1, p2, p3, p4, p5, p6, p7, p8, _, _⟩ := h2'
  go_wp2_with fail
  refine (within1 4 st _).mono ?_
  rintro _ w3 ⟨rfl, b3⟩
  rw [decide_eq_true e2]
  have h3 := h2.next b3
  clear p0 p1 p2 p3 p4 p5 p6 p7 p8
  have h3' := h3
  obtain ⟨p0, p1, p2, p3, p4, p5, p6, p7, p8, _, _⟩ := h3'
  go_wp2_with fail
  refine (within1 501 nx _).mono ?_
  rintro _ w4 ⟨rfl, b4⟩
  rw [decide_eq_true e3]
  have h4 := h3.next b4
  clear p0 p1 p2 p3 p4 p5 p6 p7 p8
  have h4' := h4
  obtain ⟨p0, p1, p2, p3, p4, p5, p6, p7, p8, _, _⟩ := h4'
  go_wp2_with fail
  refine (short1 nm hnm _).mono ?_
  rintro _ w5 ⟨rfl, b5⟩
  rw [decide_eq_false e4]
  have h5 := h4.next b5
  clear p0 p1 p2 p3 p4 p5 p6 p7 p8
  have h5' := h5
  obtain ⟨p0, p1, p2, p3, p4, p5, p6, p7, p8, _, _⟩ := h5'
  go_wp2_with fail
  go_ret2
  exact ⟨rfl, h5.below⟩
end Go.Proofs.Ytelacmchofehcaa
namespace Go.Proofs.Ytelacmchofehcaa
open Go.RowKit
set_option linter.unusedVariables false
set_option linter.unusedSimpArgs false

set_option maxHeartbeats 3200000 in
set_option maxRecDepth 100000 in
theorem rp_bad0 (id er st nx tn : Int) (tw : List UInt8) (tr ty : Int) (nm : List UInt8) (htw : tw.length ≤ 140737488355328) (hnm : nm.length ≤ 140737488355328) (v : Value) (e0 : 0 ≤ id ∧ id ≤ 2147483647) (e1 : 0 ≤ er ∧ er ≤ 999) (e2 : 0 ≤ st ∧ st ≤ 4) (e3 : 0 ≤ nx ∧ nx ≤ 501) (e4 : nm.length ≤ 16) (hz : ¬ tn = 0) (hT : ¬ TaskP (tn, tw, tr, ty)) (w : World)  :
    Calls Try.prog 12 #[.int .i64 id, .agg #[.int .i64 er, .int .i64 st, .int .i64 nx, .int .i64 tn, .string ⟨tw.toArray⟩, .int .i64 tr, .int .i64 ty, .string ⟨nm.toArray⟩, v]] w fun e w' => e = .returned (.tuple #[.string ⟨#[]⟩, .int .i64 1]) ∧ Below w.heap.size w w' := by
  have h0 := H9.new w 33 (.int .i64 er) (.int .i64 st) (.int .i64 nx) (.int .i64 tn) (.string ⟨tw.toArray⟩) (.int .i64 tr) (.int .i64 ty) (.string ⟨nm.toArray⟩) (v)
  obtain ⟨W, hW⟩ : ∃ W, W = w.alloc (.cells #[.int .i64 er, .int .i64 st, .int .i64 nx, .int .i64 tn, .string ⟨tw.toArray⟩, .int .i64 tr, .int .i64 ty, .string ⟨nm.toArray⟩, v] 33) := ⟨_, rfl⟩
  rw [← hW] at h0
  have hsz : W.heap.size = w.heap.size + 1 := by rw [hW]; exact Array.size_push ..
  have HX := hid hW
  have HZ := hid hsz
  clear hW hsz
  go_enter Try.func12, Try.ntmps12
  go_wp2_with fail
  rw [← HX.out, ← HZ.out]
  refine (within1 2147483647 id _).mono ?_
  rintro _ w1 ⟨rfl, b1⟩
  rw [decide_eq_true e0]
  have h1 := h0.next b1
  have h1' := h1
  obtain ⟨p0, p1, p2, p3, p4, p5, p6, p7, p8, _, _⟩ := h1'
  go_wp2_with fail
  refine (within1 999 er _).mono ?_
  rintro _ w2 ⟨rfl, b2⟩
  rw [decide_eq_true e1]
  have h2 := h1.next b2
  clear p0 p1 p2 p3 p4 p5 p6 p7 p8
  have h2' := h2
  obtain ⟨p0, p1, p2, p3, p4, p5, p6, p7, p8, _, _⟩ := h2'
  go_wp2_with fail
  refine (within1 4 st _).mono ?_
  rintro _ w3 ⟨rfl, b3⟩
  rw [decide_eq_true e2]
  have h3 := h2.next b3
  clear p0 p1 p2 p3 p4 p5 p6 p7 p8
  have h3' := h3
  obtain ⟨p0, p1, p2, p3, p4, p5, p6, p7, p8, _, _⟩ := h3'
  go_wp2_with fail
  refine (within1 501 nx _).mono ?_
  rintro _ w4 ⟨rfl, b4⟩
  rw [decide_eq_true e3]
  have h4 := h3.next b4
  clear p0 p1 p2 p3 p4 p5 p6 p7 p8
  have h4' := h4
  obtain ⟨p0, p1, p2, p3, p4, p5, p6, p7, p8, _, _⟩ := h4'
  go_wp2_with fail
  refine (short1 nm hnm _).mono ?_
  rintro _ w5 ⟨rfl, b5⟩
  rw [decide_eq_true e4]
  have h5 := h4.next b5
  clear p0 p1 p2 p3 p4 p5 p6 p7 p8
  have h5' := h5
  obtain ⟨p0, p1, p2, p3, p4, p5, p6, p7, p8, _, _⟩ := h5'
  go_wp2_with fail
  refine (task_any tn tw tr ty (by unfold maxLen; omega) _).mono ?_
  rintro _ w6 ⟨rfl, b6⟩
  rw [show encTV (tn, tw, tr, ty) = [] by unfold encTV; rw [if_neg hT], show tkV (tn, tw, tr, ty) = 1 by unfold tkV; rw [if_neg hT]]
  have h6 := h5.next b6
  go_wp2_with fail
  go_ret2
  exact ⟨rfl, h6.below⟩
set_option maxHeartbeats 3200000 in
set_option maxRecDepth 100000 in
theorem rp_bad1 (id er st nx : Int) (tw : List UInt8) (tr ty : Int) (nm : List UInt8) (htw : tw.length ≤ 140737488355328) (hnm : nm.length ≤ 140737488355328) (v : Value) (e0 : 0 ≤ id ∧ id ≤ 2147483647) (e1 : 0 ≤ er ∧ er ≤ 999) (e2 : 0 ≤ st ∧ st ≤ 4) (e3 : 0 ≤ nx ∧ nx ≤ 501) (e4 : nm.length ≤ 16) (hz : ¬ tw = []) (hz1 : (tw == []) = false) (hz2 : ([] == tw) = false) (hz3 : ¬ tw.length = 0) (hT : ¬ TaskP (0, tw, tr, ty)) (w : World)  :
    Calls Try.prog 12 #[.int .i64 id, .agg #[.int .i64 er, .int .i64 st, .int .i64 nx, .int .i64 0, .string ⟨tw.toArray⟩, .int .i64 tr, .int .i64 ty, .string ⟨nm.toArray⟩, v]] w fun e w' => e = .returned (.tuple #[.string ⟨#[]⟩, .int .i64 1]) ∧ Below w.heap.size w w' := by
  have h0 := H9.new w 33 (.int .i64 er) (.int .i64 st) (.int .i64 nx) (.int .i64 0) (.string ⟨tw.toArray⟩) (.int .i64 tr) (.int .i64 ty) (.string ⟨nm.toArray⟩) (v)
  obtain ⟨W, hW⟩ : ∃ W, W = w.alloc (.cells #[.int .i64 er, .int .i64 st, .int .i64 nx, .int .i64 0, .string ⟨tw.toArray⟩, .int .i64 tr, .int .i64 ty, .string ⟨nm.toArray⟩, v] 33) := ⟨_, rfl⟩
  rw [← hW] at h0
  have hsz : W.heap.size = w.heap.size + 1 := by rw [hW]; exact Array.size_push ..
  have HX := hid hW
  have HZ := hid hsz
  clear hW hsz
  go_enter Try.func12, Try.ntmps12
  go_wp2_with fail
  rw [← HX.out, ← HZ.out]
  refine (within1 2147483647 id _).mono ?_
  rintro _ w1 ⟨rfl, b1⟩
  rw [decide_eq_true e0]
  have h1 := h0.next b1
  have h1' := h1
  obtain ⟨p0, p1, p2, p3, p4, p5, p6, p7, p8, _, _⟩ := h1'
  go_wp2_with fail
  refine (within1 999 er _).mono ?_
  rintro _ w2 ⟨rfl, b2⟩
  rw [decide_eq_true e1]
  have h2 := h1.next b2
  clear p0 p1 p2 p3 p4 p5 p6 p7 p8
  have h2' := h2
  obtain ⟨p0, p1, p2, p3, p4, p5, p6, p7, p8, _, _⟩ := h2'
  go_wp2_with fail
  refine (within1 4 st _).mono ?_
  rintro _ w3 ⟨rfl, b3⟩
  rw [decide_eq_true e2]
  have h3 := h2.next b3
  clear p0 p1 p2 p3 p4 p5 p6 p7 p8
  have h3' := h3
  obtain ⟨p0, p1, p2, p3, p4, p5, p6, p7, p8, _, _⟩ := h3'
  go_wp2_with fail
  refine (within1 501 nx _).mono ?_
  rintro _ w4 ⟨rfl, b4⟩
  rw [decide_eq_true e3]
  have h4 := h3.next b4
  clear p0 p1 p2 p3 p4 p5 p6 p7 p8
  have h4' := h4
  obtain ⟨p0, p1, p2, p3, p4, p5, p6, p7, p8, _, _⟩ := h4'
  go_wp2_with fail
  refine (short1 nm hnm _).mono ?_
  rintro _ w5 ⟨rfl, b5⟩
  rw [decide_eq_true e4]
  have h5 := h4.next b5
  clear p0 p1 p2 p3 p4 p5 p6 p7 p8
  have h5' := h5
  obtain ⟨p0, p1, p2, p3, p4, p5, p6, p7, p8, _, _⟩ := h5'
  go_wp2_with fail
  refine (task_any 0 tw tr ty (by unfold maxLen; omega) _).mono ?_
  rintro _ w6 ⟨rfl, b6⟩
  rw [show encTV (0, tw, tr, ty) = [] by unfold encTV; rw [if_neg hT], show tkV (0, tw, tr, ty) = 1 by unfold tkV; rw [if_neg hT]]
  have h6 := h5.next b6
  go_wp2_with fail
  go_ret2
  exact ⟨rfl, h6.below⟩
set_option maxHeartbeats 3200000 in
set_option maxRecDepth 100000 in
theorem rp_bad2 (id er st nx : Int) (tr ty : Int) (nm : List UInt8) (hnm : nm.length ≤ 140737488355328) (v : Value) (e0 : 0 ≤ id ∧ id ≤ 2147483647) (e1 : 0 ≤ er ∧ er ≤ 999) (e2 : 0 ≤ st ∧ st ≤ 4) (e3 : 0 ≤ nx ∧ nx ≤ 501) (e4 : nm.length ≤ 16) (hz : ¬ tr = 0) (hT : ¬ TaskP (0, [], tr, ty)) (w : World)  :
    Calls Try.prog 12 #[.int .i64 id, .agg #[.int .i64 er, .int .i64 st, .int .i64 nx, .int .i64 0, .string ⟨#[]⟩, .int .i64 tr, .int .i64 ty, .string ⟨nm.toArray⟩, v]] w fun e w' => e = .returned (.tuple #[.string ⟨#[]⟩, .int .i64 1]) ∧ Below w.heap.size w w' := by
  have h0 := H9.new w 33 (.int .i64 er) (.int .i64 st) (.int .i64 nx) (.int .i64 0) (.string ⟨#[]⟩) (.int .i64 tr) (.int .i64 ty) (.string ⟨nm.toArray⟩) (v)
  obtain ⟨W, hW⟩ : ∃ W, W = w.alloc (.cells #[.int .i64 er, .int .i64 st, .int .i64 nx, .int .i64 0, .string ⟨#[]⟩, .int .i64 tr, .int .i64 ty, .string ⟨nm.toArray⟩, v] 33) := ⟨_, rfl⟩
  rw [← hW] at h0
  have hsz : W.heap.size = w.heap.size + 1 := by rw [hW]; exact Array.size_push ..
  have HX := hid hW
  have HZ := hid hsz
  clear hW hsz
  go_enter Try.func12, Try.ntmps12
  go_wp2_with fail
  rw [← HX.out, ← HZ.out]
  refine (within1 2147483647 id _).mono ?_
  rintro _ w1 ⟨rfl, b1⟩
  rw [decide_eq_true e0]
  have h1 := h0.next b1
  have h1' := h1
  obtain ⟨p0, p1, p2, p3, p4, p5, p6, p7, p8, _, _⟩ := h1'
  go_wp2_with fail
  refine (within1 999 er _).mono ?_
  rintro _ w2 ⟨rfl, b2⟩
  rw [decide_eq_true e1]
  have h2 := h1.next b2
  clear p0 p1 p2 p3 p4 p5 p6 p7 p8
  have h2' := h2
  obtain ⟨p0, p1, p2, p3, p4, p5, p6, p7, p8, _, _⟩ := h2'
  go_wp2_with fail
  refine (within1 4 st _).mono ?_
  rintro _ w3 ⟨rfl, b3⟩
  rw [decide_eq_true e2]
  have h3 := h2.next b3
  clear p0 p1 p2 p3 p4 p5 p6 p7 p8
  have h3' := h3
  obtain ⟨p0, p1, p2, p3, p4, p5, p6, p7, p8, _, _⟩ := h3'
  go_wp2_with fail
  refine (within1 501 nx _).mono ?_
  rintro _ w4 ⟨rfl, b4⟩
  rw [decide_eq_true e3]
  have h4 := h3.next b4
  clear p0 p1 p2 p3 p4 p5 p6 p7 p8
  have h4' := h4
  obtain ⟨p0, p1, p2, p3, p4, p5, p6, p7, p8, _, _⟩ := h4'
  go_wp2_with fail
  refine (short1 nm hnm _).mono ?_
  rintro _ w5 ⟨rfl, b5⟩
  rw [decide_eq_true e4]
  have h5 := h4.next b5
  clear p0 p1 p2 p3 p4 p5 p6 p7 p8
  have h5' := h5
  obtain ⟨p0, p1, p2, p3, p4, p5, p6, p7, p8, _, _⟩ := h5'
  go_wp2_with fail
  refine (task_any 0 [] tr ty (by simp) _).mono ?_
  rintro _ w6 ⟨rfl, b6⟩
  rw [show encTV (0, [], tr, ty) = [] by unfold encTV; rw [if_neg hT], show tkV (0, [], tr, ty) = 1 by unfold tkV; rw [if_neg hT]]
  have h6 := h5.next b6
  go_wp2_with fail
  go_ret2
  exact ⟨rfl, h6.below⟩
set_option maxHeartbeats 3200000 in
set_option maxRecDepth 100000 in
theorem rp_bad3 (id er st nx : Int) (ty : Int) (nm : List UInt8) (hnm : nm.length ≤ 140737488355328) (v : Value) (e0 : 0 ≤ id ∧ id ≤ 2147483647) (e1 : 0 ≤ er ∧ er ≤ 999) (e2 : 0 ≤ st ∧ st ≤ 4) (e3 : 0 ≤ nx ∧ nx ≤ 501) (e4 : nm.length ≤ 16) (hz : ¬ ty = 0) (hT : ¬ TaskP (0, [], 0, ty)) (w : World)  :
    Calls Try.prog 12 #[.int .i64 id, .agg #[.int .i64 er, .int .i64 st, .int .i64 nx, .int .i64 0, .string ⟨#[]⟩, .int .i64 0, .int .i64 ty, .string ⟨nm.toArray⟩, v]] w fun e w' => e = .returned (.tuple #[.string ⟨#[]⟩, .int .i64 1]) ∧ Below w.heap.size w w' := by
  have h0 := H9.new w 33 (.int .i64 er) (.int .i64 st) (.int .i64 nx) (.int .i64 0) (.string ⟨#[]⟩) (.int .i64 0) (.int .i64 ty) (.string ⟨nm.toArray⟩) (v)
  obtain ⟨W, hW⟩ : ∃ W, W = w.alloc (.cells #[.int .i64 er, .int .i64 st, .int .i64 nx, .int .i64 0, .string ⟨#[]⟩, .int .i64 0, .int .i64 ty, .string ⟨nm.toArray⟩, v] 33) := ⟨_, rfl⟩
  rw [← hW] at h0
  have hsz : W.heap.size = w.heap.size + 1 := by rw [hW]; exact Array.size_push ..
  have HX := hid hW
  have HZ := hid hsz
  clear hW hsz
  go_enter Try.func12, Try.ntmps12
  go_wp2_with fail
  rw [← HX.out, ← HZ.out]
  refine (within1 2147483647 id _).mono ?_
  rintro _ w1 ⟨rfl, b1⟩
  rw [decide_eq_true e0]
  have h1 := h0.next b1
  have h1' := h1
  obtain ⟨p0, p1, p2, p3, p4, p5, p6, p7, p8, _, _⟩ := h1'
  go_wp2_with fail
  refine (within1 999 er _).mono ?_
  rintro _ w2 ⟨rfl, b2⟩
  rw [decide_eq_true e1]
  have h2 := h1.next b2
  clear p0 p1 p2 p3 p4 p5 p6 p7 p8
  have h2' := h2
  obtain ⟨p0, p1, p2, p3, p4, p5, p6, p7, p8, _, _⟩ := h2'
  go_wp2_with fail
  refine (within1 4 st _).mono ?_
  rintro _ w3 ⟨rfl, b3⟩
  rw [decide_eq_true e2]
  have h3 := h2.next b3
  clear p0 p1 p2 p3 p4 p5 p6 p7 p8
  have h3' := h3
  obtain ⟨p0, p1, p2, p3, p4, p5, p6, p7, p8, _, _⟩ := h3'
  go_wp2_with fail
  refine (within1 501 nx _).mono ?_
  rintro _ w4 ⟨rfl, b4⟩
  rw [decide_eq_true e3]
  have h4 := h3.next b4
  clear p0 p1 p2 p3 p4 p5 p6 p7 p8
  have h4' := h4
  obtain ⟨p0, p1, p2, p3, p4, p5, p6, p7, p8, _, _⟩ := h4'
  go_wp2_with fail
  refine (short1 nm hnm _).mono ?_
  rintro _ w5 ⟨rfl, b5⟩
  rw [decide_eq_true e4]
  have h5 := h4.next b5
  clear p0 p1 p2 p3 p4 p5 p6 p7 p8
  have h5' := h5
  obtain ⟨p0, p1, p2, p3, p4, p5, p6, p7, p8, _, _⟩ := h5'
  go_wp2_with fail
  refine (task_any 0 [] 0 ty (by simp) _).mono ?_
  rintro _ w6 ⟨rfl, b6⟩
  rw [show encTV (0, [], 0, ty) = [] by unfold encTV; rw [if_neg hT], show tkV (0, [], 0, ty) = 1 by unfold tkV; rw [if_neg hT]]
  have h6 := h5.next b6
  go_wp2_with fail
  go_ret2
  exact ⟨rfl, h6.below⟩
set_option maxHeartbeats 3200000 in
set_option maxRecDepth 100000 in
theorem rp_zero (id er st nx : Int) (nm : List UInt8) (hnm : nm.length ≤ 140737488355328) (v : Value) (ev : List Ev) (e0 : 0 ≤ id ∧ id ≤ 2147483647) (e1 : 0 ≤ er ∧ er ≤ 999) (e2 : 0 ≤ st ∧ st ≤ 4) (e3 : 0 ≤ nx ∧ nx ≤ 501) (e4 : nm.length ≤ 16) {V : List UInt8} {E : Int} (hbad : ¬ HistP ev → V = [] ∧ E = hiE ev) (hgood : HistP ev → V = wrapL (encRp id ⟨er, st, nx, tk0, nm, ev⟩) ∧ E = 0) (w : World) (hs : Sl w v 8 ev.length (ev.flatMap evc)) (hf : FitE ev) :
    Calls Try.prog 12 #[.int .i64 id, .agg #[.int .i64 er, .int .i64 st, .int .i64 nx, .int .i64 0, .string ⟨#[]⟩, .int .i64 0, .int .i64 0, .string ⟨nm.toArray⟩, v]] w fun e w' => e = .returned (.tuple #[.string ⟨V.toArray⟩, .int .i64 E]) ∧ Below w.heap.size w w' := by
  have h0 := H9.new w 33 (.int .i64 er) (.int .i64 st) (.int .i64 nx) (.int .i64 0) (.string ⟨#[]⟩) (.int .i64 0) (.int .i64 0) (.string ⟨nm.toArray⟩) (v)
  obtain ⟨W, hW⟩ : ∃ W, W = w.alloc (.cells #[.int .i64 er, .int .i64 st, .int .i64 nx, .int .i64 0, .string ⟨#[]⟩, .int .i64 0, .int .i64 0, .string ⟨nm.toArray⟩, v] 33) := ⟨_, rfl⟩
  rw [← hW] at h0
  have hsz : W.heap.size = w.heap.size + 1 := by rw [hW]; exact Array.size_push ..
  have HX := hid hW
  have HZ := hid hsz
  clear hW hsz
  go_enter Try.func12, Try.ntmps12
  go_wp2_with fail
  rw [← HX.out, ← HZ.out]
  refine (within1 2147483647 id _).mono ?_
  rintro _ w1 ⟨rfl, b1⟩
  rw [decide_eq_true e0]
  have h1 := h0.next b1
  have h1' := h1
  obtain ⟨p0, p1, p2, p3, p4, p5, p6, p7, p8, _, _⟩ := h1'
  go_wp2_with fail
  refine (within1 999 er _).mono ?_
  rintro _ w2 ⟨rfl, b2⟩
  rw [decide_eq_true e1]
  have h2 := h1.next b2
  clear p0 p1 p2 p3 p4 p5 p6 p7 p8
  have h2' := h2
  obtain ⟨p0, p1, p2, p3, p4, p5, p6, p7, p8, _, _⟩ := h2'
  go_wp2_with fail
  refine (within1 4 st _).mono ?_
  rintro _ w3 ⟨rfl, b3⟩
  rw [decide_eq_true e2]
  have h3 := h2.next b3
  clear p0 p1 p2 p3 p4 p5 p6 p7 p8
  have h3' := h3
  obtain ⟨p0, p1, p2, p3, p4, p5, p6, p7, p8, _, _⟩ := h3'
  go_wp2_with fail
  refine (within1 501 nx _).mono ?_
  rintro _ w4 ⟨rfl, b4⟩
  rw [decide_eq_true e3]
  have h4 := h3.next b4
  clear p0 p1 p2 p3 p4 p5 p6 p7 p8
  have h4' := h4
  obtain ⟨p0, p1, p2, p3, p4, p5, p6, p7, p8, _, _⟩ := h4'
  go_wp2_with fail
  refine (short1 nm hnm _).mono ?_
  rintro _ w5 ⟨rfl, b5⟩
  rw [decide_eq_true e4]
  have h5 := h4.next b5
  clear p0 p1 p2 p3 p4 p5 p6 p7 p8
  have h5' := h5
  obtain ⟨p0, p1, p2, p3, p4, p5, p6, p7, p8, _, _⟩ := h5'
  go_wp2_with fail
  refine (pack_any v ev _ (hs.below h5.below) hf).mono ?_
  rintro _ w6 ⟨rfl, b6⟩
  have h6 := h5.next b6
  clear p0 p1 p2 p3 p4 p5 p6 p7 p8
  by_cases hh : HistP ev
  case neg =>
    have hE : ¬ hiE ev = 0 := by
      unfold hiE
      split
      · decide
      · first | decide | (rw [if_neg hh]; decide)
    rw [show hiV ev = [] by unfold hiV; rw [if_neg hh]]
    have HNO := hid (hbad hh)
    generalize hiE ev = E9 at *
    go_wp2_with fail
    go_ret2
    exact ⟨by rw [HNO.out.1, HNO.out.2]; rfl, h6.below⟩
  rw [show hiV ev = encHi ev by unfold hiV; rw [if_pos hh], show hiE ev = 0 by unfold hiE; rw [if_neg (by have := hh.1; omega), if_pos hh]]
  have HOK := hid (hgood hh)
  have hel := encHi_len' hh
  clear hgood hbad
  generalize hEV : encHi ev = pe at *
  have uid : IntKind.u64.wrap id = id := wrap_u64 (by omega) (by omega)
  have uer : IntKind.u64.wrap er = er := wrap_u64 (by omega) (by omega)
  have ust : IntKind.u64.wrap st = st := wrap_u64 (by omega) (by omega)
  have unx : IntKind.u64.wrap nx = nx := wrap_u64 (by omega) (by omega)
  have l0 := putL_len10' 1 (by decide)
  have l1 : (putL id.toNat).length ≤ 10 := putL_len10 (by unfold U64; omega)
  have l2 := putL_len10' er.toNat (by omega)
  have l3 := putL_len10' st.toNat (by omega)
  have l4 := putL_len10' nx.toNat (by omega)
  have hg := h6.lt
  have hc0 := h6.c0
  have hc1 := h6.c1
  have hc2 := h6.c2
  have f1 := fun w => run_cat (P := Try.prog) w (putL 1) (putL id.toNat) (by omega)
  have f2 := fun w => run_cat (P := Try.prog) w (putL 1 ++ putL id.toNat) (putL er.toNat) (by simp only [List.length_append]; omega)
  have f3 := fun w => run_cat (P := Try.prog) w (putL 1 ++ (putL id.toNat ++ putL er.toNat)) (putL st.toNat) (by simp only [List.length_append]; omega)
  have f4 := fun w => run_cat (P := Try.prog) w (putL 1 ++ (putL id.toNat ++ (putL er.toNat ++ putL st.toNat))) (putL nx.toNat) (by simp only [List.length_append]; omega)
  simp only [List.append_assoc] at f2 f3 f4
  have hHd : (putL 1 ++ (putL id.toNat ++ (putL er.toNat ++ (putL st.toNat ++ putL nx.toNat)))).length ≤ 50 := by simp only [List.length_append]; omega
  clear l0 l1 l2 l3 l4
  have hkeep := fun w' w'' h k => held3 hg hc0 hc1 hc2 (w' := w') (w'' := w'') h k
  go_wp2_with fail
  go_region_held3 (fun w' => Below w6.heap.size w6 w' ∧ w'.cell? ⟨w.heap.size, 0, none⟩ = some (.int .i64 er) ∧ w'.cell? ⟨w.heap.size, 1, none⟩ = some (.int .i64 st) ∧ w'.cell? ⟨w.heap.size, 2, none⟩ = some (.int .i64 nx)) (first | exact hS | exact ⟨Below.refl _ _, hc0, hc1, hc2⟩ | exact ⟨below_drewN _ _ 1, hc0, hc1, hc2⟩)
    ((go_at_call 22; refine (put_w _ (by omega) _).mono ?_; rintro _ wz ⟨rfl, hbz⟩; (try simp only [Int.toNat_one]); have hS := hkeep _ _ (by assumption) hbz))
  have h7 := h6.next hS.1
  clear f1 f2 f3 f4 hkeep hc0 hc1 hc2 hg
  generalize hHD : putL 1 ++ (putL id.toNat ++ (putL er.toNat ++ (putL st.toNat ++ putL nx.toNat))) = Hd at *
  generalize wz = wy at *
  have hg := h7.lt
  have hc7 := h7.c7
  have lt1 : (textL ([] : List UInt8)).length ≤ 120 := by
    have := putL_len10' 0 (by decide)
    unfold textL; simp; omega
  have lt2 := textL_len e4
  have lt3 : (textL pe).length ≤ 800010 := by
    have : (putL pe.length).length ≤ 10 := putL_len10 (by unfold U64; omega)
    unfold textL; rw [List.length_append]; omega
  have f1 := fun w => run_cat (P := Try.prog) w Hd (textL ([] : List UInt8)) (by omega)
  have f2 := fun w => run_cat (P := Try.prog) w (Hd ++ textL ([] : List UInt8)) (textL nm) (by simp only [List.length_append]; omega)
  have f3 := fun w => run_cat (P := Try.prog) w (Hd ++ (textL ([] : List UInt8) ++ textL nm)) (textL pe) (by simp only [List.length_append]; omega)
  simp only [List.append_assoc] at f2 f3
  have hLL : (Hd ++ (textL ([] : List UInt8) ++ (textL nm ++ textL pe))).length ≤ 1048576 := by simp only [List.length_append]; omega
  clear lt1 lt2 lt3
  have hkeep := fun w' w'' h k => held1 hg hc7 (w' := w') (w'' := w'') h k
  go_wp2_with fail
  go_region_held3 (fun w' => Below wy.heap.size wy w' ∧ w'.cell? ⟨w.heap.size, 7, none⟩ = some (.string ⟨nm.toArray⟩)) (first | exact hS | exact ⟨Below.refl _ _, hc7⟩ | exact ⟨below_drewN _ _ 1, hc7⟩)
    ((first
      | (go_at_call 23; refine (text_any _ (by first | omega | simp) _).mono ?_; rintro _ wz ⟨rfl, hbz⟩; have hS := hkeep _ _ (by assumption) hbz)
      | (go_at_call 25; refine (wrap_any _ hLL _).mono ?_; rintro _ wz ⟨rfl, hbz⟩; have hS := hkeep _ _ (by assumption) hbz)))
  have h8 := h7.next hS.1
  go_wp2_with fail
  go_ret2
  exact ⟨by rw [HOK.out.1, HOK.out.2, show encRp id ⟨er, st, nx, tk0, nm, ev⟩ = Hd ++ (textL ([] : List UInt8) ++ (textL nm ++ textL pe)) by rw [← hHD, ← hEV]; simp [encRp, taskB]]; rfl, h8.below⟩
set_option maxHeartbeats 3200000 in
set_option maxRecDepth 100000 in
theorem rp_task (id er st nx tn : Int) (tw : List UInt8) (tr ty : Int) (nm : List UInt8) (htw : tw.length ≤ 140737488355328) (hnm : nm.length ≤ 140737488355328) (v : Value) (ev : List Ev) (e0 : 0 ≤ id ∧ id ≤ 2147483647) (e1 : 0 ≤ er ∧ er ≤ 999) (e2 : 0 ≤ st ∧ st ≤ 4) (e3 : 0 ≤ nx ∧ nx ≤ 501) (e4 : nm.length ≤ 16) (hz : ¬ tn = 0) (hT : TaskP (tn, tw, tr, ty)) {V : List UInt8} {E : Int} (hbad : ¬ HistP ev → V = [] ∧ E = hiE ev) (hgood : HistP ev → V = wrapL (encRp id ⟨er, st, nx, (tn, tw, tr, ty), nm, ev⟩) ∧ E = 0) (w : World) (hs : Sl w v 8 ev.length (ev.flatMap evc)) (hf : FitE ev) :
    Calls Try.prog 12 #[.int .i64 id, .agg #[.int .i64 er, .int .i64 st, .int .i64 nx, .int .i64 tn, .string ⟨tw.toArray⟩, .int .i64 tr, .int .i64 ty, .string ⟨nm.toArray⟩, v]] w fun e w' => e = .returned (.tuple #[.string ⟨V.toArray⟩, .int .i64 E]) ∧ Below w.heap.size w w' := by
  have h0 := H9.new w 33 (.int .i64 er) (.int .i64 st) (.int .i64 nx) (.int .i64 tn) (.string ⟨tw.toArray⟩) (.int .i64 tr) (.int .i64 ty) (.string ⟨nm.toArray⟩) (v)
  obtain ⟨W, hW⟩ : ∃ W, W = w.alloc (.cells #[.int .i64 er, .int .i64 st, .int .i64 nx, .int .i64 tn, .string ⟨tw.toArray⟩, .int .i64 tr, .int .i64 ty, .string ⟨nm.toArray⟩, v] 33) := ⟨_, rfl⟩
  rw [← hW] at h0
  have hsz : W.heap.size = w.heap.size + 1 := by rw [hW]; exact Array.size_push ..
  have HX := hid hW
  have HZ := hid hsz
  clear hW hsz
  go_enter Try.func12, Try.ntmps12
  go_wp2_with fail
  rw [← HX.out, ← HZ.out]
  refine (within1 2147483647 id _).mono ?_
  rintro _ w1 ⟨rfl, b1⟩
  rw [decide_eq_true e0]
  have h1 := h0.next b1
  have h1' := h1
  obtain ⟨p0, p1, p2, p3, p4, p5, p6, p7, p8, _, _⟩ := h1'
  go_wp2_with fail
  refine (within1 999 er _).mono ?_
  rintro _ w2 ⟨rfl, b2⟩
  rw [decide_eq_true e1]
  have h2 := h1.next b2
  clear p0 p1 p2 p3 p4 p5 p6 p7 p8
  have h2' := h2
  obtain ⟨p0, p1, p2, p3, p4, p5, p6, p7, p8, _, _⟩ := h2'
  go_wp2_with fail
  refine (within1 4 st _).mono ?_
  rintro _ w3 ⟨rfl, b3⟩
  rw [decide_eq_true e2]
  have h3 := h2.next b3
  clear p0 p1 p2 p3 p4 p5 p6 p7 p8
  have h3' := h3
  obtain ⟨p0, p1, p2, p3, p4, p5, p6, p7, p8, _, _⟩ := h3'
  go_wp2_with fail
  refine (within1 501 nx _).mono ?_
  rintro _ w4 ⟨rfl, b4⟩
  rw [decide_eq_true e3]
  have h4 := h3.next b4
  clear p0 p1 p2 p3 p4 p5 p6 p7 p8
  have h4' := h4
  obtain ⟨p0, p1, p2, p3, p4, p5, p6, p7, p8, _, _⟩ := h4'
  go_wp2_with fail
  refine (short1 nm hnm _).mono ?_
  rintro _ w5 ⟨rfl, b5⟩
  rw [decide_eq_true e4]
  have h5 := h4.next b5
  clear p0 p1 p2 p3 p4 p5 p6 p7 p8
  have h5' := h5
  obtain ⟨p0, p1, p2, p3, p4, p5, p6, p7, p8, _, _⟩ := h5'
  go_wp2_with fail
  refine (task_any tn tw tr ty (by unfold maxLen; omega) _).mono ?_
  rintro _ w6 ⟨rfl, b6⟩
  rw [show encTV (tn, tw, tr, ty) = encT (tn, tw, tr, ty) by unfold encTV; rw [if_pos hT], show tkV (tn, tw, tr, ty) = 0 by unfold tkV; rw [if_pos hT]]
  have h6 := h5.next b6
  have htl : (encT (tn, tw, tr, ty)).length ≤ 100 := by
    have := taskB_len (.inr hT)
    rw [show taskB (tn, tw, tr, ty) = encT (tn, tw, tr, ty) by unfold taskB; rw [if_neg (fun q => hz (by rw [tk0] at q; injection q))]] at this
    exact this
  have htb := hid (show taskB (tn, tw, tr, ty) = encT (tn, tw, tr, ty) by unfold taskB; rw [if_neg (fun q => hz (by rw [tk0] at q; injection q))])
  clear hT
  generalize hTB : encT (tn, tw, tr, ty) = tb at *
  clear p0 p1 p2 p3 p4 p5 p6 p7 p8
  have h6' := h6
  obtain ⟨p0, p1, p2, p3, p4, p5, p6, p7, p8, _, _⟩ := h6'
  go_wp2_with fail
  refine (pack_any v ev _ (hs.below h6.below) hf).mono ?_
  rintro _ w7 ⟨rfl, b7⟩
  have h7 := h6.next b7
  clear p0 p1 p2 p3 p4 p5 p6 p7 p8
  by_cases hh : HistP ev
  case neg =>
    have hE : ¬ hiE ev = 0 := by
      unfold hiE
      split
      · decide
      · first | decide | (rw [if_neg hh]; decide)
    rw [show hiV ev = [] by unfold hiV; rw [if_neg hh]]
    have HNO := hid (hbad hh)
    generalize hiE ev = E9 at *
    go_wp2_with fail
    go_ret2
    exact ⟨by rw [HNO.out.1, HNO.out.2]; rfl, h7.below⟩
  rw [show hiV ev = encHi ev by unfold hiV; rw [if_pos hh], show hiE ev = 0 by unfold hiE; rw [if_neg (by have := hh.1; omega), if_pos hh]]
  have HOK := hid (hgood hh)
  have hel := encHi_len' hh
  clear hgood hbad
  generalize hEV : encHi ev = pe at *
  have uid : IntKind.u64.wrap id = id := wrap_u64 (by omega) (by omega)
  have uer : IntKind.u64.wrap er = er := wrap_u64 (by omega) (by omega)
  have ust : IntKind.u64.wrap st = st := wrap_u64 (by omega) (by omega)
  have unx : IntKind.u64.wrap nx = nx := wrap_u64 (by omega) (by omega)
  have l0 := putL_len10' 1 (by decide)
  have l1 : (putL id.toNat).length ≤ 10 := putL_len10 (by unfold U64; omega)
  have l2 := putL_len10' er.toNat (by omega)
  have l3 := putL_len10' st.toNat (by omega)
  have l4 := putL_len10' nx.toNat (by omega)
  have hg := h7.lt
  have hc0 := h7.c0
  have hc1 := h7.c1
  have hc2 := h7.c2
  have f1 := fun w => run_cat (P := Try.prog) w (putL 1) (putL id.toNat) (by omega)
  have f2 := fun w => run_cat (P := Try.prog) w (putL 1 ++ putL id.toNat) (putL er.toNat) (by simp only [List.length_append]; omega)
  have f3 := fun w => run_cat (P := Try.prog) w (putL 1 ++ (putL id.toNat ++ putL er.toNat)) (putL st.toNat) (by simp only [List.length_append]; omega)
  have f4 := fun w => run_cat (P := Try.prog) w (putL 1 ++ (putL id.toNat ++ (putL er.toNat ++ putL st.toNat))) (putL nx.toNat) (by simp only [List.length_append]; omega)
  simp only [List.append_assoc] at f2 f3 f4
  have hHd : (putL 1 ++ (putL id.toNat ++ (putL er.toNat ++ (putL st.toNat ++ putL nx.toNat)))).length ≤ 50 := by simp only [List.length_append]; omega
  clear l0 l1 l2 l3 l4
  have hkeep := fun w' w'' h k => held3 hg hc0 hc1 hc2 (w' := w') (w'' := w'') h k
  go_wp2_with fail
  go_region_held3 (fun w' => Below w7.heap.size w7 w' ∧ w'.cell? ⟨w.heap.size, 0, none⟩ = some (.int .i64 er) ∧ w'.cell? ⟨w.heap.size, 1, none⟩ = some (.int .i64 st) ∧ w'.cell? ⟨w.heap.size, 2, none⟩ = some (.int .i64 nx)) (first | exact hS | exact ⟨Below.refl _ _, hc0, hc1, hc2⟩ | exact ⟨below_drewN _ _ 1, hc0, hc1, hc2⟩)
    ((go_at_call 22; refine (put_w _ (by omega) _).mono ?_; rintro _ wz ⟨rfl, hbz⟩; (try simp only [Int.toNat_one]); have hS := hkeep _ _ (by assumption) hbz))
  have h8 := h7.next hS.1
  clear f1 f2 f3 f4 hkeep hc0 hc1 hc2 hg
  generalize hHD : putL 1 ++ (putL id.toNat ++ (putL er.toNat ++ (putL st.toNat ++ putL nx.toNat))) = Hd at *
  generalize wz = wy at *
  have hg := h8.lt
  have hc7 := h8.c7
  have lt1 : (textL tb).length ≤ 120 := by
    have := putL_len10' (tb : List UInt8).length (by omega)
    unfold textL; rw [List.length_append]; omega
  have lt2 := textL_len e4
  have lt3 : (textL pe).length ≤ 800010 := by
    have : (putL pe.length).length ≤ 10 := putL_len10 (by unfold U64; omega)
    unfold textL; rw [List.length_append]; omega
  have f1 := fun w => run_cat (P := Try.prog) w Hd (textL tb) (by omega)
  have f2 := fun w => run_cat (P := Try.prog) w (Hd ++ textL tb) (textL nm) (by simp only [List.length_append]; omega)
  have f3 := fun w => run_cat (P := Try.prog) w (Hd ++ (textL tb ++ textL nm)) (textL pe) (by simp only [List.length_append]; omega)
  simp only [List.append_assoc] at f2 f3
  have hLL : (Hd ++ (textL tb ++ (textL nm ++ textL pe))).length ≤ 1048576 := by simp only [List.length_append]; omega
  clear lt1 lt2 lt3
  have hkeep := fun w' w'' h k => held1 hg hc7 (w' := w') (w'' := w'') h k
  go_wp2_with fail
  go_region_held3 (fun w' => Below wy.heap.size wy w' ∧ w'.cell? ⟨w.heap.size, 7, none⟩ = some (.string ⟨nm.toArray⟩)) (first | exact hS | exact ⟨Below.refl _ _, hc7⟩ | exact ⟨below_drewN _ _ 1, hc7⟩)
    ((first
      | (go_at_call 23; refine (text_any _ (by omega) _).mono ?_; rintro _ wz ⟨rfl, hbz⟩; have hS := hkeep _ _ (by assumption) hbz)
      | (go_at_call 25; refine (wrap_any _ hLL _).mono ?_; rintro _ wz ⟨rfl, hbz⟩; have hS := hkeep _ _ (by assumption) hbz)))
  have h9 := h8.next hS.1
  go_wp2_with fail
  go_ret2
  exact ⟨by rw [HOK.out.1, HOK.out.2, show encRp id ⟨er, st, nx, (tn, tw, tr, ty), nm, ev⟩ = Hd ++ (textL tb ++ (textL nm ++ textL pe)) by rw [← hHD, ← hEV]; simp [encRp, htb.out]]; rfl, h9.below⟩
end Go.Proofs.Ytelacmchofehcaa
namespace Go.Proofs.Ytelacmchofehcaa
open Go.RowKit
set_option linter.unusedVariables false

theorem rp_codes {id : Int} {x : Rp} : (¬ RpA id x → rpV id x = [] ∧ rpE id x = 1) ∧ (RpA id x → ¬ RpT x → rpV id x = [] ∧ rpE id x = 1) ∧ (RpA id x → RpT x → ¬ HistP x.ev → rpV id x = [] ∧ rpE id x = hiE x.ev) ∧ (RpA id x → RpT x → HistP x.ev → rpV id x = wrapL (encRp id x) ∧ rpE id x = 0) := by
  unfold rpV rpE
  refine ⟨fun h => ?_, fun h1 h2 => ?_, fun h1 h2 h3 => ?_, fun h1 h2 h3 => ?_⟩
  · rw [if_neg (fun k => h k.1), if_neg (fun k => h k.1), if_neg (fun k => h k.1)]; exact ⟨rfl, rfl⟩
  · rw [if_neg (fun k => h2 k.2.1), if_neg (fun k => h2 k.2.1), if_neg (fun k => h2 k.2)]; exact ⟨rfl, rfl⟩
  · rw [if_neg (fun k => h3 k.2.2), if_neg (fun k => h3 k.2.2), if_pos ⟨h1, h2⟩]; exact ⟨rfl, rfl⟩
  · rw [if_pos ⟨h1, h2, h3⟩, if_pos ⟨h1, h2, h3⟩]; exact ⟨rfl, rfl⟩
theorem reply_any (id er st nx tn : Int) (tw : List UInt8) (tr ty : Int) (nm : List UInt8) (htw : tw.length ≤ 140737488355328) (hnm : nm.length ≤ 140737488355328) (v : Value) (ev : List Ev) (w : World) (hs : Sl w v 8 ev.length (ev.flatMap evc)) (hf : FitE ev) :
    Calls Try.prog 12 #[.int .i64 id, .agg #[.int .i64 er, .int .i64 st, .int .i64 nx, .int .i64 tn, .string ⟨tw.toArray⟩, .int .i64 tr, .int .i64 ty, .string ⟨nm.toArray⟩, v]] w fun e w' => e = .returned (.tuple #[.string ⟨(rpV id ⟨er, st, nx, (tn, tw, tr, ty), nm, ev⟩).toArray⟩, .int .i64 (rpE id ⟨er, st, nx, (tn, tw, tr, ty), nm, ev⟩)]) ∧ Below w.heap.size w w' := by
  obtain ⟨k1, k2, k3, k4⟩ := rp_codes (id := id) (x := ⟨er, st, nx, (tn, tw, tr, ty), nm, ev⟩)
  by_cases hA : RpA id ⟨er, st, nx, (tn, tw, tr, ty), nm, ev⟩
  · obtain ⟨e0, e1, e2, e3, e4⟩ := hA
    have hA : RpA id ⟨er, st, nx, (tn, tw, tr, ty), nm, ev⟩ := ⟨e0, e1, e2, e3, e4⟩
    by_cases hz : (tn, tw, tr, ty) = tk0
    · have hT : RpT ⟨er, st, nx, (tn, tw, tr, ty), nm, ev⟩ := .inl hz
      have k3 := k3 hA hT
      have k4 := k4 hA hT
      rw [tk0, Prod.mk.injEq, Prod.mk.injEq, Prod.mk.injEq] at hz
      obtain ⟨rfl, rfl, rfl, rfl⟩ := hz
      exact rp_zero id er st nx nm hnm v ev e0 e1 e2 e3 e4 k3 k4 w hs hf
    · by_cases hT : TaskP (tn, tw, tr, ty)
      · have hT' : RpT ⟨er, st, nx, (tn, tw, tr, ty), nm, ev⟩ := .inr hT
        exact rp_task id er st nx tn tw tr ty nm htw hnm v ev e0 e1 e2 e3 e4 (by have := hT.1.1; simp only at this; omega) hT (k3 hA hT') (k4 hA hT') w hs hf
      · have := k2 hA (fun q => q.elim hz hT)
        rw [this.1, this.2]
        clear this k1 k2 k3 k4
        by_cases h0 : tn = 0
        case neg => exact rp_bad0 id er st nx tn tw tr ty nm htw hnm v e0 e1 e2 e3 e4 h0 hT w
        subst h0
        by_cases h1 : tw = []
        case neg => exact rp_bad1 id er st nx tw tr ty nm htw hnm v e0 e1 e2 e3 e4 h1 (by cases tw with | nil => exact absurd rfl h1 | cons _ _ => rfl) (by cases tw with | nil => exact absurd rfl h1 | cons _ _ => rfl) (fun q => h1 (List.eq_nil_of_length_eq_zero q)) hT w
        subst h1
        by_cases h2 : tr = 0
        case neg => exact rp_bad2 id er st nx tr ty nm hnm v e0 e1 e2 e3 e4 h2 hT w
        subst h2
        by_cases h3 : ty = 0
        case neg => exact rp_bad3 id er st nx ty nm hnm v e0 e1 e2 e3 e4 h3 hT w
        subst h3
        exact absurd rfl hz
  · have := k1 hA
    rw [this.1, this.2]
    clear k1 k2 k3 k4 this
    by_cases e0 : 0 ≤ id ∧ id ≤ 2147483647
    case neg => exact rp_no0 id er st nx tn tw tr ty nm htw hnm v e0 w
    by_cases e1 : 0 ≤ er ∧ er ≤ 999
    case neg => exact rp_no1 id er st nx tn tw tr ty nm htw hnm v e0 e1 w
    by_cases e2 : 0 ≤ st ∧ st ≤ 4
    case neg => exact rp_no2 id er st nx tn tw tr ty nm htw hnm v e0 e1 e2 w
    by_cases e3 : 0 ≤ nx ∧ nx ≤ 501
    case neg => exact rp_no3 id er st nx tn tw tr ty nm htw hnm v e0 e1 e2 e3 w
    by_cases e4 : nm.length ≤ 16
    case neg => exact rp_no4 id er st nx tn tw tr ty nm htw hnm v e0 e1 e2 e3 e4 w
    exact absurd ⟨e0, e1, e2, e3, e4⟩ hA
end Go.Proofs.Ytelacmchofehcaa
