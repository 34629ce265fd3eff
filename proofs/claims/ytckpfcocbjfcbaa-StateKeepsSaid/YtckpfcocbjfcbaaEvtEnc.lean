/- CONTRACT: event.Encode. -/
import Derived.Test.YtckpfcocbjfcbaaEvtCheck
import Derived.Test.YtckpfcocbjfcbaaPgmEncP
import Derived.Deep.RegionHeld3
import Derived.Deep.QuietTactic
import Derived.BigQuiet
namespace Go.Proofs.Ytckpfcocbjfcbaa
open Go.RowKit
set_option linter.unusedVariables false
set_option linter.unusedSimpArgs false

/-- an event in a block -/
structure EHeld (w0 w : World) (g : Nat) (x : Ev) : Prop where
  c0 : w.cell? ⟨g, 0, none⟩ = some (.int .i64 x.id)
  c1 : w.cell? ⟨g, 1, none⟩ = some (.int .i64 x.kd)
  c2 : w.cell? ⟨g, 2, none⟩ = some (.int .i64 x.tk)
  c3 : w.cell? ⟨g, 3, none⟩ = some (.int .i64 x.rf)
  c4 : w.cell? ⟨g, 4, none⟩ = some (.int .i64 x.sp)
  c5 : w.cell? ⟨g, 5, none⟩ = some (.int .i64 x.ty)
  c6 : w.cell? ⟨g, 6, none⟩ = some (.bool x.ud)
  c7 : w.cell? ⟨g, 7, none⟩ = some (.string ⟨x.dt.toArray⟩)
  below : Below w0.heap.size w0 w
  lt : g < w.heap.size
theorem EHeld.next {w0 w w' : World} {g : Nat} {x : Ev} (h : EHeld w0 w g x) (b : Below w.heap.size w w') : EHeld w0 w' g x :=
  ⟨(b.cell (p := ⟨g, 0, none⟩) h.lt).trans h.c0, (b.cell (p := ⟨g, 1, none⟩) h.lt).trans h.c1, (b.cell (p := ⟨g, 2, none⟩) h.lt).trans h.c2, (b.cell (p := ⟨g, 3, none⟩) h.lt).trans h.c3, (b.cell (p := ⟨g, 4, none⟩) h.lt).trans h.c4, (b.cell (p := ⟨g, 5, none⟩) h.lt).trans h.c5, (b.cell (p := ⟨g, 6, none⟩) h.lt).trans h.c6, (b.cell (p := ⟨g, 7, none⟩) h.lt).trans h.c7, bnext h.below b, Nat.lt_of_lt_of_le h.lt b.size⟩
abbrev evC (x : Ev) : Array Value := #[.int .i64 x.id, .int .i64 x.kd, .int .i64 x.tk, .int .i64 x.rf, .int .i64 x.sp, .int .i64 x.ty, .bool x.ud, .string ⟨x.dt.toArray⟩]
theorem EHeld.new (w : World) (x : Ev) : EHeld w (w.alloc (.cells (evC x) 23)) w.heap.size x := by
  obtain ⟨W, hW⟩ : ∃ W, W = w.alloc (.cells (evC x) 23) := ⟨_, rfl⟩
  have bW : Below w.heap.size w W := by rw [hW]; exact (Below.refl _ _).alloc (Nat.le_refl _) _
  have hC : W.heap[w.heap.size]? = some (.cells (evC x) 23 (0, 0)) := by rw [hW]; exact heap_alloc_new w _
  rw [← hW]
  refine ⟨?_, ?_, ?_, ?_, ?_, ?_, ?_, ?_, bW, (Array.getElem?_eq_some_iff.1 hC).1⟩
  · rw [cell_of_row W _ 0 _ _ (0, 0) hC]; rfl
  · rw [cell_of_row W _ 1 _ _ (0, 0) hC]; rfl
  · rw [cell_of_row W _ 2 _ _ (0, 0) hC]; rfl
  · rw [cell_of_row W _ 3 _ _ (0, 0) hC]; rfl
  · rw [cell_of_row W _ 4 _ _ (0, 0) hC]; rfl
  · rw [cell_of_row W _ 5 _ _ (0, 0) hC]; rfl
  · rw [cell_of_row W _ 6 _ _ (0, 0) hC]; rfl
  · rw [cell_of_row W _ 7 _ _ (0, 0) hC]; rfl

theorem put_w (x : Int) (h : 0 ≤ x ∧ x ≤ 4611686018427387904) (w : World) : Calls Try.prog 22 #[.int .u64 x] w fun e w' => e = .returned (.string ⟨(putL x.toNat).toArray⟩) ∧ Below w.heap.size w w' := by
  obtain ⟨n, rfl⟩ := Int.eq_ofNat_of_zero_le h.1
  exact put_any n (by unfold U64; omega) w
theorem held3 {w2 w' w'' : World} {g : Nat} {x y z : Value} (hg : g < w2.heap.size) (h0 : w2.cell? ⟨g, 0, none⟩ = some x) (h1 : w2.cell? ⟨g, 1, none⟩ = some y) (h2 : w2.cell? ⟨g, 2, none⟩ = some z)
    (h : Below w2.heap.size w2 w' ∧ w'.cell? ⟨g, 0, none⟩ = some x ∧ w'.cell? ⟨g, 1, none⟩ = some y ∧ w'.cell? ⟨g, 2, none⟩ = some z) (k : Below w'.heap.size w' w'') :
    Below w2.heap.size w2 w'' ∧ w''.cell? ⟨g, 0, none⟩ = some x ∧ w''.cell? ⟨g, 1, none⟩ = some y ∧ w''.cell? ⟨g, 2, none⟩ = some z := by
  have hb := bnext h.1 k
  exact ⟨hb, (hb.cell hg).trans h0, (hb.cell hg).trans h1, (hb.cell hg).trans h2⟩
theorem bne_of (a : Int) {b : Bool} (h : (a == 0) = b) : (a != 0) = !b := by unfold bne; rw [h]
set_option maxHeartbeats 3200000 in
set_option maxRecDepth 100000 in
theorem eencode_any (id k tk rf sp ty : Int) (ud : Bool) (dt : List UInt8) (hdt : dt.length ≤ 140737488355328) (w : World) : Calls Try.prog 10 #[.agg #[.int .i64 id, .int .i64 k, .int .i64 tk, .int .i64 rf, .int .i64 sp, .int .i64 ty, .bool ud, .string ⟨dt.toArray⟩]] w fun e w' => e = .returned (.tuple #[.string ⟨(encEV (id, k, tk, rf, sp, ty, ud, dt)).toArray⟩, .int .i64 (evV (id, k, tk, rf, sp, ty, ud, dt))]) ∧ Below w.heap.size w w' := by
  have h0 := EHeld.new w (id, k, tk, rf, sp, ty, ud, dt)
  unfold evC at h0
  simp only [Ev.id, Ev.kd, Ev.tk, Ev.rf, Ev.sp, Ev.ty, Ev.ud, Ev.dt] at h0
  obtain ⟨W, hW⟩ : ∃ W, W = w.alloc (.cells #[.int .i64 id, .int .i64 k, .int .i64 tk, .int .i64 rf, .int .i64 sp, .int .i64 ty, .bool ud, .string ⟨dt.toArray⟩] 23) := ⟨_, rfl⟩
  rw [← hW] at h0
  have HX := hid hW
  clear hW
  by_cases hp : EvP (id, k, tk, rf, sp, ty, ud, dt)
  · have hv := ev_yes hp
    have hE : encEV (id, k, tk, rf, sp, ty, ud, dt) = encE (id, k, tk, rf, sp, ty, ud, dt) := by unfold encEV; rw [if_pos hp]
    obtain ⟨R, hR⟩ : ∃ R, R = encE (id, k, tk, rf, sp, ty, ud, dt) := ⟨_, rfl⟩
    rw [hE, hv, ← hR]
    have HR := hid hR
    have HV := hid hv
    clear hE hv hR
    have p0 := h0.c0
    have p1 := h0.c1
    have p2 := h0.c2
    have p3 := h0.c3
    have p4 := h0.c4
    have p5 := h0.c5
    have p6 := h0.c6
    have p7 := h0.c7
    simp only [Ev.id, Ev.kd, Ev.tk, Ev.rf, Ev.sp, Ev.ty, Ev.ud, Ev.dt] at p0 p1 p2 p3 p4 p5 p6 p7
    go_enter Try.func10, Try.ntmps10
    go_wp2_with fail
    rw [← HX.out]
    refine (echeck_any id k tk rf sp ty ud dt hdt W).mono ?_
    rintro _ w1 ⟨rfl, b1⟩
    rw [HV.out]
    have h1 := h0.next b1
    clear p0 p1 p2 p3 p4 p5 p6 p7 h0
    have p0 := h1.c0
    have p1 := h1.c1
    have p2 := h1.c2
    have p3 := h1.c3
    have p4 := h1.c4
    have p5 := h1.c5
    have p6 := h1.c6
    have p7 := h1.c7
    simp only [Ev.id, Ev.kd, Ev.tk, Ev.rf, Ev.sp, Ev.ty, Ev.ud, Ev.dt] at p0 p1 p2 p3 p4 p5 p6 p7
    go_wp2_with fail
    refine (fields_any k _).mono ?_
    rintro _ w9 ⟨rfl, hw9⟩
    rw [hw9]
    clear hw9 w9
    go_wp2_with fail
    obtain ⟨⟨k1, k18⟩, ⟨i1, i500⟩, ⟨t0, t40⟩, hrf, hsp, hty, hud, hda⟩ := hp
    simp only [Ev.id, Ev.kd, Ev.tk, Ev.rf, Ev.sp, Ev.ty, Ev.ud, Ev.dt] at k1 k18 i1 i500 t0 t40 hrf hsp hty hud hda
    have wi : IntKind.u64.wrap id = id := wrap_u64 (by omega) (by omega)
    have wk : IntKind.u64.wrap k = k := wrap_u64 (by omega) (by omega)
    have wt : IntKind.u64.wrap tk = tk := wrap_u64 (by omega) (by omega)
    have l1 := putL_len10 (n := id.toNat) (by unfold U64; omega)
    have l2 := putL_len10 (n := k.toNat) (by unfold U64; omega)
    have l3 := putL_len10 (n := tk.toNat) (by unfold U64; omega)
    have f1 := fun w => run_cat (P := Try.prog) w (putL id.toNat) (putL k.toNat) (by omega)
    have f2 := fun w => run_cat (P := Try.prog) w (putL id.toNat ++ putL k.toNat) (putL tk.toNat) (by simp only [List.length_append]; omega)
    simp only [List.append_assoc] at f2
    have hg := h1.lt
    have hkeep := fun w' w'' h k => held3 (g := w.heap.size) hg p0 p1 p2 (w' := w') (w'' := w'') h k
    go_region_held3 (fun w' => Below w1.heap.size w1 w' ∧ w'.cell? ⟨w.heap.size, 0, none⟩ = some (.int .i64 id) ∧ w'.cell? ⟨w.heap.size, 1, none⟩ = some (.int .i64 k) ∧ w'.cell? ⟨w.heap.size, 2, none⟩ = some (.int .i64 tk)) (first | exact hS | exact ⟨Below.refl _ _, p0, p1, p2⟩ | exact ⟨below_drewN _ _ 1, p0, p1, p2⟩)
      ((go_at_call 22; refine (put_w _ (by omega) _).mono ?_; rintro _ w3 ⟨rfl, hb3⟩; have hS := hkeep _ _ (by assumption) hb3))
    have h3 := h1.next hS.1
    clear hS hkeep p0 p1 p2 p3 p4 p5 p6 p7 h1 f1 f2
    have p3 := h3.c3
    have p4 := h3.c4
    have p5 := h3.c5
    have p6 := h3.c6
    have p7 := h3.c7
    simp only [Ev.id, Ev.kd, Ev.tk, Ev.rf, Ev.sp, Ev.ty, Ev.ud, Ev.dt] at p3 p4 p5 p6 p7
    have hl : (putL id.toNat ++ (putL k.toNat ++ putL tk.toNat)).length ≤ 30 := by simp only [List.length_append]; omega
    have hEe : R = (putL id.toNat ++ (putL k.toNat ++ putL tk.toNat)) ++ encTl (id, k, tk, rf, sp, ty, ud, dt) := by
      rw [HR.out]
      unfold encE
      simp only [List.append_assoc]
    clear HR
    generalize putL id.toNat ++ (putL k.toNat ++ putL tk.toNat) = S at *
    have n1 : (bits .and .i64 (evB k) 1 == 0) = decide (¬ (evB k = 1 ∨ evB k = 5)) := hb_ref k
    have n2 : (bits .and .i64 (evB k) 2 == 0) = decide (¬ (evB k = 2 ∨ evB k = 10)) := hb_step k
    have n4 : (bits .and .i64 (evB k) 4 == 0) = decide (¬ (evB k = 5)) := hb_try k
    have n8 : (bits .and .i64 (evB k) 8 == 0) = decide (¬ (evB k = 10)) := hb_undo k
    have n16 : (bits .and .i64 (evB k) 16 == 0) = decide (¬ (evB k = 16)) := hb_data k
    unfold encTl at hEe
    simp only [Ev.kd, Ev.rf, Ev.sp, Ev.ty, Ev.ud, Ev.dt] at hEe
    rcases evB_cases k with e | e | e | e | e | e
    all_goals
      simp only [e, Int.reduceEq, if_false, if_true, or_self, or_true, true_or] at hrf hsp hty hud hEe
      have o1 := bne_of _ n1
      have o2 := bne_of _ n2
      have o4 := bne_of _ n4
      have o8 := bne_of _ n8
      have o16 := bne_of _ n16
      conv at o1 => rhs; simp only [e, Int.reduceEq, or_self, or_true, true_or, not_true_eq_false, not_false_eq_true, decide_false, decide_true, Bool.not_true, Bool.not_false]
      conv at o2 => rhs; simp only [e, Int.reduceEq, or_self, or_true, true_or, not_true_eq_false, not_false_eq_true, decide_false, decide_true, Bool.not_true, Bool.not_false]
      conv at o4 => rhs; simp only [e, Int.reduceEq, or_self, or_true, true_or, not_true_eq_false, not_false_eq_true, decide_false, decide_true, Bool.not_true, Bool.not_false]
      conv at o8 => rhs; simp only [e, Int.reduceEq, or_self, or_true, true_or, not_true_eq_false, not_false_eq_true, decide_false, decide_true, Bool.not_true, Bool.not_false]
      conv at o16 => rhs; simp only [e, Int.reduceEq, or_self, or_true, true_or, not_true_eq_false, not_false_eq_true, decide_false, decide_true, Bool.not_true, Bool.not_false]
      have HR := hid hEe
      clear n1 n2 n4 n8 n16 e hEe
    all_goals go_wp2_with fail
    · have hdl := dataP_len hda
      have zt : (textL dt).length ≤ 1410 := by
        have := putL_len10' dt.length (by omega)
        unfold textL; rw [List.length_append]; omega
      refine (text_any dt (by omega) _).mono ?_
      rintro _ w4 ⟨rfl, bw4⟩
      have hw4 := h3.next bw4
      have hcat := run_cat (P := Try.prog) w4 S (textL dt) (by omega)
      go_wp2_with fail
      go_ret2
      exact ⟨by rw [HR.out]; rfl, hw4.below⟩
    · have za := putL_len10 (n := (rf).toNat) (by unfold U64; omega)
      refine (put_w rf (by omega) _).mono ?_
      rintro _ w4 ⟨rfl, bw4⟩
      have hw4 := h3.next bw4
      have hcata := run_cat (P := Try.prog) w4 (S) (putL (rf).toNat) (by (try simp only [List.length_append]); omega)
      (try simp only [List.append_assoc] at hcata)
      clear p3 p4 p5 p6 p7
      have q3 := hw4.c3
      have q4 := hw4.c4
      have q5 := hw4.c5
      have q6 := hw4.c6
      have q7 := hw4.c7
      simp only [Ev.id, Ev.kd, Ev.tk, Ev.rf, Ev.sp, Ev.ty, Ev.ud, Ev.dt] at q3 q4 q5 q6 q7
      go_wp2_with fail
      go_ret2
      exact ⟨by rw [HR.out]; rfl, hw4.below⟩
    · have za := putL_len10 (n := (sp).toNat) (by unfold U64; omega)
      refine (put_w sp (by omega) _).mono ?_
      rintro _ w4 ⟨rfl, bw4⟩
      have hw4 := h3.next bw4
      have hcata := run_cat (P := Try.prog) w4 (S) (putL (sp).toNat) (by (try simp only [List.length_append]); omega)
      (try simp only [List.append_assoc] at hcata)
      clear p3 p4 p5 p6 p7
      have q3 := hw4.c3
      have q4 := hw4.c4
      have q5 := hw4.c5
      have q6 := hw4.c6
      have q7 := hw4.c7
      simp only [Ev.id, Ev.kd, Ev.tk, Ev.rf, Ev.sp, Ev.ty, Ev.ud, Ev.dt] at q3 q4 q5 q6 q7
      cases ud
      · go_wp2_with fail
        have zb := putL_len10 (n := 0) (by unfold U64; omega)
        refine (put_w 0 (by omega) _).mono ?_
        rintro _ w5 ⟨rfl, bw5⟩
        have hw5 := hw4.next bw5
        have hcatb := run_cat (P := Try.prog) w5 (S ++ putL sp.toNat) (putL 0) (by (try simp only [List.length_append]); omega)
        (try simp only [List.append_assoc] at hcatb)
        clear q3 q4 q5 q6 q7
        go_wp2_with fail
        go_ret2
        exact ⟨by rw [HR.out]; rfl, hw5.below⟩
      · go_wp2_with fail
        have zb := putL_len10 (n := 1) (by unfold U64; omega)
        refine (put_w 1 (by omega) _).mono ?_
        rintro _ w5 ⟨rfl, bw5⟩
        have hw5 := hw4.next bw5
        have hcatb := run_cat (P := Try.prog) w5 (S ++ putL sp.toNat) (putL 1) (by (try simp only [List.length_append]); omega)
        (try simp only [List.append_assoc] at hcatb)
        clear q3 q4 q5 q6 q7
        go_wp2_with fail
        go_ret2
        exact ⟨by rw [HR.out]; rfl, hw5.below⟩
    · have za := putL_len10 (n := (rf).toNat) (by unfold U64; omega)
      refine (put_w rf (by omega) _).mono ?_
      rintro _ w4 ⟨rfl, bw4⟩
      have hw4 := h3.next bw4
      have hcata := run_cat (P := Try.prog) w4 (S) (putL (rf).toNat) (by (try simp only [List.length_append]); omega)
      (try simp only [List.append_assoc] at hcata)
      clear p3 p4 p5 p6 p7
      have q3 := hw4.c3
      have q4 := hw4.c4
      have q5 := hw4.c5
      have q6 := hw4.c6
      have q7 := hw4.c7
      simp only [Ev.id, Ev.kd, Ev.tk, Ev.rf, Ev.sp, Ev.ty, Ev.ud, Ev.dt] at q3 q4 q5 q6 q7
      go_wp2_with fail
      have zb := putL_len10 (n := (ty).toNat) (by unfold U64; omega)
      refine (put_w ty (by omega) _).mono ?_
      rintro _ w5 ⟨rfl, bw5⟩
      have hw5 := hw4.next bw5
      have hcatb := run_cat (P := Try.prog) w5 (S ++ putL rf.toNat) (putL (ty).toNat) (by (try simp only [List.length_append]); omega)
      (try simp only [List.append_assoc] at hcatb)
      clear q3 q4 q5 q6 q7
      go_wp2_with fail
      go_ret2
      exact ⟨by rw [HR.out]; rfl, hw5.below⟩
    · have za := putL_len10 (n := (sp).toNat) (by unfold U64; omega)
      refine (put_w sp (by omega) _).mono ?_
      rintro _ w4 ⟨rfl, bw4⟩
      have hw4 := h3.next bw4
      have hcata := run_cat (P := Try.prog) w4 (S) (putL (sp).toNat) (by (try simp only [List.length_append]); omega)
      (try simp only [List.append_assoc] at hcata)
      clear p3 p4 p5 p6 p7
      have q3 := hw4.c3
      have q4 := hw4.c4
      have q5 := hw4.c5
      have q6 := hw4.c6
      have q7 := hw4.c7
      simp only [Ev.id, Ev.kd, Ev.tk, Ev.rf, Ev.sp, Ev.ty, Ev.ud, Ev.dt] at q3 q4 q5 q6 q7
      go_wp2_with fail
      go_ret2
      exact ⟨by rw [HR.out]; rfl, hw4.below⟩
    · go_ret2
      exact ⟨by rw [HR.out, List.append_nil]; rfl, h3.below⟩
  · have hv := ev_no hp
    have hE : encEV (id, k, tk, rf, sp, ty, ud, dt) = [] := by unfold encEV; rw [if_neg hp]
    rw [hE, hv]
    have HV := hid hv
    clear hE hv
    go_enter Try.func10, Try.ntmps10
    go_wp2_with fail
    rw [← HX.out]
    refine (echeck_any id k tk rf sp ty ud dt hdt W).mono ?_
    rintro _ w1 ⟨rfl, b1⟩
    rw [HV.out]
    have h1 := h0.next b1
    clear h0
    go_wp2_with fail
    go_ret2
    exact ⟨rfl, h1.below⟩
end Go.Proofs.Ytckpfcocbjfcbaa
