/- CONTRACT: event.read. -/
import Derived.Test.YtelacmchofehcaaEvtEnc
import Derived.Test.YtelacmchofehcaaRTextFull
import Derived.Test.YtelacmchofehcaaRowAppend
import Derived.Laws.ResultCell
namespace Go.Proofs.Ytelacmchofehcaa
open Go.RowKit
set_option linter.unusedVariables false
set_option linter.unusedSimpArgs false

theorem results_cell1 {fn : Func} {p : Tmp} {ty : TypeId} (h : fn.results = #[.cell p ty]) (tmps : Array Value) (P : Program) (w : World) :
    (results fn tmps).run P w = ((asAddr (tmps.getD p undef)).run P w).andThen fun a w₁ => ((loadVar ty a).run P w₁).andThen fun v w₂ => .ok v w₂ := by
  simp only [results, h]
  simp [Sem.run_bind, Result.andThen]
  split <;> (try split) <;> simp_all
theorem At.new {g ge : Nat} {w a b : World} (h : At g w a) (k : At ge a b) (hge : w.heap.size ≤ ge) : At g w b :=
  ⟨k.os.trans h.os, k.tape.trans h.tape, k.output.trans h.output, Nat.le_trans h.size k.size, fun j hj hn => (k.block j (Nat.lt_of_lt_of_le hj h.size) (by intro e; cases e; omega)).trans (h.block j hj hn)⟩
theorem one_beq' (k : Nat) : ((k : Int) == 1) = (k == 1) := by
  by_cases h : k = 1
  · subst h; rfl
  · rw [beq_eq_false_iff_ne.2 h, beq_eq_false_iff_ne.2 (show (k : Int) ≠ 1 by omega)]
set_option maxHeartbeats 1600000 in
set_option maxRecDepth 100000 in
theorem eread_any (g : Nat) (l : List UInt8) (b : Bool) (w : World) (h : Rdr w g l b) (hl : l.length ≤ 140737488355328) : Calls Try.prog 76 #[.pointer (some ⟨g, 0, none⟩)] w fun e w' => e = .returned (evV' (ev1 (l, b)).1) ∧ Rdr w' g (ev1 (l, b)).2.1 (ev1 (l, b)).2.2 ∧ At g w w' := by
  have hgl : g < w.heap.size := h.lt
  go_enter Try.func76, Try.ntmps76
  go_wp2_with fail
  obtain ⟨w0, hw0⟩ : ∃ w0, w0 = w.alloc (.cells #[.int .i64 0, .int .i64 0, .int .i64 0, .int .i64 0, .int .i64 0, .int .i64 0, .bool false, .string ⟨#[]⟩] 82) := ⟨_, rfl⟩
  rw [← hw0]
  have hQ0 : w0.heap[w.heap.size]? = some (.cells #[.int .i64 0, .int .i64 0, .int .i64 0, .int .i64 0, .int .i64 0, .int .i64 0, .bool false, .string ⟨#[]⟩] 82 (0, 0)) := by rw [hw0]; exact heap_alloc_new w _
  have b0 : Below w.heap.size w w0 := by rw [hw0]; exact (Below.refl _ _).alloc (Nat.le_refl _) _
  have hr0 : Rdr w0 g l b := h.keep b0
  have hgr0 : w.heap.size < w0.heap.size := (Array.getElem?_eq_some_iff.1 hQ0).1
  have a0 : At g w w0 := At.of_below b0
  obtain ⟨gr, hgr⟩ : ∃ gr, gr = w.heap.size := ⟨_, rfl⟩
  have hgrn : w.heap.size ≤ gr := by omega
  rw [← hgr] at hQ0 hgr0 hgl ⊢
  have n1 : gr ≠ g := by omega
  clear hw0 hgr b0
  refine (int_any g l b 500 w0 hr0 (by unfold maxLen; omega) (by omega) (by omega)).mono ?_
  rintro _ w1 ⟨rfl, hr1, aw1⟩
  have hQ1 := (aw1.block gr hgr0 (by simpa using n1)).trans hQ0
  have a1 := a0.trans aw1
  have hl1 := intF_len l b 500
  obtain ⟨⟨I, r1, e1⟩, hx1⟩ : ∃ x, intF l b 500 = x := ⟨_, rfl⟩
  rw [hx1] at hr1 hl1 ⊢
  simp only at hr1 hl1 ⊢
  clear aw1 a0 hr0 hQ0 hgr0
  go_wp2_with fail
  refine (int_any g r1 e1 18 w1 hr1 (by unfold maxLen; omega) (by omega) (by omega)).mono ?_
  rintro _ w2 ⟨rfl, hr2, aw2⟩
  have hQ2 := (aw2.block gr (Array.getElem?_eq_some_iff.1 hQ1).1 (by simpa using n1)).trans hQ1
  have a2 := a1.trans aw2
  have hl2 := intF_len r1 e1 18
  obtain ⟨⟨K, r2, e2⟩, hx2⟩ : ∃ x, intF r1 e1 18 = x := ⟨_, rfl⟩
  rw [hx2] at hr2 hl2 ⊢
  simp only at hr2 hl2 ⊢
  clear aw2 a1 hr1 hQ1
  go_wp2_with fail
  refine (int_any g r2 e2 1099511627776 w2 hr2 (by unfold maxLen; omega) (by omega) (by omega)).mono ?_
  rintro _ w3 ⟨rfl, hr3, aw3⟩
  have hQ3 := (aw3.block gr (Array.getElem?_eq_some_iff.1 hQ2).1 (by simpa using n1)).trans hQ2
  have a3 := a2.trans aw3
  have hl3 := intF_len r2 e2 1099511627776
  obtain ⟨⟨T, r3, e3⟩, hx3⟩ : ∃ x, intF r2 e2 1099511627776 = x := ⟨_, rfl⟩
  rw [hx3] at hr3 hl3 ⊢
  simp only at hr3 hl3 ⊢
  clear aw3 a2 hr2 hQ2
  go_wp2_with fail
  -- BEGIN
  have hnew : w.heap.size ≤ w3.heap.size := a3.size
  have hgr3 := (Array.getElem?_eq_some_iff.1 hQ3).1
  have hg3 := hr3.lt
  obtain ⟨w4, hw4⟩ : ∃ w4, w4 = w3.alloc (.cells #[.int .i64 I, .int .i64 K, .int .i64 T, .int .i64 0, .int .i64 0, .int .i64 0, .bool false, .string ⟨#[]⟩] 82) := ⟨_, rfl⟩
  rw [← hw4]
  have hE4 : w4.heap[w3.heap.size]? = some (.cells #[.int .i64 I, .int .i64 K, .int .i64 T, .int .i64 0, .int .i64 0, .int .i64 0, .bool false, .string ⟨#[]⟩] 82 (0, 0)) := by rw [hw4]; exact heap_alloc_new w3 _
  have b4 : Below w3.heap.size w3 w4 := by rw [hw4]; exact (Below.refl _ _).alloc (Nat.le_refl _) _
  have hr4 := hr3.keep b4
  have hQ4 := (b4.block _ hgr3).trans hQ3
  have a4 := a3.trans (At.of_below b4)
  obtain ⟨ge, hge⟩ : ∃ ge, ge = w3.heap.size := ⟨_, rfl⟩
  rw [← hge] at hE4 hgr3 hg3 hnew ⊢
  have m1 : g ≠ ge := by omega
  have m2 : gr ≠ ge := by omega
  clear hw4 hge b4 hr3 hQ3 a3
  refine (fields_any (K : Int) _).mono ?_
  rintro _ w9 ⟨rfl, hw9⟩
  rw [hw9]
  clear hw9 w9
  have HG : Hid (ev1 (l, b) = tailG tx1 500 15 5 (I : Int) (K : Int) (T : Int) (r3, e3)) := hid (by
    unfold ev1 evG
    simp only [rdI, hx1, hx2, hx3])
  clear hx1 hx2 hx3
  have n1' := hb_ref (K : Int)
  have n2' := hb_step (K : Int)
  have n4' := hb_try (K : Int)
  have n8' := hb_undo (K : Int)
  have n16' := hb_data (K : Int)
  rcases evB_cases (K : Int) with e | e | e | e | e | e
  all_goals
    have o1 := bne_of _ (show (bits .and .i64 (evB (K : Int)) 1 == 0) = _ from n1')
    have o2 := bne_of _ (show (bits .and .i64 (evB (K : Int)) 2 == 0) = _ from n2')
    have o4 := bne_of _ (show (bits .and .i64 (evB (K : Int)) 4 == 0) = _ from n4')
    have o8 := bne_of _ (show (bits .and .i64 (evB (K : Int)) 8 == 0) = _ from n8')
    have o16 := bne_of _ (show (bits .and .i64 (evB (K : Int)) 16 == 0) = _ from n16')
    conv at o1 => rhs; simp only [e, Int.reduceEq, or_self, or_true, true_or, not_true_eq_false, not_false_eq_true, decide_false, decide_true, Bool.not_true, Bool.not_false]
    conv at o2 => rhs; simp only [e, Int.reduceEq, or_self, or_true, true_or, not_true_eq_false, not_false_eq_true, decide_false, decide_true, Bool.not_true, Bool.not_false]
    conv at o4 => rhs; simp only [e, Int.reduceEq, or_self, or_true, true_or, not_true_eq_false, not_false_eq_true, decide_false, decide_true, Bool.not_true, Bool.not_false]
    conv at o8 => rhs; simp only [e, Int.reduceEq, or_self, or_true, true_or, not_true_eq_false, not_false_eq_true, decide_false, decide_true, Bool.not_true, Bool.not_false]
    conv at o16 => rhs; simp only [e, Int.reduceEq, or_self, or_true, true_or, not_true_eq_false, not_false_eq_true, decide_false, decide_true, Bool.not_true, Bool.not_false]
    clear n1' n2' n4' n8' n16'
  · have hG := HG.out
    unfold tailG at hG
    simp only [e, Int.reduceEq, if_false, if_true] at hG
    have HX := hid hG
    clear hG e HG
    go_wp2_with fail
    refine (text_any_r g r3 e3 w4 hr4 (by unfold maxLen; omega)).mono ?_
    rintro _ v0 ⟨rfl, hrv0, awv0⟩
    have hlv0 := textF_len r3 e3
    obtain ⟨⟨y0, s0, t0⟩, hxv0⟩ : ∃ x, textF r3 e3 = x := ⟨_, rfl⟩
    rw [hxv0] at hrv0 hlv0 ⊢
    simp only at hrv0 hlv0 ⊢
    have hQv0 := (awv0.block gr (Array.getElem?_eq_some_iff.1 hQ4).1 (by simpa using n1)).trans hQ4
    have hEv0 := (awv0.block ge (Array.getElem?_eq_some_iff.1 hE4).1 (by simpa using m1.symm)).trans hE4
    have av0 := a4.trans awv0
    have x0 : v0.cell? ⟨ge, 0, none⟩ = some (.int .i64 I) := by rw [cell_of_row v0 _ 0 _ _ (0, 0) hEv0]; rfl
    have x1 : v0.cell? ⟨ge, 1, none⟩ = some (.int .i64 K) := by rw [cell_of_row v0 _ 1 _ _ (0, 0) hEv0]; rfl
    have x2 : v0.cell? ⟨ge, 2, none⟩ = some (.int .i64 T) := by rw [cell_of_row v0 _ 2 _ _ (0, 0) hEv0]; rfl
    have x3 : v0.cell? ⟨ge, 3, none⟩ = some (.int .i64 0) := by rw [cell_of_row v0 _ 3 _ _ (0, 0) hEv0]; rfl
    have x4 : v0.cell? ⟨ge, 4, none⟩ = some (.int .i64 0) := by rw [cell_of_row v0 _ 4 _ _ (0, 0) hEv0]; rfl
    have x5 : v0.cell? ⟨ge, 5, none⟩ = some (.int .i64 0) := by rw [cell_of_row v0 _ 5 _ _ (0, 0) hEv0]; rfl
    have x6 : v0.cell? ⟨ge, 6, none⟩ = some (.bool false) := by rw [cell_of_row v0 _ 6 _ _ (0, 0) hEv0]; rfl
    have x7 : v0.cell? ⟨ge, 7, none⟩ = some (.string ⟨#[]⟩) := by rw [cell_of_row v0 _ 7 _ _ (0, 0) hEv0]; rfl
    have z7 : v0.frozen? ⟨ge, 7, none⟩ = false := frozen_of_row v0 _ 7 _ _ hEv0
    have q0 : v0.cell? ⟨gr, 0, none⟩ = some (.int .i64 0) := by rw [cell_of_row v0 _ 0 _ _ (0, 0) hQv0]; rfl
    have q1 : v0.cell? ⟨gr, 1, none⟩ = some (.int .i64 0) := by rw [cell_of_row v0 _ 1 _ _ (0, 0) hQv0]; rfl
    have q2 : v0.cell? ⟨gr, 2, none⟩ = some (.int .i64 0) := by rw [cell_of_row v0 _ 2 _ _ (0, 0) hQv0]; rfl
    have q3 : v0.cell? ⟨gr, 3, none⟩ = some (.int .i64 0) := by rw [cell_of_row v0 _ 3 _ _ (0, 0) hQv0]; rfl
    have q4 : v0.cell? ⟨gr, 4, none⟩ = some (.int .i64 0) := by rw [cell_of_row v0 _ 4 _ _ (0, 0) hQv0]; rfl
    have q5 : v0.cell? ⟨gr, 5, none⟩ = some (.int .i64 0) := by rw [cell_of_row v0 _ 5 _ _ (0, 0) hQv0]; rfl
    have q6 : v0.cell? ⟨gr, 6, none⟩ = some (.bool false) := by rw [cell_of_row v0 _ 6 _ _ (0, 0) hQv0]; rfl
    have q7 : v0.cell? ⟨gr, 7, none⟩ = some (.string ⟨#[]⟩) := by rw [cell_of_row v0 _ 7 _ _ (0, 0) hQv0]; rfl
    have f0 : v0.frozen? ⟨gr, 0, none⟩ = false := frozen_of_row v0 _ 0 _ _ hQv0
    have f1 : v0.frozen? ⟨gr, 1, none⟩ = false := frozen_of_row v0 _ 1 _ _ hQv0
    have f2 : v0.frozen? ⟨gr, 2, none⟩ = false := frozen_of_row v0 _ 2 _ _ hQv0
    have f3 : v0.frozen? ⟨gr, 3, none⟩ = false := frozen_of_row v0 _ 3 _ _ hQv0
    have f4 : v0.frozen? ⟨gr, 4, none⟩ = false := frozen_of_row v0 _ 4 _ _ hQv0
    have f5 : v0.frozen? ⟨gr, 5, none⟩ = false := frozen_of_row v0 _ 5 _ _ hQv0
    have f6 : v0.frozen? ⟨gr, 6, none⟩ = false := frozen_of_row v0 _ 6 _ _ hQv0
    have f7 : v0.frozen? ⟨gr, 7, none⟩ = false := frozen_of_row v0 _ 7 _ _ hQv0
    simp only [rdI, tx1, hxv0] at HX
    go_wp2_with fail
    refine bodyPost_ret (v := .agg #[.int .i64 I, .int .i64 K, .int .i64 T, .int .i64 0, .int .i64 0, .int .i64 0, .bool false, .string ⟨y0.toArray⟩]) ?_ rfl ⟨by rw [HX.out] <;> rfl, ?_, ?_⟩
    · rw [results_cell1 rfl]
      go_simp
    · rw [HX.out]
      exact (hrv0.grown ((At.refl ge v0).set 7 (.string ⟨y0.toArray⟩)) m1).grown ((((((((((At.refl gr (v0.setCell ⟨ge, 7, none⟩ (.string ⟨y0.toArray⟩))).set 0 _).set 1 _).set 2 _).set 3 _).set 4 _).set 5 _).set 6 _).set 7 _) : At gr (v0.setCell ⟨ge, 7, none⟩ (.string ⟨y0.toArray⟩)) (((((((((v0.setCell ⟨ge, 7, none⟩ (.string ⟨y0.toArray⟩)).setCell ⟨gr, 0, none⟩ (.int .i64 I)).setCell ⟨gr, 1, none⟩ (.int .i64 K)).setCell ⟨gr, 2, none⟩ (.int .i64 T)).setCell ⟨gr, 3, none⟩ (.int .i64 0)).setCell ⟨gr, 4, none⟩ (.int .i64 0)).setCell ⟨gr, 5, none⟩ (.int .i64 0)).setCell ⟨gr, 6, none⟩ (.bool false)).setCell ⟨gr, 7, none⟩ (.string ⟨y0.toArray⟩))) n1.symm
    · exact At.new (At.new av0 ((At.refl ge v0).set 7 (.string ⟨y0.toArray⟩)) hnew) ((((((((((At.refl gr (v0.setCell ⟨ge, 7, none⟩ (.string ⟨y0.toArray⟩))).set 0 _).set 1 _).set 2 _).set 3 _).set 4 _).set 5 _).set 6 _).set 7 _) : At gr (v0.setCell ⟨ge, 7, none⟩ (.string ⟨y0.toArray⟩)) (((((((((v0.setCell ⟨ge, 7, none⟩ (.string ⟨y0.toArray⟩)).setCell ⟨gr, 0, none⟩ (.int .i64 I)).setCell ⟨gr, 1, none⟩ (.int .i64 K)).setCell ⟨gr, 2, none⟩ (.int .i64 T)).setCell ⟨gr, 3, none⟩ (.int .i64 0)).setCell ⟨gr, 4, none⟩ (.int .i64 0)).setCell ⟨gr, 5, none⟩ (.int .i64 0)).setCell ⟨gr, 6, none⟩ (.bool false)).setCell ⟨gr, 7, none⟩ (.string ⟨y0.toArray⟩))) hgrn
  · have hG := HG.out
    unfold tailG at hG
    simp only [e, Int.reduceEq, if_false, if_true] at hG
    have HX := hid hG
    clear hG e HG
    go_wp2_with fail
    refine (int_any g r3 e3 500 w4 hr4 (by unfold maxLen; omega) (by omega) (by omega)).mono ?_
    rintro _ v0 ⟨rfl, hrv0, awv0⟩
    have hlv0 := intF_len r3 e3 500
    obtain ⟨⟨y0, s0, t0⟩, hxv0⟩ : ∃ x, intF r3 e3 500 = x := ⟨_, rfl⟩
    rw [hxv0] at hrv0 hlv0 ⊢
    simp only at hrv0 hlv0 ⊢
    have hQv0 := (awv0.block gr (Array.getElem?_eq_some_iff.1 hQ4).1 (by simpa using n1)).trans hQ4
    have hEv0 := (awv0.block ge (Array.getElem?_eq_some_iff.1 hE4).1 (by simpa using m1.symm)).trans hE4
    have av0 := a4.trans awv0
    have x0 : v0.cell? ⟨ge, 0, none⟩ = some (.int .i64 I) := by rw [cell_of_row v0 _ 0 _ _ (0, 0) hEv0]; rfl
    have x1 : v0.cell? ⟨ge, 1, none⟩ = some (.int .i64 K) := by rw [cell_of_row v0 _ 1 _ _ (0, 0) hEv0]; rfl
    have x2 : v0.cell? ⟨ge, 2, none⟩ = some (.int .i64 T) := by rw [cell_of_row v0 _ 2 _ _ (0, 0) hEv0]; rfl
    have x3 : v0.cell? ⟨ge, 3, none⟩ = some (.int .i64 0) := by rw [cell_of_row v0 _ 3 _ _ (0, 0) hEv0]; rfl
    have x4 : v0.cell? ⟨ge, 4, none⟩ = some (.int .i64 0) := by rw [cell_of_row v0 _ 4 _ _ (0, 0) hEv0]; rfl
    have x5 : v0.cell? ⟨ge, 5, none⟩ = some (.int .i64 0) := by rw [cell_of_row v0 _ 5 _ _ (0, 0) hEv0]; rfl
    have x6 : v0.cell? ⟨ge, 6, none⟩ = some (.bool false) := by rw [cell_of_row v0 _ 6 _ _ (0, 0) hEv0]; rfl
    have x7 : v0.cell? ⟨ge, 7, none⟩ = some (.string ⟨#[]⟩) := by rw [cell_of_row v0 _ 7 _ _ (0, 0) hEv0]; rfl
    have z3 : v0.frozen? ⟨ge, 3, none⟩ = false := frozen_of_row v0 _ 3 _ _ hEv0
    have q0 : v0.cell? ⟨gr, 0, none⟩ = some (.int .i64 0) := by rw [cell_of_row v0 _ 0 _ _ (0, 0) hQv0]; rfl
    have q1 : v0.cell? ⟨gr, 1, none⟩ = some (.int .i64 0) := by rw [cell_of_row v0 _ 1 _ _ (0, 0) hQv0]; rfl
    have q2 : v0.cell? ⟨gr, 2, none⟩ = some (.int .i64 0) := by rw [cell_of_row v0 _ 2 _ _ (0, 0) hQv0]; rfl
    have q3 : v0.cell? ⟨gr, 3, none⟩ = some (.int .i64 0) := by rw [cell_of_row v0 _ 3 _ _ (0, 0) hQv0]; rfl
    have q4 : v0.cell? ⟨gr, 4, none⟩ = some (.int .i64 0) := by rw [cell_of_row v0 _ 4 _ _ (0, 0) hQv0]; rfl
    have q5 : v0.cell? ⟨gr, 5, none⟩ = some (.int .i64 0) := by rw [cell_of_row v0 _ 5 _ _ (0, 0) hQv0]; rfl
    have q6 : v0.cell? ⟨gr, 6, none⟩ = some (.bool false) := by rw [cell_of_row v0 _ 6 _ _ (0, 0) hQv0]; rfl
    have q7 : v0.cell? ⟨gr, 7, none⟩ = some (.string ⟨#[]⟩) := by rw [cell_of_row v0 _ 7 _ _ (0, 0) hQv0]; rfl
    have f0 : v0.frozen? ⟨gr, 0, none⟩ = false := frozen_of_row v0 _ 0 _ _ hQv0
    have f1 : v0.frozen? ⟨gr, 1, none⟩ = false := frozen_of_row v0 _ 1 _ _ hQv0
    have f2 : v0.frozen? ⟨gr, 2, none⟩ = false := frozen_of_row v0 _ 2 _ _ hQv0
    have f3 : v0.frozen? ⟨gr, 3, none⟩ = false := frozen_of_row v0 _ 3 _ _ hQv0
    have f4 : v0.frozen? ⟨gr, 4, none⟩ = false := frozen_of_row v0 _ 4 _ _ hQv0
    have f5 : v0.frozen? ⟨gr, 5, none⟩ = false := frozen_of_row v0 _ 5 _ _ hQv0
    have f6 : v0.frozen? ⟨gr, 6, none⟩ = false := frozen_of_row v0 _ 6 _ _ hQv0
    have f7 : v0.frozen? ⟨gr, 7, none⟩ = false := frozen_of_row v0 _ 7 _ _ hQv0
    simp only [rdI, tx1, hxv0] at HX
    go_wp2_with fail
    refine bodyPost_ret (v := .agg #[.int .i64 I, .int .i64 K, .int .i64 T, .int .i64 y0, .int .i64 0, .int .i64 0, .bool false, .string ⟨#[]⟩]) ?_ rfl ⟨by rw [HX.out] <;> rfl, ?_, ?_⟩
    · rw [results_cell1 rfl]
      go_simp
    · rw [HX.out]
      exact (hrv0.grown ((At.refl ge v0).set 3 (.int .i64 y0)) m1).grown ((((((((((At.refl gr (v0.setCell ⟨ge, 3, none⟩ (.int .i64 y0))).set 0 _).set 1 _).set 2 _).set 3 _).set 4 _).set 5 _).set 6 _).set 7 _) : At gr (v0.setCell ⟨ge, 3, none⟩ (.int .i64 y0)) (((((((((v0.setCell ⟨ge, 3, none⟩ (.int .i64 y0)).setCell ⟨gr, 0, none⟩ (.int .i64 I)).setCell ⟨gr, 1, none⟩ (.int .i64 K)).setCell ⟨gr, 2, none⟩ (.int .i64 T)).setCell ⟨gr, 3, none⟩ (.int .i64 y0)).setCell ⟨gr, 4, none⟩ (.int .i64 0)).setCell ⟨gr, 5, none⟩ (.int .i64 0)).setCell ⟨gr, 6, none⟩ (.bool false)).setCell ⟨gr, 7, none⟩ (.string ⟨#[]⟩))) n1.symm
    · exact At.new (At.new av0 ((At.refl ge v0).set 3 (.int .i64 y0)) hnew) ((((((((((At.refl gr (v0.setCell ⟨ge, 3, none⟩ (.int .i64 y0))).set 0 _).set 1 _).set 2 _).set 3 _).set 4 _).set 5 _).set 6 _).set 7 _) : At gr (v0.setCell ⟨ge, 3, none⟩ (.int .i64 y0)) (((((((((v0.setCell ⟨ge, 3, none⟩ (.int .i64 y0)).setCell ⟨gr, 0, none⟩ (.int .i64 I)).setCell ⟨gr, 1, none⟩ (.int .i64 K)).setCell ⟨gr, 2, none⟩ (.int .i64 T)).setCell ⟨gr, 3, none⟩ (.int .i64 y0)).setCell ⟨gr, 4, none⟩ (.int .i64 0)).setCell ⟨gr, 5, none⟩ (.int .i64 0)).setCell ⟨gr, 6, none⟩ (.bool false)).setCell ⟨gr, 7, none⟩ (.string ⟨#[]⟩))) hgrn
  · have hG := HG.out
    unfold tailG at hG
    simp only [e, Int.reduceEq, if_false, if_true] at hG
    have HX := hid hG
    clear hG e HG
    go_wp2_with fail
    refine (int_any g r3 e3 15 w4 hr4 (by unfold maxLen; omega) (by omega) (by omega)).mono ?_
    rintro _ v0 ⟨rfl, hrv0, awv0⟩
    have hlv0 := intF_len r3 e3 15
    obtain ⟨⟨y0, s0, t0⟩, hxv0⟩ : ∃ x, intF r3 e3 15 = x := ⟨_, rfl⟩
    rw [hxv0] at hrv0 hlv0 ⊢
    simp only at hrv0 hlv0 ⊢
    have hQv0 := (awv0.block gr (Array.getElem?_eq_some_iff.1 hQ4).1 (by simpa using n1)).trans hQ4
    have hEv0 := (awv0.block ge (Array.getElem?_eq_some_iff.1 hE4).1 (by simpa using m1.symm)).trans hE4
    have av0 := a4.trans awv0
    have xj : v0.cell? ⟨ge, 4, none⟩ = some (.int .i64 0) := by rw [cell_of_row v0 _ 4 _ _ (0, 0) hEv0]; rfl
    have zj : v0.frozen? ⟨ge, 4, none⟩ = false := frozen_of_row v0 _ 4 _ _ hEv0
    obtain ⟨u0, hu0⟩ : ∃ u0, u0 = v0.setCell ⟨ge, 4, none⟩ (.int .i64 y0) := ⟨_, rfl⟩
    have hru0 : Rdr u0 g s0 t0 := by rw [hu0]; exact hrv0.grown ((At.refl ge v0).set 4 _) m1
    have hQu0 : u0.heap[gr]? = some (.cells #[.int .i64 0, .int .i64 0, .int .i64 0, .int .i64 0, .int .i64 0, .int .i64 0, .bool false, .string ⟨#[]⟩] 82 (0, 0)) := by rw [hu0]; exact (((At.refl ge v0).set 4 (.int .i64 y0)).block gr (Array.getElem?_eq_some_iff.1 hQv0).1 (by simpa using m2)).trans hQv0
    have hEu0 : u0.heap[ge]? = some (.cells #[.int .i64 I, .int .i64 K, .int .i64 T, .int .i64 0, .int .i64 y0, .int .i64 0, .bool false, .string ⟨#[]⟩] 82 (0, 0)) := by rw [hu0]; exact heap_setCell_same v0 ge 4 _ _ _ hEv0
    have au0 : At g w u0 := by rw [hu0]; exact At.new av0 ((At.refl ge v0).set 4 _) hnew
    have HU0 := hid hu0
    clear hu0
    go_wp2_with fail
    rw [← HU0.out]
    clear xj zj
    refine (int_any g s0 t0 1 u0 hru0 (by unfold maxLen; omega) (by omega) (by omega)).mono ?_
    rintro _ v1 ⟨rfl, hrv1, awv1⟩
    have hlv1 := intF_len s0 t0 1
    obtain ⟨⟨y1, s1, t1⟩, hxv1⟩ : ∃ x, intF s0 t0 1 = x := ⟨_, rfl⟩
    rw [hxv1] at hrv1 hlv1 ⊢
    simp only at hrv1 hlv1 ⊢
    have hQv1 := (awv1.block gr (Array.getElem?_eq_some_iff.1 hQu0).1 (by simpa using n1)).trans hQu0
    have hEv1 := (awv1.block ge (Array.getElem?_eq_some_iff.1 hEu0).1 (by simpa using m1.symm)).trans hEu0
    have av1 := au0.trans awv1
    have hone := one_beq' y1
    have x0 : v1.cell? ⟨ge, 0, none⟩ = some (.int .i64 I) := by rw [cell_of_row v1 _ 0 _ _ (0, 0) hEv1]; rfl
    have x1 : v1.cell? ⟨ge, 1, none⟩ = some (.int .i64 K) := by rw [cell_of_row v1 _ 1 _ _ (0, 0) hEv1]; rfl
    have x2 : v1.cell? ⟨ge, 2, none⟩ = some (.int .i64 T) := by rw [cell_of_row v1 _ 2 _ _ (0, 0) hEv1]; rfl
    have x3 : v1.cell? ⟨ge, 3, none⟩ = some (.int .i64 0) := by rw [cell_of_row v1 _ 3 _ _ (0, 0) hEv1]; rfl
    have x4 : v1.cell? ⟨ge, 4, none⟩ = some (.int .i64 y0) := by rw [cell_of_row v1 _ 4 _ _ (0, 0) hEv1]; rfl
    have x5 : v1.cell? ⟨ge, 5, none⟩ = some (.int .i64 0) := by rw [cell_of_row v1 _ 5 _ _ (0, 0) hEv1]; rfl
    have x6 : v1.cell? ⟨ge, 6, none⟩ = some (.bool false) := by rw [cell_of_row v1 _ 6 _ _ (0, 0) hEv1]; rfl
    have x7 : v1.cell? ⟨ge, 7, none⟩ = some (.string ⟨#[]⟩) := by rw [cell_of_row v1 _ 7 _ _ (0, 0) hEv1]; rfl
    have z6 : v1.frozen? ⟨ge, 6, none⟩ = false := frozen_of_row v1 _ 6 _ _ hEv1
    have q0 : v1.cell? ⟨gr, 0, none⟩ = some (.int .i64 0) := by rw [cell_of_row v1 _ 0 _ _ (0, 0) hQv1]; rfl
    have q1 : v1.cell? ⟨gr, 1, none⟩ = some (.int .i64 0) := by rw [cell_of_row v1 _ 1 _ _ (0, 0) hQv1]; rfl
    have q2 : v1.cell? ⟨gr, 2, none⟩ = some (.int .i64 0) := by rw [cell_of_row v1 _ 2 _ _ (0, 0) hQv1]; rfl
    have q3 : v1.cell? ⟨gr, 3, none⟩ = some (.int .i64 0) := by rw [cell_of_row v1 _ 3 _ _ (0, 0) hQv1]; rfl
    have q4 : v1.cell? ⟨gr, 4, none⟩ = some (.int .i64 0) := by rw [cell_of_row v1 _ 4 _ _ (0, 0) hQv1]; rfl
    have q5 : v1.cell? ⟨gr, 5, none⟩ = some (.int .i64 0) := by rw [cell_of_row v1 _ 5 _ _ (0, 0) hQv1]; rfl
    have q6 : v1.cell? ⟨gr, 6, none⟩ = some (.bool false) := by rw [cell_of_row v1 _ 6 _ _ (0, 0) hQv1]; rfl
    have q7 : v1.cell? ⟨gr, 7, none⟩ = some (.string ⟨#[]⟩) := by rw [cell_of_row v1 _ 7 _ _ (0, 0) hQv1]; rfl
    have f0 : v1.frozen? ⟨gr, 0, none⟩ = false := frozen_of_row v1 _ 0 _ _ hQv1
    have f1 : v1.frozen? ⟨gr, 1, none⟩ = false := frozen_of_row v1 _ 1 _ _ hQv1
    have f2 : v1.frozen? ⟨gr, 2, none⟩ = false := frozen_of_row v1 _ 2 _ _ hQv1
    have f3 : v1.frozen? ⟨gr, 3, none⟩ = false := frozen_of_row v1 _ 3 _ _ hQv1
    have f4 : v1.frozen? ⟨gr, 4, none⟩ = false := frozen_of_row v1 _ 4 _ _ hQv1
    have f5 : v1.frozen? ⟨gr, 5, none⟩ = false := frozen_of_row v1 _ 5 _ _ hQv1
    have f6 : v1.frozen? ⟨gr, 6, none⟩ = false := frozen_of_row v1 _ 6 _ _ hQv1
    have f7 : v1.frozen? ⟨gr, 7, none⟩ = false := frozen_of_row v1 _ 7 _ _ hQv1
    simp only [rdI, tx1, hxv0, hxv1] at HX
    go_wp2_with fail
    refine bodyPost_ret (v := .agg #[.int .i64 I, .int .i64 K, .int .i64 T, .int .i64 0, .int .i64 y0, .int .i64 0, .bool (y1 == 1), .string ⟨#[]⟩]) ?_ rfl ⟨by rw [HX.out] <;> rfl, ?_, ?_⟩
    · rw [results_cell1 rfl]
      go_simp
    · rw [HX.out]
      exact (hrv1.grown ((At.refl ge v1).set 6 (.bool (y1 == 1))) m1).grown ((((((((((At.refl gr (v1.setCell ⟨ge, 6, none⟩ (.bool (y1 == 1)))).set 0 _).set 1 _).set 2 _).set 3 _).set 4 _).set 5 _).set 6 _).set 7 _) : At gr (v1.setCell ⟨ge, 6, none⟩ (.bool (y1 == 1))) (((((((((v1.setCell ⟨ge, 6, none⟩ (.bool (y1 == 1))).setCell ⟨gr, 0, none⟩ (.int .i64 I)).setCell ⟨gr, 1, none⟩ (.int .i64 K)).setCell ⟨gr, 2, none⟩ (.int .i64 T)).setCell ⟨gr, 3, none⟩ (.int .i64 0)).setCell ⟨gr, 4, none⟩ (.int .i64 y0)).setCell ⟨gr, 5, none⟩ (.int .i64 0)).setCell ⟨gr, 6, none⟩ (.bool (y1 == 1))).setCell ⟨gr, 7, none⟩ (.string ⟨#[]⟩))) n1.symm
    · exact At.new (At.new av1 ((At.refl ge v1).set 6 (.bool (y1 == 1))) hnew) ((((((((((At.refl gr (v1.setCell ⟨ge, 6, none⟩ (.bool (y1 == 1)))).set 0 _).set 1 _).set 2 _).set 3 _).set 4 _).set 5 _).set 6 _).set 7 _) : At gr (v1.setCell ⟨ge, 6, none⟩ (.bool (y1 == 1))) (((((((((v1.setCell ⟨ge, 6, none⟩ (.bool (y1 == 1))).setCell ⟨gr, 0, none⟩ (.int .i64 I)).setCell ⟨gr, 1, none⟩ (.int .i64 K)).setCell ⟨gr, 2, none⟩ (.int .i64 T)).setCell ⟨gr, 3, none⟩ (.int .i64 0)).setCell ⟨gr, 4, none⟩ (.int .i64 y0)).setCell ⟨gr, 5, none⟩ (.int .i64 0)).setCell ⟨gr, 6, none⟩ (.bool (y1 == 1))).setCell ⟨gr, 7, none⟩ (.string ⟨#[]⟩))) hgrn
  · have hG := HG.out
    unfold tailG at hG
    simp only [e, Int.reduceEq, if_false, if_true] at hG
    have HX := hid hG
    clear hG e HG
    go_wp2_with fail
    refine (int_any g r3 e3 500 w4 hr4 (by unfold maxLen; omega) (by omega) (by omega)).mono ?_
    rintro _ v0 ⟨rfl, hrv0, awv0⟩
    have hlv0 := intF_len r3 e3 500
    obtain ⟨⟨y0, s0, t0⟩, hxv0⟩ : ∃ x, intF r3 e3 500 = x := ⟨_, rfl⟩
    rw [hxv0] at hrv0 hlv0 ⊢
    simp only at hrv0 hlv0 ⊢
    have hQv0 := (awv0.block gr (Array.getElem?_eq_some_iff.1 hQ4).1 (by simpa using n1)).trans hQ4
    have hEv0 := (awv0.block ge (Array.getElem?_eq_some_iff.1 hE4).1 (by simpa using m1.symm)).trans hE4
    have av0 := a4.trans awv0
    have xj : v0.cell? ⟨ge, 3, none⟩ = some (.int .i64 0) := by rw [cell_of_row v0 _ 3 _ _ (0, 0) hEv0]; rfl
    have zj : v0.frozen? ⟨ge, 3, none⟩ = false := frozen_of_row v0 _ 3 _ _ hEv0
    obtain ⟨u0, hu0⟩ : ∃ u0, u0 = v0.setCell ⟨ge, 3, none⟩ (.int .i64 y0) := ⟨_, rfl⟩
    have hru0 : Rdr u0 g s0 t0 := by rw [hu0]; exact hrv0.grown ((At.refl ge v0).set 3 _) m1
    have hQu0 : u0.heap[gr]? = some (.cells #[.int .i64 0, .int .i64 0, .int .i64 0, .int .i64 0, .int .i64 0, .int .i64 0, .bool false, .string ⟨#[]⟩] 82 (0, 0)) := by rw [hu0]; exact (((At.refl ge v0).set 3 (.int .i64 y0)).block gr (Array.getElem?_eq_some_iff.1 hQv0).1 (by simpa using m2)).trans hQv0
    have hEu0 : u0.heap[ge]? = some (.cells #[.int .i64 I, .int .i64 K, .int .i64 T, .int .i64 y0, .int .i64 0, .int .i64 0, .bool false, .string ⟨#[]⟩] 82 (0, 0)) := by rw [hu0]; exact heap_setCell_same v0 ge 3 _ _ _ hEv0
    have au0 : At g w u0 := by rw [hu0]; exact At.new av0 ((At.refl ge v0).set 3 _) hnew
    have HU0 := hid hu0
    clear hu0
    go_wp2_with fail
    rw [← HU0.out]
    clear xj zj
    refine (int_any g s0 t0 5 u0 hru0 (by unfold maxLen; omega) (by omega) (by omega)).mono ?_
    rintro _ v1 ⟨rfl, hrv1, awv1⟩
    have hlv1 := intF_len s0 t0 5
    obtain ⟨⟨y1, s1, t1⟩, hxv1⟩ : ∃ x, intF s0 t0 5 = x := ⟨_, rfl⟩
    rw [hxv1] at hrv1 hlv1 ⊢
    simp only at hrv1 hlv1 ⊢
    have hQv1 := (awv1.block gr (Array.getElem?_eq_some_iff.1 hQu0).1 (by simpa using n1)).trans hQu0
    have hEv1 := (awv1.block ge (Array.getElem?_eq_some_iff.1 hEu0).1 (by simpa using m1.symm)).trans hEu0
    have av1 := au0.trans awv1
    have x0 : v1.cell? ⟨ge, 0, none⟩ = some (.int .i64 I) := by rw [cell_of_row v1 _ 0 _ _ (0, 0) hEv1]; rfl
    have x1 : v1.cell? ⟨ge, 1, none⟩ = some (.int .i64 K) := by rw [cell_of_row v1 _ 1 _ _ (0, 0) hEv1]; rfl
    have x2 : v1.cell? ⟨ge, 2, none⟩ = some (.int .i64 T) := by rw [cell_of_row v1 _ 2 _ _ (0, 0) hEv1]; rfl
    have x3 : v1.cell? ⟨ge, 3, none⟩ = some (.int .i64 y0) := by rw [cell_of_row v1 _ 3 _ _ (0, 0) hEv1]; rfl
    have x4 : v1.cell? ⟨ge, 4, none⟩ = some (.int .i64 0) := by rw [cell_of_row v1 _ 4 _ _ (0, 0) hEv1]; rfl
    have x5 : v1.cell? ⟨ge, 5, none⟩ = some (.int .i64 0) := by rw [cell_of_row v1 _ 5 _ _ (0, 0) hEv1]; rfl
    have x6 : v1.cell? ⟨ge, 6, none⟩ = some (.bool false) := by rw [cell_of_row v1 _ 6 _ _ (0, 0) hEv1]; rfl
    have x7 : v1.cell? ⟨ge, 7, none⟩ = some (.string ⟨#[]⟩) := by rw [cell_of_row v1 _ 7 _ _ (0, 0) hEv1]; rfl
    have z5 : v1.frozen? ⟨ge, 5, none⟩ = false := frozen_of_row v1 _ 5 _ _ hEv1
    have q0 : v1.cell? ⟨gr, 0, none⟩ = some (.int .i64 0) := by rw [cell_of_row v1 _ 0 _ _ (0, 0) hQv1]; rfl
    have q1 : v1.cell? ⟨gr, 1, none⟩ = some (.int .i64 0) := by rw [cell_of_row v1 _ 1 _ _ (0, 0) hQv1]; rfl
    have q2 : v1.cell? ⟨gr, 2, none⟩ = some (.int .i64 0) := by rw [cell_of_row v1 _ 2 _ _ (0, 0) hQv1]; rfl
    have q3 : v1.cell? ⟨gr, 3, none⟩ = some (.int .i64 0) := by rw [cell_of_row v1 _ 3 _ _ (0, 0) hQv1]; rfl
    have q4 : v1.cell? ⟨gr, 4, none⟩ = some (.int .i64 0) := by rw [cell_of_row v1 _ 4 _ _ (0, 0) hQv1]; rfl
    have q5 : v1.cell? ⟨gr, 5, none⟩ = some (.int .i64 0) := by rw [cell_of_row v1 _ 5 _ _ (0, 0) hQv1]; rfl
    have q6 : v1.cell? ⟨gr, 6, none⟩ = some (.bool false) := by rw [cell_of_row v1 _ 6 _ _ (0, 0) hQv1]; rfl
    have q7 : v1.cell? ⟨gr, 7, none⟩ = some (.string ⟨#[]⟩) := by rw [cell_of_row v1 _ 7 _ _ (0, 0) hQv1]; rfl
    have f0 : v1.frozen? ⟨gr, 0, none⟩ = false := frozen_of_row v1 _ 0 _ _ hQv1
    have f1 : v1.frozen? ⟨gr, 1, none⟩ = false := frozen_of_row v1 _ 1 _ _ hQv1
    have f2 : v1.frozen? ⟨gr, 2, none⟩ = false := frozen_of_row v1 _ 2 _ _ hQv1
    have f3 : v1.frozen? ⟨gr, 3, none⟩ = false := frozen_of_row v1 _ 3 _ _ hQv1
    have f4 : v1.frozen? ⟨gr, 4, none⟩ = false := frozen_of_row v1 _ 4 _ _ hQv1
    have f5 : v1.frozen? ⟨gr, 5, none⟩ = false := frozen_of_row v1 _ 5 _ _ hQv1
    have f6 : v1.frozen? ⟨gr, 6, none⟩ = false := frozen_of_row v1 _ 6 _ _ hQv1
    have f7 : v1.frozen? ⟨gr, 7, none⟩ = false := frozen_of_row v1 _ 7 _ _ hQv1
    simp only [rdI, tx1, hxv0, hxv1] at HX
    go_wp2_with fail
    refine bodyPost_ret (v := .agg #[.int .i64 I, .int .i64 K, .int .i64 T, .int .i64 y0, .int .i64 0, .int .i64 y1, .bool false, .string ⟨#[]⟩]) ?_ rfl ⟨by rw [HX.out] <;> rfl, ?_, ?_⟩
    · rw [results_cell1 rfl]
      go_simp
    · rw [HX.out]
      exact (hrv1.grown ((At.refl ge v1).set 5 (.int .i64 y1)) m1).grown ((((((((((At.refl gr (v1.setCell ⟨ge, 5, none⟩ (.int .i64 y1))).set 0 _).set 1 _).set 2 _).set 3 _).set 4 _).set 5 _).set 6 _).set 7 _) : At gr (v1.setCell ⟨ge, 5, none⟩ (.int .i64 y1)) (((((((((v1.setCell ⟨ge, 5, none⟩ (.int .i64 y1)).setCell ⟨gr, 0, none⟩ (.int .i64 I)).setCell ⟨gr, 1, none⟩ (.int .i64 K)).setCell ⟨gr, 2, none⟩ (.int .i64 T)).setCell ⟨gr, 3, none⟩ (.int .i64 y0)).setCell ⟨gr, 4, none⟩ (.int .i64 0)).setCell ⟨gr, 5, none⟩ (.int .i64 y1)).setCell ⟨gr, 6, none⟩ (.bool false)).setCell ⟨gr, 7, none⟩ (.string ⟨#[]⟩))) n1.symm
    · exact At.new (At.new av1 ((At.refl ge v1).set 5 (.int .i64 y1)) hnew) ((((((((((At.refl gr (v1.setCell ⟨ge, 5, none⟩ (.int .i64 y1))).set 0 _).set 1 _).set 2 _).set 3 _).set 4 _).set 5 _).set 6 _).set 7 _) : At gr (v1.setCell ⟨ge, 5, none⟩ (.int .i64 y1)) (((((((((v1.setCell ⟨ge, 5, none⟩ (.int .i64 y1)).setCell ⟨gr, 0, none⟩ (.int .i64 I)).setCell ⟨gr, 1, none⟩ (.int .i64 K)).setCell ⟨gr, 2, none⟩ (.int .i64 T)).setCell ⟨gr, 3, none⟩ (.int .i64 y0)).setCell ⟨gr, 4, none⟩ (.int .i64 0)).setCell ⟨gr, 5, none⟩ (.int .i64 y1)).setCell ⟨gr, 6, none⟩ (.bool false)).setCell ⟨gr, 7, none⟩ (.string ⟨#[]⟩))) hgrn
  · have hG := HG.out
    unfold tailG at hG
    simp only [e, Int.reduceEq, if_false, if_true] at hG
    have HX := hid hG
    clear hG e HG
    go_wp2_with fail
    refine (int_any g r3 e3 15 w4 hr4 (by unfold maxLen; omega) (by omega) (by omega)).mono ?_
    rintro _ v0 ⟨rfl, hrv0, awv0⟩
    have hlv0 := intF_len r3 e3 15
    obtain ⟨⟨y0, s0, t0⟩, hxv0⟩ : ∃ x, intF r3 e3 15 = x := ⟨_, rfl⟩
    rw [hxv0] at hrv0 hlv0 ⊢
    simp only at hrv0 hlv0 ⊢
    have hQv0 := (awv0.block gr (Array.getElem?_eq_some_iff.1 hQ4).1 (by simpa using n1)).trans hQ4
    have hEv0 := (awv0.block ge (Array.getElem?_eq_some_iff.1 hE4).1 (by simpa using m1.symm)).trans hE4
    have av0 := a4.trans awv0
    have x0 : v0.cell? ⟨ge, 0, none⟩ = some (.int .i64 I) := by rw [cell_of_row v0 _ 0 _ _ (0, 0) hEv0]; rfl
    have x1 : v0.cell? ⟨ge, 1, none⟩ = some (.int .i64 K) := by rw [cell_of_row v0 _ 1 _ _ (0, 0) hEv0]; rfl
    have x2 : v0.cell? ⟨ge, 2, none⟩ = some (.int .i64 T) := by rw [cell_of_row v0 _ 2 _ _ (0, 0) hEv0]; rfl
    have x3 : v0.cell? ⟨ge, 3, none⟩ = some (.int .i64 0) := by rw [cell_of_row v0 _ 3 _ _ (0, 0) hEv0]; rfl
    have x4 : v0.cell? ⟨ge, 4, none⟩ = some (.int .i64 0) := by rw [cell_of_row v0 _ 4 _ _ (0, 0) hEv0]; rfl
    have x5 : v0.cell? ⟨ge, 5, none⟩ = some (.int .i64 0) := by rw [cell_of_row v0 _ 5 _ _ (0, 0) hEv0]; rfl
    have x6 : v0.cell? ⟨ge, 6, none⟩ = some (.bool false) := by rw [cell_of_row v0 _ 6 _ _ (0, 0) hEv0]; rfl
    have x7 : v0.cell? ⟨ge, 7, none⟩ = some (.string ⟨#[]⟩) := by rw [cell_of_row v0 _ 7 _ _ (0, 0) hEv0]; rfl
    have z4 : v0.frozen? ⟨ge, 4, none⟩ = false := frozen_of_row v0 _ 4 _ _ hEv0
    have q0 : v0.cell? ⟨gr, 0, none⟩ = some (.int .i64 0) := by rw [cell_of_row v0 _ 0 _ _ (0, 0) hQv0]; rfl
    have q1 : v0.cell? ⟨gr, 1, none⟩ = some (.int .i64 0) := by rw [cell_of_row v0 _ 1 _ _ (0, 0) hQv0]; rfl
    have q2 : v0.cell? ⟨gr, 2, none⟩ = some (.int .i64 0) := by rw [cell_of_row v0 _ 2 _ _ (0, 0) hQv0]; rfl
    have q3 : v0.cell? ⟨gr, 3, none⟩ = some (.int .i64 0) := by rw [cell_of_row v0 _ 3 _ _ (0, 0) hQv0]; rfl
    have q4 : v0.cell? ⟨gr, 4, none⟩ = some (.int .i64 0) := by rw [cell_of_row v0 _ 4 _ _ (0, 0) hQv0]; rfl
    have q5 : v0.cell? ⟨gr, 5, none⟩ = some (.int .i64 0) := by rw [cell_of_row v0 _ 5 _ _ (0, 0) hQv0]; rfl
    have q6 : v0.cell? ⟨gr, 6, none⟩ = some (.bool false) := by rw [cell_of_row v0 _ 6 _ _ (0, 0) hQv0]; rfl
    have q7 : v0.cell? ⟨gr, 7, none⟩ = some (.string ⟨#[]⟩) := by rw [cell_of_row v0 _ 7 _ _ (0, 0) hQv0]; rfl
    have f0 : v0.frozen? ⟨gr, 0, none⟩ = false := frozen_of_row v0 _ 0 _ _ hQv0
    have f1 : v0.frozen? ⟨gr, 1, none⟩ = false := frozen_of_row v0 _ 1 _ _ hQv0
    have f2 : v0.frozen? ⟨gr, 2, none⟩ = false := frozen_of_row v0 _ 2 _ _ hQv0
    have f3 : v0.frozen? ⟨gr, 3, none⟩ = false := frozen_of_row v0 _ 3 _ _ hQv0
    have f4 : v0.frozen? ⟨gr, 4, none⟩ = false := frozen_of_row v0 _ 4 _ _ hQv0
    have f5 : v0.frozen? ⟨gr, 5, none⟩ = false := frozen_of_row v0 _ 5 _ _ hQv0
    have f6 : v0.frozen? ⟨gr, 6, none⟩ = false := frozen_of_row v0 _ 6 _ _ hQv0
    have f7 : v0.frozen? ⟨gr, 7, none⟩ = false := frozen_of_row v0 _ 7 _ _ hQv0
    simp only [rdI, tx1, hxv0] at HX
    go_wp2_with fail
    refine bodyPost_ret (v := .agg #[.int .i64 I, .int .i64 K, .int .i64 T, .int .i64 0, .int .i64 y0, .int .i64 0, .bool false, .string ⟨#[]⟩]) ?_ rfl ⟨by rw [HX.out] <;> rfl, ?_, ?_⟩
    · rw [results_cell1 rfl]
      go_simp
    · rw [HX.out]
      exact (hrv0.grown ((At.refl ge v0).set 4 (.int .i64 y0)) m1).grown ((((((((((At.refl gr (v0.setCell ⟨ge, 4, none⟩ (.int .i64 y0))).set 0 _).set 1 _).set 2 _).set 3 _).set 4 _).set 5 _).set 6 _).set 7 _) : At gr (v0.setCell ⟨ge, 4, none⟩ (.int .i64 y0)) (((((((((v0.setCell ⟨ge, 4, none⟩ (.int .i64 y0)).setCell ⟨gr, 0, none⟩ (.int .i64 I)).setCell ⟨gr, 1, none⟩ (.int .i64 K)).setCell ⟨gr, 2, none⟩ (.int .i64 T)).setCell ⟨gr, 3, none⟩ (.int .i64 0)).setCell ⟨gr, 4, none⟩ (.int .i64 y0)).setCell ⟨gr, 5, none⟩ (.int .i64 0)).setCell ⟨gr, 6, none⟩ (.bool false)).setCell ⟨gr, 7, none⟩ (.string ⟨#[]⟩))) n1.symm
    · exact At.new (At.new av0 ((At.refl ge v0).set 4 (.int .i64 y0)) hnew) ((((((((((At.refl gr (v0.setCell ⟨ge, 4, none⟩ (.int .i64 y0))).set 0 _).set 1 _).set 2 _).set 3 _).set 4 _).set 5 _).set 6 _).set 7 _) : At gr (v0.setCell ⟨ge, 4, none⟩ (.int .i64 y0)) (((((((((v0.setCell ⟨ge, 4, none⟩ (.int .i64 y0)).setCell ⟨gr, 0, none⟩ (.int .i64 I)).setCell ⟨gr, 1, none⟩ (.int .i64 K)).setCell ⟨gr, 2, none⟩ (.int .i64 T)).setCell ⟨gr, 3, none⟩ (.int .i64 0)).setCell ⟨gr, 4, none⟩ (.int .i64 y0)).setCell ⟨gr, 5, none⟩ (.int .i64 0)).setCell ⟨gr, 6, none⟩ (.bool false)).setCell ⟨gr, 7, none⟩ (.string ⟨#[]⟩))) hgrn
  · have hG := HG.out
    unfold tailG at hG
    simp only [e, Int.reduceEq, if_false, if_true] at hG
    have HX := hid hG
    clear hG e HG
    have x0 : w4.cell? ⟨ge, 0, none⟩ = some (.int .i64 I) := by rw [cell_of_row w4 _ 0 _ _ (0, 0) hE4]; rfl
    have x1 : w4.cell? ⟨ge, 1, none⟩ = some (.int .i64 K) := by rw [cell_of_row w4 _ 1 _ _ (0, 0) hE4]; rfl
    have x2 : w4.cell? ⟨ge, 2, none⟩ = some (.int .i64 T) := by rw [cell_of_row w4 _ 2 _ _ (0, 0) hE4]; rfl
    have x3 : w4.cell? ⟨ge, 3, none⟩ = some (.int .i64 0) := by rw [cell_of_row w4 _ 3 _ _ (0, 0) hE4]; rfl
    have x4 : w4.cell? ⟨ge, 4, none⟩ = some (.int .i64 0) := by rw [cell_of_row w4 _ 4 _ _ (0, 0) hE4]; rfl
    have x5 : w4.cell? ⟨ge, 5, none⟩ = some (.int .i64 0) := by rw [cell_of_row w4 _ 5 _ _ (0, 0) hE4]; rfl
    have x6 : w4.cell? ⟨ge, 6, none⟩ = some (.bool false) := by rw [cell_of_row w4 _ 6 _ _ (0, 0) hE4]; rfl
    have x7 : w4.cell? ⟨ge, 7, none⟩ = some (.string ⟨#[]⟩) := by rw [cell_of_row w4 _ 7 _ _ (0, 0) hE4]; rfl
    have q0 : w4.cell? ⟨gr, 0, none⟩ = some (.int .i64 0) := by rw [cell_of_row w4 _ 0 _ _ (0, 0) hQ4]; rfl
    have q1 : w4.cell? ⟨gr, 1, none⟩ = some (.int .i64 0) := by rw [cell_of_row w4 _ 1 _ _ (0, 0) hQ4]; rfl
    have q2 : w4.cell? ⟨gr, 2, none⟩ = some (.int .i64 0) := by rw [cell_of_row w4 _ 2 _ _ (0, 0) hQ4]; rfl
    have q3 : w4.cell? ⟨gr, 3, none⟩ = some (.int .i64 0) := by rw [cell_of_row w4 _ 3 _ _ (0, 0) hQ4]; rfl
    have q4 : w4.cell? ⟨gr, 4, none⟩ = some (.int .i64 0) := by rw [cell_of_row w4 _ 4 _ _ (0, 0) hQ4]; rfl
    have q5 : w4.cell? ⟨gr, 5, none⟩ = some (.int .i64 0) := by rw [cell_of_row w4 _ 5 _ _ (0, 0) hQ4]; rfl
    have q6 : w4.cell? ⟨gr, 6, none⟩ = some (.bool false) := by rw [cell_of_row w4 _ 6 _ _ (0, 0) hQ4]; rfl
    have q7 : w4.cell? ⟨gr, 7, none⟩ = some (.string ⟨#[]⟩) := by rw [cell_of_row w4 _ 7 _ _ (0, 0) hQ4]; rfl
    have f0 : w4.frozen? ⟨gr, 0, none⟩ = false := frozen_of_row w4 _ 0 _ _ hQ4
    have f1 : w4.frozen? ⟨gr, 1, none⟩ = false := frozen_of_row w4 _ 1 _ _ hQ4
    have f2 : w4.frozen? ⟨gr, 2, none⟩ = false := frozen_of_row w4 _ 2 _ _ hQ4
    have f3 : w4.frozen? ⟨gr, 3, none⟩ = false := frozen_of_row w4 _ 3 _ _ hQ4
    have f4 : w4.frozen? ⟨gr, 4, none⟩ = false := frozen_of_row w4 _ 4 _ _ hQ4
    have f5 : w4.frozen? ⟨gr, 5, none⟩ = false := frozen_of_row w4 _ 5 _ _ hQ4
    have f6 : w4.frozen? ⟨gr, 6, none⟩ = false := frozen_of_row w4 _ 6 _ _ hQ4
    have f7 : w4.frozen? ⟨gr, 7, none⟩ = false := frozen_of_row w4 _ 7 _ _ hQ4
    go_wp2_with fail
    refine bodyPost_ret (v := .agg #[.int .i64 I, .int .i64 K, .int .i64 T, .int .i64 0, .int .i64 0, .int .i64 0, .bool false, .string ⟨#[]⟩]) ?_ rfl ⟨by rw [HX.out] <;> rfl, ?_, ?_⟩
    · rw [results_cell1 rfl]
      go_simp
    · rw [HX.out]
      exact hr4.grown ((((((((((At.refl gr w4).set 0 _).set 1 _).set 2 _).set 3 _).set 4 _).set 5 _).set 6 _).set 7 _) : At gr w4 ((((((((w4.setCell ⟨gr, 0, none⟩ (.int .i64 I)).setCell ⟨gr, 1, none⟩ (.int .i64 K)).setCell ⟨gr, 2, none⟩ (.int .i64 T)).setCell ⟨gr, 3, none⟩ (.int .i64 0)).setCell ⟨gr, 4, none⟩ (.int .i64 0)).setCell ⟨gr, 5, none⟩ (.int .i64 0)).setCell ⟨gr, 6, none⟩ (.bool false)).setCell ⟨gr, 7, none⟩ (.string ⟨#[]⟩))) n1.symm
    · exact At.new a4 ((((((((((At.refl gr w4).set 0 _).set 1 _).set 2 _).set 3 _).set 4 _).set 5 _).set 6 _).set 7 _) : At gr w4 ((((((((w4.setCell ⟨gr, 0, none⟩ (.int .i64 I)).setCell ⟨gr, 1, none⟩ (.int .i64 K)).setCell ⟨gr, 2, none⟩ (.int .i64 T)).setCell ⟨gr, 3, none⟩ (.int .i64 0)).setCell ⟨gr, 4, none⟩ (.int .i64 0)).setCell ⟨gr, 5, none⟩ (.int .i64 0)).setCell ⟨gr, 6, none⟩ (.bool false)).setCell ⟨gr, 7, none⟩ (.string ⟨#[]⟩))) hgrn
end Go.Proofs.Ytelacmchofehcaa
