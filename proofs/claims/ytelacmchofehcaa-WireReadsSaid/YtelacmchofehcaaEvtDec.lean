/- CONTRACT: event.Decode. -/
import Derived.Test.YtelacmchofehcaaEvtRead
namespace Go.Proofs.Ytelacmchofehcaa
open Go.RowKit
set_option linter.unusedVariables false

theorem takeF_fst' (r : List UInt8) (b : Bool) (n : Int) : (takeF r b n).1.length ≤ r.length := by
  unfold takeF
  split
  · exact Nat.zero_le _
  · split
    · exact Nat.zero_le _
    · simp only [List.length_take]; omega
theorem tx1_fst (s : RS) : (tx1 s).1.length ≤ s.1.length := Nat.le_trans (takeF_fst' _ _ _) (numF_len s.1 s.2)
theorem tx2_fst (s : RS) : (tx2 s).1.length ≤ s.1.length := Nat.le_trans (takeF_fst' _ _ _) (numF_len s.1 s.2)
theorem rdI_len (m : Int) (s : RS) : (rdI m s).2.1.length ≤ s.1.length := intF_len s.1 s.2 m
theorem tx1_len (s : RS) : (tx1 s).2.1.length ≤ s.1.length := textF_len s.1 s.2
theorem tx2_len (s : RS) : (tx2 s).2.1.length ≤ s.1.length := rtextF_len s.1 s.2
theorem evG_dt {tx : RS → List UInt8 × RS} (h : ∀ s, (tx s).1.length ≤ s.1.length) (ci ck ca cr cs ct : Int) (s : RS) : (evG tx ci ck ca cr cs ct s).1.dt.length ≤ s.1.length := by
  have h1 := rdI_len ci s
  have h2 := rdI_len ck (rdI ci s).2
  have h3 := rdI_len ca (rdI ck (rdI ci s).2).2
  have h4 := h (rdI ca (rdI ck (rdI ci s).2).2).2
  unfold evG tailG
  repeat' split
  all_goals simp only [Ev.dt, List.length_nil]
  all_goals omega
set_option maxHeartbeats 1600000 in
set_option maxRecDepth 100000 in
theorem edecode_any (l : List UInt8) (hl : l.length ≤ 140737488355328) (w : World) :
    Calls Try.prog 60 #[.string ⟨l.toArray⟩] w fun e w' => ∃ (x : Ev) (er : Int), e = .returned (.tuple #[evV' x, .int .i64 er]) ∧ Below w.heap.size w w' ∧ ((evF l = some x ∧ er = 0) ∨ (evF l = none ∧ er = 60 ∧ x = (0, 0, 0, 0, 0, 0, false, []))) := by
  go_enter Try.func60, Try.ntmps60
  go_wp2_with fail
  obtain ⟨w0, hw0⟩ : ∃ w0, w0 = w.alloc (.cells #[.int .i64 0, .int .i64 0, .int .i64 0, .int .i64 0, .int .i64 0, .int .i64 0, .bool false, .string ⟨#[]⟩] 82) := ⟨_, rfl⟩
  rw [← hw0]
  have hQ0 : w0.heap[w.heap.size]? = some (.cells #[.int .i64 0, .int .i64 0, .int .i64 0, .int .i64 0, .int .i64 0, .int .i64 0, .bool false, .string ⟨#[]⟩] 82 (0, 0)) := by rw [hw0]; exact heap_alloc_new w _
  have b0 : Below w.heap.size w w0 := by rw [hw0]; exact (Below.refl _ _).alloc (Nat.le_refl _) _
  have l0 : w.heap.size < w0.heap.size := (Array.getElem?_eq_some_iff.1 hQ0).1
  clear hw0
  refine (read_any l w0).mono ?_
  rintro _ w1 ⟨rfl, hw1⟩
  have hrw1 : Rdr w1 w0.heap.size l false := by rw [hw1]; exact read_rdr l w0
  have b1 : Below w0.heap.size w0 w1 := by rw [hw1]; exact (Below.refl _ _).alloc (Nat.le_refl _) _
  clear hw1
  obtain ⟨g, hg⟩ : ∃ g, g = w0.heap.size := ⟨_, rfl⟩
  obtain ⟨gr, hgr⟩ : ∃ gr, gr = w.heap.size := ⟨_, rfl⟩
  have n1 : gr ≠ g := by omega
  have n2 : w.heap.size ≤ g ∧ w.heap.size ≤ gr := by have := b0.size; omega
  have hQw1 := (b1.block _ l0).trans hQ0
  have hbw1 := bnext b0 b1
  rw [← hg] at hrw1 ⊢
  rw [← hgr] at hQw1 ⊢
  clear hg hgr hQ0 b0 b1 l0
  go_wp2_with fail
  refine (eread_any g l false w1 hrw1 hl).mono ?_
  rintro _ w5 ⟨rfl, hrw5, aw5⟩
  have hQw5 := (aw5.block gr (Array.getElem?_eq_some_iff.1 hQw1).1 (by simpa using n1)).trans hQw1
  have hbw5 := At.below hbw1 aw5 n2.1
  have hdl : (ev1 (l, false)).1.dt.length ≤ l.length := evG_dt tx1_fst _ _ _ _ _ _ (l, false)
  have hF : evF l = (if EvP (ev1 (l, false)).1 ∧ endF (ev1 (l, false)).2.1 (ev1 (l, false)).2.2 = true then some (ev1 (l, false)).1 else none) := rfl
  obtain ⟨⟨⟨id, k, tk, rf, sp, ty, ud, dt⟩, r4, e4⟩, hx⟩ : ∃ x, ev1 (l, false) = x := ⟨_, rfl⟩
  rw [hx] at hrw5 hdl hF ⊢
  simp only [Ev.dt] at hrw5 hdl hF ⊢
  rw [show evV' (id, k, tk, rf, sp, ty, ud, dt) = .agg #[.int .i64 id, .int .i64 k, .int .i64 tk, .int .i64 rf, .int .i64 sp, .int .i64 ty, .bool ud, .string ⟨dt.toArray⟩] from rfl]
  clear hrw1 hQw1 hbw1 aw5 hx
  go_wp2_with fail
  obtain ⟨w6, hw6⟩ : ∃ w6, w6 = w5.alloc (.cells #[.int .i64 id, .int .i64 k, .int .i64 tk, .int .i64 rf, .int .i64 sp, .int .i64 ty, .bool ud, .string ⟨dt.toArray⟩] 82) := ⟨_, rfl⟩
  rw [← hw6]
  have b6 : Below w5.heap.size w5 w6 := by rw [hw6]; exact (Below.refl _ _).alloc (Nat.le_refl _) _
  have hT6 : w6.heap[w5.heap.size]? = some (.cells #[.int .i64 id, .int .i64 k, .int .i64 tk, .int .i64 rf, .int .i64 sp, .int .i64 ty, .bool ud, .string ⟨dt.toArray⟩] 82 (0, 0)) := by rw [hw6]; exact heap_alloc_new w5 _
  have hl6 : w5.heap.size < w6.heap.size := (Array.getElem?_eq_some_iff.1 hT6).1
  clear hw6
  have hrw6 := hrw5.keep b6
  have hQw6 := (b6.block _ (Array.getElem?_eq_some_iff.1 hQw5).1).trans hQw5
  have hbw6 := bnext hbw5 b6
  clear hrw5 hQw5 hbw5 b6
  refine (end_any g r4 e4 w6 hrw6).mono ?_
  rintro _ w9 ⟨rfl, hw9⟩
  rw [hw9]
  clear hw9 w9
  by_cases he : endF r4 e4 = true
  · have x0 : w6.cell? ⟨w5.heap.size, 0, none⟩ = some (.int .i64 id) := by rw [cell_of_row w6 _ 0 _ _ (0, 0) hT6]; rfl
    have x1 : w6.cell? ⟨w5.heap.size, 1, none⟩ = some (.int .i64 k) := by rw [cell_of_row w6 _ 1 _ _ (0, 0) hT6]; rfl
    have x2 : w6.cell? ⟨w5.heap.size, 2, none⟩ = some (.int .i64 tk) := by rw [cell_of_row w6 _ 2 _ _ (0, 0) hT6]; rfl
    have x3 : w6.cell? ⟨w5.heap.size, 3, none⟩ = some (.int .i64 rf) := by rw [cell_of_row w6 _ 3 _ _ (0, 0) hT6]; rfl
    have x4 : w6.cell? ⟨w5.heap.size, 4, none⟩ = some (.int .i64 sp) := by rw [cell_of_row w6 _ 4 _ _ (0, 0) hT6]; rfl
    have x5 : w6.cell? ⟨w5.heap.size, 5, none⟩ = some (.int .i64 ty) := by rw [cell_of_row w6 _ 5 _ _ (0, 0) hT6]; rfl
    have x6 : w6.cell? ⟨w5.heap.size, 6, none⟩ = some (.bool ud) := by rw [cell_of_row w6 _ 6 _ _ (0, 0) hT6]; rfl
    have x7 : w6.cell? ⟨w5.heap.size, 7, none⟩ = some (.string ⟨dt.toArray⟩) := by rw [cell_of_row w6 _ 7 _ _ (0, 0) hT6]; rfl
    rw [he]
    have HE := hid he
    clear he
    go_wp2_with fail
    refine (echeck_any id k tk rf sp ty ud dt (by omega) w6).mono ?_
    rintro _ w7 ⟨rfl, b7⟩
    clear x0 x1 x2 x3 x4 x5 x6 x7
    have hQw7 := (b7.block _ (Array.getElem?_eq_some_iff.1 hQw6).1).trans hQw6
    have hbw7 := bnext hbw6 b7
    have hT7 := (b7.block _ hl6).trans hT6
    have x0 : w7.cell? ⟨w5.heap.size, 0, none⟩ = some (.int .i64 id) := by rw [cell_of_row w7 _ 0 _ _ (0, 0) hT7]; rfl
    have x1 : w7.cell? ⟨w5.heap.size, 1, none⟩ = some (.int .i64 k) := by rw [cell_of_row w7 _ 1 _ _ (0, 0) hT7]; rfl
    have x2 : w7.cell? ⟨w5.heap.size, 2, none⟩ = some (.int .i64 tk) := by rw [cell_of_row w7 _ 2 _ _ (0, 0) hT7]; rfl
    have x3 : w7.cell? ⟨w5.heap.size, 3, none⟩ = some (.int .i64 rf) := by rw [cell_of_row w7 _ 3 _ _ (0, 0) hT7]; rfl
    have x4 : w7.cell? ⟨w5.heap.size, 4, none⟩ = some (.int .i64 sp) := by rw [cell_of_row w7 _ 4 _ _ (0, 0) hT7]; rfl
    have x5 : w7.cell? ⟨w5.heap.size, 5, none⟩ = some (.int .i64 ty) := by rw [cell_of_row w7 _ 5 _ _ (0, 0) hT7]; rfl
    have x6 : w7.cell? ⟨w5.heap.size, 6, none⟩ = some (.bool ud) := by rw [cell_of_row w7 _ 6 _ _ (0, 0) hT7]; rfl
    have x7 : w7.cell? ⟨w5.heap.size, 7, none⟩ = some (.string ⟨dt.toArray⟩) := by rw [cell_of_row w7 _ 7 _ _ (0, 0) hT7]; rfl
    have q0 : w7.cell? ⟨gr, 0, none⟩ = some (.int .i64 0) := by rw [cell_of_row w7 _ 0 _ _ (0, 0) hQw7]; rfl
    have q1 : w7.cell? ⟨gr, 1, none⟩ = some (.int .i64 0) := by rw [cell_of_row w7 _ 1 _ _ (0, 0) hQw7]; rfl
    have q2 : w7.cell? ⟨gr, 2, none⟩ = some (.int .i64 0) := by rw [cell_of_row w7 _ 2 _ _ (0, 0) hQw7]; rfl
    have q3 : w7.cell? ⟨gr, 3, none⟩ = some (.int .i64 0) := by rw [cell_of_row w7 _ 3 _ _ (0, 0) hQw7]; rfl
    have q4 : w7.cell? ⟨gr, 4, none⟩ = some (.int .i64 0) := by rw [cell_of_row w7 _ 4 _ _ (0, 0) hQw7]; rfl
    have q5 : w7.cell? ⟨gr, 5, none⟩ = some (.int .i64 0) := by rw [cell_of_row w7 _ 5 _ _ (0, 0) hQw7]; rfl
    have q6 : w7.cell? ⟨gr, 6, none⟩ = some (.bool false) := by rw [cell_of_row w7 _ 6 _ _ (0, 0) hQw7]; rfl
    have q7 : w7.cell? ⟨gr, 7, none⟩ = some (.string ⟨#[]⟩) := by rw [cell_of_row w7 _ 7 _ _ (0, 0) hQw7]; rfl
    have f0 : w7.frozen? ⟨gr, 0, none⟩ = false := frozen_of_row w7 _ 0 _ _ hQw7
    have f1 : w7.frozen? ⟨gr, 1, none⟩ = false := frozen_of_row w7 _ 1 _ _ hQw7
    have f2 : w7.frozen? ⟨gr, 2, none⟩ = false := frozen_of_row w7 _ 2 _ _ hQw7
    have f3 : w7.frozen? ⟨gr, 3, none⟩ = false := frozen_of_row w7 _ 3 _ _ hQw7
    have f4 : w7.frozen? ⟨gr, 4, none⟩ = false := frozen_of_row w7 _ 4 _ _ hQw7
    have f5 : w7.frozen? ⟨gr, 5, none⟩ = false := frozen_of_row w7 _ 5 _ _ hQw7
    have f6 : w7.frozen? ⟨gr, 6, none⟩ = false := frozen_of_row w7 _ 6 _ _ hQw7
    have f7 : w7.frozen? ⟨gr, 7, none⟩ = false := frozen_of_row w7 _ 7 _ _ hQw7
    clear hrw6 hQw6 hbw6 hT6 hT7 hl6 b7
    by_cases hp : EvP (id, k, tk, rf, sp, ty, ud, dt)
    · rw [ev_yes hp]
      have HR := hid (show evF l = some (id, k, tk, rf, sp, ty, ud, dt) by rw [hF, if_pos ⟨hp, HE.out⟩])
      clear hp hF
      go_wp2_with fail
      refine bodyPost_ret (v := .tuple #[.agg #[.int .i64 id, .int .i64 k, .int .i64 tk, .int .i64 rf, .int .i64 sp, .int .i64 ty, .bool ud, .string ⟨dt.toArray⟩], .int .i64 0]) ?_ rfl ⟨(id, k, tk, rf, sp, ty, ud, dt), 0, rfl, At.below hbw7 ((((((((((At.refl gr w7).set 0 _).set 1 _).set 2 _).set 3 _).set 4 _).set 5 _).set 6 _).set 7 _) : At gr w7 ((((((((w7.setCell ⟨gr, 0, none⟩ (.int .i64 id)).setCell ⟨gr, 1, none⟩ (.int .i64 k)).setCell ⟨gr, 2, none⟩ (.int .i64 tk)).setCell ⟨gr, 3, none⟩ (.int .i64 rf)).setCell ⟨gr, 4, none⟩ (.int .i64 sp)).setCell ⟨gr, 5, none⟩ (.int .i64 ty)).setCell ⟨gr, 6, none⟩ (.bool ud)).setCell ⟨gr, 7, none⟩ (.string ⟨dt.toArray⟩))) n2.2, .inl ⟨HR.out, rfl⟩⟩
      rw [results_cell_tmp rfl]
      go_simp
    · rw [ev_no hp]
      have HR := hid (show evF l = none by rw [hF, if_neg (fun q => hp q.1)])
      clear hp hF
      go_wp2_with fail
      refine bodyPost_ret (v := .tuple #[.agg #[.int .i64 0, .int .i64 0, .int .i64 0, .int .i64 0, .int .i64 0, .int .i64 0, .bool false, .string ⟨#[]⟩], .int .i64 60]) ?_ rfl ⟨(0, 0, 0, 0, 0, 0, false, []), 60, rfl, At.below hbw7 ((((((((((At.refl gr w7).set 0 _).set 1 _).set 2 _).set 3 _).set 4 _).set 5 _).set 6 _).set 7 _) : At gr w7 ((((((((w7.setCell ⟨gr, 0, none⟩ (.int .i64 0)).setCell ⟨gr, 1, none⟩ (.int .i64 0)).setCell ⟨gr, 2, none⟩ (.int .i64 0)).setCell ⟨gr, 3, none⟩ (.int .i64 0)).setCell ⟨gr, 4, none⟩ (.int .i64 0)).setCell ⟨gr, 5, none⟩ (.int .i64 0)).setCell ⟨gr, 6, none⟩ (.bool false)).setCell ⟨gr, 7, none⟩ (.string ⟨#[]⟩))) n2.2, .inr ⟨HR.out, rfl, rfl⟩⟩
      rw [results_cell_tmp rfl]
      go_simp
  · have he' : endF r4 e4 = false := by simpa using he
    have HR := hid (show evF l = none by rw [hF, if_neg (fun q => he q.2)])
    rw [he']
    clear he he' hF
    have q0 : w6.cell? ⟨gr, 0, none⟩ = some (.int .i64 0) := by rw [cell_of_row w6 _ 0 _ _ (0, 0) hQw6]; rfl
    have q1 : w6.cell? ⟨gr, 1, none⟩ = some (.int .i64 0) := by rw [cell_of_row w6 _ 1 _ _ (0, 0) hQw6]; rfl
    have q2 : w6.cell? ⟨gr, 2, none⟩ = some (.int .i64 0) := by rw [cell_of_row w6 _ 2 _ _ (0, 0) hQw6]; rfl
    have q3 : w6.cell? ⟨gr, 3, none⟩ = some (.int .i64 0) := by rw [cell_of_row w6 _ 3 _ _ (0, 0) hQw6]; rfl
    have q4 : w6.cell? ⟨gr, 4, none⟩ = some (.int .i64 0) := by rw [cell_of_row w6 _ 4 _ _ (0, 0) hQw6]; rfl
    have q5 : w6.cell? ⟨gr, 5, none⟩ = some (.int .i64 0) := by rw [cell_of_row w6 _ 5 _ _ (0, 0) hQw6]; rfl
    have q6 : w6.cell? ⟨gr, 6, none⟩ = some (.bool false) := by rw [cell_of_row w6 _ 6 _ _ (0, 0) hQw6]; rfl
    have q7 : w6.cell? ⟨gr, 7, none⟩ = some (.string ⟨#[]⟩) := by rw [cell_of_row w6 _ 7 _ _ (0, 0) hQw6]; rfl
    have f0 : w6.frozen? ⟨gr, 0, none⟩ = false := frozen_of_row w6 _ 0 _ _ hQw6
    have f1 : w6.frozen? ⟨gr, 1, none⟩ = false := frozen_of_row w6 _ 1 _ _ hQw6
    have f2 : w6.frozen? ⟨gr, 2, none⟩ = false := frozen_of_row w6 _ 2 _ _ hQw6
    have f3 : w6.frozen? ⟨gr, 3, none⟩ = false := frozen_of_row w6 _ 3 _ _ hQw6
    have f4 : w6.frozen? ⟨gr, 4, none⟩ = false := frozen_of_row w6 _ 4 _ _ hQw6
    have f5 : w6.frozen? ⟨gr, 5, none⟩ = false := frozen_of_row w6 _ 5 _ _ hQw6
    have f6 : w6.frozen? ⟨gr, 6, none⟩ = false := frozen_of_row w6 _ 6 _ _ hQw6
    have f7 : w6.frozen? ⟨gr, 7, none⟩ = false := frozen_of_row w6 _ 7 _ _ hQw6
    clear hrw6 hQw6 hT6 hl6
    go_wp2_with fail
    refine bodyPost_ret (v := .tuple #[.agg #[.int .i64 0, .int .i64 0, .int .i64 0, .int .i64 0, .int .i64 0, .int .i64 0, .bool false, .string ⟨#[]⟩], .int .i64 60]) ?_ rfl ⟨(0, 0, 0, 0, 0, 0, false, []), 60, rfl, At.below hbw6 ((((((((((At.refl gr w6).set 0 _).set 1 _).set 2 _).set 3 _).set 4 _).set 5 _).set 6 _).set 7 _) : At gr w6 ((((((((w6.setCell ⟨gr, 0, none⟩ (.int .i64 0)).setCell ⟨gr, 1, none⟩ (.int .i64 0)).setCell ⟨gr, 2, none⟩ (.int .i64 0)).setCell ⟨gr, 3, none⟩ (.int .i64 0)).setCell ⟨gr, 4, none⟩ (.int .i64 0)).setCell ⟨gr, 5, none⟩ (.int .i64 0)).setCell ⟨gr, 6, none⟩ (.bool false)).setCell ⟨gr, 7, none⟩ (.string ⟨#[]⟩))) n2.2, .inr ⟨HR.out, rfl, rfl⟩⟩
    rw [results_cell_tmp rfl]
    go_simp
end Go.Proofs.Ytelacmchofehcaa
