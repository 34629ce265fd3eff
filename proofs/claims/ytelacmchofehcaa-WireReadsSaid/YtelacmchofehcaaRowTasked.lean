/- CONTRACT: rows.Tasked. -/
import Derived.Test.YtelacmchofehcaaRowTask
import Derived.Test.YtelacmchofehcaaRTextFull
import Derived.Test.YtelacmchofehcaaRowAppend
import Derived.Laws.ResultCell
namespace Go.Proofs.Ytelacmchofehcaa
open Go.RowKit
set_option linter.unusedVariables false

theorem takeF_fst (r : List UInt8) (b : Bool) (n : Int) : (takeF r b n).1.length ≤ r.length := by
  unfold takeF
  split
  · exact Nat.zero_le _
  · split
    · exact Nat.zero_le _
    · simp only [List.length_take]; omega
theorem textF_fst (r : List UInt8) (b : Bool) : (textF r b).1.length ≤ r.length := Nat.le_trans (takeF_fst _ _ _) (numF_len r b)
theorem rtextF_fst (r : List UInt8) (b : Bool) : (rtextF r b).1.length ≤ r.length := Nat.le_trans (takeF_fst _ _ _) (numF_len r b)
set_option maxHeartbeats 800000 in
set_option maxRecDepth 100000 in
theorem tasked_any (l : List UInt8) (hl : l.length ≤ 140737488355328) (w : World) :
    Calls Try.prog 34 #[.string ⟨l.toArray⟩] w fun e w' => ∃ (x : Tk) (er : Int), e = .returned (.tuple #[tkV' x, .int .i64 er]) ∧ Below w.heap.size w w' ∧ ((taskF l = some x ∧ er = 0) ∨ (taskF l = none ∧ er = 60 ∧ x = (0, [], 0, 0))) := by
  go_enter Try.func34, Try.ntmps34
  go_wp2_with fail
  obtain ⟨w0, hw0⟩ : ∃ w0, w0 = w.alloc (.cells #[.int .i64 0, .string ⟨#[]⟩, .int .i64 0, .int .i64 0] 30) := ⟨_, rfl⟩
  rw [← hw0]
  have hQ0 : w0.heap[w.heap.size]? = some (.cells #[.int .i64 0, .string ⟨#[]⟩, .int .i64 0, .int .i64 0] 30 (0, 0)) := by rw [hw0]; exact heap_alloc_new w _
  have b0 : Below w.heap.size w w0 := by rw [hw0]; exact (Below.refl _ _).alloc (Nat.le_refl _) _
  have l0 : w.heap.size < w0.heap.size := (Array.getElem?_eq_some_iff.1 hQ0).1
  clear hw0
  refine (read_any l w0).mono ?_
  rintro _ w1 ⟨rfl, hw1⟩
  have hrw1 : Rdr w1 w0.heap.size l false := by rw [hw1]; exact read_rdr l w0
  have b1 : Below w0.heap.size w0 w1 := by rw [hw1]; exact (Below.refl _ _).alloc (Nat.le_refl _) _
  clear hw1
  obtain ⟨g, hg⟩ : ∃ g, g = w0.heap.size := ⟨_, rfl⟩
  obtain ⟨gr, hgr⟩ : ∃ gr, gr = w.heap.size := ⟨_, rfl⟩
  have n1 : gr ≠ g := by omega
  have n2 : w.heap.size ≤ g ∧ w.heap.size ≤ gr := by have := b0.size; omega
  have hQw1 := (b1.block _ l0).trans hQ0
  have hbw1 := bnext b0 b1
  rw [← hg] at hrw1 ⊢
  rw [← hgr] at hQw1 ⊢
  clear hg hgr hQ0 b0 b1 l0
  go_wp2_with fail
  refine (int_any g l false 7 w1 hrw1 (by unfold maxLen; omega) (by omega) (by omega)).mono ?_
  rintro _ w2 ⟨rfl, hrw2, aw2⟩
  have hQw2 := (aw2.block gr (Array.getElem?_eq_some_iff.1 hQw1).1 (by simpa using n1)).trans hQw1
  have hbw2 := At.below hbw1 aw2 n2.1
  have hlw2 := intF_len l false 7
  obtain ⟨⟨k, r1, e1⟩, hxw2⟩ : ∃ x, intF l false 7 = x := ⟨_, rfl⟩
  rw [hxw2] at hrw2 hlw2 ⊢
  simp only at hrw2 hlw2 ⊢
  clear hrw1 hQw1 hbw1 aw2
  go_wp2_with fail
  refine (text_any_r g r1 e1 w2 hrw2 (by unfold maxLen; omega)).mono ?_
  rintro _ w3 ⟨rfl, hrw3, aw3⟩
  have hQw3 := (aw3.block gr (Array.getElem?_eq_some_iff.1 hQw2).1 (by simpa using n1)).trans hQw2
  have hbw3 := At.below hbw2 aw3 n2.1
  have hlw3 := textF_len r1 e1
  have hfw3 := textF_fst r1 e1
  obtain ⟨⟨n, r2, e2⟩, hxw3⟩ : ∃ x, textF r1 e1 = x := ⟨_, rfl⟩
  rw [hxw3] at hrw3 hlw3 hfw3 ⊢
  simp only at hrw3 hlw3 hfw3 ⊢
  clear hrw2 hQw2 hbw2 aw3
  go_wp2_with fail
  refine (int_any g r2 e2 500 w3 hrw3 (by unfold maxLen; omega) (by omega) (by omega)).mono ?_
  rintro _ w4 ⟨rfl, hrw4, aw4⟩
  have hQw4 := (aw4.block gr (Array.getElem?_eq_some_iff.1 hQw3).1 (by simpa using n1)).trans hQw3
  have hbw4 := At.below hbw3 aw4 n2.1
  have hlw4 := intF_len r2 e2 500
  obtain ⟨⟨r, r3, e3⟩, hxw4⟩ : ∃ x, intF r2 e2 500 = x := ⟨_, rfl⟩
  rw [hxw4] at hrw4 hlw4 ⊢
  simp only at hrw4 hlw4 ⊢
  clear hrw3 hQw3 hbw3 aw4
  go_wp2_with fail
  refine (int_any g r3 e3 5 w4 hrw4 (by unfold maxLen; omega) (by omega) (by omega)).mono ?_
  rintro _ w5 ⟨rfl, hrw5, aw5⟩
  have hQw5 := (aw5.block gr (Array.getElem?_eq_some_iff.1 hQw4).1 (by simpa using n1)).trans hQw4
  have hbw5 := At.below hbw4 aw5 n2.1
  have hlw5 := intF_len r3 e3 5
  obtain ⟨⟨t, r4, e4⟩, hxw5⟩ : ∃ x, intF r3 e3 5 = x := ⟨_, rfl⟩
  rw [hxw5] at hrw5 hlw5 ⊢
  simp only at hrw5 hlw5 ⊢
  clear hrw4 hQw4 hbw4 aw5
  go_wp2_with fail
  -- behind the reads
  have hG : taskG tx1 7 500 5 (l, false) = ((((k : Int), n, (r : Int), (t : Int)) : Tk), r4, e4) := by
    simp only [taskG, rdI, tx1, hxw2, hxw3, hxw4, hxw5]
  have hF : taskF l = (if TaskP ((k : Int), n, (r : Int), (t : Int)) ∧ endF r4 e4 = true then some ((k : Int), n, (r : Int), (t : Int)) else none) := by
    unfold taskF
    rw [hG]
  have hnm : n.length ≤ maxLen := by unfold maxLen; omega
  clear hG hxw2 hxw3 hxw4 hxw5 hlw2 hlw3 hlw4 hlw5 hfw3
  obtain ⟨w6, hw6⟩ : ∃ w6, w6 = w5.alloc (.cells #[.int .i64 k, .string ⟨n.toArray⟩, .int .i64 r, .int .i64 t] 30) := ⟨_, rfl⟩
  rw [← hw6]
  have b6 : Below w5.heap.size w5 w6 := by rw [hw6]; exact (Below.refl _ _).alloc (Nat.le_refl _) _
  have hT6 : w6.heap[w5.heap.size]? = some (.cells #[.int .i64 k, .string ⟨n.toArray⟩, .int .i64 r, .int .i64 t] 30 (0, 0)) := by rw [hw6]; exact heap_alloc_new w5 _
  have hl6 : w5.heap.size < w6.heap.size := (Array.getElem?_eq_some_iff.1 hT6).1
  clear hw6
  refine (task_any (k : Int) n (r : Int) (t : Int) hnm w6).mono ?_
  rintro _ w7 ⟨rfl, b7⟩
  have b67 := b6.trans (b7.mono (Nat.le_of_lt hl6))
  have hrw7 := hrw5.keep b67
  have hQw7 := (b67.block _ (Array.getElem?_eq_some_iff.1 hQw5).1).trans hQw5
  have hbw7 := bnext hbw5 b67
  have hT7 := (b7.block _ hl6).trans hT6
  have x0 : w7.cell? ⟨w5.heap.size, 0, none⟩ = some (.int .i64 k) := by rw [cell_of_row w7 _ 0 _ _ (0, 0) hT7]; rfl
  have x1 : w7.cell? ⟨w5.heap.size, 1, none⟩ = some (.string ⟨n.toArray⟩) := by rw [cell_of_row w7 _ 1 _ _ (0, 0) hT7]; rfl
  have x2 : w7.cell? ⟨w5.heap.size, 2, none⟩ = some (.int .i64 r) := by rw [cell_of_row w7 _ 2 _ _ (0, 0) hT7]; rfl
  have x3 : w7.cell? ⟨w5.heap.size, 3, none⟩ = some (.int .i64 t) := by rw [cell_of_row w7 _ 3 _ _ (0, 0) hT7]; rfl
  have q0 : w7.cell? ⟨gr, 0, none⟩ = some (.int .i64 0) := by rw [cell_of_row w7 _ 0 _ _ (0, 0) hQw7]; rfl
  have f0 : w7.frozen? ⟨gr, 0, none⟩ = false := frozen_of_row w7 _ 0 _ _ hQw7
  have q1 : w7.cell? ⟨gr, 1, none⟩ = some (.string ⟨#[]⟩) := by rw [cell_of_row w7 _ 1 _ _ (0, 0) hQw7]; rfl
  have f1 : w7.frozen? ⟨gr, 1, none⟩ = false := frozen_of_row w7 _ 1 _ _ hQw7
  have q2 : w7.cell? ⟨gr, 2, none⟩ = some (.int .i64 0) := by rw [cell_of_row w7 _ 2 _ _ (0, 0) hQw7]; rfl
  have f2 : w7.frozen? ⟨gr, 2, none⟩ = false := frozen_of_row w7 _ 2 _ _ hQw7
  have q3 : w7.cell? ⟨gr, 3, none⟩ = some (.int .i64 0) := by rw [cell_of_row w7 _ 3 _ _ (0, 0) hQw7]; rfl
  have f3 : w7.frozen? ⟨gr, 3, none⟩ = false := frozen_of_row w7 _ 3 _ _ hQw7
  clear hrw5 hQw5 hbw5 b6 b7 b67 hT6 hT7 hl6
  by_cases hp : TaskP ((k : Int), n, (r : Int), (t : Int))
  · rw [show tkV ((k : Int), n, (r : Int), (t : Int)) = 0 by unfold tkV; rw [if_pos hp]]
    by_cases he : endF r4 e4 = true
    · have HR := hid (show taskF l = some ((k : Int), n, (r : Int), (t : Int)) by rw [hF, if_pos ⟨hp, he⟩])
      have HE := he
      clear hp he hF
      go_wp2_with fail
      refine (end_any g r4 e4 w7 hrw7).mono ?_
      rintro _ w9 ⟨rfl, hw9⟩
      rw [hw9, HE]
      clear hw9 w9
      go_wp2_with fail
      refine bodyPost_ret (v := .tuple #[.agg #[.int .i64 k, .string ⟨n.toArray⟩, .int .i64 r, .int .i64 t], .int .i64 0]) ?_ rfl ⟨((k : Int), n, (r : Int), (t : Int)), 0, rfl, At.below hbw7 (((((At.refl gr w7).set 0 _).set 1 _).set 2 _).set 3 _ : At gr w7 ((((w7.setCell ⟨gr, 0, none⟩ (.int .i64 k)).setCell ⟨gr, 1, none⟩ (.string ⟨n.toArray⟩)).setCell ⟨gr, 2, none⟩ (.int .i64 r)).setCell ⟨gr, 3, none⟩ (.int .i64 t))) n2.2, .inl ⟨HR.out, rfl⟩⟩
      rw [results_cell_tmp rfl]
      go_simp
    · have HR := hid (show taskF l = none by rw [hF, if_neg (fun q => he q.2)])
      have HE : endF r4 e4 = false := by simpa using he
      clear hp he hF
      go_wp2_with fail
      refine (end_any g r4 e4 w7 hrw7).mono ?_
      rintro _ w9 ⟨rfl, hw9⟩
      rw [hw9, HE]
      clear hw9 w9
      go_wp2_with fail
      refine bodyPost_ret (v := .tuple #[.agg #[.int .i64 0, .string ⟨#[]⟩, .int .i64 0, .int .i64 0], .int .i64 60]) ?_ rfl ⟨(0, [], 0, 0), 60, rfl, At.below hbw7 (((((At.refl gr w7).set 0 _).set 1 _).set 2 _).set 3 _ : At gr w7 ((((w7.setCell ⟨gr, 0, none⟩ (.int .i64 0)).setCell ⟨gr, 1, none⟩ (.string ⟨#[]⟩)).setCell ⟨gr, 2, none⟩ (.int .i64 0)).setCell ⟨gr, 3, none⟩ (.int .i64 0))) n2.2, .inr ⟨HR.out, rfl, rfl⟩⟩
      rw [results_cell_tmp rfl]
      go_simp
  · rw [show tkV ((k : Int), n, (r : Int), (t : Int)) = 1 by unfold tkV; rw [if_neg hp]]
    have HR := hid (show taskF l = none by rw [hF, if_neg (fun q => hp q.1)])
    clear hp hF
    go_wp2_with fail
    refine bodyPost_ret (v := .tuple #[.agg #[.int .i64 0, .string ⟨#[]⟩, .int .i64 0, .int .i64 0], .int .i64 60]) ?_ rfl ⟨(0, [], 0, 0), 60, rfl, At.below hbw7 (((((At.refl gr w7).set 0 _).set 1 _).set 2 _).set 3 _ : At gr w7 ((((w7.setCell ⟨gr, 0, none⟩ (.int .i64 0)).setCell ⟨gr, 1, none⟩ (.string ⟨#[]⟩)).setCell ⟨gr, 2, none⟩ (.int .i64 0)).setCell ⟨gr, 3, none⟩ (.int .i64 0))) n2.2, .inr ⟨HR.out, rfl, rfl⟩⟩
    rw [results_cell_tmp rfl]
    go_simp
end Go.Proofs.Ytelacmchofehcaa
