/- CONTRACTS: rows.Flowing; the reference's Flowing. -/
import Derived.Test.YtpocpklmiajoiaaRowHolder
namespace Go.Proofs.Ytpocpklmiajoiaa
open Go.RowKit
set_option linter.unusedVariables false

theorem results_tmp4 {fn : Func} {t u v x : Tmp} (h : fn.results = #[.tmp t, .tmp u, .tmp v, .tmp x]) (tmps : Array Value) (P : Program) (w : World) :
    (results fn tmps).run P w = .ok (.tuple #[tmps.getD t undef, tmps.getD u undef, tmps.getD v undef, tmps.getD x undef]) w := by
  simp [results, h]
theorem one_beq (k : Nat) : ((k : Int) == 1) = (k == 1) := by
  by_cases h : k = 1
  · subst h; rfl
  · rw [beq_eq_false_iff_ne.2 h, beq_eq_false_iff_ne.2 (show (k : Int) ≠ 1 by omega)]
def mV (s n : Int) (k : Bool) : Value := .agg #[.int .i64 s, .int .i64 n, .bool k]
set_option maxHeartbeats 1600000 in
set_option maxRecDepth 100000 in
theorem flowing_any (l : List UInt8) (hl : l.length ≤ 140737488355328) (w : World) :
    Calls Try.prog 26 #[.string ⟨l.toArray⟩] w fun e w' => ∃ (s n : Nat) (k : Bool) (er : Int), e = .returned (.tuple #[mV s n k, .int .i64 er]) ∧ Below w.heap.size w w' ∧ ((flowF l = some (s, n, k) ∧ er = 0) ∨ (flowF l = none ∧ er = 60 ∧ s = 0 ∧ n = 0 ∧ k = false)) := by
  go_enter Try.func26, Try.ntmps26
  go_wp2_with fail
  obtain ⟨w0, hw0⟩ : ∃ w0, w0 = w.alloc (.cells #[.int .i64 0, .int .i64 0, .bool false] 54) := ⟨_, rfl⟩
  rw [← hw0]
  have hQ0 : w0.heap[w.heap.size]? = some (.cells #[.int .i64 0, .int .i64 0, .bool false] 54 (0, 0)) := by rw [hw0]; exact heap_alloc_new w _
  have b0 : Below w.heap.size w w0 := by rw [hw0]; exact (Below.refl _ _).alloc (Nat.le_refl _) _
  have l0 : w.heap.size < w0.heap.size := (Array.getElem?_eq_some_iff.1 hQ0).1
  clear hw0
  refine (read_any l w0).mono ?_
  rintro _ w1 ⟨rfl, hw1⟩
  have hrw1 : Rdr w1 w0.heap.size l false := by rw [hw1]; exact read_rdr l w0
  have b1 : Below w0.heap.size w0 w1 := by rw [hw1]; exact (Below.refl _ _).alloc (Nat.le_refl _) _
  clear hw1
  obtain ⟨g, hg⟩ : ∃ g, g = w0.heap.size := ⟨_, rfl⟩
  obtain ⟨gr, hgr⟩ : ∃ gr, gr = w.heap.size := ⟨_, rfl⟩
  have n1 : gr ≠ g := by omega
  have n2 : w.heap.size ≤ g ∧ w.heap.size ≤ gr := by have := b0.size; omega
  have hQw1 := (b1.block _ l0).trans hQ0
  have hbw1 := bnext b0 b1
  rw [← hg] at hrw1 ⊢
  rw [← hgr] at hQw1 ⊢
  clear hg hgr hQ0 b0 b1 l0
  go_wp2_with fail
  refine (int_any g l false 4 w1 hrw1 (by unfold maxLen; omega) (by omega) (by omega)).mono ?_
  rintro _ w2 ⟨rfl, hrw2, aw2⟩
  have hQw2 := (aw2.block gr (Array.getElem?_eq_some_iff.1 hQw1).1 (by simpa using n1)).trans hQw1
  have hbw2 := At.below hbw1 aw2 n2.1
  have hlw2 := intF_len l false 4
  obtain ⟨⟨s, r1, e1⟩, hxw2⟩ : ∃ x, intF l false 4 = x := ⟨_, rfl⟩
  rw [hxw2] at hrw2 hlw2 ⊢
  simp only at hrw2 hlw2 ⊢
  clear hrw1 hQw1 hbw1 aw2
  go_wp2_with fail
  refine (int_any g r1 e1 501 w2 hrw2 (by unfold maxLen; omega) (by omega) (by omega)).mono ?_
  rintro _ w3 ⟨rfl, hrw3, aw3⟩
  have hQw3 := (aw3.block gr (Array.getElem?_eq_some_iff.1 hQw2).1 (by simpa using n1)).trans hQw2
  have hbw3 := At.below hbw2 aw3 n2.1
  have hlw3 := intF_len r1 e1 501
  obtain ⟨⟨n, r2, e2⟩, hxw3⟩ : ∃ x, intF r1 e1 501 = x := ⟨_, rfl⟩
  rw [hxw3] at hrw3 hlw3 ⊢
  simp only at hrw3 hlw3 ⊢
  clear hrw2 hQw2 hbw2 aw3
  go_wp2_with fail
  refine (int_any g r2 e2 1 w3 hrw3 (by unfold maxLen; omega) (by omega) (by omega)).mono ?_
  rintro _ w4 ⟨rfl, hrw4, aw4⟩
  have hQw4 := (aw4.block gr (Array.getElem?_eq_some_iff.1 hQw3).1 (by simpa using n1)).trans hQw3
  have hbw4 := At.below hbw3 aw4 n2.1
  have hlw4 := intF_len r2 e2 1
  obtain ⟨⟨k, r3, e3⟩, hxw4⟩ : ∃ x, intF r2 e2 1 = x := ⟨_, rfl⟩
  rw [hxw4] at hrw4 hlw4 ⊢
  simp only at hrw4 hlw4 ⊢
  clear hrw3 hQw3 hbw3 aw4
  go_wp2_with fail
  have hF : flowF l = (if endF r3 e3 = true ∧ 2 ≤ n then some (s, n, (k == 1)) else none) := by
    unfold flowF flowG
    simp only [rdI, hxw2, hxw3, hxw4]
  clear hxw2 hxw3 hxw4 hlw2 hlw3 hlw4
  rw [one_beq k]
  generalize (k == 1) = kb at *
  obtain ⟨w5, hw5⟩ : ∃ w5, w5 = w4.alloc (.cells #[.int .i64 s, .int .i64 n, .bool kb] 54) := ⟨_, rfl⟩
  rw [← hw5]
  have b5 : Below w4.heap.size w4 w5 := by rw [hw5]; exact (Below.refl _ _).alloc (Nat.le_refl _) _
  have hT5 : w5.heap[w4.heap.size]? = some (.cells #[.int .i64 s, .int .i64 n, .bool kb] 54 (0, 0)) := by rw [hw5]; exact heap_alloc_new w4 _
  clear hw5
  have hrw5 := hrw4.keep b5
  have hQw5 := (b5.block _ (Array.getElem?_eq_some_iff.1 hQw4).1).trans hQw4
  have hbw5 := bnext hbw4 b5
  clear hrw4 hQw4 hbw4 b5
  refine (end_any g r3 e3 w5 hrw5).mono ?_
  rintro _ w6 ⟨rfl, hw6⟩
  rw [hw6]
  clear hw6 w6
  obtain ⟨w6, hw6⟩ : ∃ w6, w6 = w5 := ⟨_, rfl⟩
  rw [← hw6] at hT5 hQw5 hbw5 ⊢
  clear hw6 hrw5
  have hbw6 := hbw5
  have x0 : w6.cell? ⟨w4.heap.size, 0, none⟩ = some (.int .i64 s) := by rw [cell_of_row w6 _ 0 _ _ (0, 0) hT5]; rfl
  have x1 : w6.cell? ⟨w4.heap.size, 1, none⟩ = some (.int .i64 n) := by rw [cell_of_row w6 _ 1 _ _ (0, 0) hT5]; rfl
  have x2 : w6.cell? ⟨w4.heap.size, 2, none⟩ = some (.bool kb) := by rw [cell_of_row w6 _ 2 _ _ (0, 0) hT5]; rfl
  have q0 : w6.cell? ⟨gr, 0, none⟩ = some (.int .i64 0) := by rw [cell_of_row w6 _ 0 _ _ (0, 0) hQw5]; rfl
  have f0 : w6.frozen? ⟨gr, 0, none⟩ = false := frozen_of_row w6 _ 0 _ _ hQw5
  have q1 : w6.cell? ⟨gr, 1, none⟩ = some (.int .i64 0) := by rw [cell_of_row w6 _ 1 _ _ (0, 0) hQw5]; rfl
  have f1 : w6.frozen? ⟨gr, 1, none⟩ = false := frozen_of_row w6 _ 1 _ _ hQw5
  have q2 : w6.cell? ⟨gr, 2, none⟩ = some (.bool false) := by rw [cell_of_row w6 _ 2 _ _ (0, 0) hQw5]; rfl
  have f2 : w6.frozen? ⟨gr, 2, none⟩ = false := frozen_of_row w6 _ 2 _ _ hQw5
  clear hQw5 hT5 hbw5
  by_cases he : endF r3 e3 = true
  · rw [he]
    by_cases hn : 2 ≤ n
    · have HR := hid (show flowF l = some (s, n, kb) by rw [hF, if_pos ⟨he, hn⟩])
      clear he hF
      go_wp2_with fail
      refine bodyPost_ret (v := .tuple #[.agg #[.int .i64 s, .int .i64 n, .bool kb], .int .i64 0]) ?_ rfl ⟨s, n, kb, 0, rfl, At.below hbw6 ((((At.refl gr w6).set 0 _).set 1 _).set 2 _ : At gr w6 (((w6.setCell ⟨gr, 0, none⟩ (.int .i64 s)).setCell ⟨gr, 1, none⟩ (.int .i64 n)).setCell ⟨gr, 2, none⟩ (.bool kb))) n2.2, .inl ⟨HR.out, rfl⟩⟩
      rw [results_cell_tmp rfl]
      go_simp
    · have HR := hid (show flowF l = none by rw [hF, if_neg (fun q => hn q.2)])
      clear he hF
      go_wp2_with fail
      refine bodyPost_ret (v := .tuple #[.agg #[.int .i64 0, .int .i64 0, .bool false], .int .i64 60]) ?_ rfl ⟨0, 0, false, 60, rfl, At.below hbw6 ((((At.refl gr w6).set 0 _).set 1 _).set 2 _ : At gr w6 (((w6.setCell ⟨gr, 0, none⟩ (.int .i64 0)).setCell ⟨gr, 1, none⟩ (.int .i64 0)).setCell ⟨gr, 2, none⟩ (.bool false))) n2.2, .inr ⟨HR.out, rfl, rfl, rfl, rfl⟩⟩
      rw [results_cell_tmp rfl]
      go_simp
  · have he' : endF r3 e3 = false := by simpa using he
    rw [he']
    have HR := hid (show flowF l = none by rw [hF, if_neg (fun q => he q.1)])
    clear he he' hF
    go_wp2_with fail
    refine bodyPost_ret (v := .tuple #[.agg #[.int .i64 0, .int .i64 0, .bool false], .int .i64 60]) ?_ rfl ⟨0, 0, false, 60, rfl, At.below hbw6 ((((At.refl gr w6).set 0 _).set 1 _).set 2 _ : At gr w6 (((w6.setCell ⟨gr, 0, none⟩ (.int .i64 0)).setCell ⟨gr, 1, none⟩ (.int .i64 0)).setCell ⟨gr, 2, none⟩ (.bool false))) n2.2, .inr ⟨HR.out, rfl, rfl, rfl, rfl⟩⟩
    rw [results_cell_tmp rfl]
    go_simp
theorem rflowing_any (l : List UInt8) (hl : l.length ≤ 140737488355328) (w : World) :
    Calls Try.prog 25 #[.string ⟨l.toArray⟩] w fun e w' => ∃ (s n : Nat) (k : Bool) (er : Int), e = .returned (.tuple #[.int .i64 s, .int .i64 n, .bool k, .int .i64 er]) ∧ Below w.heap.size w w' ∧ ((flowF l = some (s, n, k) ∧ er = 0) ∨ (flowF l = none ∧ er = 60 ∧ s = 0 ∧ n = 0 ∧ k = false)) := by
  go_enter Try.func25, Try.ntmps25
  go_wp2_with fail
  obtain ⟨w1, hw1⟩ : ∃ w1, w1 = w.alloc (.cells #[.string ⟨l.toArray⟩, .bool false] 76) := ⟨_, rfl⟩
  rw [← hw1]
  have hrw1 : RRdr w1 w.heap.size l false := by rw [hw1]; exact Obj2.new _ _ _ _
  have hbw1 : Below w.heap.size w w1 := by rw [hw1]; exact (Below.refl _ _).alloc (Nat.le_refl _) _
  have snw1 : Sane l false := fun h => by cases h
  clear hw1
  obtain ⟨g, hg⟩ : ∃ g, g = w.heap.size := ⟨_, rfl⟩
  have n2 : w.heap.size ≤ g := by omega
  rw [← hg] at hrw1 ⊢
  clear hg
  refine (rint_any_r g l false 4 w1 hrw1 snw1 (by unfold maxLen; omega) (by omega) (by omega)).mono ?_
  rintro _ w2 ⟨rfl, hrw2, aw2⟩
  have hbw2 := At.below hbw1 aw2 n2
  have hlw2 := intF_len l false 4
  have snw2 : Sane (intF l false 4).2.1 (intF l false 4).2.2 := sane_intF (4) snw1
  obtain ⟨⟨s, r1, e1⟩, hxw2⟩ : ∃ x, intF l false 4 = x := ⟨_, rfl⟩
  rw [hxw2] at hrw2 hlw2 snw2 ⊢
  simp only at hrw2 hlw2 snw2 ⊢
  clear hrw1 hbw1 snw1 aw2
  go_wp2_with fail
  refine (rint_any_r g r1 e1 501 w2 hrw2 snw2 (by unfold maxLen; omega) (by omega) (by omega)).mono ?_
  rintro _ w3 ⟨rfl, hrw3, aw3⟩
  have hbw3 := At.below hbw2 aw3 n2
  have hlw3 := intF_len r1 e1 501
  have snw3 : Sane (intF r1 e1 501).2.1 (intF r1 e1 501).2.2 := sane_intF (501) snw2
  obtain ⟨⟨n, r2, e2⟩, hxw3⟩ : ∃ x, intF r1 e1 501 = x := ⟨_, rfl⟩
  rw [hxw3] at hrw3 hlw3 snw3 ⊢
  simp only at hrw3 hlw3 snw3 ⊢
  clear hrw2 hbw2 snw2 aw3
  go_wp2_with fail
  refine (rint_any_r g r2 e2 1 w3 hrw3 snw3 (by unfold maxLen; omega) (by omega) (by omega)).mono ?_
  rintro _ w4 ⟨rfl, hrw4, aw4⟩
  have hbw4 := At.below hbw3 aw4 n2
  have hlw4 := intF_len r2 e2 1
  obtain ⟨⟨k, r3, e3⟩, hxw4⟩ : ∃ x, intF r2 e2 1 = x := ⟨_, rfl⟩
  rw [hxw4] at hrw4 hlw4 ⊢
  simp only at hrw4 hlw4 ⊢
  clear hrw3 hbw3 snw3 aw4
  have hF : flowF l = (if endF r3 e3 = true ∧ 2 ≤ n then some (s, n, (k == 1)) else none) := by
    unfold flowF flowG
    simp only [rdI, hxw2, hxw3, hxw4]
  clear hxw2 hxw3 hxw4 hlw2 hlw3 hlw4
  go_wp2_with fail
  refine (rend_any g r3 e3 w4 hrw4).mono ?_
  rintro _ w9 ⟨rfl, hw9⟩
  rw [hw9]
  clear hw9 w9
  by_cases he : endF r3 e3 = true
  · rw [he]
    by_cases hn : 2 ≤ n
    · have HR := hid (show flowF l = some (s, n, (k == 1)) by rw [hF, if_pos ⟨he, hn⟩])
      clear he hF
      rw [← one_beq] at HR
      go_wp2_with fail
      refine bodyPost_ret (results_tmp4 rfl _ _ _) rfl ⟨s, n, _, 0, rfl, hbw4, .inl ⟨HR.out, rfl⟩⟩
    · have HR := hid (show flowF l = none by rw [hF, if_neg (fun q => hn q.2)])
      clear he hF
      go_wp2_with fail
      refine bodyPost_ret (results_tmp4 rfl _ _ _) rfl ⟨0, 0, false, 60, rfl, hbw4, .inr ⟨HR.out, rfl, rfl, rfl, rfl⟩⟩
  · have he' : endF r3 e3 = false := by simpa using he
    rw [he']
    have HR := hid (show flowF l = none by rw [hF, if_neg (fun q => he q.1)])
    clear he he' hF
    go_wp2_with fail
    refine bodyPost_ret (results_tmp4 rfl _ _ _) rfl ⟨0, 0, false, 60, rfl, hbw4, .inr ⟨HR.out, rfl, rfl, rfl, rfl⟩⟩
end Go.Proofs.Ytpocpklmiajoiaa
