/- CONTRACT: the reference's Tasked. -/
import Derived.Test.YtpocpklmiajoiaaRowTasked
namespace Go.Proofs.Ytpocpklmiajoiaa
open Go.RowKit
set_option linter.unusedVariables false

set_option maxHeartbeats 1600000 in
set_option maxRecDepth 100000 in
theorem rtasked_any (l : List UInt8) (hl : l.length ≤ 140737488355328) (w : World) :
    Calls Try.prog 20 #[.string ⟨l.toArray⟩] w fun e w' => ∃ (x : Tk) (er : Int), e = .returned (.tuple #[tkV' x, .int .i64 er]) ∧ Below w.heap.size w w' ∧ ((rtaskF l = some x ∧ er = 0) ∨ (rtaskF l = none ∧ er = 60 ∧ x = (0, [], 0, 0))) := by
  go_enter Try.func20, Try.ntmps20
  go_wp2_with fail
  obtain ⟨w1, hw1⟩ : ∃ w1, w1 = ((w.alloc (.cells #[.int .i64 0, .string ⟨#[]⟩, .int .i64 0, .int .i64 0] 33)).alloc (.cells #[.string ⟨l.toArray⟩, .bool false] 76)).alloc (.cells #[.int .i64 0, .string ⟨#[]⟩, .int .i64 0, .int .i64 0] 33) := ⟨_, rfl⟩
  rw [← hw1]
  have s1 : (w.alloc (.cells #[.int .i64 0, .string ⟨#[]⟩, .int .i64 0, .int .i64 0] 33)).heap.size = w.heap.size + 1 := Array.size_push ..
  have s2 : ((w.alloc (.cells #[.int .i64 0, .string ⟨#[]⟩, .int .i64 0, .int .i64 0] 33)).alloc (.cells #[.string ⟨l.toArray⟩, .bool false] 76)).heap.size = w.heap.size + 1 + 1 := by rw [← s1]; exact Array.size_push ..
  have b1 : Below w.heap.size w (w.alloc (.cells #[.int .i64 0, .string ⟨#[]⟩, .int .i64 0, .int .i64 0] 33)) := (Below.refl _ _).alloc (Nat.le_refl _) _
  have b2 : Below (w.alloc (.cells #[.int .i64 0, .string ⟨#[]⟩, .int .i64 0, .int .i64 0] 33)).heap.size (w.alloc (.cells #[.int .i64 0, .string ⟨#[]⟩, .int .i64 0, .int .i64 0] 33)) ((w.alloc (.cells #[.int .i64 0, .string ⟨#[]⟩, .int .i64 0, .int .i64 0] 33)).alloc (.cells #[.string ⟨l.toArray⟩, .bool false] 76)) := (Below.refl _ _).alloc (Nat.le_refl _) _
  have b3 : Below ((w.alloc (.cells #[.int .i64 0, .string ⟨#[]⟩, .int .i64 0, .int .i64 0] 33)).alloc (.cells #[.string ⟨l.toArray⟩, .bool false] 76)).heap.size ((w.alloc (.cells #[.int .i64 0, .string ⟨#[]⟩, .int .i64 0, .int .i64 0] 33)).alloc (.cells #[.string ⟨l.toArray⟩, .bool false] 76)) (((w.alloc (.cells #[.int .i64 0, .string ⟨#[]⟩, .int .i64 0, .int .i64 0] 33)).alloc (.cells #[.string ⟨l.toArray⟩, .bool false] 76)).alloc (.cells #[.int .i64 0, .string ⟨#[]⟩, .int .i64 0, .int .i64 0] 33)) := (Below.refl _ _).alloc (Nat.le_refl _) _
  have hbw1 : Below w.heap.size w w1 := by rw [hw1]; exact bnext (bnext b1 b2) b3
  have hQw1 : w1.heap[w.heap.size]? = some (.cells #[.int .i64 0, .string ⟨#[]⟩, .int .i64 0, .int .i64 0] 33 (0, 0)) := by
    rw [hw1]
    exact (b3.block _ (by omega)).trans ((b2.block _ (by omega)).trans (heap_alloc_new w _))
  have hrw1 : RRdr w1 (w.heap.size + 1) l false := by rw [hw1, ← s1]; exact (Obj2.new _ _ _ _).keep b3
  have hTw1 : w1.heap[w.heap.size + 1 + 1]? = some (.cells #[.int .i64 0, .string ⟨#[]⟩, .int .i64 0, .int .i64 0] 33 (0, 0)) := by rw [hw1, ← s2]; exact heap_alloc_new _ _
  have snw1 : Sane l false := fun h => by cases h
  clear hw1 s1 s2 b1 b2 b3
  obtain ⟨g, hg⟩ : ∃ g, g = w.heap.size + 1 := ⟨_, rfl⟩
  obtain ⟨gt, hgt⟩ : ∃ gt, gt = w.heap.size + 1 + 1 := ⟨_, rfl⟩
  obtain ⟨gr, hgr⟩ : ∃ gr, gr = w.heap.size := ⟨_, rfl⟩
  have n1 : gr ≠ g := by omega
  have n3 : gt ≠ g := by omega
  have n4 : gr ≠ gt := by omega
  have n2 : w.heap.size ≤ g ∧ w.heap.size ≤ gr ∧ w.heap.size ≤ gt := by omega
  rw [← hgt] at hTw1 ⊢
  rw [← hg] at hrw1 ⊢
  rw [← hgr] at hQw1 ⊢
  clear hg hgt hgr
  refine (rint_any_r g l false 100 w1 hrw1 snw1 (by unfold maxLen; omega) (by omega) (by omega)).mono ?_
  rintro _ w2 ⟨rfl, hrw2, aw2⟩
  have hQw2 := (aw2.block gr (Array.getElem?_eq_some_iff.1 hQw1).1 (by simpa using n1)).trans hQw1
  have hTw2 := (aw2.block gt (Array.getElem?_eq_some_iff.1 hTw1).1 (by simpa using n3)).trans hTw1
  have hbw2 := At.below hbw1 aw2 n2.1
  have hlw2 := intF_len l false 100
  have snw2 : Sane (intF l false 100).2.1 (intF l false 100).2.2 := sane_intF (100) snw1
  obtain ⟨⟨k, r1, e1⟩, hxw2⟩ : ∃ x, intF l false 100 = x := ⟨_, rfl⟩
  rw [hxw2] at hrw2 hlw2 snw2 ⊢
  simp only at hrw2 hlw2 snw2 ⊢
  clear hrw1 hQw1 hTw1 hbw1 snw1 aw2
  have z0 : w2.frozen? ⟨gt, 0, none⟩ = false := frozen_of_row w2 _ 0 _ _ hTw2
  have u0 : w2.cell? ⟨gt, 0, none⟩ = some (.int .i64 0) := by rw [cell_of_row w2 _ 0 _ _ (0, 0) hTw2]; rfl
  obtain ⟨w3, hww3⟩ : ∃ w3, w3 = w2.setCell ⟨gt, 0, none⟩ (.int .i64 k) := ⟨_, rfl⟩
  have aw3 : At gt w2 w3 := by rw [hww3]; exact (At.refl _ _).set 0 _
  have hrw3 := hrw2.grown aw3 (Ne.symm n3)
  have hQw3 := (aw3.block gr (Array.getElem?_eq_some_iff.1 hQw2).1 (by simpa using n4)).trans hQw2
  have hTw3 : w3.heap[gt]? = some (.cells #[.int .i64 k, .string ⟨#[]⟩, .int .i64 0, .int .i64 0] 33 (0, 0)) := by rw [hww3]; exact heap_setCell_same w2 gt 0 _ _ (.int .i64 k) hTw2
  have hbw3 := At.below hbw2 aw3 n2.2.2
  have snw3 := snw2
  have hXw3 : Hid (w3 = w2.setCell ⟨gt, 0, none⟩ (.int .i64 k)) := hww3
  clear hww3 aw3 hrw2 hQw2 hTw2 hbw2 snw2
  go_wp2_with (rw [← hXw3.out])
  clear z0 u0 hXw3
  refine (rtext_full g r1 e1 w3 hrw3 snw3 (by omega)).mono ?_
  rintro _ w4 ⟨rfl, hrw4, aw4⟩
  have hQw4 := (aw4.block gr (Array.getElem?_eq_some_iff.1 hQw3).1 (by simpa using n1)).trans hQw3
  have hTw4 := (aw4.block gt (Array.getElem?_eq_some_iff.1 hTw3).1 (by simpa using n3)).trans hTw3
  have hbw4 := At.below hbw3 aw4 n2.1
  have hlw4 := rtextF_len r1 e1
  have snw4 : Sane (rtextF r1 e1).2.1 (rtextF r1 e1).2.2 := sane_rtextF  snw3
  have hfw4 := rtextF_fst r1 e1
  obtain ⟨⟨n, r2, e2⟩, hxw4⟩ : ∃ x, rtextF r1 e1 = x := ⟨_, rfl⟩
  rw [hxw4] at hrw4 hlw4 snw4 hfw4 ⊢
  simp only at hrw4 hlw4 snw4 hfw4 ⊢
  clear hrw3 hQw3 hTw3 hbw3 snw3 aw4
  have z1 : w4.frozen? ⟨gt, 1, none⟩ = false := frozen_of_row w4 _ 1 _ _ hTw4
  have u1 : w4.cell? ⟨gt, 1, none⟩ = some (.string ⟨#[]⟩) := by rw [cell_of_row w4 _ 1 _ _ (0, 0) hTw4]; rfl
  obtain ⟨w5, hww5⟩ : ∃ w5, w5 = w4.setCell ⟨gt, 1, none⟩ (.string ⟨n.toArray⟩) := ⟨_, rfl⟩
  have aw5 : At gt w4 w5 := by rw [hww5]; exact (At.refl _ _).set 1 _
  have hrw5 := hrw4.grown aw5 (Ne.symm n3)
  have hQw5 := (aw5.block gr (Array.getElem?_eq_some_iff.1 hQw4).1 (by simpa using n4)).trans hQw4
  have hTw5 : w5.heap[gt]? = some (.cells #[.int .i64 k, .string ⟨n.toArray⟩, .int .i64 0, .int .i64 0] 33 (0, 0)) := by rw [hww5]; exact heap_setCell_same w4 gt 1 _ _ (.string ⟨n.toArray⟩) hTw4
  have hbw5 := At.below hbw4 aw5 n2.2.2
  have snw5 := snw4
  have hXw5 : Hid (w5 = w4.setCell ⟨gt, 1, none⟩ (.string ⟨n.toArray⟩)) := hww5
  clear hww5 aw5 hrw4 hQw4 hTw4 hbw4 snw4
  go_wp2_with (rw [← hXw5.out])
  clear z1 u1 hXw5
  refine (rint_any_r g r2 e2 1000 w5 hrw5 snw5 (by unfold maxLen; omega) (by omega) (by omega)).mono ?_
  rintro _ w6 ⟨rfl, hrw6, aw6⟩
  have hQw6 := (aw6.block gr (Array.getElem?_eq_some_iff.1 hQw5).1 (by simpa using n1)).trans hQw5
  have hTw6 := (aw6.block gt (Array.getElem?_eq_some_iff.1 hTw5).1 (by simpa using n3)).trans hTw5
  have hbw6 := At.below hbw5 aw6 n2.1
  have hlw6 := intF_len r2 e2 1000
  have snw6 : Sane (intF r2 e2 1000).2.1 (intF r2 e2 1000).2.2 := sane_intF (1000) snw5
  obtain ⟨⟨r, r3, e3⟩, hxw6⟩ : ∃ x, intF r2 e2 1000 = x := ⟨_, rfl⟩
  rw [hxw6] at hrw6 hlw6 snw6 ⊢
  simp only at hrw6 hlw6 snw6 ⊢
  clear hrw5 hQw5 hTw5 hbw5 snw5 aw6
  have z2 : w6.frozen? ⟨gt, 2, none⟩ = false := frozen_of_row w6 _ 2 _ _ hTw6
  have u2 : w6.cell? ⟨gt, 2, none⟩ = some (.int .i64 0) := by rw [cell_of_row w6 _ 2 _ _ (0, 0) hTw6]; rfl
  obtain ⟨w7, hww7⟩ : ∃ w7, w7 = w6.setCell ⟨gt, 2, none⟩ (.int .i64 r) := ⟨_, rfl⟩
  have aw7 : At gt w6 w7 := by rw [hww7]; exact (At.refl _ _).set 2 _
  have hrw7 := hrw6.grown aw7 (Ne.symm n3)
  have hQw7 := (aw7.block gr (Array.getElem?_eq_some_iff.1 hQw6).1 (by simpa using n4)).trans hQw6
  have hTw7 : w7.heap[gt]? = some (.cells #[.int .i64 k, .string ⟨n.toArray⟩, .int .i64 r, .int .i64 0] 33 (0, 0)) := by rw [hww7]; exact heap_setCell_same w6 gt 2 _ _ (.int .i64 r) hTw6
  have hbw7 := At.below hbw6 aw7 n2.2.2
  have snw7 := snw6
  have hXw7 : Hid (w7 = w6.setCell ⟨gt, 2, none⟩ (.int .i64 r)) := hww7
  clear hww7 aw7 hrw6 hQw6 hTw6 hbw6 snw6
  go_wp2_with (rw [← hXw7.out])
  clear z2 u2 hXw7
  refine (rint_any_r g r3 e3 100 w7 hrw7 snw7 (by unfold maxLen; omega) (by omega) (by omega)).mono ?_
  rintro _ w8 ⟨rfl, hrw8, aw8⟩
  have hQw8 := (aw8.block gr (Array.getElem?_eq_some_iff.1 hQw7).1 (by simpa using n1)).trans hQw7
  have hTw8 := (aw8.block gt (Array.getElem?_eq_some_iff.1 hTw7).1 (by simpa using n3)).trans hTw7
  have hbw8 := At.below hbw7 aw8 n2.1
  have hlw8 := intF_len r3 e3 100
  have snw8 : Sane (intF r3 e3 100).2.1 (intF r3 e3 100).2.2 := sane_intF (100) snw7
  obtain ⟨⟨t, r4, e4⟩, hxw8⟩ : ∃ x, intF r3 e3 100 = x := ⟨_, rfl⟩
  rw [hxw8] at hrw8 hlw8 snw8 ⊢
  simp only at hrw8 hlw8 snw8 ⊢
  clear hrw7 hQw7 hTw7 hbw7 snw7 aw8
  have z3 : w8.frozen? ⟨gt, 3, none⟩ = false := frozen_of_row w8 _ 3 _ _ hTw8
  have u3 : w8.cell? ⟨gt, 3, none⟩ = some (.int .i64 0) := by rw [cell_of_row w8 _ 3 _ _ (0, 0) hTw8]; rfl
  obtain ⟨w9, hww9⟩ : ∃ w9, w9 = w8.setCell ⟨gt, 3, none⟩ (.int .i64 t) := ⟨_, rfl⟩
  have aw9 : At gt w8 w9 := by rw [hww9]; exact (At.refl _ _).set 3 _
  have hrw9 := hrw8.grown aw9 (Ne.symm n3)
  have hQw9 := (aw9.block gr (Array.getElem?_eq_some_iff.1 hQw8).1 (by simpa using n4)).trans hQw8
  have hTw9 : w9.heap[gt]? = some (.cells #[.int .i64 k, .string ⟨n.toArray⟩, .int .i64 r, .int .i64 t] 33 (0, 0)) := by rw [hww9]; exact heap_setCell_same w8 gt 3 _ _ (.int .i64 t) hTw8
  have hbw9 := At.below hbw8 aw9 n2.2.2
  have snw9 := snw8
  have hXw9 : Hid (w9 = w8.setCell ⟨gt, 3, none⟩ (.int .i64 t)) := hww9
  clear hww9 aw9 hrw8 hQw8 hTw8 hbw8 snw8
  have x0 : w9.cell? ⟨gt, 0, none⟩ = some (.int .i64 k) := by rw [cell_of_row w9 _ 0 _ _ (0, 0) hTw9]; rfl
  have x1 : w9.cell? ⟨gt, 1, none⟩ = some (.string ⟨n.toArray⟩) := by rw [cell_of_row w9 _ 1 _ _ (0, 0) hTw9]; rfl
  have x2 : w9.cell? ⟨gt, 2, none⟩ = some (.int .i64 r) := by rw [cell_of_row w9 _ 2 _ _ (0, 0) hTw9]; rfl
  have x3 : w9.cell? ⟨gt, 3, none⟩ = some (.int .i64 t) := by rw [cell_of_row w9 _ 3 _ _ (0, 0) hTw9]; rfl
  go_wp2_with (rw [← hXw9.out])
  clear z3 u3 hXw9
  have hG : taskG tx2 100 1000 100 (l, false) = ((((k : Int), n, (r : Int), (t : Int)) : Tk), r4, e4) := by
    simp only [taskG, rdI, tx2, hxw2, hxw4, hxw6, hxw8]
  have hF : rtaskF l = (if TaskP ((k : Int), n, (r : Int), (t : Int)) ∧ endF r4 e4 = true ∧ encT ((k : Int), n, (r : Int), (t : Int)) = l then some ((k : Int), n, (r : Int), (t : Int)) else none) := by
    unfold rtaskF
    rw [hG]
  have hnm : n.length ≤ maxLen := by unfold maxLen; omega
  clear hG hxw2 hxw4 hxw6 hxw8 hlw2 hlw4 hlw6 hlw8 hfw4
  refine (rtask_any (k : Int) n (r : Int) (t : Int) hnm w9).mono ?_
  rintro _ w10 ⟨rfl, b10⟩
  have hrw10 := hrw9.keep b10
  have hQw10 := (b10.block _ (Array.getElem?_eq_some_iff.1 hQw9).1).trans hQw9
  have hTw10 := (b10.block _ (Array.getElem?_eq_some_iff.1 hTw9).1).trans hTw9
  have hbw10 := bnext hbw9 b10
  clear x0 x1 x2 x3
  have x0 : w10.cell? ⟨gt, 0, none⟩ = some (.int .i64 k) := by rw [cell_of_row w10 _ 0 _ _ (0, 0) hTw10]; rfl
  have x1 : w10.cell? ⟨gt, 1, none⟩ = some (.string ⟨n.toArray⟩) := by rw [cell_of_row w10 _ 1 _ _ (0, 0) hTw10]; rfl
  have x2 : w10.cell? ⟨gt, 2, none⟩ = some (.int .i64 r) := by rw [cell_of_row w10 _ 2 _ _ (0, 0) hTw10]; rfl
  have x3 : w10.cell? ⟨gt, 3, none⟩ = some (.int .i64 t) := by rw [cell_of_row w10 _ 3 _ _ (0, 0) hTw10]; rfl
  have q0 : w10.cell? ⟨gr, 0, none⟩ = some (.int .i64 0) := by rw [cell_of_row w10 _ 0 _ _ (0, 0) hQw10]; rfl
  have f0 : w10.frozen? ⟨gr, 0, none⟩ = false := frozen_of_row w10 _ 0 _ _ hQw10
  have q1 : w10.cell? ⟨gr, 1, none⟩ = some (.string ⟨#[]⟩) := by rw [cell_of_row w10 _ 1 _ _ (0, 0) hQw10]; rfl
  have f1 : w10.frozen? ⟨gr, 1, none⟩ = false := frozen_of_row w10 _ 1 _ _ hQw10
  have q2 : w10.cell? ⟨gr, 2, none⟩ = some (.int .i64 0) := by rw [cell_of_row w10 _ 2 _ _ (0, 0) hQw10]; rfl
  have f2 : w10.frozen? ⟨gr, 2, none⟩ = false := frozen_of_row w10 _ 2 _ _ hQw10
  have q3 : w10.cell? ⟨gr, 3, none⟩ = some (.int .i64 0) := by rw [cell_of_row w10 _ 3 _ _ (0, 0) hQw10]; rfl
  have f3 : w10.frozen? ⟨gr, 3, none⟩ = false := frozen_of_row w10 _ 3 _ _ hQw10
  clear hrw9 hQw9 hTw9 hbw9 b10
  by_cases hp : TaskP ((k : Int), n, (r : Int), (t : Int))
  · rw [show tkV ((k : Int), n, (r : Int), (t : Int)) = 0 by unfold tkV; rw [if_pos hp], show encTV ((k : Int), n, (r : Int), (t : Int)) = encT ((k : Int), n, (r : Int), (t : Int)) by unfold encTV; rw [if_pos hp]]
    by_cases he : endF r4 e4 = true
    · by_cases hs : encT ((k : Int), n, (r : Int), (t : Int)) = l
      · have HR := hid (show rtaskF l = some ((k : Int), n, (r : Int), (t : Int)) by rw [hF, if_pos ⟨hp, he, hs⟩])
        have HE := he
        rw [hs]
        clear hp he hF hs
        go_wp2_with fail
        refine (rend_any g r4 e4 w10 hrw10).mono ?_
        rintro _ w11 ⟨rfl, hw11⟩
        rw [hw11, HE]
        clear hw11 w11
        go_wp2_with fail
        refine bodyPost_ret (v := .tuple #[.agg #[.int .i64 k, .string ⟨n.toArray⟩, .int .i64 r, .int .i64 t], .int .i64 0]) ?_ rfl ⟨((k : Int), n, (r : Int), (t : Int)), 0, rfl, At.below hbw10 (((((At.refl gr w10).set 0 _).set 1 _).set 2 _).set 3 _ : At gr w10 ((((w10.setCell ⟨gr, 0, none⟩ (.int .i64 k)).setCell ⟨gr, 1, none⟩ (.string ⟨n.toArray⟩)).setCell ⟨gr, 2, none⟩ (.int .i64 r)).setCell ⟨gr, 3, none⟩ (.int .i64 t))) n2.2.1, .inl ⟨HR.out, rfl⟩⟩
        rw [results_cell_tmp rfl]
        go_simp
      · have HR := hid (show rtaskF l = none by rw [hF, if_neg (fun q => hs q.2.2)])
        have HE := he
        have hs' : (encT ((k : Int), n, (r : Int), (t : Int)) == l) = false := by simpa using hs
        generalize encT ((k : Int), n, (r : Int), (t : Int)) = E at *
        clear hp he hF hs
        go_wp2_with fail
        refine (rend_any g r4 e4 w10 hrw10).mono ?_
        rintro _ w11 ⟨rfl, hw11⟩
        rw [hw11, HE]
        clear hw11 w11
        go_wp2_with fail
        refine bodyPost_ret (v := .tuple #[.agg #[.int .i64 0, .string ⟨#[]⟩, .int .i64 0, .int .i64 0], .int .i64 60]) ?_ rfl ⟨(0, [], 0, 0), 60, rfl, At.below hbw10 (((((At.refl gr w10).set 0 _).set 1 _).set 2 _).set 3 _ : At gr w10 ((((w10.setCell ⟨gr, 0, none⟩ (.int .i64 0)).setCell ⟨gr, 1, none⟩ (.string ⟨#[]⟩)).setCell ⟨gr, 2, none⟩ (.int .i64 0)).setCell ⟨gr, 3, none⟩ (.int .i64 0))) n2.2.1, .inr ⟨HR.out, rfl, rfl⟩⟩
        rw [results_cell_tmp rfl]
        go_simp
    · have HR := hid (show rtaskF l = none by rw [hF, if_neg (fun q => he q.2.1)])
      have HE : endF r4 e4 = false := by simpa using he
      clear hp he hF
      go_wp2_with fail
      refine (rend_any g r4 e4 w10 hrw10).mono ?_
      rintro _ w11 ⟨rfl, hw11⟩
      rw [hw11, HE]
      clear hw11 w11
      go_wp2_with fail
      refine bodyPost_ret (v := .tuple #[.agg #[.int .i64 0, .string ⟨#[]⟩, .int .i64 0, .int .i64 0], .int .i64 60]) ?_ rfl ⟨(0, [], 0, 0), 60, rfl, At.below hbw10 (((((At.refl gr w10).set 0 _).set 1 _).set 2 _).set 3 _ : At gr w10 ((((w10.setCell ⟨gr, 0, none⟩ (.int .i64 0)).setCell ⟨gr, 1, none⟩ (.string ⟨#[]⟩)).setCell ⟨gr, 2, none⟩ (.int .i64 0)).setCell ⟨gr, 3, none⟩ (.int .i64 0))) n2.2.1, .inr ⟨HR.out, rfl, rfl⟩⟩
      rw [results_cell_tmp rfl]
      go_simp
  · rw [show tkV ((k : Int), n, (r : Int), (t : Int)) = 1 by unfold tkV; rw [if_neg hp]]
    have HR := hid (show rtaskF l = none by rw [hF, if_neg (fun q => hp q.1)])
    clear hp hF
    go_wp2_with fail
    refine bodyPost_ret (v := .tuple #[.agg #[.int .i64 0, .string ⟨#[]⟩, .int .i64 0, .int .i64 0], .int .i64 60]) ?_ rfl ⟨(0, [], 0, 0), 60, rfl, At.below hbw10 (((((At.refl gr w10).set 0 _).set 1 _).set 2 _).set 3 _ : At gr w10 ((((w10.setCell ⟨gr, 0, none⟩ (.int .i64 0)).setCell ⟨gr, 1, none⟩ (.string ⟨#[]⟩)).setCell ⟨gr, 2, none⟩ (.int .i64 0)).setCell ⟨gr, 3, none⟩ (.int .i64 0))) n2.2.1, .inr ⟨HR.out, rfl, rfl⟩⟩
    rw [results_cell_tmp rfl]
    go_simp
end Go.Proofs.Ytpocpklmiajoiaa
