/- CONTRACTS: rows.Holder; the reference's Holder. -/
import Derived.Test.YtpocpklmiajoiaaRowRTasked
import Derived.OwnWalk
namespace Go.Proofs.Ytpocpklmiajoiaa
open Go.RowKit
set_option linter.unusedVariables false

set_option maxHeartbeats 1600000 in
set_option maxRecDepth 100000 in
theorem holder_any (l : List UInt8) (hl : l.length ≤ 140737488355328) (w : World) :
    Calls Try.prog 23 #[.string ⟨l.toArray⟩] w fun e w' => ∃ (n : Int) (h : List UInt8) (er : Int), e = .returned (.tuple #[.int .i64 n, .string ⟨h.toArray⟩, .int .i64 er]) ∧ Below w.heap.size w w' ∧ ((heldF l = some (n, h) ∧ er = 0) ∨ (heldF l = none ∧ er = 60 ∧ n = 0 ∧ h = [])) := by
  go_enter Try.func23, Try.ntmps23
  go_wp2_with fail
  refine (read_any l w).mono ?_
  rintro _ w1 ⟨rfl, hw1⟩
  have hrw1 : Rdr w1 w.heap.size l false := by rw [hw1]; exact read_rdr l w
  have hbw1 : Below w.heap.size w w1 := by rw [hw1]; exact (Below.refl _ _).alloc (Nat.le_refl _) _
  clear hw1
  obtain ⟨g, hg⟩ : ∃ g, g = w.heap.size := ⟨_, rfl⟩
  have n2 : w.heap.size ≤ g := by omega
  rw [← hg] at hrw1 ⊢
  clear hg
  go_wp2_with fail
  refine (int_any g l false 2147483647 w1 hrw1 (by unfold maxLen; omega) (by omega) (by omega)).mono ?_
  rintro _ w2 ⟨rfl, hrw2, aw2⟩
  have hbw2 := At.below hbw1 aw2 n2
  have hlw2 := intF_len l false 2147483647
  obtain ⟨⟨k, r1, e1⟩, hxw2⟩ : ∃ x, intF l false 2147483647 = x := ⟨_, rfl⟩
  rw [hxw2] at hrw2 hlw2 ⊢
  simp only at hrw2 hlw2 ⊢
  clear hrw1 hbw1 aw2
  go_wp2_with fail
  refine (text_any_r g r1 e1 w2 hrw2 (by unfold maxLen; omega)).mono ?_
  rintro _ w3 ⟨rfl, hrw3, aw3⟩
  have hbw3 := At.below hbw2 aw3 n2
  have hlw3 := textF_len r1 e1
  have hfw3 := textF_fst r1 e1
  obtain ⟨⟨n, r2, e2⟩, hxw3⟩ : ∃ x, textF r1 e1 = x := ⟨_, rfl⟩
  rw [hxw3] at hrw3 hlw3 hfw3 ⊢
  simp only at hrw3 hlw3 hfw3 ⊢
  clear hrw2 hbw2 aw3
  go_wp2_with fail
  have hF : heldF l = (if HeldP (k : Int) n ∧ endF r2 e2 = true then some ((k : Int), n) else none) := by
    unfold heldF heldG
    simp only [rdI, tx1, hxw2, hxw3]
  have hnm : n.length ≤ maxLen := by unfold maxLen; omega
  clear hxw2 hxw3 hlw2 hlw3 hfw3
  refine (held_any (k : Int) n hnm w3).mono ?_
  rintro _ w4 ⟨rfl, b4⟩
  have hrw4 := hrw3.keep b4
  have hbw4 := bnext hbw3 b4
  clear hrw3 hbw3 b4
  by_cases hp : HeldP (k : Int) n
  · rw [show hdV (k : Int) n = 0 by unfold hdV; rw [if_pos hp]]
    by_cases he : endF r2 e2 = true
    · have HR := hid (show heldF l = some ((k : Int), n) by rw [hF, if_pos ⟨hp, he⟩])
      have HE := he
      clear hp he hF
      go_wp2_with fail
      refine (end_any g r2 e2 w4 hrw4).mono ?_
      rintro _ w9 ⟨rfl, hw9⟩
      rw [hw9, HE]
      clear hw9 w9
      go_wp2_with fail
      go_ret3
      exact ⟨k, n, 0, rfl, hbw4, .inl ⟨HR.out, rfl⟩⟩
    · have HR := hid (show heldF l = none by rw [hF, if_neg (fun q => he q.2)])
      have HE : endF r2 e2 = false := by simpa using he
      clear hp he hF
      go_wp2_with fail
      refine (end_any g r2 e2 w4 hrw4).mono ?_
      rintro _ w9 ⟨rfl, hw9⟩
      rw [hw9, HE]
      clear hw9 w9
      go_wp2_with fail
      go_ret3
      exact ⟨0, [], 60, rfl, hbw4, .inr ⟨HR.out, rfl, rfl, rfl⟩⟩
  · rw [show hdV (k : Int) n = 1 by unfold hdV; rw [if_neg hp]]
    have HR := hid (show heldF l = none by rw [hF, if_neg (fun q => hp q.1)])
    clear hp hF
    go_wp2_with fail
    go_ret3
    exact ⟨0, [], 60, rfl, hbw4, .inr ⟨HR.out, rfl, rfl, rfl⟩⟩

set_option maxHeartbeats 1600000 in
set_option maxRecDepth 100000 in
theorem rholder_any (l : List UInt8) (hl : l.length ≤ 140737488355328) (w : World) :
    Calls Try.prog 24 #[.string ⟨l.toArray⟩] w fun e w' => ∃ (n : Int) (h : List UInt8) (er : Int), e = .returned (.tuple #[.int .i64 n, .string ⟨h.toArray⟩, .int .i64 er]) ∧ Below w.heap.size w w' ∧ ((rheldF l = some (n, h) ∧ er = 0) ∨ (rheldF l = none ∧ er = 60 ∧ n = 0 ∧ h = [])) := by
  go_enter Try.func24, Try.ntmps24
  go_wp2_with fail
  obtain ⟨w1, hw1⟩ : ∃ w1, w1 = w.alloc (.cells #[.string ⟨l.toArray⟩, .bool false] 76) := ⟨_, rfl⟩
  rw [← hw1]
  have hrw1 : RRdr w1 w.heap.size l false := by rw [hw1]; exact Obj2.new _ _ _ _
  have hbw1 : Below w.heap.size w w1 := by rw [hw1]; exact (Below.refl _ _).alloc (Nat.le_refl _) _
  have snw1 : Sane l false := fun h => by cases h
  clear hw1
  obtain ⟨g, hg⟩ : ∃ g, g = w.heap.size := ⟨_, rfl⟩
  have n2 : w.heap.size ≤ g := by omega
  rw [← hg] at hrw1 ⊢
  clear hg
  refine (rint_any_r g l false 1099511627776 w1 hrw1 snw1 (by unfold maxLen; omega) (by omega) (by omega)).mono ?_
  rintro _ w2 ⟨rfl, hrw2, aw2⟩
  have hbw2 := At.below hbw1 aw2 n2
  have hlw2 := intF_len l false 1099511627776
  have snw2 : Sane (intF l false 1099511627776).2.1 (intF l false 1099511627776).2.2 := sane_intF (1099511627776) snw1
  obtain ⟨⟨k, r1, e1⟩, hxw2⟩ : ∃ x, intF l false 1099511627776 = x := ⟨_, rfl⟩
  rw [hxw2] at hrw2 hlw2 snw2 ⊢
  simp only at hrw2 hlw2 snw2 ⊢
  clear hrw1 hbw1 snw1 aw2
  go_wp2_with fail
  refine (rtext_full g r1 e1 w2 hrw2 snw2 (by omega)).mono ?_
  rintro _ w3 ⟨rfl, hrw3, aw3⟩
  have hbw3 := At.below hbw2 aw3 n2
  have hlw3 := rtextF_len r1 e1
  have snw3 : Sane (rtextF r1 e1).2.1 (rtextF r1 e1).2.2 := sane_rtextF snw2
  have hfw3 := rtextF_fst r1 e1
  obtain ⟨⟨n, r2, e2⟩, hxw3⟩ : ∃ x, rtextF r1 e1 = x := ⟨_, rfl⟩
  rw [hxw3] at hrw3 hlw3 hfw3 ⊢
  simp only at hrw3 hlw3 hfw3 ⊢
  clear hrw2 hbw2 aw3 snw2 snw3
  go_wp2_with fail
  have hF : rheldF l = (if HeldP (k : Int) n ∧ endF r2 e2 = true ∧ encH (k : Int) n = l then some ((k : Int), n) else none) := by
    unfold rheldF heldG
    simp only [rdI, tx2, hxw2, hxw3]
  have hnm : n.length ≤ maxLen := by unfold maxLen; omega
  clear hxw2 hxw3 hlw2 hlw3 hfw3
  refine (rheld_any (k : Int) n hnm w3).mono ?_
  rintro _ w4 ⟨rfl, b4⟩
  have hrw4 := hrw3.keep b4
  have hbw4 := bnext hbw3 b4
  clear hrw3 hbw3 b4
  by_cases hp : HeldP (k : Int) n
  · rw [show hdV (k : Int) n = 0 by unfold hdV; rw [if_pos hp], show encHV (k : Int) n = encH (k : Int) n by unfold encHV; rw [if_pos hp]]
    by_cases he : endF r2 e2 = true
    · by_cases hs : encH (k : Int) n = l
      · have HR := hid (show rheldF l = some ((k : Int), n) by rw [hF, if_pos ⟨hp, he, hs⟩])
        have HE := he
        rw [hs]
        clear hp he hF hs
        go_wp2_with fail
        refine (rend_any g r2 e2 w4 hrw4).mono ?_
        rintro _ w9 ⟨rfl, hw9⟩
        rw [hw9, HE]
        clear hw9 w9
        go_wp2_with fail
        go_ret3
        exact ⟨k, n, 0, rfl, hbw4, .inl ⟨HR.out, rfl⟩⟩
      · have HR := hid (show rheldF l = none by rw [hF, if_neg (fun q => hs q.2.2)])
        have HE := he
        have hs' : (encH (k : Int) n == l) = false := by simpa using hs
        generalize encH (k : Int) n = E at *
        clear hp he hF hs
        go_wp2_with fail
        refine (rend_any g r2 e2 w4 hrw4).mono ?_
        rintro _ w9 ⟨rfl, hw9⟩
        rw [hw9, HE]
        clear hw9 w9
        go_wp2_with fail
        go_ret3
        exact ⟨0, [], 60, rfl, hbw4, .inr ⟨HR.out, rfl, rfl, rfl⟩⟩
    · have HR := hid (show rheldF l = none by rw [hF, if_neg (fun q => he q.2.1)])
      have HE : endF r2 e2 = false := by simpa using he
      clear hp he hF
      go_wp2_with fail
      refine (rend_any g r2 e2 w4 hrw4).mono ?_
      rintro _ w9 ⟨rfl, hw9⟩
      rw [hw9, HE]
      clear hw9 w9
      go_wp2_with fail
      go_ret3
      exact ⟨0, [], 60, rfl, hbw4, .inr ⟨HR.out, rfl, rfl, rfl⟩⟩
  · rw [show hdV (k : Int) n = 1 by unfold hdV; rw [if_neg hp]]
    have HR := hid (show rheldF l = none by rw [hF, if_neg (fun q => hp q.1)])
    clear hp hF
    go_wp2_with fail
    go_ret3
    exact ⟨0, [], 60, rfl, hbw4, .inr ⟨HR.out, rfl, rfl, rfl⟩⟩
end Go.Proofs.Ytpocpklmiajoiaa
