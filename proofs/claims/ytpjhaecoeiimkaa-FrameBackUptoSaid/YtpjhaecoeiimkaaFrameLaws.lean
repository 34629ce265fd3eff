/- THE WALKS OF FrameWraps, FrameShorts; wherrylaw02.awake. -/
import Derived.Test.YtpjhaecoeiimkaaFrameNext
import Derived.WalkLawsBesides
namespace Go.Proofs.Ytpjhaecoeiimkaa
open Go.RowKit

theorem next_wrap (s r : List UInt8) (hs : s.length ≤ 1048576) : nextF (wrapL s ++ r) = (s, r, 0) := by
  have hu : U64 s.length := by unfold U64; omega
  have hg : getFrom 0 (wrapL s ++ r) = some (s.length, (fourL s ++ s) ++ r) := (get_iff _ _ _).2 ⟨hu, by unfold wrapL; simp⟩
  have h4 := fourL_len s
  have e1 : ((fourL s ++ s) ++ r).take 4 = fourL s := by rw [List.append_assoc, List.take_append_of_le_length (by omega), List.take_of_length_le (by omega)]
  have e2 : ((fourL s ++ s) ++ r).drop 4 = s ++ r := by rw [List.append_assoc, List.drop_append, List.drop_of_length_le (by omega)]; simp [h4]
  have e3 : ((s ++ r).take s.length) = s := by simp
  rw [next_ok hg (by omega) (by simp [h4]) (by rw [e1, e2, e3]), e2, e3, ← List.drop_drop, e2]
  simp
theorem sum_check : sumL [49, 50, 51, 52, 53, 54, 55, 56, 57] = 3421780262 := by decide +kernel

set_option maxHeartbeats 1600000 in
theorem fawake_any (w : World) : Calls Try.prog 26 #[] w fun e w' => e = .returned (.bool true) ∧ Below w.heap.size w w' := by
  have hn := next_wrap [97] [120] (by decide)
  have hs := sum_check
  have hl : (wrapL [97] ++ [120]).length ≤ maxLen := by unfold wrapL; rw [putL_lt (by decide)]; simp [fourL_len, maxLen]
  have hl1 : (wrapL [97]).length ≤ 100 := by unfold wrapL; rw [putL_lt (by decide)]; simp [fourL_len]
  obtain ⟨W, hW⟩ : ∃ W, W = wrapL [97] := ⟨_, rfl⟩
  have HW := hid hW
  rw [← hW] at hn hl hl1
  have HN := hid hn
  clear hW hn
  go_enter Try.func26, Try.ntmps26
  go_wp2_with fail
  refine (wrap_any [97] (by decide) _).mono ?_
  rw [← HW.out]
  rintro e w1 ⟨rfl, hb1⟩
  have hcat := run_cat (P := Try.prog) w1 W [120] (by simp; omega)
  go_wp2_with fail
  refine (next_any (W ++ [120]) hl _).mono ?_
  rw [HN.out]
  rintro e w2 ⟨rfl, hb2⟩
  go_wp2_with fail
  refine (sum_any [49, 50, 51, 52, 53, 54, 55, 56, 57] (by decide) _).mono ?_
  rw [hs]
  rintro e w3 ⟨rfl, rfl⟩
  go_wp2_with fail
  go_ret
  exact ⟨rfl, bnext hb1 hb2⟩

set_option maxHeartbeats 1600000 in
theorem frameWraps_walk (l : List UInt8) (hl : l.length ≤ 140737488351232) (w : World) :
    Calls Try.prog 7 #[.string ⟨l.toArray⟩] w fun e w' => e = .returned (.bool true) ∧ Below w.heap.size w w' := by
  by_cases h : l.length ≤ 1048576
  · go_enter Try.func7, Try.ntmps7
    go_wp2_with fail
    refine (fawake_any _).mono ?_
    rintro e w1 ⟨rfl, hb1⟩
    go_wp2_with fail
    refine (wrap_any l h _).mono ?_
    rintro e w2 ⟨rfl, hb2⟩
    go_wp2_with fail
    refine (rwrap_any l h _).mono ?_
    rintro e w3 ⟨rfl, hb3⟩
    go_wp2_with fail
    refine (sum_any l (by unfold maxLen; omega) _).mono ?_
    rintro e w4 ⟨rfl, rfl⟩
    go_wp2_with fail
    refine (rsum_any l (by unfold maxLen; omega) _).mono ?_
    rintro e w4 ⟨rfl, rfl⟩
    go_wp2_with fail
    go_ret
    exact ⟨rfl, bnext (bnext hb1 hb2) hb3⟩
  · go_enter Try.func7, Try.ntmps7
    go_wp2_with fail
    refine (fawake_any _).mono ?_
    rintro e w1 ⟨rfl, hb1⟩
    go_wp2_with fail
    refine (wrap_no l (by omega) (by unfold maxLen; omega) _).mono ?_
    rintro e w2 ⟨rfl, hb2⟩
    go_wp2_with fail
    refine (rwrap_no l (by omega) (by unfold maxLen; omega) _).mono ?_
    rintro e w3 ⟨rfl, hb3⟩
    go_wp2_with fail
    refine (sum_any l (by unfold maxLen; omega) _).mono ?_
    rintro e w4 ⟨rfl, rfl⟩
    go_wp2_with fail
    refine (rsum_any l (by unfold maxLen; omega) _).mono ?_
    rintro e w4 ⟨rfl, rfl⟩
    go_wp2_with fail
    go_ret
    exact ⟨rfl, bnext (bnext hb1 hb2) hb3⟩
end Go.Proofs.Ytpjhaecoeiimkaa
