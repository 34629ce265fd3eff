/- CONTRACTS: vary.Fixed, wherryref01.Fixed. -/
import Derived.Test.YtjpbhdbmblalmaaVaryPut
namespace Go.Proofs.Ytjpbhdbmblalmaa
open Go.RowKit

theorem fixed_start (w : World) (n : Nat) : Own (w.alloc (.cells (Array.replicate 8 (.int .u8 0)) 5)) w.heap.size 5 (.slice (some ⟨w.heap.size, 0, none⟩) 8 8) (List.replicate (8 - 0) 0 ++ (fixedL n).drop (8 - 0)) := by
  refine ⟨by simp [fixedL_len], .inr ⟨w.heap.size, 8, _, ?_, Nat.le_refl _, heap_alloc_new w _, ?_, by decide, by simp, ?_⟩⟩
  · simp [fixedL_len]
  · simp [fixedL_len]
  · simp [fixedL_len, byteV]

set_option maxHeartbeats 800000 in
set_option maxRecDepth 100000 in
theorem fixed_any (n : Nat) (_hn : U64 n) (w : World) :
    Calls Try.prog 62 #[.int .u64 n] w fun e w' => e = .returned (.string ⟨(fixedL n).toArray⟩) ∧ Below w.heap.size w w' := by
  have hmk : ∀ w, (Instr.makeSlice 91 (.int .i64 8) (.int .i64 8)).run Try.prog w = .ok (.slice (some ⟨w.heap.size, 0, none⟩) 8 8) (w.alloc (.cells (Array.replicate 8 (.int .u8 0)) 5)) := fun _ => by kernel_rfl
  go_enter Try.func62, Try.ntmps62
  go_wp2
  go_loopw [0, 4, 8] (fun n0 _ i0 wr => ∃ (k : Nat), k ≤ 8 ∧ n0 = .int .u64 ((n / 256 ^ k : Nat) : Int) ∧ i0 = .int .i64 k ∧ Own wr w.heap.size 5 (.slice (some ⟨w.heap.size, 0, none⟩) 8 8) (List.replicate (8 - k) 0 ++ (fixedL n).drop (8 - k)) ∧ Below w.heap.size w wr) (fun _ _ i0 _ => 8 - (intOf i0).toNat)
  case atStart => exact ⟨0, by omega, by simp, rfl, fixed_start w n, (Below.refl _ _).alloc (Nat.le_refl _) _⟩
  case round =>
    obtain ⟨k, hk, rfl, rfl, hown, hb⟩ := hrel
    by_cases hlt : k < 8
    · have hcell := hown.cellAt (7 - k) (by simp [fixedL_len]; omega)
      have hfr := hown.frozenAt (7 - k)
      go_wp2
      go_roundw
      case rel =>
        refine ⟨k + 1, by omega, ?_, by go_num, ?_, hb.setCell (Nat.le_refl _) _⟩
        · rw [Nat.pow_succ, ← Nat.div_div_eq_div_mul]; go_num
        · rw [← fixed_set n k hlt]
          have hst := hown.stored (7 - k) (byteAt n (7 - k))
          unfold byteV at hst
          rw [← byteAt_div n k hlt] at hst
          exact hst
      case measure => simp [intOf]; omega
    · have hs := run_string_own (P := Try.prog) wr 91 9 5 _ _ _ Try.underlying91 Try.underlying5 Try.underlying9 hown
      go_wp2
      go_ret
      obtain rfl : k = 8 := by omega
      exact ⟨rfl, hb⟩
set_option maxHeartbeats 800000 in
set_option maxRecDepth 100000 in
theorem rfixed_any (n : Nat) (hn : U64 n) (w : World) :
    Calls Try.prog 65 #[.int .u64 n] w fun e w' => e = .returned (.string ⟨(fixedL n).toArray⟩) ∧ Below w.heap.size w w' := by
  go_enter Try.func65, Try.ntmps65
  go_wp2
  go_loopw [3, 4] (fun b i0 wr => ∃ (k : Nat), k ≤ 8 ∧ i0 = .int .i64 (56 - 8 * (k : Int)) ∧ Own wr w.heap.size 5 b ((fixedL n).take k) ∧ Below w.heap.size w wr) (fun _ i0 _ => (intOf i0 + 8).toNat)
  case atStart => exact ⟨0, by omega, rfl, Own.nil _ _ _, Below.refl _ _⟩
  case round =>
    obtain ⟨k, hk, rfl, hown, hb⟩ := hrel
    by_cases hlt : k < 8
    · have hlen : ((fixedL n).take k).length < 70368744177664 := by rw [List.length_take, fixedL_len]; omega
      have hsz := hb.size
      go_wp2_with (at_builtin; go_must (refine wpList_append_byte _ rfl _ _ 91 rfl w.heap.size 5 Try.underlying91 infoU8 _ ((fixedL n).take k) rfl ?h1 wr.heap.size rfl _ (cell_new _ _ _) (byteAt n k) ?h3 hlen w ?h4 ?h5 ?_))
      case h1 => exact World.ownsRow.alloc hown _
      case h3 => exact byteAt_and hn k hlt
      case h4 => simp; omega
      case h5 => exact hb.alloc (by omega) _
      intro v' w1 hown1 hb1 _
      go_wp2
      go_roundw
      case rel => exact ⟨k + 1, by omega, by go_num, by rw [fixedL_take n k hlt]; exact hown1, hb1⟩
      case measure => simp [intOf]; omega
    · have hs := run_string_own (P := Try.prog) wr 91 9 5 _ _ _ Try.underlying91 Try.underlying5 Try.underlying9 hown
      go_wp2
      go_ret
      obtain rfl : k = 8 := by omega
      exact ⟨rfl, hb⟩
end Go.Proofs.Ytjpbhdbmblalmaa
