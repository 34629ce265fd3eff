/- CONTRACT: wherryref01.Fixed. -/
import Derived.Test.YtfdbcnpbjabjoaaVaryPut
namespace Go.Proofs.Ytfdbcnpbjabjoaa
open Go.RowKit

set_option maxHeartbeats 800000 in
set_option maxRecDepth 100000 in
theorem rfixed_any (n : Nat) (hn : U64 n) (w : World) :
    Calls Try.prog 87 #[.int .u64 n] w fun e w' => e = .returned (.string ⟨(fixedL n).toArray⟩) ∧ Below w.heap.size w w' := by
  go_enter Try.func87, Try.ntmps87
  go_wp2
  go_loopw [3, 4] (fun b i0 wr => ∃ (k : Nat), k ≤ 8 ∧ i0 = .int .i64 (56 - 8 * (k : Int)) ∧ Own wr w.heap.size 5 b ((fixedL n).take k) ∧ Below w.heap.size w wr) (fun _ i0 _ => (intOf i0 + 8).toNat)
  case atStart => exact ⟨0, by omega, rfl, Own.nil _ _ _, Below.refl _ _⟩
  case round =>
    obtain ⟨k, hk, rfl, hown, hb⟩ := hrel
    by_cases hlt : k < 8
    · have hlen : ((fixedL n).take k).length < 70368744177664 := by rw [List.length_take, fixedL_len]; omega
      have hsz := hb.size
      go_wp2_with (at_builtin; go_must (refine wpList_append_byte _ rfl _ _ 91 rfl w.heap.size 5 Try.underlying91 infoU8 _ ((fixedL n).take k) rfl ?h1 wr.heap.size rfl _ (cell_new _ _ _) (byteAt n k) ?h3 hlen w ?h4 ?h5 ?_))
      case h1 => exact World.ownsRow.alloc hown _
      case h3 => exact byteAt_and hn k hlt
      case h4 => simp; omega
      case h5 => exact hb.alloc (by omega) _
      intro v' w1 hown1 hb1 _
      go_wp2
      go_roundw
      case rel => exact ⟨k + 1, by omega, by go_num, by rw [fixedL_take n k hlt]; exact hown1, hb1⟩
      case measure => simp [intOf]; omega
    · have hs := run_string_own (P := Try.prog) wr 91 9 5 _ _ _ Try.underlying91 Try.underlying5 Try.underlying9 hown
      go_wp2
      go_ret
      obtain rfl : k = 8 := by omega
      exact ⟨rfl, hb⟩
end Go.Proofs.Ytfdbcnpbjabjoaa
