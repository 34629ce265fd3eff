/- CONTRACT: vary.Put: the bytes of a number of 64 bits, whatever it is. -/
import Derived.Test.YtfdbcnpbjabjoaaProg
import Derived.Test.YtfdbcnpbjabjoaaVaryPlain
import Derived.Test.YtfdbcnpbjabjoaaBytes
import Derived.WalkKit
import Derived.WalkSpells
import Derived.Outline
namespace Go.Proofs.Ytfdbcnpbjabjoaa
open Go.RowKit

theorem infoU8 : (Try.prog.info? 5).map (fun i => (i.zero, i.size, i.bytes)) = some (some (.int .u8 0), 1, 1) := by kernel_rfl

set_option maxHeartbeats 800000 in
set_option maxRecDepth 100000 in
theorem put_any (n : Nat) (hn : U64 n) (w : World) :
    Calls Try.prog 42 #[.int .u64 n] w fun e w' => e = .returned (.string ⟨(putL n).toArray⟩) ∧ Below w.heap.size w w' := by
  go_enter Try.func42, Try.ntmps42
  go_wp2
  go_loopw [0, 3] (fun n0 b wr => ∃ (m : Nat) (pre : List UInt8), n0 = .int .u64 m ∧ U64 m ∧ Own wr w.heap.size 5 b pre ∧ Below w.heap.size w wr ∧ pre ++ putL m = putL n) (fun n0 _ _ => (intOf n0).toNat)
  case atStart => exact ⟨n, [], rfl, hn, Own.nil _ _ _, Below.refl _ _, rfl⟩
  case round =>
    obtain ⟨m, pre, rfl, hm, hown, hb, hpre⟩ := hrel
    have HP : Hid (pre ++ putL m = putL n) := hpre
    have hlen : pre.length < 70368744177664 := by have := putL_len10 hn; rw [← hpre] at this; simp at this; omega
    clear hpre
    have hsz := hb.size
    by_cases hlt : m < 128
    · go_wp2_with (at_builtin; go_must (refine wpList_append_byte _ rfl _ _ 91 rfl w.heap.size 5 Try.underlying91 infoU8 _ pre rfl ?h1 wr.heap.size rfl (m : Int) ?h2 (last7 m) ?h3 hlen w ?h4 ?h5 ?_))
      case h1 => exact World.ownsRow.alloc hown _
      case h2 => exact cell_new _ _ _
      case h3 => rw [last7_nat (by omega)]
      case h4 => simp; omega
      case h5 => exact hb.alloc (by omega) _
      intro v' w1 hown1 hb1 _
      have hs := run_string_own (P := Try.prog) w1 91 9 5 _ _ _ Try.underlying91 Try.underlying5 Try.underlying9 hown1
      go_wp2
      go_ret
      exact ⟨ret_str (by rw [← HP.out, putL_lt hlt]), hb1⟩
    · go_wp2_with (at_builtin; go_must (refine wpList_append_byte _ rfl _ _ 91 rfl w.heap.size 5 Try.underlying91 infoU8 _ pre rfl ?g1 wr.heap.size rfl (bits BinOp.or IntKind.u8 ((m : Int) % 256) 128) ?g2 (more7 m) ?g3 hlen w ?g4 ?g5 ?_))
      case g1 => exact World.ownsRow.alloc hown _
      case g2 => exact cell_new _ _ _
      case g3 => exact more7_or m
      case g4 => simp; omega
      case g5 => exact hb.alloc (by omega) _
      intro v' w1 hown1 hb1 _
      go_wp2
      go_roundw
      case rel => exact ⟨m / 128, pre ++ [more7 m], by go_num, hm.div _, hown1, hb1, by rw [← HP.out, putL_ge hlt]; simp⟩
      case measure => simp [intOf]; omega
end Go.Proofs.Ytfdbcnpbjabjoaa
