/- CONTRACTS: wherryref01.Put, Int, Text; vary.Text. -/
import Derived.Test.YtfdbcnpbjabjoaaVaryPut
import Derived.WalkLawsBesides
namespace Go.Proofs.Ytfdbcnpbjabjoaa
open Go.RowKit

set_option maxHeartbeats 800000 in
set_option maxRecDepth 100000 in
theorem rput_any (n : Nat) (hn : U64 n) (w : World) :
    Calls Try.prog 74 #[.int .u64 n] w fun e w' => e = .returned (.string ⟨(putL n).toArray⟩) ∧ Below w.heap.size w w' := by
  go_enter Try.func74, Try.ntmps74
  go_wp2
  go_loopw [0, 3] (fun n0 b wr => ∃ (m : Nat) (pre : List UInt8), n0 = .int .u64 m ∧ U64 m ∧ Own wr w.heap.size 5 b pre ∧ Below w.heap.size w wr ∧ pre ++ putL m = putL n) (fun n0 _ _ => (intOf n0).toNat)
  case atStart => exact ⟨n, [], rfl, hn, Own.nil _ _ _, Below.refl _ _, rfl⟩
  case round =>
    obtain ⟨m, pre, rfl, hm, hown, hb, hpre⟩ := hrel
    have HP : Hid (pre ++ putL m = putL n) := hpre
    have hlen : pre.length < 70368744177664 := by have := putL_len10 hn; rw [← hpre] at this; simp at this; omega
    clear hpre
    have hsz := hb.size
    have hq : IntKind.u64.wrap ((m : Int) / 128) = (m : Int) / 128 := wrap_u64 (by omega) (by unfold U64 at hm; omega)
    by_cases hlt : m < 128
    · go_wp2_with (at_builtin; go_must (refine wpList_append_byte _ rfl _ _ 91 rfl w.heap.size 5 Try.underlying91 infoU8 _ pre rfl ?h1 wr.heap.size rfl (m : Int) ?h2 (last7 m) ?h3 hlen w ?h4 ?h5 ?_))
      case h1 => exact World.ownsRow.alloc hown _
      case h2 => exact cell_new _ _ _
      case h3 => rw [last7_nat (by omega)]
      case h4 => simp; omega
      case h5 => exact hb.alloc (by omega) _
      intro v' w1 hown1 hb1 _
      have hs := run_string_own (P := Try.prog) w1 91 9 5 _ _ _ Try.underlying91 Try.underlying5 Try.underlying9 hown1
      go_wp2
      go_ret
      exact ⟨ret_str (by rw [← HP.out, putL_lt hlt]), hb1⟩
    · go_wp2_with (at_builtin; go_must (refine wpList_append_byte _ rfl _ _ 91 rfl w.heap.size 5 Try.underlying91 infoU8 _ pre rfl ?g1 wr.heap.size rfl ((m : Int) % 128 + 128) ?g2 (more7 m) ?g3 hlen w ?g4 ?g5 ?_))
      case g1 => exact World.ownsRow.alloc hown _
      case g2 => exact cell_new _ _ _
      case g3 => rw [more7_nat]; omega
      case g4 => simp; omega
      case g5 => exact hb.alloc (by omega) _
      intro v' w1 hown1 hb1 _
      go_wp2
      go_roundw
      case rel => exact ⟨m / 128, pre ++ [more7 m], by go_num, hm.div _, hown1, hb1, by rw [← HP.out, putL_ge hlt]; simp⟩
      case measure => simp [intOf]; omega

theorem rint_any (n : Int) (h0 : 0 ≤ n) (hn : n ≤ 9223372036854775807) (w : World) :
    Calls Try.prog 48 #[.int .i64 n] w fun e w' => e = .returned (.string ⟨(putL n.toNat).toArray⟩) ∧ Below w.heap.size w w' := by
  obtain ⟨n, rfl⟩ := Int.eq_ofNat_of_zero_le h0
  rw [Int.toNat_natCast]
  have hu : U64 n := by unfold U64; omega
  go_enter Try.func48, Try.ntmps48
  go_wp2_with fail
  refine (rput_any n hu _).mono ?_
  rintro e w1 ⟨rfl, hb⟩
  go_wp2
  go_ret
  exact ⟨rfl, hb⟩

/-- a text's bytes: its length, then itself -/
def textL (l : List UInt8) : List UInt8 := putL l.length ++ l

theorem rtext_any (l : List UInt8) (hl : l.length ≤ 9223372036854775000) (w : World) :
    Calls Try.prog 44 #[.string ⟨l.toArray⟩] w fun e w' => e = .returned (.string ⟨(textL l).toArray⟩) ∧ Below w.heap.size w w' := by
  have hu : U64 l.length := by unfold U64; omega
  have h10 := putL_len10 hu
  go_enter Try.func44, Try.ntmps44
  go_wp2_with fail
  refine (rint_any _ (by omega) (by omega) _).mono ?_
  rintro e w1 ⟨rfl, hb⟩
  rw [Int.toNat_natCast]
  have hcat := run_cat (P := Try.prog) w1 (putL l.length) l (by omega)
  go_wp2
  go_ret
  exact ⟨rfl, hb⟩
theorem text_any (l : List UInt8) (hl : l.length ≤ 9223372036854775000) (w : World) :
    Calls Try.prog 40 #[.string ⟨l.toArray⟩] w fun e w' => e = .returned (.string ⟨(textL l).toArray⟩) ∧ Below w.heap.size w w' := by
  have hu : U64 l.length := by unfold U64; omega
  have h10 := putL_len10 hu
  go_enter Try.func40, Try.ntmps40
  go_wp2_with fail
  refine (put_any _ hu _).mono ?_
  rintro e w1 ⟨rfl, hb⟩
  have hcat := run_cat (P := Try.prog) w1 (putL l.length) l (by omega)
  go_wp2
  go_ret
  exact ⟨rfl, hb⟩
end Go.Proofs.Ytfdbcnpbjabjoaa
