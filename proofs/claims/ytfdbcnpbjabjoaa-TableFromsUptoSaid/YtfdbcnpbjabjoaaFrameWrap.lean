/- CONTRACTS: frame.mark, wherryref02.four, frame.Wrap, wherryref02.Wrap. -/
import Derived.Test.YtfdbcnpbjabjoaaFrameSum
import Derived.Test.YtfdbcnpbjabjoaaVaryRFix
import Derived.Test.YtfdbcnpbjabjoaaVaryRPut
import Derived.Outline
namespace Go.Proofs.Ytfdbcnpbjabjoaa
open Go.RowKit

def markL (n : Nat) : List UInt8 := [byteAt n 4, byteAt n 5, byteAt n 6, byteAt n 7]
theorem fixedL_mark (n : Nat) : (fixedL n).drop 4 = markL n := rfl
def fourL (l : List UInt8) : List UInt8 := markL (sumL l)
def wrapL (l : List UInt8) : List UInt8 := putL l.length ++ (fourL l ++ l)
theorem fourL_len (l : List UInt8) : (fourL l).length = 4 := rfl
theorem sumL_lt (l : List UInt8) : sumL l < 4294967296 := by unfold sumL; omega
theorem byte_div (n i k : Nat) (h : 256 ^ (7 - i) = 2 ^ k) : (n : Int) / 2 ^ k % 256 = ((byteAt n i).toNat : Int) := by
  rw [byteAt_nat, h, Int.natCast_emod, Int.natCast_ediv, Int.natCast_pow]; rfl

set_option maxHeartbeats 800000 in
set_option maxRecDepth 100000 in
theorem mark_any (n : Nat) (hn : n < 4294967296) (w : World) :
    Calls Try.prog 68 #[.int .u32 n] w fun e w' => e = .returned (.string ⟨(markL n).toArray⟩) ∧ Below w.heap.size w w' := by
  have e4' : (n : Int) / 16777216 % 256 = ((byteAt n 4).toNat : Int) := byte_div n 4 24 (by decide)
  have e4 : (n : Int) / 16777216 = ((byteAt n 4).toNat : Int) := by omega
  clear e4'
  have e5 : (n : Int) / 65536 % 256 = ((byteAt n 5).toNat : Int) := byte_div n 5 16 (by decide)
  have e6 : (n : Int) / 256 % 256 = ((byteAt n 6).toNat : Int) := byte_div n 6 8 (by decide)
  have e7 : (n : Int) % 256 = ((byteAt n 7).toNat : Int) := by have := byte_div n 7 0 (by decide); simpa using this
  have hcv : ∀ W : World, (convert 91 9 (.slice (some ⟨W.heap.size, 0, none⟩) 4 4)).run Try.prog (W.alloc (.cells #[.int .u8 (byteAt n 4).toNat, .int .u8 (byteAt n 5).toNat, .int .u8 (byteAt n 6).toNat, .int .u8 (byteAt n 7).toNat] 5)) =
      .ok (.string ⟨(markL n).toArray⟩) (W.alloc (.cells #[.int .u8 (byteAt n 4).toNat, .int .u8 (byteAt n 5).toNat, .int .u8 (byteAt n 6).toNat, .int .u8 (byteAt n 7).toNat] 5)) := fun W => by
    refine run_convert_bytes_back _ 91 9 5 ⟨W.heap.size, 0, none⟩ 4 (markL n) Try.underlying91 Try.underlying5 Try.underlying9 (fun j hj => ?_)
    have ha : (⟨W.heap.size, 0, none⟩ : Addr).add j = ⟨W.heap.size, 0 + j, none⟩ := by unfold Addr.add; split <;> simp_all
    rw [ha, Nat.zero_add, World.cell?_alloc_at _ _ _ _ rfl]
    have hj4 : j < 4 := hj
    match j, hj4 with
    | 0, _ => rfl
    | 1, _ => rfl
    | 2, _ => rfl
    | 3, _ => rfl
  go_enter Try.func68, Try.ntmps68
  go_wp2_with fail
  go_ret
  exact ⟨rfl, (Below.refl _ _).alloc (Nat.le_refl _) _⟩

theorem four_any (l : List UInt8) (hl : l.length ≤ maxLen) (w : World) :
    Calls Try.prog 72 #[.string ⟨l.toArray⟩] w fun e w' => e = .returned (.string ⟨(fourL l).toArray⟩) ∧ Below w.heap.size w w' := by
  have hs := sumL_lt l
  have hu : U64 (sumL l) := by unfold U64; omega
  have hf := fixedL_len (sumL l)
  have hd := ext_drop (fixedL (sumL l)) 4
  rw [hf] at hd
  have hw : IntKind.u64.wrap (sumL l : Int) = (sumL l : Int) := wrap_u64 (by omega) (by omega)
  go_enter Try.func72, Try.ntmps72
  go_wp2_with fail
  refine (rsum_any l hl _).mono ?_
  rintro e w1 ⟨rfl, rfl⟩
  go_wp2_with fail
  refine (rfixed_any _ hu _).mono ?_
  rintro e w2 ⟨rfl, hb⟩
  go_wp2_with fail
  go_ret
  exact ⟨rfl, hb⟩

set_option maxHeartbeats 800000 in
theorem wrap_any (l : List UInt8) (hl : l.length ≤ 1048576) (w : World) :
    Calls Try.prog 38 #[.string ⟨l.toArray⟩] w fun e w' => e = .returned (.tuple #[.string ⟨(wrapL l).toArray⟩, .int .i64 0]) ∧ Below w.heap.size w w' := by
  have hu : U64 l.length := by unfold U64; omega
  have h10 := putL_len10 hu
  go_enter Try.func38, Try.ntmps38
  go_wp2_with fail
  refine (put_any _ hu _).mono ?_
  rintro e w1 ⟨rfl, hb1⟩
  go_wp2_with fail
  refine (sum_any l (by unfold maxLen; omega) _).mono ?_
  rintro e w2 ⟨rfl, rfl⟩
  go_wp2_with fail
  refine (mark_any _ (sumL_lt l) _).mono ?_
  rintro e w3 ⟨rfl, hb3⟩
  have c1 := run_cat (P := Try.prog) w3 (putL l.length) (fourL l) (by rw [fourL_len]; omega)
  have c2 := run_cat (P := Try.prog) w3 (putL l.length ++ fourL l) l (by rw [List.length_append, fourL_len]; omega)
  unfold fourL at c1 c2
  go_wp2_with fail
  go_ret2
  exact ⟨rfl, bnext hb1 hb3⟩
theorem wrap_no (l : List UInt8) (hl : 1048576 < l.length) (hm : l.length ≤ maxLen) (w : World) :
    Calls Try.prog 38 #[.string ⟨l.toArray⟩] w fun e w' => e = .returned (.tuple #[.string ⟨#[]⟩, .int .i64 2]) ∧ Below w.heap.size w w' := by
  unfold maxLen at hm
  go_enter Try.func38, Try.ntmps38
  go_wp2_with fail
  go_ret2
  exact ⟨rfl, Below.refl _ _⟩
set_option maxHeartbeats 800000 in
theorem rwrap_any (l : List UInt8) (hl : l.length ≤ 1048576) (w : World) :
    Calls Try.prog 46 #[.string ⟨l.toArray⟩] w fun e w' => e = .returned (.tuple #[.string ⟨(wrapL l).toArray⟩, .int .i64 0]) ∧ Below w.heap.size w w' := by
  have hu : U64 l.length := by unfold U64; omega
  have h10 := putL_len10 hu
  go_enter Try.func46, Try.ntmps46
  go_wp2_with fail
  refine (rint_any _ (by omega) (by omega) _).mono ?_
  rintro e w1 ⟨rfl, hb1⟩
  rw [Int.toNat_natCast]
  go_wp2_with fail
  refine (four_any l (by unfold maxLen; omega) _).mono ?_
  rintro e w3 ⟨rfl, hb3⟩
  have c1 := run_cat (P := Try.prog) w3 (putL l.length) (fourL l) (by rw [fourL_len]; omega)
  have c2 := run_cat (P := Try.prog) w3 (putL l.length ++ fourL l) l (by rw [List.length_append, fourL_len]; omega)
  go_wp2_with fail
  go_ret2
  exact ⟨rfl, bnext hb1 hb3⟩
theorem rwrap_no (l : List UInt8) (hl : 1048576 < l.length) (hm : l.length ≤ maxLen) (w : World) :
    Calls Try.prog 46 #[.string ⟨l.toArray⟩] w fun e w' => e = .returned (.tuple #[.string ⟨#[]⟩, .int .i64 2]) ∧ Below w.heap.size w w' := by
  unfold maxLen at hm
  go_enter Try.func46, Try.ntmps46
  go_wp2_with fail
  go_ret2
  exact ⟨rfl, Below.refl _ _⟩
end Go.Proofs.Ytfdbcnpbjabjoaa
