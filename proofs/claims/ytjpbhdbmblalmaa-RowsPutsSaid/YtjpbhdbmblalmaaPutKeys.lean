/- CONTRACTS: rows' keys. -/
import Derived.Test.YtjpbhdbmblalmaaPutTasked
import Derived.Test.YtjpbhdbmblalmaaVaryFixed
namespace Go.Proofs.Ytjpbhdbmblalmaa
open Go.RowKit
set_option linter.unusedVariables false

def oneB (n : Int) : UInt8 := UInt8.ofNat (n % 256).toNat
theorem oneB_nat (n : Int) : ((oneB n).toNat : Int) = n % 256 := by
  unfold oneB
  rw [UInt8.toNat_ofNat']
  omega
set_option maxRecDepth 100000 in
theorem shard_any (n : Int) (w : World) : Calls Try.prog 60 #[.int .i64 n] w fun e w' => e = .returned (.string ⟨[oneB n].toArray⟩) ∧ Below w.heap.size w w' := by
  go_enter Try.func60, Try.ntmps60
  have hown : Own (w.alloc (.cells #[.int .u8 (n % 256)] 5)) w.heap.size 5 (.slice (some ⟨w.heap.size, 0, none⟩) 1 1) [oneB n] := by
    refine ⟨by simp, .inr ⟨w.heap.size, 1, _, by simp, Nat.le_refl _, heap_alloc_new w _, by simp, by decide, by simp, ?_⟩⟩
    simp [byteV, oneB_nat]
  have hs := run_string_own (P := Try.prog) _ 91 9 5 _ _ _ Try.underlying91 Try.underlying5 Try.underlying9 hown
  have hb : Below w.heap.size w (w.alloc (.cells #[.int .u8 (n % 256)] 5)) := (Below.refl _ _).alloc (Nat.le_refl _) _
  clear hown
  go_wp2_with fail
  go_ret
  exact ⟨rfl, hb⟩
/-- a timer's key's bytes before its tick -/
theorem fixedL_get (n k : Nat) (hk : k < 8) : (fixedL n)[k]'(by rw [fixedL_len]; exact hk) = byteAt n k := by
  unfold fixedL; simp
def dueL (b : UInt8) (n : Nat) (r : List UInt8) : List UInt8 := 109 :: b :: (fixedL n ++ r)
theorem dueL_len (b : UInt8) (n : Nat) {r : List UInt8} (hr : r.length = 8) : (dueL b n r).length = 18 := by simp [dueL, fixedL_len, hr]
theorem dueL_get (b : UInt8) (n : Nat) (r : List UInt8) (k : Nat) (hk : k < 8) (h : 2 + k < (dueL b n r).length) : (dueL b n r)[2 + k] = byteAt n k := by
  have : (dueL b n r)[2 + k]? = some (byteAt n k) := by
    unfold dueL
    rw [show 2 + k = k + 1 + 1 by omega, List.getElem?_cons_succ, List.getElem?_cons_succ, List.getElem?_append_left (by rw [fixedL_len]; exact hk), List.getElem?_eq_getElem (by rw [fixedL_len]; exact hk), fixedL_get n k hk]
  exact (List.getElem?_eq_some_iff.1 this).2
set_option maxRecDepth 100000 in
set_option maxHeartbeats 800000 in
theorem due_any (b : UInt8) (n : Nat) (r : List UInt8) (hn : n ≤ 9223372036854775807) (hr : r.length = 8) (w : World) : Calls Try.prog 46 #[.string ⟨(dueL b n r).toArray⟩] w fun e w' => e = .returned (.int .i64 n) ∧ w' = w := by
  have hll := dueL_len b n hr
  have h0 : ∀ h : 0 < (dueL b n r).length, (dueL b n r)[0] = 109 := fun _ => rfl
  have hk := dueL_get b n r
  revert hll h0 hk
  generalize dueL b n r = l
  intro hll h0 hk
  replace h0 := h0 (by omega)
  have ht : (((((⟨l.toArray⟩ : ByteArray)[0]'(by show 0 < l.length; omega)).toNat : Int) != 109)) = false := by
    have : (⟨l.toArray⟩ : ByteArray)[0]'(by show 0 < l.length; omega) = l[0] := rfl
    rw [this, h0]; rfl
  go_enter Try.func46, Try.ntmps46
  go_wp2_with fail
  go_loopw [3, 4, 13] (fun n0 _ i0 wr => wr = w ∧ ∃ (k : Nat), k ≤ 8 ∧ n0 = .int .u64 ((n / 256 ^ (8 - k) : Nat) : Int) ∧ i0 = .int .i64 k) (fun _ _ i0 _ => 8 - (intOf i0).toNat)
  case atStart =>
    refine ⟨rfl, 0, by omega, ?_, rfl⟩
    rw [show n / 256 ^ (8 - 0) = 0 from Nat.div_eq_of_lt (by omega)]
    rfl
  case round =>
    obtain ⟨rfl, k, hk8, rfl, rfl⟩ := hrel
    by_cases hlt : k < 8
    · have hb : (((⟨l.toArray⟩ : ByteArray)[2 + k]'(by show 2 + k < l.length; omega)).toNat : Int) = ((n / 256 ^ (7 - k) % 256 : Nat) : Int) := by
        have : (⟨l.toArray⟩ : ByteArray)[2 + k]'(by show 2 + k < l.length; omega) = l[2 + k] := rfl
        rw [this, hk k hlt, byteAt_nat]
      have hq : n / 256 ^ (8 - k) = n / 256 ^ (7 - k) / 256 := by
        rw [Nat.div_div_eq_div_mul, ← Nat.pow_succ, show (7 - k).succ = 8 - k by omega]
      have hp : n / 256 ^ (7 - k) ≤ n := Nat.div_le_self _ _
      have hnx : n / 256 ^ (8 - (k + 1)) = n / 256 ^ (7 - k) := by rw [show 8 - (k + 1) = 7 - k by omega]
      rw [hq]
      go_wp2_with fail
      refine ⟨⟨trivial, k + 1, by omega, ?_, rfl⟩, by simp only [intOf]; omega⟩
      rw [hnx]
      have hor := u64_or_nat (n / 256 ^ (7 - k) / 256 * 256) (n / 256 ^ (7 - k) % 256) (by omega) (by omega)
      have hw : IntKind.u64.wrap ((n : Int) / 256 ^ (7 - k) / 256 * 256) = ((n / 256 ^ (7 - k) / 256 * 256 : Nat) : Int) := by
        rw [show ((n : Int) / 256 ^ (7 - k) / 256 * 256) = ((n / 256 ^ (7 - k) / 256 * 256 : Nat) : Int) by push_cast; rfl]
        exact wrap_u64 (by omega) (by omega)
      have hm : ((n : Int) / 256 ^ (7 - k) % 256) = ((n / 256 ^ (7 - k) % 256 : Nat) : Int) := by push_cast; rfl
      rw [hw, hm, hor]
      congr 2
      generalize n / 256 ^ (7 - k) = p
      rw [Nat.mul_comm, show (256 : Nat) = 2 ^ 8 from rfl, ← Nat.two_pow_add_eq_or_of_lt (Nat.mod_lt _ (by decide)), Nat.div_add_mod]
    · obtain rfl : k = 8 := by omega
      go_wp2_with fail
      go_ret
      exact ⟨by simp, rfl⟩
set_option maxRecDepth 100000 in
theorem lease_any (n : Int) (w : World) : Calls Try.prog 45 #[.int .i64 n] w fun e w' => e = .returned (.string ⟨#[108, oneB n]⟩) ∧ Below w.heap.size w w' := by
  go_enter Try.func45, Try.ntmps45
  go_wp2_with fail
  refine (shard_any n _).mono ?_
  rintro e w1 ⟨rfl, hb⟩
  have hcat := run_cat (P := Try.prog) w1 [108] [oneB n] (by simp)
  go_wp2_with fail
  go_ret
  exact ⟨rfl, hb⟩
set_option maxRecDepth 100000 in
theorem timers_any (n : Int) (w : World) : Calls Try.prog 61 #[.int .i64 n] w fun e w' => e = .returned (.string ⟨#[109, oneB n]⟩) ∧ Below w.heap.size w w' := by
  go_enter Try.func61, Try.ntmps61
  go_wp2_with fail
  refine (shard_any n _).mono ?_
  rintro e w1 ⟨rfl, hb⟩
  have hcat := run_cat (P := Try.prog) w1 [109] [oneB n] (by simp)
  go_wp2_with fail
  go_ret
  exact ⟨rfl, hb⟩
set_option maxRecDepth 100000 in
theorem events_any (l : List UInt8) (hl : l.length ≤ 9223372036854770000) (w : World) : Calls Try.prog 63 #[.string ⟨l.toArray⟩] w fun e w' => e = .returned (.string ⟨(104 :: textL l).toArray⟩) ∧ Below w.heap.size w w' := by
  have h10 := putL_len10 (n := l.length) (by unfold U64; omega)
  go_enter Try.func63, Try.ntmps63
  go_wp2_with fail
  refine (text_any l (by omega) _).mono ?_
  rintro e w1 ⟨rfl, hb⟩
  have hcat := run_cat (P := Try.prog) w1 [104] (textL l) (by simp [textL]; omega)
  go_wp2_with fail
  go_ret
  exact ⟨rfl, hb⟩
set_option maxRecDepth 100000 in
theorem timer_any (n at_ : Int) (id : Nat) (hid : U64 id) (h0 : 0 ≤ at_) (h1 : at_ ≤ 9223372036854775807) (w : World) : Calls Try.prog 47 #[.int .i64 n, .int .i64 at_, .int .u64 id] w fun e w' => e = .returned (.string ⟨(dueL (oneB n) at_.toNat (fixedL id)).toArray⟩) ∧ Below w.heap.size w w' := by
  obtain ⟨a, rfl⟩ := Int.eq_ofNat_of_zero_le h0
  rw [Int.toNat_natCast]
  go_enter Try.func47, Try.ntmps47
  go_wp2_with fail
  refine (timers_any n _).mono ?_
  rintro e w1 ⟨rfl, hb1⟩
  go_wp2_with fail
  refine (fixed_any a (by unfold U64; omega) _).mono ?_
  rintro e w2 ⟨rfl, hb2⟩
  have hcat := run_cat (P := Try.prog) w2 [109, oneB n] (fixedL a) (by simp [fixedL_len])
  go_wp2_with fail
  refine (fixed_any id hid _).mono ?_
  rintro e w3 ⟨rfl, hb3⟩
  have hcat := run_cat (P := Try.prog) w3 (109 :: oneB n :: fixedL a) (fixedL id) (by simp [fixedL_len])
  go_wp2_with fail
  go_ret
  exact ⟨rfl, bnext (bnext hb1 hb2) hb3⟩
def eventL (l : List UInt8) (n : Nat) : List UInt8 := 104 :: (textL l ++ (fixedL n).drop 4)
set_option maxRecDepth 100000 in
theorem event_any (l : List UInt8) (hl : l.length ≤ 9223372036854770000) (id : Int) (h0 : 0 ≤ id) (h1 : id ≤ 9223372036854775807) (w : World) : Calls Try.prog 48 #[.string ⟨l.toArray⟩, .int .i64 id] w fun e w' => e = .returned (.string ⟨(eventL l id.toNat).toArray⟩) ∧ Below w.heap.size w w' := by
  obtain ⟨a, rfl⟩ := Int.eq_ofNat_of_zero_le h0
  rw [Int.toNat_natCast]
  have h10 := putL_len10 (n := l.length) (by unfold U64; omega)
  go_enter Try.func48, Try.ntmps48
  go_wp2_with fail
  refine (events_any l (by omega) _).mono ?_
  rintro e w1 ⟨rfl, hb1⟩
  go_wp2_with fail
  refine (fixed_any a (by unfold U64; omega) _).mono ?_
  rintro e w2 ⟨rfl, hb2⟩
  have hln := fixedL_len a
  have hx : (⟨(fixedL a).toArray⟩ : ByteArray).extract 4 8 = ⟨((fixedL a).drop 4).toArray⟩ := by
    rw [← ext_drop, hln]
  have hcat := run_cat (P := Try.prog) w2 (104 :: textL l) ((fixedL a).drop 4) (by simp [fixedL_len, textL]; omega)
  go_wp2_with fail
  go_ret
  exact ⟨rfl, bnext hb1 hb2⟩
end Go.Proofs.Ytjpbhdbmblalmaa
