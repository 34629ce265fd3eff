/- CONTRACTS: frame.Sum, wherryref02.Sum. -/
import Derived.Test.YtfdbcnpbjabjoaaVaryPut
import Derived.Laws.BitsAllLaws
namespace Go.Proofs.Ytfdbcnpbjabjoaa
open Go.RowKit

theorem ret_int {k : IntKind} {a b : Int} (h : a = b) : Ending.returned (.int k a) = .returned (.int k b) := by rw [h]
def crcBit (c : Nat) : Nat := if c % 2 = 1 then c / 2 ^^^ 3988292384 else c / 2
def crcBits (c : Nat) : Nat → Nat | 0 => c | k + 1 => crcBit (crcBits c k)
def crcByte (c : Nat) (b : UInt8) : Nat := crcBits (c ^^^ b.toNat) 8
def crcL (l : List UInt8) : Nat := l.foldl crcByte 4294967295
def sumL (l : List UInt8) : Nat := 4294967295 - crcL l
theorem crcBit_lt {c : Nat} (h : c < 4294967296) : crcBit c < 4294967296 := by
  unfold crcBit; split
  · exact Nat.xor_lt_two_pow (n := 32) (by omega) (by omega)
  · omega
theorem crcBits_lt {c : Nat} (h : c < 4294967296) : ∀ k, crcBits c k < 4294967296
  | 0 => h
  | k + 1 => crcBit_lt (crcBits_lt h k)
theorem crcByte_lt {c : Nat} (h : c < 4294967296) (b : UInt8) : crcByte c b < 4294967296 := crcBits_lt (Nat.xor_lt_two_pow (n := 32) h (by have := UInt8.toNat_lt b; omega)) 8
theorem crc_foldl_lt : ∀ (l : List UInt8) (c : Nat), c < 4294967296 → l.foldl crcByte c < 4294967296
  | [], _, h => h
  | b :: r, _, h => crc_foldl_lt r _ (crcByte_lt h b)
theorem crcL_lt (l : List UInt8) : crcL l < 4294967296 := crc_foldl_lt l _ (by decide)
theorem crcL_take {l : List UInt8} {k : Nat} (h : k < l.length) : crcByte (crcL (l.take k)) l[k] = crcL (l.take (k + 1)) := by
  unfold crcL
  rw [List.take_add_one, List.getElem?_eq_getElem h, List.foldl_append]; rfl
theorem crcL_0 (l : List UInt8) : crcL (l.take 0) = 4294967295 := by simp [crcL]

theorem and1_u32 {Y : Nat} (hY : Y < 4294967296) : bits .and .u32 (Y : Int) 1 = ((Y % 2 : Nat) : Int) := by
  have h := u32_and_nat Y 1 hY (by omega)
  rw [Nat.and_one_is_mod] at h
  exact h
theorem crc_step {Y : Nat} (hY : Y < 4294967296) : bits .xor .u32 ((Y : Int) / 2) (bits .and .u32 3988292384 (-bits .and .u32 (Y : Int) 1 % 4294967296)) = (crcBit Y : Int) := by
  rw [and1_u32 hY]
  have e2 : (Y : Int) / 2 = ((Y / 2 : Nat) : Int) := by omega
  unfold crcBit
  by_cases h : Y % 2 = 1
  · rw [if_pos h, h]
    have e : (-((1 : Nat) : Int) % 4294967296) = ((4294967295 : Nat) : Int) := by decide
    have ha : bits .and .u32 3988292384 ((4294967295 : Nat) : Int) = ((3988292384 &&& 4294967295 : Nat) : Int) := u32_and_nat 3988292384 4294967295 (by omega) (by omega)
    have hb : (3988292384 &&& 4294967295 : Nat) = 3988292384 := by decide
    rw [e, ha, hb, e2, u32_xor_nat _ _ (by omega) (by omega)]
  · have h0 : Y % 2 = 0 := by omega
    rw [if_neg h, h0]
    have e : (-((0 : Nat) : Int) % 4294967296) = ((0 : Nat) : Int) := by decide
    have ha : bits .and .u32 3988292384 ((0 : Nat) : Int) = ((3988292384 &&& 0 : Nat) : Int) := u32_and_nat 3988292384 0 (by omega) (by omega)
    rw [e, ha, e2, u32_xor_nat _ _ (by omega) (by simp)]
    simp
theorem not_u32 {c : Nat} (h : c < 4294967296) : bits .xor .u32 IntKind.u32.max (c : Int) = ((4294967295 - c : Nat) : Int) := by
  have h1 : bits .xor .u32 ((4294967295 : Nat) : Int) (c : Int) = ((4294967295 ^^^ c : Nat) : Int) := u32_xor_nat 4294967295 c (by omega) h
  have e : IntKind.u32.max = ((4294967295 : Nat) : Int) := by decide
  have h2 : 4294967295 ^^^ c = 4294967295 - c := by
    have h3 : (BitVec.allOnes 32 ^^^ BitVec.ofNat 32 c).toNat = (~~~ (BitVec.ofNat 32 c)).toNat := by rw [BitVec.allOnes_xor]
    rw [BitVec.toNat_xor, BitVec.toNat_not, BitVec.toNat_allOnes, BitVec.toNat_ofNat, Nat.mod_eq_of_lt (by omega)] at h3
    simpa using h3
  rw [e, h1, h2]

set_option maxHeartbeats 1600000 in
set_option maxRecDepth 100000 in
theorem sum_any (l : List UInt8) (hl : l.length ≤ maxLen) (w : World) :
    Calls Try.prog 69 #[.string ⟨l.toArray⟩] w fun e w' => e = .returned (.int .u32 (sumL l)) ∧ w' = w := by
  unfold maxLen at hl
  go_enter Try.func69, Try.ntmps69
  go_wp2
  go_loop [3, 4, 7] (fun c _ i => ∃ k : Nat, k ≤ l.length ∧ i = .int .i64 k ∧ c = .int .u32 (crcL (l.take k))) (fun _ _ i => l.length - (intOf i).toNat)
  case atStart => exact ⟨0, by omega, rfl, by rw [crcL_0]; simp⟩
  case round =>
    obtain ⟨k, hk, rfl, rfl⟩ := hrel
    have hC := crcL_lt (l.take k)
    by_cases hlt : k < l.length
    · have hx : bits .xor .u32 (crcL (l.take k) : Int) ((((⟨l.toArray⟩ : ByteArray)[k]'hlt).toNat : Int) % 4294967296) = ((crcL (l.take k) ^^^ (l[k]'hlt).toNat : Nat) : Int) := by
        have hc := UInt8.toNat_lt (l[k]'hlt)
        have e : ((((⟨l.toArray⟩ : ByteArray)[k]'hlt).toNat : Int) % 4294967296) = (((l[k]'hlt).toNat : Nat) : Int) := by
          show ((((l[k]'hlt).toNat : Nat) : Int) % 4294967296) = _
          omega
        rw [e, u32_xor_nat _ _ hC (by omega)]
      have hX : crcL (l.take k) ^^^ (l[k]'hlt).toNat < 4294967296 := Nat.xor_lt_two_pow (n := 32) hC (by have := UInt8.toNat_lt (l[k]'hlt); omega)
      have hnext : crcBits (crcL (l.take k) ^^^ (l[k]'hlt).toNat) 8 = crcL (l.take (k + 1)) := crcL_take hlt
      generalize crcL (l.take k) ^^^ (l[k]'hlt).toNat = X at hx hX hnext
      have HN := hid hnext
      clear hnext
      go_wp2
      go_loop [3, 16] (fun c i => ∃ j : Nat, j ≤ 8 ∧ i = .int .i64 j ∧ c = .int .u32 (crcBits X j)) (fun _ i => 8 - (intOf i).toNat)
      case atStart => exact ⟨0, by omega, rfl, rfl⟩
      case round =>
        obtain ⟨j, hj, rfl, rfl⟩ := hrel
        by_cases hlj : j < 8
        · have hY := crcBits_lt hX j
          have hstep : crcBit (crcBits X j) = crcBits X (j + 1) := rfl
          generalize crcBits X j = Y at hY hstep ⊢
          have HS := hid hstep
          clear hstep
          have hcr := crc_step hY
          go_wp2
          go_round
          case rel => exact ⟨j + 1, by omega, by go_num, congrArg (fun n : Nat => Value.int .u32 (n : Int)) HS.out⟩
          case measure => simp [intOf]; omega
        · obtain rfl : j = 8 := by omega
          go_wp2
          go_round
          case rel => exact ⟨k + 1, by omega, by go_num, congrArg (fun n : Nat => Value.int .u32 (n : Int)) HN.out⟩
          case measure => simp [intOf]; omega
    · obtain rfl : k = l.length := by omega
      rw [List.take_of_length_le (Nat.le_refl _)] at hC ⊢
      have hno := not_u32 hC
      go_wp2
      go_ret
      exact ⟨rfl, rfl⟩

set_option maxHeartbeats 1600000 in
set_option maxRecDepth 100000 in
theorem rsum_any (l : List UInt8) (hl : l.length ≤ maxLen) (w : World) :
    Calls Try.prog 88 #[.string ⟨l.toArray⟩] w fun e w' => e = .returned (.int .u32 (sumL l)) ∧ w' = w := by
  unfold maxLen at hl
  go_enter Try.func88, Try.ntmps88
  go_wp2
  go_loop [3, 4, 5, 6] (fun c i _ _ => ∃ k : Nat, k ≤ l.length ∧ i = .int .i64 k ∧ c = .int .u32 (crcL (l.take k))) (fun _ i _ _ => l.length - (intOf i).toNat)
  case atStart => exact ⟨0, by omega, rfl, by rw [crcL_0]; simp⟩
  case round =>
    obtain ⟨k, hk, rfl, rfl⟩ := hrel
    have hC := crcL_lt (l.take k)
    by_cases hlt : k < l.length
    · have hx : bits .xor .u32 (crcL (l.take k) : Int) ((((⟨l.toArray⟩ : ByteArray)[k]'hlt).toNat : Int) % 4294967296) = ((crcL (l.take k) ^^^ (l[k]'hlt).toNat : Nat) : Int) := by
        have hc := UInt8.toNat_lt (l[k]'hlt)
        have e : ((((⟨l.toArray⟩ : ByteArray)[k]'hlt).toNat : Int) % 4294967296) = (((l[k]'hlt).toNat : Nat) : Int) := by
          show ((((l[k]'hlt).toNat : Nat) : Int) % 4294967296) = _
          omega
        rw [e, u32_xor_nat _ _ hC (by omega)]
      have hX : crcL (l.take k) ^^^ (l[k]'hlt).toNat < 4294967296 := Nat.xor_lt_two_pow (n := 32) hC (by have := UInt8.toNat_lt (l[k]'hlt); omega)
      have hnext : crcBits (crcL (l.take k) ^^^ (l[k]'hlt).toNat) 8 = crcL (l.take (k + 1)) := crcL_take hlt
      generalize crcL (l.take k) ^^^ (l[k]'hlt).toNat = X at hx hX hnext
      have HN := hid hnext
      clear hnext
      go_wp2
      go_loop [3, 5, 6] (fun c i _ => ∃ j : Nat, j ≤ 8 ∧ i = .int .i64 j ∧ c = .int .u32 (crcBits X j)) (fun _ i _ => 8 - (intOf i).toNat)
      case atStart => exact ⟨0, by omega, rfl, rfl⟩
      case round =>
        obtain ⟨j, hj, rfl, rfl⟩ := hrel
        by_cases hlj : j < 8
        · have hY := crcBits_lt hX j
          have hstep : crcBit (crcBits X j) = crcBits X (j + 1) := rfl
          generalize crcBits X j = Y at hY hstep ⊢
          have HS := hid hstep
          clear hstep
          have e2 : (Y : Int) / 2 = ((Y / 2 : Nat) : Int) := by omega
          by_cases h1 : Y % 2 = 1
          · have hb : ((Y : Int) % 2 == 1) = true := by rw [beq_iff_eq]; omega
            have hxr : bits .xor .u32 ((Y : Int) / 2) 3988292384 = (crcBit Y : Int) := by
              have h3 : bits .xor .u32 ((Y / 2 : Nat) : Int) ((3988292384 : Nat) : Int) = ((Y / 2 ^^^ 3988292384 : Nat) : Int) := u32_xor_nat _ _ (by omega) (by omega)
              unfold crcBit; rw [if_pos h1, e2]; exact h3
            clear h1 e2
            go_wp2
            go_round
            case rel => exact ⟨j + 1, by omega, by go_num, congrArg (fun n : Nat => Value.int .u32 (n : Int)) HS.out⟩
            case measure => simp [intOf]; omega
          · have hb : ((Y : Int) % 2 == 1) = false := by rw [beq_eq_false_iff_ne]; omega
            have hv : Y / 2 = crcBit Y := by unfold crcBit; rw [if_neg h1]
            have HV := hid hv
            clear h1 e2 hv
            go_wp2
            go_round
            case rel => exact ⟨j + 1, by omega, by go_num, by rw [← HS.out, ← HV.out]; go_num⟩
            case measure => simp [intOf]; omega
        · obtain rfl : j = 8 := by omega
          go_wp2
          go_round
          case rel => exact ⟨k + 1, by omega, by go_num, congrArg (fun n : Nat => Value.int .u32 (n : Int)) HN.out⟩
          case measure => simp [intOf]; omega
    · obtain rfl : k = l.length := by omega
      rw [List.take_of_length_le (Nat.le_refl _)] at hC ⊢
      go_wp2
      go_ret
      exact ⟨ret_int (by unfold sumL; omega), rfl⟩
end Go.Proofs.Ytfdbcnpbjabjoaa
