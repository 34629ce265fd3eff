/- CONTRACT: bloom.Has. -/
import Derived.Test.YtfdbcnpbjabjoaaBloomPlain
namespace Go.Proofs.Ytfdbcnpbjabjoaa
open Go.RowKit

set_option maxRecDepth 100000 in
theorem has_no (f k : List UInt8) (hf : f = [] ∨ 8192 < f.length) (hfl : f.length ≤ maxLen) (w : World) :
    Calls Try.prog 55 #[.string ⟨f.toArray⟩, .string ⟨k.toArray⟩] w fun e w' => e = .returned (.bool (hasL f k)) ∧ w' = w := by
  unfold maxLen at hfl
  have hv : hasL f k = false := by
    unfold hasL
    have : ¬ (1 ≤ f.length ∧ f.length ≤ 8192) := by rcases hf with rfl | h <;> simp <;> omega
    simp [this]
  rw [hv]
  rcases hf with rfl | hf
  · go_enter Try.func55, Try.ntmps55
    go_wp2_with fail
    go_ret
    exact ⟨rfl, rfl⟩
  · obtain ⟨c, r, rfl⟩ : ∃ c r, f = c :: r := by cases f with
      | nil => simp at hf
      | cons c r => exact ⟨c, r, rfl⟩
    have h9 : 8192 < r.length + 1 := by simpa using hf
    clear hf
    go_enter Try.func55, Try.ntmps55
    go_wp2_with fail
    go_ret
    exact ⟨rfl, rfl⟩

set_option maxHeartbeats 1600000 in
set_option maxRecDepth 100000 in
theorem has_yes (f k : List UInt8) (h1 : 1 ≤ f.length) (h2 : f.length ≤ 8192) (hk : k.length ≤ maxLen) (w : World) :
    Calls Try.prog 55 #[.string ⟨f.toArray⟩, .string ⟨k.toArray⟩] w fun e w' => e = .returned (.bool (hasL f k)) ∧ w' = w := by
  have hv : hasL f k = hasK f (hashAL k) (hashBL k ||| 1) 4 := by simp [hasL, h1, h2]
  rw [hv]
  clear hv
  have hne : (f == []) = false := by cases f with
    | nil => simp at h1
    | cons c r => rfl
  have hne2 : f.isEmpty = false := by cases f with
    | nil => simp at h1
    | cons c r => rfl
  go_enter Try.func55, Try.ntmps55
  go_wp2_with fail
  refine (hash_any k hk _).mono ?_
  rintro e w1 ⟨rfl, rfl⟩
  go_wp2_with fail
  go_loop [5, 7, 20] (fun x _ i => ∃ j : Nat, j ≤ 4 ∧ i = .int .i64 j ∧ x = .int .u32 ((hashAL k + j * (hashBL k ||| 1)) % 4294967296 : Nat) ∧ hasK f (hashAL k) (hashBL k ||| 1) j = true) (fun _ _ i => 4 - (intOf i).toNat)
  case atStart => exact ⟨0, by omega, rfl, by rw [Nat.zero_mul, Nat.add_zero, Nat.mod_eq_of_lt (hashAL_lt _)], rfl⟩
  case round =>
    obtain ⟨j, hj, rfl, rfl, hsofar⟩ := hrel
    by_cases hlj : j < 4
    · have hp8 : posAt (hashAL k) (hashBL k ||| 1) f.length j < 8 * f.length := posAt_lt (by omega)
      have hX : (hashAL k + j * (hashBL k ||| 1)) % 4294967296 < 4294967296 := Nat.mod_lt _ (by decide)
      have hpos : posAt (hashAL k) (hashBL k ||| 1) f.length j = (hashAL k + j * (hashBL k ||| 1)) % 4294967296 % (8 * f.length) := rfl
      have hnext : ((hashAL k + j * (hashBL k ||| 1)) % 4294967296 + (hashBL k ||| 1)) % 4294967296 = (hashAL k + (j + 1) * (hashBL k ||| 1)) % 4294967296 := by rw [Nat.add_mul]; omega
      have HS : Hid (hasK f (hashAL k) (hashBL k ||| 1) j = true) := hsofar
      clear hsofar
      have hB : hashBL k ||| 1 < 4294967296 := Nat.or_lt_two_pow (n := 32) (hashBL_lt _) (by omega)
      obtain ⟨p, hpp⟩ : ∃ p, p = posAt (hashAL k) (hashBL k ||| 1) f.length j := ⟨_, rfl⟩
      rw [← hpp] at hp8 hpos
      have HPP := hid hpp
      clear hpp
      generalize (hashAL k + j * (hashBL k ||| 1)) % 4294967296 = X at hX hpos hnext ⊢
      generalize hY : hashBL k ||| 1 = Y at *
      have HN := hid hnext
      have HY := hid hY
      clear hnext hY
      have hq : (X : Int) % (8 * (f.length : Int)) = (p : Int) := by rw [hpos, Int.natCast_emod, Int.natCast_mul]; rfl
      clear hpos
      have hM8 : p / 8 < f.length := by omega
      have hq8 : (p : Int) / 8 < (f.length : Int) := by omega
      have ht := bit_test ((⟨f.toArray⟩ : ByteArray)[p / 8]'hM8) (p % 8)
      have hbit : hasBit f p = decide (((⟨f.toArray⟩ : ByteArray)[p / 8]'hM8).toNat / 2 ^ (p % 8) % 2 = 1) := by
        unfold hasBit; rw [List.getElem?_eq_getElem hM8]; rfl
      obtain ⟨B, hBB⟩ : ∃ B : Bool, B = decide (((⟨f.toArray⟩ : ByteArray)[p / 8]'hM8).toNat / 2 ^ (p % 8) % 2 = 1) := ⟨_, rfl⟩
      rw [← hBB] at ht hbit
      have HBIT := hid hbit
      clear hBB hbit
      cases B
      · simp only [Bool.not_false] at ht
        go_wp2_with fail
        go_ret
        have hf4 := hasK_false (f := f) (a := hashAL k) (b := Y) (j := j) (by rw [← HPP.out]; exact HBIT.out) 4 hlj
        rw [HY.out, hf4]
        exact ⟨rfl, rfl⟩
      · simp only [Bool.not_true] at ht
        go_wp2_with fail
        go_round
        case rel => exact ⟨j + 1, by omega, by go_num, by rw [← HN.out]; congr 1, by rw [hasK, HS.out, ← HPP.out, HBIT.out]; rfl⟩
        case measure => simp [intOf]; omega
    · go_wp2_with fail
      obtain rfl : j = 4 := by omega
      go_ret
      exact ⟨by rw [hsofar]; rfl, rfl⟩
end Go.Proofs.Ytfdbcnpbjabjoaa
