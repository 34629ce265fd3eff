/- CONTRACTS: bloom.Hash, wherryref06.Hash. -/
import Derived.Test.YtfdbcnpbjabjoaaProg
import Derived.Test.YtfdbcnpbjabjoaaBytes
import Derived.Test.YtfdbcnpbjabjoaaVaryPlain
import Derived.Laws.BitsAllLaws
import Derived.WalkLawsBesides
import Derived.Outline
namespace Go.Proofs.Ytfdbcnpbjabjoaa
open Go.RowKit

def hashA (a : Nat) (c : UInt8) : Nat := (a ^^^ c.toNat) * 16777619 % 4294967296
def hashB0 (b : Nat) (c : UInt8) : Nat := (b + c.toNat) % 4294967296 * 2246822507 % 4294967296
def hashB (b : Nat) (c : UInt8) : Nat := hashB0 b c ^^^ hashB0 b c / 8192
def hashAL (l : List UInt8) : Nat := l.foldl hashA 2166136261
def hashBL (l : List UInt8) : Nat := l.foldl hashB 2538058380

theorem hashA_lt (a : Nat) (c : UInt8) : hashA a c < 4294967296 := Nat.mod_lt _ (by decide)
theorem hashB0_lt (b : Nat) (c : UInt8) : hashB0 b c < 4294967296 := Nat.mod_lt _ (by decide)
theorem hashB_lt (b : Nat) (c : UInt8) : hashB b c < 4294967296 := Nat.xor_lt_two_pow (n := 32) (hashB0_lt b c) (by have := hashB0_lt b c; omega)
theorem foldl_lt {f : Nat → UInt8 → Nat} (hf : ∀ a c, f a c < 4294967296) : ∀ (l : List UInt8) (a : Nat), a < 4294967296 → l.foldl f a < 4294967296
  | [], _, h => h
  | c :: r, a, _ => foldl_lt hf r (f a c) (hf a c)
theorem hashAL_lt (l : List UInt8) : hashAL l < 4294967296 := foldl_lt hashA_lt l _ (by decide)
theorem hashBL_lt (l : List UInt8) : hashBL l < 4294967296 := foldl_lt hashB_lt l _ (by decide)
theorem hashAL_0 (l : List UInt8) : hashAL (l.take 0) = 2166136261 := by simp [hashAL]
theorem hashBL_0 (l : List UInt8) : hashBL (l.take 0) = 2538058380 := by simp [hashBL]
theorem foldl_take {β : Type} {f : β → UInt8 → β} {a : β} {l : List UInt8} {k : Nat} (h : k < l.length) : (l.take (k + 1)).foldl f a = f ((l.take k).foldl f a) l[k] := by
  rw [List.take_add_one, List.getElem?_eq_getElem h, List.foldl_append]; rfl
theorem hashA_eq {A : Nat} (hA : A < 4294967296) (c : UInt8) : bits .xor .u32 (A : Int) ((c.toNat : Int) % 4294967296) * 16777619 % 4294967296 = (hashA A c : Int) := by
  have hc := UInt8.toNat_lt c
  have e : (c.toNat : Int) % 4294967296 = (c.toNat : Int) := by omega
  rw [e, u32_xor_nat A c.toNat hA (by omega)]
  unfold hashA; omega
theorem hashB_eq {B : Nat} (c : UInt8) : bits .xor .u32 (((B : Int) + (c.toNat : Int)) % 4294967296 * 2246822507 % 4294967296) (((B : Int) + (c.toNat : Int)) % 4294967296 * 2246822507 % 4294967296 / 8192) = (hashB B c : Int) := by
  have e : ((B : Int) + (c.toNat : Int)) % 4294967296 * 2246822507 % 4294967296 = (hashB0 B c : Int) := by unfold hashB0; omega
  have e2 : (hashB0 B c : Int) / 8192 = ((hashB0 B c / 8192 : Nat) : Int) := by omega
  have hl := hashB0_lt B c
  rw [e, e2, u32_xor_nat _ _ hl (by omega)]; rfl
theorem hashO_eq {B : Nat} (hB : B < 4294967296) : bits .or .u32 (B : Int) 1 = ((B ||| 1 : Nat) : Int) := u32_or_nat B 1 hB (by omega)

theorem mask32 {x : Nat} (hx : x < 18446744073709551616) : bits .and .u64 (x : Int) 4294967295 = ((x % 4294967296 : Nat) : Int) := by
  have h := u64_and_nat x 4294967295 hx (by omega)
  have h' : bits .and .u64 (x : Int) 4294967295 = ((x &&& 4294967295 : Nat) : Int) := h
  rw [h', show (4294967295 : Nat) = 2 ^ 32 - 1 from rfl, Nat.and_two_pow_sub_one_eq_mod]
theorem rwrap_c (c : UInt8) : IntKind.u64.wrap (c.toNat : Int) = (c.toNat : Int) := by
  have := UInt8.toNat_lt c
  exact wrap_u64 (by omega) (by omega)
theorem rhashA_eq {A : Nat} (hA : A < 4294967296) (c : UInt8) : bits .and .u64 (IntKind.u64.wrap (bits .xor .u64 (A : Int) (c.toNat : Int) * 16777619)) 4294967295 = (hashA A c : Int) := by
  have hc := UInt8.toNat_lt c
  have hx : A ^^^ c.toNat < 4294967296 := Nat.xor_lt_two_pow (n := 32) hA (by omega)
  rw [u64_xor_nat A c.toNat (by omega) (by omega)]
  have e : (((A ^^^ c.toNat : Nat) : Int)) * 16777619 = (((A ^^^ c.toNat) * 16777619 : Nat) : Int) := by omega
  rw [e, wrap_u64 (by omega) (by omega), mask32 (by omega)]; rfl
theorem rhashB0_eq {B : Nat} (hB : B < 4294967296) (c : UInt8) : bits .and .u64 (IntKind.u64.wrap (bits .and .u64 (IntKind.u64.wrap ((B : Int) + (c.toNat : Int))) 4294967295 * 2246822507)) 4294967295 = (hashB0 B c : Int) := by
  have hc := UInt8.toNat_lt c
  have e : (B : Int) + (c.toNat : Int) = ((B + c.toNat : Nat) : Int) := by omega
  have e1 : IntKind.u64.wrap ((B + c.toNat : Nat) : Int) = ((B + c.toNat : Nat) : Int) := wrap_u64 (by omega) (by omega)
  rw [e, e1, mask32 (by omega)]
  have e2 : (((B + c.toNat) % 4294967296 : Nat) : Int) * 2246822507 = (((B + c.toNat) % 4294967296 * 2246822507 : Nat) : Int) := by omega
  rw [e2, wrap_u64 (by omega) (by omega), mask32 (by omega)]; rfl
theorem rhashX_eq {b : Nat} (hb : b < 4294967296) : bits .xor .u64 (b : Int) ((b : Int) / 8192) = ((b ^^^ b / 8192 : Nat) : Int) := by
  have e : (b : Int) / 8192 = ((b / 8192 : Nat) : Int) := by omega
  rw [e, u64_xor_nat _ _ (by omega) (by omega)]
theorem rhashO_eq {B : Nat} (hB : B < 4294967296) : bits .or .u64 (B : Int) 1 % 4294967296 = ((B ||| 1 : Nat) : Int) := by
  have h := u64_or_nat B 1 (by omega) (by omega)
  have h' : bits .or .u64 (B : Int) 1 = ((B ||| 1 : Nat) : Int) := h
  have hl : B ||| 1 < 4294967296 := Nat.or_lt_two_pow (n := 32) hB (by omega)
  rw [h']; omega

set_option maxHeartbeats 800000 in
set_option maxRecDepth 100000 in
theorem hash_any (l : List UInt8) (hl : l.length ≤ maxLen) (w : World) :
    Calls Try.prog 71 #[.string ⟨l.toArray⟩] w fun e w' => e = .returned (.tuple #[.int .u32 (hashAL l), .int .u32 (hashBL l ||| 1 : Nat)]) ∧ w' = w := by
  unfold maxLen at hl
  go_enter Try.func71, Try.ntmps71
  go_wp2
  go_loop [4, 5, 9] (fun a b i => ∃ k : Nat, k ≤ l.length ∧ i = .int .i64 k ∧ a = .int .u32 (hashAL (l.take k)) ∧ b = .int .u32 (hashBL (l.take k))) (fun _ _ i => l.length - (intOf i).toNat)
  case atStart => exact ⟨0, by omega, rfl, by rw [hashAL_0]; simp, by rw [hashBL_0]; simp⟩
  case round =>
    obtain ⟨k, hk, rfl, rfl, rfl⟩ := hrel
    have hA := hashAL_lt (l.take k)
    have hB := hashBL_lt (l.take k)
    by_cases hlt : k < l.length
    · have eA := hashA_eq hA ((⟨l.toArray⟩ : ByteArray)[k]'hlt)
      have eB := hashB_eq (B := hashBL (l.take k)) ((⟨l.toArray⟩ : ByteArray)[k]'hlt)
      have fA : hashA (hashAL (l.take k)) l[k] = hashAL (l.take (k + 1)) := (foldl_take hlt).symm
      have fB : hashB (hashBL (l.take k)) l[k] = hashBL (l.take (k + 1)) := (foldl_take hlt).symm
      have FA := hid fA; have FB := hid fB
      clear fA fB
      go_wp2
      go_round
      case rel => exact ⟨k + 1, by omega, by go_num, (congrArg (Value.int .u32) eA).trans (congrArg (fun n : Nat => Value.int .u32 (n : Int)) FA.out), congrArg (fun n : Nat => Value.int .u32 (n : Int)) FB.out⟩
      case measure => simp [intOf]; omega
    · obtain rfl : k = l.length := by omega
      rw [List.take_of_length_le (Nat.le_refl _)] at hA hB ⊢
      have eO := hashO_eq hB
      go_wp2
      go_ret2
      exact ⟨rfl, rfl⟩
set_option maxHeartbeats 800000 in
set_option maxRecDepth 100000 in
theorem rhash_any (l : List UInt8) (hl : l.length ≤ maxLen) (w : World) :
    Calls Try.prog 89 #[.string ⟨l.toArray⟩] w fun e w' => e = .returned (.tuple #[.int .u32 (hashAL l), .int .u32 (hashBL l ||| 1 : Nat)]) ∧ w' = w := by
  unfold maxLen at hl
  go_enter Try.func89, Try.ntmps89
  go_wp2
  go_loop [4, 5, 6] (fun a b i => ∃ k : Nat, k ≤ l.length ∧ i = .int .i64 k ∧ a = .int .u64 (hashAL (l.take k)) ∧ b = .int .u64 (hashBL (l.take k))) (fun _ _ i => l.length - (intOf i).toNat)
  case atStart => exact ⟨0, by omega, rfl, by rw [hashAL_0]; simp, by rw [hashBL_0]; simp⟩
  case round =>
    obtain ⟨k, hk, rfl, rfl, rfl⟩ := hrel
    have hA := hashAL_lt (l.take k)
    have hB := hashBL_lt (l.take k)
    by_cases hlt : k < l.length
    · have hw := rwrap_c ((⟨l.toArray⟩ : ByteArray)[k]'hlt)
      have eA := rhashA_eq hA ((⟨l.toArray⟩ : ByteArray)[k]'hlt)
      have eB := rhashB0_eq hB ((⟨l.toArray⟩ : ByteArray)[k]'hlt)
      have hl0 := hashB0_lt (hashBL (l.take k)) ((⟨l.toArray⟩ : ByteArray)[k]'hlt)
      have eX := rhashX_eq hl0
      have ed : IntKind.u64.wrap ((hashB0 (hashBL (l.take k)) ((⟨l.toArray⟩ : ByteArray)[k]'hlt) : Int) / 8192) = (hashB0 (hashBL (l.take k)) ((⟨l.toArray⟩ : ByteArray)[k]'hlt) : Int) / 8192 := wrap_u64 (by omega) (by omega)
      have fA : hashA (hashAL (l.take k)) l[k] = hashAL (l.take (k + 1)) := (foldl_take hlt).symm
      have fB : hashB (hashBL (l.take k)) l[k] = hashBL (l.take (k + 1)) := (foldl_take hlt).symm
      have FA := hid fA; have FB := hid fB
      clear fA fB
      go_wp2
      go_round
      case rel => exact ⟨k + 1, by omega, by go_num, congrArg (fun n : Nat => Value.int .u64 (n : Int)) FA.out, congrArg (fun n : Nat => Value.int .u64 (n : Int)) FB.out⟩
      case measure => simp [intOf]; omega
    · obtain rfl : k = l.length := by omega
      rw [List.take_of_length_le (Nat.le_refl _)] at hA hB ⊢
      have eO := rhashO_eq hB
      go_wp2
      go_ret2
      exact ⟨rfl, rfl⟩
end Go.Proofs.Ytfdbcnpbjabjoaa
