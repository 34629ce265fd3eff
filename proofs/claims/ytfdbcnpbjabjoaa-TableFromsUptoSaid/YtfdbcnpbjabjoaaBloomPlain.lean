/- PLAIN: the bits of a Bloom filter. -/
import Derived.Test.YtfdbcnpbjabjoaaBloomHash
namespace Go.Proofs.Ytfdbcnpbjabjoaa
open Go.RowKit
set_option linter.unusedVariables false

/-- the i-th place of a key whose numbers are a, b, in a filter of n bytes -/
def posAt (a b n i : Nat) : Nat := (a + i * b) % 4294967296 % (8 * n)
def orAt (c : UInt8) (r : Nat) : UInt8 := UInt8.ofNat (c.toNat ||| 2 ^ r)
theorem orAt_eq (c : UInt8) (r : Nat) (hr : r < 8) : bits .or .u8 (c.toNat : Int) (2 ^ r % 256) = ((orAt c r).toNat : Int) := by
  have hc := UInt8.toNat_lt c
  have h2 : ∀ r : Fin 8, (2 : Nat) ^ r.val < 256 := by decide
  have h3 := h2 ⟨r, hr⟩
  simp only at h3
  have e : ((2 : Int) ^ r % 256) = ((2 ^ r : Nat) : Int) := by rw [Int.natCast_pow]; have : ((2 : Nat) : Int) ^ r = (2 ^ r : Int) := rfl; have h4 : ((2 ^ r : Nat) : Int) < 256 := by omega
                                                               rw [Int.natCast_pow] at h4; have h5 : (0 : Int) ≤ ((2 : Nat) : Int) ^ r := by have := Int.natCast_nonneg (2 ^ r); rwa [Int.natCast_pow] at this
                                                               omega
  rw [e, u8_or_nat c.toNat (2 ^ r) hc h3]
  have hl : c.toNat ||| 2 ^ r < 256 := Nat.or_lt_two_pow (n := 8) hc h3
  simp only [orAt, UInt8.toNat_ofNat']; omega
def setBit (l : List UInt8) (p : Nat) : List UInt8 := l.set (p / 8) (orAt (l[p / 8]?.getD 0) (p % 8))
def addK (n a b : Nat) (l : List UInt8) : Nat → List UInt8 | 0 => l | i + 1 => setBit (addK n a b l i) (posAt a b n i)
def addKey (n : Nat) (l k : List UInt8) : List UInt8 := addK n (hashAL k) (hashBL k ||| 1) l 4
def makeL (n : Nat) (ks : List (List UInt8)) : List UInt8 := ks.foldl (addKey n) (List.replicate n 0)

theorem setBit_len (l : List UInt8) (p : Nat) : (setBit l p).length = l.length := by simp [setBit]
theorem addK_len (n a b : Nat) (l : List UInt8) (i : Nat) : (addK n a b l i).length = l.length := by
  induction i with
  | zero => rfl
  | succ i ih => rw [addK, setBit_len, ih]
theorem addKey_len (n : Nat) (l k : List UInt8) : (addKey n l k).length = l.length := addK_len _ _ _ _ _
theorem foldl_len (n : Nat) : ∀ (ks : List (List UInt8)) (l : List UInt8), (ks.foldl (addKey n) l).length = l.length
  | [], _ => rfl
  | k :: r, l => by rw [List.foldl_cons, foldl_len n r, addKey_len]
theorem makeL_len (n : Nat) (ks : List (List UInt8)) : (makeL n ks).length = n := by rw [makeL, foldl_len]; simp
theorem posAt_lt {a b n i : Nat} (hn : 0 < n) : posAt a b n i < 8 * n := Nat.mod_lt _ (by omega)
theorem bit_lt (l : List UInt8) (h : List UInt8) (n i a b : Nat) (hn : 0 < n) (hl : l.length = n) : posAt a b n i / 8 < l.length := by have := posAt_lt (a := a) (b := b) (i := i) hn; omega
def hasBit (l : List UInt8) (p : Nat) : Bool := decide ((l[p / 8]?.getD 0).toNat / 2 ^ (p % 8) % 2 = 1)
def hasK (l : List UInt8) (a b : Nat) : Nat → Bool | 0 => true | i + 1 => hasK l a b i && hasBit l (posAt a b l.length i)
/-- has the filter the key? -/
def hasL (l k : List UInt8) : Bool := decide (1 ≤ l.length ∧ l.length ≤ 8192) && hasK l (hashAL k) (hashBL k ||| 1) 4
theorem makeL_take {n : Nat} {ks : List (List UInt8)} {k : Nat} (h : k < ks.length) : addK n (hashAL ks[k]) (hashBL ks[k] ||| 1) (makeL n (ks.take k)) 4 = makeL n (ks.take (k + 1)) := by
  unfold makeL
  rw [List.take_add_one, List.getElem?_eq_getElem h, List.foldl_append]; rfl
theorem bit_test (c : UInt8) (r : Nat) : (bits .and .u8 ((c.toNat : Int) / 2 ^ r) 1 == 0) = !decide (c.toNat / 2 ^ r % 2 = 1) := by
  have hc := UInt8.toNat_lt c
  have hd : c.toNat / 2 ^ r < 256 := Nat.lt_of_le_of_lt (Nat.div_le_self _ _) hc
  have e : (c.toNat : Int) / 2 ^ r = ((c.toNat / 2 ^ r : Nat) : Int) := by rw [Int.natCast_ediv, Int.natCast_pow]; rfl
  have h : bits .and .u8 ((c.toNat / 2 ^ r : Nat) : Int) 1 = ((c.toNat / 2 ^ r &&& 1 : Nat) : Int) := u8_and_nat _ 1 hd (by omega)
  rw [e, h, Nat.and_one_is_mod]
  rw [Bool.eq_iff_iff]; simp; omega
theorem bit_test2 (c : UInt8) (r : Nat) : (((c.toNat : Int) / 2 ^ r).tmod 2 == 0) = !decide (c.toNat / 2 ^ r % 2 = 1) := by
  have e : (c.toNat : Int) / 2 ^ r = ((c.toNat / 2 ^ r : Nat) : Int) := by rw [Int.natCast_ediv, Int.natCast_pow]; rfl
  rw [e, Int.tmod_eq_emod_of_nonneg (Int.natCast_nonneg _), Bool.eq_iff_iff]; simp; omega
theorem hasK_false {f : List UInt8} {a b j : Nat} (hb : hasBit f (posAt a b f.length j) = false) : ∀ i, j < i → hasK f a b i = false := by
  intro i
  induction i with
  | zero => intro h; omega
  | succ i ih =>
    intro h
    rw [hasK]
    by_cases e : j = i
    · subst e; rw [hb]; simp
    · rw [ih (by omega)]; rfl
end Go.Proofs.Ytfdbcnpbjabjoaa
