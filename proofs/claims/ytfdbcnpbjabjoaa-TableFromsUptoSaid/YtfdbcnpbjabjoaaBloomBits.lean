/- PLAIN: what bits a filter has. -/
import Derived.Test.YtfdbcnpbjabjoaaBloomPlain
namespace Go.Proofs.Ytfdbcnpbjabjoaa

theorem hasBit_test (l : List UInt8) (q : Nat) : hasBit l q = (l[q / 8]?.getD 0).toNat.testBit (q % 8) := by
  rw [hasBit, Nat.testBit_eq_decide_div_mod_eq]
theorem orAt_test (c : UInt8) {r : Nat} (hr : r < 8) (s : Nat) : (orAt c r).toNat.testBit s = (c.toNat.testBit s || decide (r = s)) := by
  have hc := UInt8.toNat_lt c
  have h2 : ∀ r : Fin 8, (2 : Nat) ^ r.val < 256 := by decide
  have h3 := h2 ⟨r, hr⟩
  simp only at h3
  have hl : c.toNat ||| 2 ^ r < 256 := Nat.or_lt_two_pow (n := 8) hc h3
  have e : (orAt c r).toNat = c.toNat ||| 2 ^ r := by simp only [orAt, UInt8.toNat_ofNat']; omega
  rw [e, Nat.testBit_or, Nat.testBit_two_pow]
theorem hasBit_setBit {l : List UInt8} {p : Nat} (hp : p / 8 < l.length) (q : Nat) : hasBit (setBit l p) q = (hasBit l q || decide (p = q)) := by
  rw [hasBit_test, hasBit_test, setBit]
  by_cases h : p / 8 = q / 8
  · rw [← h, List.getElem?_set_self hp]
    simp only [Option.getD_some]
    rw [orAt_test _ (Nat.mod_lt _ (by omega))]
    congr 1
    rw [Bool.eq_iff_iff]; simp; omega
  · rw [List.getElem?_set_ne h]
    have : decide (p = q) = false := by simp; omega
    rw [this, Bool.or_false]
theorem hasBit_addK {n a b : Nat} {l : List UInt8} (hn : 0 < n) (hl : l.length = n) (q : Nat) : ∀ i, hasBit (addK n a b l i) q = (hasBit l q || (List.range i).any fun j => decide (posAt a b n j = q)) := by
  intro i
  induction i with
  | zero => simp [addK]
  | succ i ih =>
    rw [addK, hasBit_setBit (bit_lt _ [] n i a b hn (by rw [addK_len, hl])), ih, List.range_succ, List.any_append]
    simp [Bool.or_assoc]
def keyBit (n : Nat) (q : Nat) (k : List UInt8) : Bool := (List.range 4).any fun j => decide (posAt (hashAL k) (hashBL k ||| 1) n j = q)
theorem hasBit_foldl {n : Nat} (hn : 0 < n) (q : Nat) : ∀ (ks : List (List UInt8)) (l : List UInt8), l.length = n → hasBit (ks.foldl (addKey n) l) q = (hasBit l q || ks.any (keyBit n q))
  | [], l, _ => by simp
  | k :: r, l, hl => by
    rw [List.foldl_cons, hasBit_foldl hn q r _ (by rw [addKey_len, hl]), addKey, hasBit_addK hn hl, List.any_cons]
    simp [keyBit, Bool.or_assoc]
theorem hasBit_zero (n q : Nat) : hasBit (List.replicate n 0) q = false := by
  rw [hasBit_test]
  by_cases h : q / 8 < n
  · simp [h]
  · simp [h]
theorem hasBit_makeL {n : Nat} (hn : 0 < n) (q : Nat) (ks : List (List UInt8)) : hasBit (makeL n ks) q = ks.any (keyBit n q) := by
  rw [makeL, hasBit_foldl hn q _ _ (by simp), hasBit_zero]; simp
theorem hasK_iff (f : List UInt8) (a b : Nat) : ∀ i, hasK f a b i = (List.range i).all fun j => hasBit f (posAt a b f.length j)
  | 0 => by simp [hasK]
  | i + 1 => by rw [hasK, hasK_iff f a b i, List.range_succ, List.all_append]; simp
theorem hasL_makeL {n : Nat} (h1 : 1 ≤ n) (h2 : n ≤ 8192) (ks : List (List UInt8)) (k : List UInt8) : hasL (makeL n ks) k = (List.range 4).all fun j => ks.any (keyBit n (posAt (hashAL k) (hashBL k ||| 1) n j)) := by
  rw [hasL, makeL_len, hasK_iff, makeL_len]
  simp only [h1, h2, and_self, decide_true, Bool.true_and]
  congr 1
  funext j
  rw [hasBit_makeL (by omega)]
theorem has_made {n : Nat} (h1 : 1 ≤ n) (h2 : n ≤ 8192) (ks : List (List UInt8)) (k : List UInt8) (hk : k ∈ ks) : hasL (makeL n ks) k = true := by
  rw [hasL_makeL h1 h2, List.all_eq_true]
  intro j hj
  rw [List.any_eq_true]
  refine ⟨k, hk, ?_⟩
  rw [keyBit, List.any_eq_true]
  exact ⟨j, hj, by simp⟩
theorem has_more {n : Nat} (h1 : 1 ≤ n) (h2 : n ≤ 8192) (ks ms : List (List UInt8)) (k : List UInt8) (h : hasL (makeL n ks) k = true) : hasL (makeL n (ms ++ ks)) k = true := by
  rw [hasL_makeL h1 h2, List.all_eq_true] at *
  intro j hj
  rw [List.any_append, h j hj]; simp
theorem joins_at {n : Nat} (h1 : 1 ≤ n) (ks ms : List (List UInt8)) (i : Nat) : (makeL n ks)[i]?.getD 0 ||| (makeL n ms)[i]?.getD 0 = (makeL n (ks ++ ms))[i]?.getD 0 := by
  apply UInt8.toNat_inj.1
  rw [UInt8.toNat_or]
  apply Nat.eq_of_testBit_eq
  intro s
  rw [Nat.testBit_or]
  by_cases hs : s < 8
  · have e1 : (8 * i + s) / 8 = i := by omega
    have e2 : (8 * i + s) % 8 = s := by omega
    have h := fun l => hasBit_test l (8 * i + s)
    rw [e1, e2] at h
    rw [← h, ← h, ← h, hasBit_makeL (by omega), hasBit_makeL (by omega), hasBit_makeL (by omega), List.any_append]
  · have h256 : ∀ x : UInt8, x.toNat.testBit s = false := fun x => Nat.testBit_lt_two_pow (Nat.lt_of_lt_of_le (UInt8.toNat_lt x) (Nat.pow_le_pow_right (n := 2) (by omega) (by omega : 8 ≤ s)))
    rw [h256, h256, h256]; rfl
end Go.Proofs.Ytfdbcnpbjabjoaa
