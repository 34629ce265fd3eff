/- PLAIN: eight bytes, the highest first, stand in the order of the numbers. -/
import Derived.Test.YtelacmchofehcaaVaryPlain
namespace Go.Proofs.Ytelacmchofehcaa
def valB : List UInt8 → Nat | [] => 0 | c :: r => c.toNat * 256 ^ r.length + valB r
theorem valB_lt (l : List UInt8) : valB l < 256 ^ l.length := by
  induction l with
  | nil => simp [valB]
  | cons c r ih =>
    have := UInt8.toNat_lt c
    have h : c.toNat * 256 ^ r.length ≤ 255 * 256 ^ r.length := Nat.mul_le_mul_right _ (by omega)
    simp only [valB, List.length_cons, Nat.pow_succ]; omega
theorem less_valB : ∀ (x y : List UInt8), x.length = y.length → Op.bytesLess x y = decide (valB x < valB y)
  | [], [], _ => by simp [Op.bytesLess]
  | a :: x, b :: y, h => by
    have hl : x.length = y.length := by simpa using h
    have ih := less_valB x y hl
    have hx := valB_lt x
    have hy := valB_lt y
    rw [Op.bytesLess, ih]
    simp only [valB, hl] at *
    generalize 256 ^ y.length = K at *
    rw [Bool.eq_iff_iff]
    simp only [Bool.or_eq_true, decide_eq_true_eq, Bool.and_eq_true, beq_iff_eq, UInt8.lt_iff_toNat_lt]
    constructor
    · rintro (h1 | ⟨rfl, h2⟩)
      · have : (a.toNat + 1) * K ≤ b.toNat * K := Nat.mul_le_mul_right _ h1
        rw [Nat.add_mul] at this; omega
      · omega
    · intro h1
      by_cases h2 : a.toNat < b.toNat
      · exact .inl h2
      · by_cases h3 : a.toNat = b.toNat
        · exact .inr ⟨UInt8.toNat_inj.1 h3, by rw [h3] at h1; omega⟩
        · have : (b.toNat + 1) * K ≤ a.toNat * K := Nat.mul_le_mul_right _ (by omega)
          rw [Nat.add_mul] at this; omega
theorem fixedL_val {n : Nat} (hn : U64 n) : valB (fixedL n) = n := by
  have e : fixedL n = [byteAt n 0, byteAt n 1, byteAt n 2, byteAt n 3, byteAt n 4, byteAt n 5, byteAt n 6, byteAt n 7] := rfl
  have h : ∀ i, n / 256 ^ (i + 1) = n / 256 ^ i / 256 := fun i => by rw [Nat.div_div_eq_div_mul, ← Nat.pow_succ]
  have h1 := h 0; have h2 := h 1; have h3 := h 2; have h4 := h 3; have h5 := h 4; have h6 := h 5; have h7 := h 6; have h8 := h 7
  have h9 : n / 256 ^ 8 = 0 := Nat.div_eq_of_lt hn
  rw [e]
  simp only [valB, byteAt_nat, List.length_cons, List.length_nil, Nat.sub_zero, Nat.reduceSub, Nat.reduceAdd, Nat.reducePow, Nat.pow_zero, Nat.pow_one, Nat.div_one] at *
  omega
theorem fixedL_less {a b : Nat} (ha : U64 a) (hb : U64 b) : Op.bytesLess (fixedL a) (fixedL b) = decide (a < b) := by
  rw [less_valB _ _ (by rw [fixedL_len, fixedL_len]), fixedL_val ha, fixedL_val hb]
theorem fixedL_beq {a b : Nat} (ha : U64 a) (hb : U64 b) : (fixedL a == fixedL b) = decide (a = b) := by
  rw [Bool.eq_iff_iff, beq_iff_eq, decide_eq_true_eq]
  constructor
  · intro h; rw [← fixedL_val ha, h, fixedL_val hb]
  · intro h; rw [h]
end Go.Proofs.Ytelacmchofehcaa
