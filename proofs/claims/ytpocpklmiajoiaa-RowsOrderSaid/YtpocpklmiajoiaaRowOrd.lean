/- PLAIN: keys stand in the order of their numbers; keys of unlike things are unlike. -/
import Derived.Test.YtpocpklmiajoiaaVaryOrd
import Derived.Test.YtpocpklmiajoiaaRowKeys
namespace Go.Proofs.Ytpocpklmiajoiaa
open Go.RowKit

theorem less_append (p x y : List UInt8) : Op.bytesLess (p ++ x) (p ++ y) = Op.bytesLess x y := by
  induction p with
  | nil => rfl
  | cons c p ih =>
    rw [List.cons_append, List.cons_append, Op.bytesLess, ih]
    have h1 : decide (c < c) = false := by simp
    rw [h1]
    simp
theorem fixed4 {n : Nat} (hn : n ≤ 2147483648) : fixedL n = [0, 0, 0, 0] ++ (fixedL n).drop 4 := by
  have e : fixedL n = [byteAt n 0, byteAt n 1, byteAt n 2, byteAt n 3, byteAt n 4, byteAt n 5, byteAt n 6, byteAt n 7] := rfl
  have h : ∀ i, i < 4 → byteAt n i = 0 := fun i hi => by
    refine UInt8.toNat_inj.1 ?_
    rw [byteAt_nat]
    have h1 : n / 256 ^ (7 - i) = 0 := by
      refine Nat.div_eq_of_lt (Nat.lt_of_lt_of_le (show n < 256 ^ 4 by omega) (Nat.pow_le_pow_right (by omega) (by omega)))
    rw [h1]; rfl
  rw [e, h 0 (by omega), h 1 (by omega), h 2 (by omega), h 3 (by omega)]
  rfl
theorem event_less (l : List UInt8) {m n : Nat} (hm : m ≤ 2147483648) (hn : n ≤ 2147483648) : Op.bytesLess (eventL l m) (eventL l n) = decide (m < n) := by
  rw [← fixedL_less (show U64 m by unfold U64; omega) (show U64 n by unfold U64; omega)]
  unfold eventL
  rw [show (104 :: (textL l ++ (fixedL m).drop 4)) = (104 :: textL l) ++ (fixedL m).drop 4 from rfl, show (104 :: (textL l ++ (fixedL n).drop 4)) = (104 :: textL l) ++ (fixedL n).drop 4 from rfl, less_append]
  conv => rhs; rw [fixed4 hm, fixed4 hn, less_append]
theorem transfer_less (b : UInt8) {m n : Nat} (hm : U64 m) (hn : U64 n) : Op.bytesLess (116 :: b :: fixedL m) (116 :: b :: fixedL n) = decide (m < n) := by
  rw [← fixedL_less hm hn]
  exact less_append [116, b] _ _
theorem valB_append (x y : List UInt8) : valB (x ++ y) = valB x * 256 ^ y.length + valB y := by
  induction x with
  | nil => simp [valB]
  | cons c x ih =>
    rw [List.cons_append, valB, ih, valB, List.length_append, Nat.pow_add, Nat.add_mul, Nat.mul_assoc, Nat.add_assoc]
theorem timer_less (b : UInt8) {m n i j : Nat} (hm : U64 m) (hn : U64 n) (hi : U64 i) (hj : U64 j) : Op.bytesLess (dueL b m (fixedL i)) (dueL b n (fixedL j)) = (decide (m < n) || (decide (m = n) && decide (i < j))) := by
  unfold dueL
  rw [show (109 :: b :: (fixedL m ++ fixedL i)) = [109, b] ++ (fixedL m ++ fixedL i) from rfl, show (109 :: b :: (fixedL n ++ fixedL j)) = [109, b] ++ (fixedL n ++ fixedL j) from rfl, less_append, less_valB _ _ (by simp [fixedL_len]), valB_append, valB_append, fixedL_val hm, fixedL_val hn, fixedL_val hi, fixedL_val hj, fixedL_len, fixedL_len, Bool.eq_iff_iff]
  simp only [Bool.or_eq_true, decide_eq_true_eq, Bool.and_eq_true]
  unfold U64 at *
  omega
theorem text_app_inj {a b x y : List UInt8} (h : textL a ++ x = textL b ++ y) : a = b ∧ x = y := by
  unfold textL at h
  rw [List.append_assoc, List.append_assoc] at h
  have h1 := split7_putL a.length (a ++ x)
  rw [h, split7_putL] at h1
  have h2 := Option.some.inj h1
  have h3 : putL b.length = putL a.length := congrArg Prod.fst h2
  have h4 : b ++ y = a ++ x := congrArg Prod.snd h2
  have := List.append_inj h4 (putL_inj h3)
  exact ⟨this.1.symm, this.2.symm⟩
theorem event_beq (a b : List UInt8) {m n : Nat} (hm : m ≤ 2147483648) (hn : n ≤ 2147483648) : (eventL a m == eventL b n) = ((a == b) && decide (m = n)) := by
  rw [Bool.eq_iff_iff]
  simp only [beq_iff_eq, Bool.and_eq_true, decide_eq_true_eq]
  constructor
  · intro h
    unfold eventL at h
    obtain ⟨h1, h2⟩ := text_app_inj (List.cons.inj h).2
    refine ⟨h1, ?_⟩
    rw [← fixedL_val (show U64 m by unfold U64; omega), ← fixedL_val (show U64 n by unfold U64; omega), fixed4 hm, fixed4 hn, h2]
  · rintro ⟨rfl, rfl⟩; rfl
theorem cons_beq (c : UInt8) (a b : List UInt8) : ((c :: a) == (c :: b)) = (a == b) := by
  rw [Bool.eq_iff_iff]; simp
theorem list_beq (c : UInt8) (a b : List UInt8) : ((c :: textL a) == (c :: textL b)) = (a == b) := by
  rw [cons_beq, Bool.eq_iff_iff, beq_iff_eq, beq_iff_eq]
  constructor
  · intro h
    exact (text_app_inj (x := []) (y := []) (by rw [List.append_nil, List.append_nil]; exact h)).1
  · rintro rfl; rfl
end Go.Proofs.Ytpocpklmiajoiaa
