/- THE PLAIN LAW OF FrameTurned: a frame one of whose bytes behind its length is another is refused. -/
import Derived.Test.YtelacmchofehcaaFrameRNext
import Derived.Test.YtelacmchofehcaaVaryOrd
namespace Go.Proofs.Ytelacmchofehcaa
open Go.RowKit

theorem next_wrap (s r : List UInt8) (hs : s.length ≤ 1048576) : nextF (wrapL s ++ r) = (s, r, 0) := by
  have hu : U64 s.length := by unfold U64; omega
  have hg : getFrom 0 (wrapL s ++ r) = some (s.length, (fourL s ++ s) ++ r) := (get_iff _ _ _).2 ⟨hu, by unfold wrapL; simp⟩
  have h4 := fourL_len s
  have e1 : ((fourL s ++ s) ++ r).take 4 = fourL s := by rw [List.append_assoc, List.take_append_of_le_length (by omega), List.take_of_length_le (by omega)]
  have e2 : ((fourL s ++ s) ++ r).drop 4 = s ++ r := by rw [List.append_assoc, List.drop_append, List.drop_of_length_le (by omega)]; simp [h4]
  have e3 : ((s ++ r).take s.length) = s := by simp
  rw [next_ok hg (by omega) (by simp [h4]) (by rw [e1, e2, e3]), e2, e3, ← List.drop_drop, e2]
  simp
theorem hi_split : ∀ {l : List UInt8}, hiL l = true → split7 l = none
  | [], _ => rfl
  | c :: r, h => by
    simp only [hiL, List.all_cons, Bool.and_eq_true, decide_eq_true_eq] at h
    rw [split7, if_neg (by omega), hi_split (l := r) h.2]; rfl
theorem hi_get {l : List UInt8} (h : hiL l = true) : getFrom 0 l = none := by
  cases hg : getFrom 0 l with
  | none => rfl
  | some x =>
    obtain ⟨_, hl⟩ := (get_iff l x.1 x.2).1 hg
    have h1 := split7_putL x.1 x.2
    rw [← hl, hi_split h] at h1
    cases h1
theorem put_take_hi (n : Nat) : ∀ j, j < (putL n).length → hiL ((putL n).take j) = true := by
  induction n using put_ind with
  | lo n h => intro j hj; rw [putL_lt h] at hj ⊢; obtain rfl : j = 0 := by simpa using hj
              rfl
  | hi n h ih =>
    intro j hj
    rw [putL_ge h] at hj ⊢
    cases j with
    | zero => rfl
    | succ j =>
      rw [List.take_succ_cons]
      have := ih j (by simpa using hj)
      simp only [hiL, List.all_cons] at this ⊢
      rw [this, more7_nat]; simp
theorem xor_r {a b c : Nat} (h : a ^^^ c = b ^^^ c) : a = b := by
  have := congrArg (· ^^^ c) h
  simpa [Nat.xor_assoc] using this
theorem xor_l {a b c : Nat} (h : c ^^^ a = c ^^^ b) : a = b := by
  rw [Nat.xor_comm c a, Nat.xor_comm c b] at h; exact xor_r h
theorem crcBit_inj {a b : Nat} (ha : a < 4294967296) (hb : b < 4294967296) (h : crcBit a = crcBit b) : a = b := by
  have top : ∀ c, c < 4294967296 → (crcBit c).testBit 31 = decide (c % 2 = 1) := fun c hc => by
    have h0 : (c / 2).testBit 31 = false := Nat.testBit_lt_two_pow (by omega)
    unfold crcBit
    split
    · rename_i hp
      rw [Nat.testBit_xor, h0, decide_eq_true hp]; rfl
    · rename_i hp
      rw [h0, decide_eq_false hp]
  have hp : decide (a % 2 = 1) = decide (b % 2 = 1) := by rw [← top a ha, ← top b hb, h]
  rw [decide_eq_decide] at hp
  unfold crcBit at h
  by_cases h1 : a % 2 = 1
  · rw [if_pos h1, if_pos (hp.1 h1)] at h
    have := xor_r h
    have := hp.1 h1
    omega
  · have h2 : ¬ b % 2 = 1 := fun h' => h1 (hp.2 h')
    rw [if_neg h1, if_neg h2] at h
    omega
theorem crcBits_inj {a b : Nat} (ha : a < 4294967296) (hb : b < 4294967296) : ∀ k, crcBits a k = crcBits b k → a = b
  | 0, h => h
  | k + 1, h => crcBits_inj ha hb k (crcBit_inj (crcBits_lt ha k) (crcBits_lt hb k) h)
theorem xor_u8_lt {a : Nat} (ha : a < 4294967296) (x : UInt8) : a ^^^ x.toNat < 4294967296 := Nat.xor_lt_two_pow (n := 32) ha (by have := UInt8.toNat_lt x; omega)
theorem crcByte_inj {a b : Nat} (ha : a < 4294967296) (hb : b < 4294967296) {x : UInt8} (h : crcByte a x = crcByte b x) : a = b :=
  xor_r (crcBits_inj (xor_u8_lt ha x) (xor_u8_lt hb x) 8 h)
theorem crcByte_inj' {a : Nat} (ha : a < 4294967296) {x y : UInt8} (h : crcByte a x = crcByte a y) : x = y :=
  UInt8.toNat_inj.1 (xor_l (crcBits_inj (xor_u8_lt ha x) (xor_u8_lt ha y) 8 h))
theorem crc_foldl_inj : ∀ (l : List UInt8) {a b : Nat}, a < 4294967296 → b < 4294967296 → l.foldl crcByte a = l.foldl crcByte b → a = b
  | [], _, _, _, _, h => h
  | x :: r, _, _, ha, hb, h => crcByte_inj ha hb (crc_foldl_inj r (crcByte_lt ha x) (crcByte_lt hb x) h)
theorem sumL_set {l : List UInt8} {i : Nat} (hi : i < l.length) {c : UInt8} (hc : c ≠ l[i]) : sumL (l.set i c) ≠ sumL l := by
  intro h
  have h1 := crcL_lt (l.set i c)
  have h2 := crcL_lt l
  have h3 : crcL (l.set i c) = crcL l := by unfold sumL at h; omega
  have e : l = l.take i ++ l[i] :: l.drop (i + 1) := by rw [List.getElem_cons_drop, List.take_append_drop]
  have e1 : l.set i c = l.take i ++ c :: l.drop (i + 1) := by rw [List.set_eq_take_append_cons_drop, if_pos hi]
  unfold crcL at h3
  rw [e1, List.foldl_append, List.foldl_cons] at h3
  conv at h3 => rhs; rw [e, List.foldl_append, List.foldl_cons]
  have hx : (l.take i).foldl crcByte 4294967295 < 4294967296 := crc_foldl_lt _ _ (by decide)
  exact hc (crcByte_inj' hx (crc_foldl_inj _ (crcByte_lt hx _) (crcByte_lt hx _) h3))
theorem markL_inj {a b : Nat} (ha : a < 4294967296) (hb : b < 4294967296) (h : markL a = markL b) : a = b := by
  simp only [markL, List.cons.injEq, and_true] at h
  obtain ⟨h1, h2, h3, h4⟩ := h
  have f : ∀ i, byteAt a i = byteAt b i → a / 256 ^ (7 - i) % 256 = b / 256 ^ (7 - i) % 256 := fun i hi => by rw [← byteAt_nat, ← byteAt_nat, hi]
  have g1 := f 4 h1
  have g2 := f 5 h2
  have g3 := f 6 h3
  have g4 := f 7 h4
  simp at g1 g2 g3 g4
  omega
theorem fourL_set {l : List UInt8} {i : Nat} (hi : i < l.length) {c : UInt8} (hc : c ≠ l[i]) : fourL (l.set i c) ≠ fourL l := fun h =>
  sumL_set hi hc (markL_inj (sumL_lt _) (sumL_lt _) h)

theorem next_turned (s : List UInt8) (hs : s.length ≤ 1048576) (q : Nat) (hq : q < 4 + s.length) (p : Nat) (hp : p = (putL s.length).length + q) (hpl : p < (wrapL s).length) (c : UInt8) (hc : c ≠ (wrapL s)[p]) :
    nextF ((wrapL s).set p c) = ([], [], 21) := by
  have hu : U64 s.length := by unfold U64; omega
  subst hp
  have e0 : (wrapL s).set ((putL s.length).length + q) c = putL s.length ++ (fourL s ++ s).set q c := by
    unfold wrapL; rw [List.set_append_right _ _ (by omega)]; congr 2; omega
  have e1 : (wrapL s)[(putL s.length).length + q] = (fourL s ++ s)[q]'(by simp [fourL_len]; omega) := by
    simp only [wrapL]; rw [List.getElem_append_right (Nat.le_add_right _ _)]; congr 1; exact Nat.add_sub_cancel_left ..
  rw [e1] at hc
  have hg : getFrom 0 ((wrapL s).set ((putL s.length).length + q) c) = some (s.length, (fourL s ++ s).set q c) := (get_iff _ _ _).2 ⟨hu, e0⟩
  have h4 := fourL_len s
  refine next_sum hg (by omega) (by simp [h4]) ?_
  by_cases h : q < 4
  · have e2 : (fourL s ++ s).set q c = (fourL s).set q c ++ s := by rw [List.set_append_left _ _ (by omega)]
    have h5 : ((fourL s).set q c).length = 4 := by simp [h4]
    have e3 : ((fourL s).set q c ++ s).take 4 = (fourL s).set q c := by rw [List.take_append_of_le_length (by omega), List.take_of_length_le (by omega)]
    have e4 : ((fourL s).set q c ++ s).drop 4 = s := by rw [List.drop_append, List.drop_of_length_le (by omega)]; simp [h4]
    have e5 : (fourL s ++ s)[q]'(by simp [h4]; omega) = (fourL s)[q]'(by omega) := List.getElem_append_left _
    rw [e5] at hc
    rw [e2, e3, e4, List.take_of_length_le (Nat.le_refl _)]
    intro h'
    have : ((fourL s).set q c)[q]'(by omega) = (fourL s)[q]'(by omega) := by simp [h']
    rw [List.getElem_set_self] at this
    exact hc this
  · have e2 : (fourL s ++ s).set q c = fourL s ++ s.set (q - 4) c := by rw [List.set_append_right _ _ (by omega), h4]
    have e3 : (fourL s ++ s.set (q - 4) c).take 4 = fourL s := by rw [List.take_append_of_le_length (by omega), List.take_of_length_le (by omega)]
    have e4 : (fourL s ++ s.set (q - 4) c).drop 4 = s.set (q - 4) c := by rw [List.drop_append, List.drop_of_length_le (by omega)]; simp [h4]
    have e5 : (fourL s ++ s)[q]'(by simp [h4]; omega) = s[q - 4]'(by omega) := by rw [List.getElem_append_right (by omega)]; simp [h4]
    rw [e5] at hc
    rw [e2, e3, e4, List.take_of_length_le (by simp)]
    exact fun h' => fourL_set (by omega) hc h'.symm
theorem flip_ne (x : UInt8) (k : Nat) (hk : k < 8) : UInt8.ofNat (x.toNat ^^^ 2 ^ k) ≠ x := by
  intro h
  have h1 : (UInt8.ofNat (x.toNat ^^^ 2 ^ k)).toNat = x.toNat := by rw [h]
  have h2 : x.toNat ^^^ 2 ^ k < 256 := Nat.xor_lt_two_pow (n := 8) (UInt8.toNat_lt x) (Nat.pow_lt_pow_right (by omega) hk)
  rw [UInt8.toNat_ofNat', Nat.mod_eq_of_lt h2] at h1
  have h3 : (x.toNat ^^^ 2 ^ k).testBit k = x.toNat.testBit k := by rw [h1]
  rw [Nat.testBit_xor, Nat.testBit_two_pow_self] at h3
  simp at h3
theorem below_to_drew {B : Nat} {w w' : World} (h : Below B w w') : Below B w w'.drew := ⟨h.os, h.tape, h.output, h.size, h.block⟩
/-- the remainder, brought above zero -/
theorem turn_bit (bit : Int) (n : Nat) (hn : 0 < n) : ∃ q : Nat, q < n ∧ ((bit.tmod n) + n).tmod n = (q : Int) ∧ -(n : Int) < bit.tmod n ∧ bit.tmod n < n := by
  have h1 : bit.tmod n < n := Int.tmod_lt_of_pos _ (by omega)
  have h2 : -(n : Int) < bit.tmod n := by
    rcases Int.lt_or_le bit 0 with h | h
    · have e : bit.tmod n = -((-bit).tmod n) := by rw [Int.neg_tmod]; omega
      have := Int.tmod_lt_of_pos (-bit) (show (0 : Int) < n by omega)
      omega
    · have := Int.tmod_nonneg (n : Int) h
      omega
  have h3 : 0 ≤ bit.tmod n + n := by omega
  refine ⟨((bit.tmod n + n).tmod n).toNat, ?_, ?_, h2, h1⟩
  · have := Int.tmod_lt_of_pos (bit.tmod n + n) (show (0 : Int) < n by omega)
    omega
  · have := Int.tmod_nonneg (n : Int) h3
    omega

theorem turned_back (w3 : World) (g p : Nat) (c : UInt8) (W : List UInt8) (hp : p < W.length) (n cap : Nat) (hn : n = W.length) (hcells : ∀ j (hj : j < W.length), w3.cell? ⟨g, j, none⟩ = some (byteV W[j])) :
    (convert 45 9 (.slice (some ⟨g, 0, none⟩) n cap)).run Try.prog (w3.setCell ⟨g, p, none⟩ (.int .u8 (c.toNat : Int))).drew = .ok (.string ⟨(W.set p c).toArray⟩) (w3.setCell ⟨g, p, none⟩ (.int .u8 (c.toNat : Int))).drew := by
  have hl' : n = (W.set p c).length := by simp [hn]
  rw [hl']
  refine run_convert_bytes_back _ 45 9 5 ⟨g, 0, none⟩ cap (W.set p c) Try.underlying45 Try.underlying5 Try.underlying9 (fun j hj => ?_)
  have e0 : (⟨g, 0, none⟩ : Addr).add j = ⟨g, j, none⟩ := by unfold Addr.add; split <;> simp_all
  rw [e0]
  show (w3.setCell ⟨g, p, none⟩ (.int .u8 (c.toNat : Int))).cell? ⟨g, j, none⟩ = some (.int .u8 ((W.set p c)[j].toNat : Int))
  by_cases e : j = p
  · subst e
    rw [World.cell?_setCell_same _ _ _ (hcells j hp), List.getElem_set_self]
  · rw [World.cell?_setCell_other (h := fun h => e (by injection h with _ h _; exact h.symm)), List.getElem_set_ne (fun h => e h.symm)]
    exact hcells j (by simpa using hj)

end Go.Proofs.Ytelacmchofehcaa
