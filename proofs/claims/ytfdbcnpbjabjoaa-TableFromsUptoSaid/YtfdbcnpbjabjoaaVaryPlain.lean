/- PLAIN FACTS: the bytes of a number as the document has them (base 128, the lowest first), and of eight bytes; no program in sight. -/
import Derived.WalkKit
namespace Go.Proofs.Ytfdbcnpbjabjoaa

/-- one byte: the lowest seven bits, and one more comes -/
def more7 (n : Nat) : UInt8 := UInt8.ofNat (n % 128 + 128)
/-- one byte: the last -/
def last7 (n : Nat) : UInt8 := UInt8.ofNat n
theorem more7_nat (n : Nat) : (more7 n).toNat = n % 128 + 128 := by simp [more7, UInt8.toNat_ofNat']; omega
theorem last7_nat {n : Nat} (h : n < 256) : (last7 n).toNat = n := by simp [last7, UInt8.toNat_ofNat']; omega
set_option maxRecDepth 10000 in
theorem or128 : ∀ a : Fin 256, a.val ||| 128 = a.val % 128 + 128 := by decide +kernel
theorem more7_or (m : Nat) : bits .or .u8 ((m : Int) % 256) 128 = ((more7 m).toNat : Int) := by
  have h := u8_or_nat (m % 256) 128 (by omega) (by omega)
  have e : ((m % 256 : Nat) : Int) = (m : Int) % 256 := by omega
  rw [e] at h
  have k := or128 ⟨m % 256, by omega⟩
  simp only at k
  have h' : bits .or .u8 ((m : Int) % 256) 128 = ((m % 256 ||| 128 : Nat) : Int) := h
  rw [h', k, more7_nat]; omega

/-- a number in as few bytes as it takes, seven bits each, the lowest first -/
def putL (n : Nat) : List UInt8 := if h : n < 128 then [last7 n] else more7 n :: putL (n / 128)
termination_by n
decreasing_by omega

theorem putL_lt {n : Nat} (h : n < 128) : putL n = [last7 n] := by rw [putL, dif_pos h]
theorem putL_ge {n : Nat} (h : ¬ n < 128) : putL n = more7 n :: putL (n / 128) := by rw [putL, dif_neg h]

theorem putL_len (k : Nat) : ∀ n, n < 128 ^ (k + 1) → (putL n).length ≤ k + 1 := by
  induction k with
  | zero => intro n h; rw [putL_lt (by simpa using h)]; simp
  | succ k ih =>
    intro n h
    by_cases hn : n < 128
    · rw [putL_lt hn]; simp
    · rw [putL_ge hn]
      have : n / 128 < 128 ^ (k + 1) := by
        rw [Nat.div_lt_iff_lt_mul (by omega)]; rw [Nat.pow_succ] at h; omega
      have := ih _ this
      simp; omega
/-- a number of 64 bits -/
def U64 (n : Nat) : Prop := n < 18446744073709551616
theorem U64.div {n : Nat} (h : U64 n) (k : Nat) : U64 (n / k) := Nat.lt_of_le_of_lt (Nat.div_le_self _ _) h
theorem putL_len10 {n : Nat} (h : U64 n) : (putL n).length ≤ 10 := putL_len 9 n (Nat.lt_of_lt_of_le h (by decide))
theorem putL_pos (n : Nat) : 0 < (putL n).length := by
  by_cases hn : n < 128
  · rw [putL_lt hn]; simp
  · rw [putL_ge hn]; simp

/-- the number at the head, read from its i-th byte on, and what stands behind it -/
def getFrom (i : Nat) : List UInt8 → Option (Nat × List UInt8)
  | [] => none
  | c :: r => if i ≥ 10 ∨ (i = 9 ∧ 1 < c.toNat) ∨ (0 < i ∧ c.toNat = 0) then none else if c.toNat < 128 then some (c.toNat, r) else (getFrom (i + 1) r).map fun (m, r) => (c.toNat % 128 + 128 * m, r)
def getN (l : List UInt8) : Nat := ((getFrom 0 l).map Prod.fst).getD 0
def getR (l : List UInt8) : List UInt8 := ((getFrom 0 l).map Prod.snd).getD []
def getB (l : List UInt8) : Bool := (getFrom 0 l).isSome

/-- behind k bytes: n is what they say -/
def GetP (l : List UInt8) (n k : Nat) : Prop := n < 128 ^ k ∧ getFrom 0 l = (getFrom k (l.drop k)).map fun x => (n + 128 ^ k * x.1, x.2)
theorem GetP.start (l : List UInt8) : GetP l 0 0 := by
  refine ⟨by decide, ?_⟩
  cases h : getFrom 0 l <;> simp [h]
/-- the byte there is none that may stand there -/
def badAt (k : Nat) (c : UInt8) : Prop := (k = 9 ∧ 1 < c.toNat) ∨ (0 < k ∧ c.toNat = 0)
theorem drop_at {l : List UInt8} {k : Nat} (h : k < l.length) : l.drop k = l[k] :: l.drop (k + 1) := List.drop_eq_getElem_cons h
theorem get_bad {l : List UInt8} {n k : Nat} (h : GetP l n k) (hk : k < l.length) (hb : badAt k l[k]) : getFrom 0 l = none := by
  rw [h.2, drop_at hk, getFrom, if_pos (.inr hb)]; rfl
theorem get_last {l : List UInt8} {n k : Nat} (h : GetP l n k) (hk : k < l.length) (h10 : k < 10) (hb : ¬ badAt k l[k]) (hc : l[k].toNat < 128) : getFrom 0 l = some (n + 128 ^ k * (l[k].toNat % 128), l.drop (k + 1)) := by
  rw [h.2, drop_at hk, getFrom, if_neg (by intro h'; rcases h' with h' | h'; omega; exact hb h'), if_pos hc, Nat.mod_eq_of_lt hc]; rfl
theorem get_more {l : List UInt8} {n k : Nat} (h : GetP l n k) (hk : k < l.length) (h10 : k < 10) (hb : ¬ badAt k l[k]) (hc : ¬ l[k].toNat < 128) : GetP l (n + 128 ^ k * (l[k].toNat % 128)) (k + 1) := by
  refine ⟨?_, ?_⟩
  · have h1 := h.1
    have h2 : 128 ^ k * (l[k].toNat % 128) ≤ 128 ^ k * 127 := Nat.mul_le_mul_left _ (by omega)
    rw [Nat.pow_succ]; omega
  · rw [h.2, drop_at hk, getFrom, if_neg (by intro h'; rcases h' with h' | h'; omega; exact hb h'), if_neg hc]
    cases getFrom (k + 1) (l.drop (k + 1)) with
    | none => rfl
    | some x => simp [Nat.pow_succ, Nat.mul_add, Nat.mul_assoc, Nat.add_assoc]
theorem get_end {l : List UInt8} {n k : Nat} (h : GetP l n k) (hk : k = l.length ∨ k = 10) : getFrom 0 l = none := by
  rw [h.2]
  rcases hk with hk | hk
  · rw [List.drop_of_length_le (by omega), getFrom]; rfl
  · cases hd : l.drop k with
    | nil => rfl
    | cons c r => rw [getFrom, if_pos (.inl (by omega))]; rfl

theorem and127 (c : Nat) (h : c < 256) : bits .and .u8 (c : Int) 127 = ((c % 128 : Nat) : Int) := by
  have h1 : bits .and .u8 (c : Int) 127 = ((c &&& 127 : Nat) : Int) := u8_and_nat c 127 h (by omega)
  rw [h1, show (127 : Nat) = 2 ^ 7 - 1 from rfl, Nat.and_two_pow_sub_one_eq_mod]
theorem pow128 (k : Nat) : 128 ^ k = 2 ^ (7 * k) := by rw [show 128 = 2 ^ 7 from rfl, ← Nat.pow_mul]
theorem wrap_u64 {n : Int} (h0 : 0 ≤ n) (h : n < 18446744073709551616) : IntKind.u64.wrap n = n := by
  simp [IntKind.wrap, IntKind.signed, IntKind.bits]; omega
theorem acc_lt {k c : Nat} (h10 : k < 10) (h9 : k = 9 → c ≤ 1) (hc : c < 128) : 128 ^ k * c < 18446744073709551616 := by
  have h : ∀ j : Fin 9, 128 ^ j.val * 127 < 18446744073709551616 := by decide
  by_cases hk : k = 9
  · subst hk
    have := h9 rfl
    have h2 : 128 ^ 9 * c ≤ 128 ^ 9 * 1 := Nat.mul_le_mul_left _ this
    have h3 : 128 ^ 9 = 9223372036854775808 := by decide
    omega
  · have h1 := h ⟨k, by omega⟩
    have h2 : 128 ^ k * c ≤ 128 ^ k * 127 := Nat.mul_le_mul_left _ (by omega)
    simp only at h1
    omega
theorem acc_eq {n k c : Nat} (hn : n < 128 ^ k) (h10 : k < 10) (h9 : k = 9 → c ≤ 1) (hc : c < 256) :
    bits .or .u64 (n : Int) (IntKind.u64.wrap (IntKind.u64.wrap (bits .and .u8 (c : Int) 127) * 2 ^ (7 * k))) = ((n + 128 ^ k * (c % 128) : Nat) : Int) := by
  have hl := acc_lt (k := k) (c := c % 128) h10 (by omega) (by omega)
  have hN : n < 18446744073709551616 := by
    have h : ∀ j : Fin 10, 128 ^ j.val < 18446744073709551616 := by decide
    have h1 := h ⟨k, h10⟩
    simp only at h1
    omega
  have e : ((c % 128 : Nat) : Int) * 2 ^ (7 * k) = ((128 ^ k * (c % 128) : Nat) : Int) := by
    rw [pow128, Int.natCast_mul, Int.natCast_pow, Int.mul_comm]; rfl
  have e1 : IntKind.u64.wrap ((c % 128 : Nat) : Int) = ((c % 128 : Nat) : Int) := wrap_u64 (by omega) (by omega)
  have e2 : IntKind.u64.wrap ((128 ^ k * (c % 128) : Nat) : Int) = ((128 ^ k * (c % 128) : Nat) : Int) := wrap_u64 (by omega) (by omega)
  rw [and127 c hc, e1, e, e2, u64_or_nat n _ hN hl]
  congr 1
  rw [pow128] at *
  rw [Nat.mul_comm, ← Nat.shiftLeft_eq, Nat.or_comm, ← Nat.shiftLeft_add_eq_or_of_lt hn, Nat.add_comm]

/-! ### what is put is got, and only that -/
def valL : List UInt8 → Nat | [] => 0 | c :: r => c.toNat % 128 + 128 * valL r
/-- the bytes up to the first that is below 128, and what stands behind it -/
def split7 : List UInt8 → Option (List UInt8 × List UInt8)
  | [] => none
  | c :: r => if c.toNat < 128 then some ([c], r) else (split7 r).map fun x => (c :: x.1, x.2)

theorem put_ind {motive : Nat → Prop} (lo : ∀ n, n < 128 → motive n) (hi : ∀ n, ¬ n < 128 → motive (n / 128) → motive n) : ∀ n, motive n := by
  intro n
  induction n using Nat.strongRecOn with
  | ind n ih =>
    by_cases h : n < 128
    · exact lo n h
    · exact hi n h (ih (n / 128) (by omega))
theorem valL_putL (n : Nat) : valL (putL n) = n := by
  induction n using put_ind with
  | lo n h => rw [putL_lt h]; simp [valL, last7_nat (show n < 256 by omega)]; omega
  | hi n h ih => rw [putL_ge h]; simp only [valL, more7_nat, ih]; omega
theorem putL_inj {m n : Nat} (h : putL m = putL n) : m = n := by rw [← valL_putL m, h, valL_putL]
theorem split7_putL (n : Nat) (r : List UInt8) : split7 (putL n ++ r) = some (putL n, r) := by
  induction n using put_ind with
  | lo n h => rw [putL_lt h]; simp [split7, last7_nat (show n < 256 by omega), h]
  | hi n h ih =>
    rw [putL_ge h, List.cons_append, split7, if_neg (by rw [more7_nat]; omega), ih]; rfl
theorem split7_drop {l : List UInt8} {k : Nat} (hk : k ≤ l.length) (h : ∀ j (hj : j < l.length), j < k → 128 ≤ l[j].toNat) : split7 l = (split7 (l.drop k)).map fun x => (l.take k ++ x.1, x.2) := by
  induction k generalizing l with
  | zero => cases h : split7 l <;> simp [h]
  | succ k ih =>
    cases l with
    | nil => simp at hk
    | cons c r =>
      have h0 := h 0 (by simp) (by omega)
      rw [split7, if_neg (by simp at h0; omega), ih (by simp at hk; omega) (fun j hj hjk => by have := h (j + 1) (by simp; omega) (by omega); simpa using this)]
      simp only [List.drop_succ_cons, List.take_succ_cons]
      cases split7 (r.drop k) <;> simp
theorem getFrom_putL (n : Nat) : ∀ (i : Nat) (r : List UInt8), i < 10 → n < 2 ^ (64 - 7 * i) → (0 < i → 0 < n) → getFrom i (putL n ++ r) = some (n, r) := by
  induction n using put_ind with
  | lo n h =>
    intro i r hi hn h0
    rw [putL_lt h]
    have e := last7_nat (show n < 256 by omega)
    simp only [List.cons_append, List.nil_append, getFrom, e]
    rw [if_neg, if_pos h]
    rintro (h1 | ⟨rfl, h1⟩ | ⟨h1, h2⟩)
    · omega
    · simp at hn; omega
    · have := h0 h1; omega
  | hi n h ih =>
    intro i r hi hn h0
    have h9 : i < 9 := by
      by_cases h9 : i = 9
      · subst h9; simp at hn; omega
      · omega
    have hn' : n / 128 < 2 ^ (64 - 7 * (i + 1)) := by
      rw [Nat.div_lt_iff_lt_mul (by omega)]
      have e : 64 - 7 * i = 64 - 7 * (i + 1) + 7 := by omega
      rw [e, Nat.pow_add] at hn; omega
    rw [putL_ge h, List.cons_append, getFrom, more7_nat, if_neg (by omega), if_neg (by omega), ih (i + 1) r (by omega) hn' (by omega)]
    simp; omega
theorem getFrom_some (l : List UInt8) : ∀ (i n : Nat) (r : List UInt8), getFrom i l = some (n, r) → l = putL n ++ r ∧ n < 2 ^ (64 - 7 * i) ∧ (0 < i → 0 < n) ∧ i < 10 := by
  induction l with
  | nil => intro i n r h; simp [getFrom] at h
  | cons c s ih =>
    intro i n r h
    rw [getFrom] at h
    by_cases hb : i ≥ 10 ∨ (i = 9 ∧ 1 < c.toNat) ∨ (0 < i ∧ c.toNat = 0)
    · rw [if_pos hb] at h; cases h
    · rw [if_neg hb] at h
      have hi : i < 10 := by omega
      by_cases hc : c.toNat < 128
      · rw [if_pos hc] at h
        simp only [Option.some.injEq, Prod.mk.injEq] at h
        obtain ⟨rfl, rfl⟩ := h
        refine ⟨?_, ?_, by omega, hi⟩
        · rw [putL_lt hc]; simp [last7]
        · by_cases h9 : i = 9
          · subst h9; simp; omega
          · have : 2 ^ 8 ≤ 2 ^ (64 - 7 * i) := Nat.pow_le_pow_right (by omega) (by omega)
            omega
      · rw [if_neg hc] at h
        cases hg : getFrom (i + 1) s with
        | none => rw [hg] at h; cases h
        | some x =>
          rw [hg] at h
          simp only [Option.map_some, Option.some.injEq, Prod.mk.injEq] at h
          obtain ⟨rfl, rfl⟩ := h
          obtain ⟨h1, h2, h3, h4⟩ := ih (i + 1) x.1 x.2 hg
          have h5 := h3 (by omega)
          have hcl := UInt8.toNat_lt c
          refine ⟨?_, ?_, by omega, hi⟩
          · rw [putL_ge (by omega)]
            have e1 : (c.toNat % 128 + 128 * x.1) / 128 = x.1 := by omega
            have e2 : more7 (c.toNat % 128 + 128 * x.1) = c := by
              apply UInt8.toNat_inj.1; rw [more7_nat]; omega
            rw [e1, e2, List.cons_append, ← h1]
          · have e : 64 - 7 * i = 64 - 7 * (i + 1) + 7 := by omega
            rw [e, Nat.pow_add]; omega
theorem valL_take {l : List UInt8} {k : Nat} (hk : k < l.length) : valL (l.take (k + 1)) = valL (l.take k) + 128 ^ k * (l[k].toNat % 128) := by
  induction k generalizing l with
  | zero => cases l with
    | nil => simp at hk
    | cons c r => simp [valL]
  | succ k ih =>
    cases l with
    | nil => simp at hk
    | cons c r =>
      simp only [List.take_succ_cons, valL, List.getElem_cons_succ]
      rw [ih (by simpa using hk), Nat.mul_add, ← Nat.mul_assoc, Nat.mul_comm 128 (128 ^ k), ← Nat.pow_succ, Nat.succ_eq_add_one]; omega
theorem get_iff (l : List UInt8) (n : Nat) (r : List UInt8) : getFrom 0 l = some (n, r) ↔ U64 n ∧ l = putL n ++ r := by
  constructor
  · intro h
    obtain ⟨h1, h2, _, _⟩ := getFrom_some l 0 n r h
    exact ⟨h2, h1⟩
  · rintro ⟨h1, rfl⟩
    exact getFrom_putL n 0 r (by omega) h1 (by omega)

/-- how many bytes the number at the head has; 0: there is none -/
def getK (l : List UInt8) : Nat := if getB l then l.length - (getR l).length else 0
theorem getK_none {l : List UInt8} (h : getFrom 0 l = none) : getN l = 0 ∧ getK l = 0 := by simp [getN, getK, getB, h]
theorem getK_some {l : List UInt8} {n k : Nat} (hk : k < l.length) (h : getFrom 0 l = some (n, l.drop (k + 1))) : getN l = n ∧ getK l = k + 1 := by
  simp [getN, getK, getB, getR, h]; omega
def RP (l : List UInt8) (n k : Nat) : Prop := (k ≤ 9 → n = valL (l.take k)) ∧ U64 n ∧ ∀ j (hj : j < l.length), j < k → 128 ≤ l[j].toNat
theorem RP.start (l : List UInt8) : RP l 0 0 := ⟨fun _ => rfl, by simp [U64], fun _ _ h => by omega⟩
theorem split7_at {l : List UInt8} {n k : Nat} (h : RP l n k) (hk : k < l.length) (hc : l[k].toNat < 128) : split7 l = some (l.take (k + 1), l.drop (k + 1)) := by
  rw [split7_drop (by omega) h.2.2, drop_at hk, split7, if_pos hc]
  simp
theorem rget_eq {l : List UInt8} {n k n' : Nat} (_h : RP l n k) (hu : U64 n') (he : putL n' = l.take (k + 1)) : getFrom 0 l = some (n', l.drop (k + 1)) :=
  (get_iff _ _ _).2 ⟨hu, by rw [he, List.take_append_drop]⟩
theorem rget_ne {l : List UInt8} {n k n' : Nat} (h : RP l n k) (hk : k < l.length) (h10 : k < 10) (hc : l[k].toNat < 128)
    (hn : n + 128 ^ k * (l[k].toNat % 128) < 18446744073709551616 → n' = n + 128 ^ k * (l[k].toNat % 128)) (he : putL n' ≠ l.take (k + 1)) : getFrom 0 l = none := by
  cases hg : getFrom 0 l with
  | none => rfl
  | some x =>
    exfalso
    obtain ⟨hu, hl⟩ := (get_iff l x.1 x.2).1 hg
    have h1 := split7_putL x.1 x.2
    rw [← hl, split7_at h hk hc] at h1
    simp only [Option.some.injEq, Prod.mk.injEq] at h1
    have h2 : valL (l.take (k + 1)) = x.1 := by rw [h1.1, valL_putL]
    rw [valL_take hk, ← h.1 (by omega)] at h2
    exact he (by rw [hn (by rw [h2]; exact hu), h2, ← h1.1])
theorem valL_lt (l : List UInt8) : valL l < 128 ^ l.length := by
  induction l with
  | nil => simp [valL]
  | cons c r ih => simp only [valL, List.length_cons, Nat.pow_succ]; omega
theorem rget_more {l : List UInt8} {n k n' : Nat} (h : RP l n k) (hk : k < l.length) (h10 : k < 10) (hc : 128 ≤ l[k].toNat)
    (hu : U64 n') (hn : n + 128 ^ k * (l[k].toNat % 128) < 18446744073709551616 → n' = n + 128 ^ k * (l[k].toNat % 128)) : RP l n' (k + 1) := by
  refine ⟨fun h9 => ?_, hu, fun j hj hjk => ?_⟩
  · rw [valL_take hk, ← h.1 (by omega)]
    refine hn ?_
    have h1 := acc_lt (k := k) (c := l[k].toNat % 128) h10 (by omega) (by omega)
    have h2 : n < 128 ^ k := by
      rw [h.1 (by omega)]
      have := valL_lt (l.take k)
      rwa [List.length_take, Nat.min_eq_left (by omega)] at this
    have h3 : 128 ^ k * (l[k].toNat % 128) ≤ 128 ^ k * 127 := Nat.mul_le_mul_left _ (by omega)
    have h4 : ∀ j : Fin 9, 128 ^ j.val * 128 < 18446744073709551616 := by decide
    have h5 := h4 ⟨k, by omega⟩
    simp only at h5
    omega
  · by_cases e : j = k
    · subst e; exact hc
    · exact h.2.2 j hj (by omega)
theorem rget_end {l : List UInt8} {n k : Nat} (h : RP l n k) (hk : k = l.length ∨ k = 10) (hkl : k ≤ l.length) : getFrom 0 l = none := by
  cases hg : getFrom 0 l with
  | none => rfl
  | some x =>
    exfalso
    obtain ⟨hu, hl⟩ := (get_iff l x.1 x.2).1 hg
    have h1 := split7_putL x.1 x.2
    rw [← hl, split7_drop hkl h.2.2] at h1
    cases hd : split7 (l.drop k) with
    | none => rw [hd] at h1; cases h1
    | some y =>
      rw [hd] at h1
      simp only [Option.map_some, Option.some.injEq, Prod.mk.injEq] at h1
      have h3 := putL_len10 hu
      rw [← h1.1] at h3
      simp only [List.length_append, List.length_take] at h3
      have h4 : y.1 ≠ [] ∧ l.drop k ≠ [] := by
        cases hdd : l.drop k with
        | nil => rw [hdd] at hd; cases hd
        | cons c r =>
          rw [hdd, split7] at hd
          refine ⟨?_, by simp⟩
          split at hd
          · cases hd; simp
          · cases hr : split7 r with
            | none => rw [hr] at hd; cases hd
            | some z => rw [hr] at hd; cases hd; simp
      rcases hk with hk | hk
      · exact h4.2 (by rw [hk]; simp)
      · have : 0 < y.1.length := by cases hy : y.1 with
          | nil => exact absurd hy h4.1
          | cons _ _ => simp
        omega

/-- eight bytes, the highest first -/
def byteAt (n i : Nat) : UInt8 := UInt8.ofNat (n / 256 ^ (7 - i))
theorem byteAt_nat (n i : Nat) : (byteAt n i).toNat = n / 256 ^ (7 - i) % 256 := by simp [byteAt, UInt8.toNat_ofNat']
theorem byteAt_and {n : Nat} (hn : U64 n) (k : Nat) (hk : k < 8) : bits .and .u64 ((n : Int) / 2 ^ (56 - 8 * k)) 255 % 256 = ((byteAt n k).toNat : Int) := by
  have h : bits .and .u64 ((n / 2 ^ (56 - 8 * k) : Nat) : Int) ((255 : Nat) : Int) = ((n / 2 ^ (56 - 8 * k) &&& 255 : Nat) : Int) := u64_and_nat _ _ (Nat.lt_of_le_of_lt (Nat.div_le_self _ _) hn) (by omega)
  have e : ((n / 2 ^ (56 - 8 * k) : Nat) : Int) = (n : Int) / 2 ^ (56 - 8 * k) := by rw [Int.natCast_ediv, Int.natCast_pow]; rfl
  rw [e] at h
  have h' : bits .and .u64 ((n : Int) / 2 ^ (56 - 8 * k)) 255 = ((n / 2 ^ (56 - 8 * k) &&& 255 : Nat) : Int) := h
  rw [h', byteAt_nat, show (255 : Nat) = 2 ^ 8 - 1 from rfl, Nat.and_two_pow_sub_one_eq_mod, show 256 = 2 ^ 8 from rfl, ← Nat.pow_mul, show 8 * (7 - k) = 56 - 8 * k by omega]
  omega
def fixedL (n : Nat) : List UInt8 := (List.range 8).map (byteAt n)
theorem fixedL_len (n : Nat) : (fixedL n).length = 8 := by simp [fixedL]
theorem fixedL_take (n k : Nat) (hk : k < 8) : (fixedL n).take (k + 1) = (fixedL n).take k ++ [byteAt n k] := by
  rw [List.take_add_one]; congr 1
  simp [fixedL, hk]
theorem fixedL_drop (n k : Nat) (hk : k < 8) : (fixedL n).drop (7 - k) = byteAt n (7 - k) :: (fixedL n).drop (8 - k) := by
  rw [List.drop_eq_getElem_cons (by simp [fixedL]; omega), show 7 - k + 1 = 8 - k by omega]
  simp [fixedL]
theorem fixed_set (n k : Nat) (hk : k < 8) : (List.replicate (8 - k) (0 : UInt8) ++ (fixedL n).drop (8 - k)).set (7 - k) (byteAt n (7 - k)) = List.replicate (8 - (k + 1)) 0 ++ (fixedL n).drop (8 - (k + 1)) := by
  rw [show 8 - (k + 1) = 7 - k by omega, fixedL_drop n k hk, show 8 - k = 7 - k + 1 by omega, List.replicate_succ', List.append_assoc, List.set_append_right _ _ (by simp)]
  simp
theorem byteAt_div (n k : Nat) (hk : k < 8) : (n : Int) / 256 ^ k % 256 = ((byteAt n (7 - k)).toNat : Int) := by
  rw [byteAt_nat, show 7 - (7 - k) = k by omega]
  rw [Int.natCast_emod, Int.natCast_ediv, Int.natCast_pow]; rfl
theorem acc_any {n k c : Nat} (hn : U64 n) (_h10 : k < 10) :
    ∃ N : Nat, U64 N ∧ bits .or .u64 (n : Int) (IntKind.u64.wrap ((c : Int) % 128 * 2 ^ (7 * k))) = (N : Int) ∧ (n < 128 ^ k → n + 128 ^ k * (c % 128) < 18446744073709551616 → N = n + 128 ^ k * (c % 128)) := by
  have e : (c : Int) % 128 * 2 ^ (7 * k) = ((128 ^ k * (c % 128) : Nat) : Int) := by
    rw [pow128, Int.natCast_mul, Int.natCast_pow, Int.mul_comm, Int.natCast_emod]; rfl
  have e2 : IntKind.u64.wrap ((128 ^ k * (c % 128) : Nat) : Int) = ((128 ^ k * (c % 128) % 18446744073709551616 : Nat) : Int) := by
    simp [IntKind.wrap, IntKind.signed, IntKind.bits]
  refine ⟨n ||| 128 ^ k * (c % 128) % 18446744073709551616, ?_, ?_, ?_⟩
  · exact Nat.or_lt_two_pow (n := 64) hn (Nat.mod_lt _ (by omega))
  · rw [e, e2, u64_or_nat n _ hn (Nat.mod_lt _ (by omega))]
  · intro h1 h2
    rw [Nat.mod_eq_of_lt (by omega)]
    rw [pow128] at *
    rw [Nat.mul_comm, ← Nat.shiftLeft_eq, Nat.or_comm, ← Nat.shiftLeft_add_eq_or_of_lt h1, Nat.add_comm]
theorem RP.lt {l : List UInt8} {n k : Nat} (h : RP l n k) (h9 : k ≤ 9) (hk : k ≤ l.length) : n < 128 ^ k := by
  rw [h.1 h9]
  have := valL_lt (l.take k)
  rwa [List.length_take, Nat.min_eq_left hk] at this
end Go.Proofs.Ytfdbcnpbjabjoaa
