/- PLAIN FACTS: the bytes of a number as the document has them (base 128, the lowest first), and of eight bytes; no program in sight. -/
import Derived.WalkKit
import Derived.Below
import Derived.Laws.Rows
namespace Go.Proofs.Ytdoblbiodpcjdaa
def more7 (n : Nat) : UInt8 := UInt8.ofNat (n % 128 + 128)
def last7 (n : Nat) : UInt8 := UInt8.ofNat n
theorem more7_nat (n : Nat) : (more7 n).toNat = n % 128 + 128 := by simp [more7, UInt8.toNat_ofNat']; omega
theorem last7_nat {n : Nat} (h : n < 256) : (last7 n).toNat = n := by simp [last7, UInt8.toNat_ofNat']; omega
def putL (n : Nat) : List UInt8 := if h : n < 128 then [last7 n] else more7 n :: putL (n / 128)
termination_by n
decreasing_by omega
theorem putL_lt {n : Nat} (h : n < 128) : putL n = [last7 n] := by rw [putL, dif_pos h]
theorem putL_ge {n : Nat} (h : ¬ n < 128) : putL n = more7 n :: putL (n / 128) := by rw [putL, dif_neg h]
theorem putL_len (k : Nat) : ∀ n, n < 128 ^ (k + 1) → (putL n).length ≤ k + 1 := by
 induction k with
 | zero => intro n h; rw [putL_lt (by simpa using h)]; simp
 | succ k ih =>
   intro n h
   by_cases hn : n < 128
   · rw [putL_lt hn]; simp
   · rw [putL_ge hn]
     have : n / 128 < 128 ^ (k + 1) := by
       rw [Nat.div_lt_iff_lt_mul (by omega)]; rw [Nat.pow_succ] at h; omega
     have := ih _ this
     simp; omega
def U64 (n : Nat) : Prop := n < 18446744073709551616
theorem putL_len10 {n : Nat} (h : U64 n) : (putL n).length ≤ 10 := putL_len 9 n (Nat.lt_of_lt_of_le h (by decide))
def getFrom (i : Nat) : List UInt8 → Option (Nat × List UInt8)
 | [] => none
 | c :: r => if i ≥ 10 ∨ (i = 9 ∧ 1 < c.toNat) ∨ (0 < i ∧ c.toNat = 0) then none else if c.toNat < 128 then some (c.toNat, r) else (getFrom (i + 1) r).map fun (m, r) => (c.toNat % 128 + 128 * m, r)
def getN (l : List UInt8) : Nat := ((getFrom 0 l).map Prod.fst).getD 0
def getR (l : List UInt8) : List UInt8 := ((getFrom 0 l).map Prod.snd).getD []
def getB (l : List UInt8) : Bool := (getFrom 0 l).isSome
def GetP (l : List UInt8) (n k : Nat) : Prop := n < 128 ^ k ∧ getFrom 0 l = (getFrom k (l.drop k)).map fun x => (n + 128 ^ k * x.1, x.2)
theorem GetP.start (l : List UInt8) : GetP l 0 0 := by
 refine ⟨by decide, ?_⟩
 cases h : getFrom 0 l <;> simp [h]
def badAt (k : Nat) (c : UInt8) : Prop := (k = 9 ∧ 1 < c.toNat) ∨ (0 < k ∧ c.toNat = 0)
theorem drop_at {l : List UInt8} {k : Nat} (h : k < l.length) : l.drop k = l[k] :: l.drop (k + 1) := List.drop_eq_getElem_cons h
theorem get_bad {l : List UInt8} {n k : Nat} (h : GetP l n k) (hk : k < l.length) (hb : badAt k l[k]) : getFrom 0 l = none := by
 rw [h.2, drop_at hk, getFrom, if_pos (.inr hb)]; rfl
theorem get_last {l : List UInt8} {n k : Nat} (h : GetP l n k) (hk : k < l.length) (h10 : k < 10) (hb : ¬ badAt k l[k]) (hc : l[k].toNat < 128) : getFrom 0 l = some (n + 128 ^ k * (l[k].toNat % 128), l.drop (k + 1)) := by
 rw [h.2, drop_at hk, getFrom, if_neg (by intro h'; rcases h' with h' | h'; omega; exact hb h'), if_pos hc, Nat.mod_eq_of_lt hc]; rfl
theorem get_more {l : List UInt8} {n k : Nat} (h : GetP l n k) (hk : k < l.length) (h10 : k < 10) (hb : ¬ badAt k l[k]) (hc : ¬ l[k].toNat < 128) : GetP l (n + 128 ^ k * (l[k].toNat % 128)) (k + 1) := by
 refine ⟨?_, ?_⟩
 · have h1 := h.1
   have h2 : 128 ^ k * (l[k].toNat % 128) ≤ 128 ^ k * 127 := Nat.mul_le_mul_left _ (by omega)
   rw [Nat.pow_succ]; omega
 · rw [h.2, drop_at hk, getFrom, if_neg (by intro h'; rcases h' with h' | h'; omega; exact hb h'), if_neg hc]
   cases getFrom (k + 1) (l.drop (k + 1)) with
   | none => rfl
   | some x => simp [Nat.pow_succ, Nat.mul_add, Nat.mul_assoc, Nat.add_assoc]
theorem get_end {l : List UInt8} {n k : Nat} (h : GetP l n k) (hk : k = l.length ∨ k = 10) : getFrom 0 l = none := by
 rw [h.2]
 rcases hk with hk | hk
 · rw [List.drop_of_length_le (by omega), getFrom]; rfl
 · cases hd : l.drop k with
   | nil => rfl
   | cons c r => rw [getFrom, if_pos (.inl (by omega))]; rfl
theorem and127 (c : Nat) (h : c < 256) : bits .and .u8 (c : Int) 127 = ((c % 128 : Nat) : Int) := by
 have h1 : bits .and .u8 (c : Int) 127 = ((c &&& 127 : Nat) : Int) := u8_and_nat c 127 h (by omega)
 rw [h1, show (127 : Nat) = 2 ^ 7 - 1 from rfl, Nat.and_two_pow_sub_one_eq_mod]
theorem pow128 (k : Nat) : 128 ^ k = 2 ^ (7 * k) := by rw [show 128 = 2 ^ 7 from rfl, ← Nat.pow_mul]
theorem wrap_u64 {n : Int} (h0 : 0 ≤ n) (h : n < 18446744073709551616) : IntKind.u64.wrap n = n := by
 simp [IntKind.wrap, IntKind.signed, IntKind.bits]; omega
theorem acc_lt {k c : Nat} (h10 : k < 10) (h9 : k = 9 → c ≤ 1) (hc : c < 128) : 128 ^ k * c < 18446744073709551616 := by
 have h : ∀ j : Fin 9, 128 ^ j.val * 127 < 18446744073709551616 := by decide
 by_cases hk : k = 9
 · subst hk
   have := h9 rfl
   have h2 : 128 ^ 9 * c ≤ 128 ^ 9 * 1 := Nat.mul_le_mul_left _ this
   have h3 : 128 ^ 9 = 9223372036854775808 := by decide
   omega
 · have h1 := h ⟨k, by omega⟩
   have h2 : 128 ^ k * c ≤ 128 ^ k * 127 := Nat.mul_le_mul_left _ (by omega)
   simp only at h1
   omega
theorem acc_eq {n k c : Nat} (hn : n < 128 ^ k) (h10 : k < 10) (h9 : k = 9 → c ≤ 1) (hc : c < 256) :
   bits .or .u64 (n : Int) (IntKind.u64.wrap (IntKind.u64.wrap (bits .and .u8 (c : Int) 127) * 2 ^ (7 * k))) = ((n + 128 ^ k * (c % 128) : Nat) : Int) := by
 have hl := acc_lt (k := k) (c := c % 128) h10 (by omega) (by omega)
 have hN : n < 18446744073709551616 := by
   have h : ∀ j : Fin 10, 128 ^ j.val < 18446744073709551616 := by decide
   have h1 := h ⟨k, h10⟩
   simp only at h1
   omega
 have e : ((c % 128 : Nat) : Int) * 2 ^ (7 * k) = ((128 ^ k * (c % 128) : Nat) : Int) := by
   rw [pow128, Int.natCast_mul, Int.natCast_pow, Int.mul_comm]; rfl
 have e1 : IntKind.u64.wrap ((c % 128 : Nat) : Int) = ((c % 128 : Nat) : Int) := wrap_u64 (by omega) (by omega)
 have e2 : IntKind.u64.wrap ((128 ^ k * (c % 128) : Nat) : Int) = ((128 ^ k * (c % 128) : Nat) : Int) := wrap_u64 (by omega) (by omega)
 rw [and127 c hc, e1, e, e2, u64_or_nat n _ hN hl]
 congr 1
 rw [pow128] at *
 rw [Nat.mul_comm, ← Nat.shiftLeft_eq, Nat.or_comm, ← Nat.shiftLeft_add_eq_or_of_lt hn, Nat.add_comm]
/-! ### what is put is got, and only that -/
theorem put_ind {motive : Nat → Prop} (lo : ∀ n, n < 128 → motive n) (hi : ∀ n, ¬ n < 128 → motive (n / 128) → motive n) : ∀ n, motive n := by
 intro n
 induction n using Nat.strongRecOn with
 | ind n ih =>
   by_cases h : n < 128
   · exact lo n h
   · exact hi n h (ih (n / 128) (by omega))
theorem getFrom_putL (n : Nat) : ∀ (i : Nat) (r : List UInt8), i < 10 → n < 2 ^ (64 - 7 * i) → (0 < i → 0 < n) → getFrom i (putL n ++ r) = some (n, r) := by
 induction n using put_ind with
 | lo n h =>
   intro i r hi hn h0
   rw [putL_lt h]
   have e := last7_nat (show n < 256 by omega)
   simp only [List.cons_append, List.nil_append, getFrom, e]
   rw [if_neg, if_pos h]
   rintro (h1 | ⟨rfl, h1⟩ | ⟨h1, h2⟩)
   · omega
   · simp at hn; omega
   · have := h0 h1; omega
 | hi n h ih =>
   intro i r hi hn h0
   have h9 : i < 9 := by
     by_cases h9 : i = 9
     · subst h9; simp at hn; omega
     · omega
   have hn' : n / 128 < 2 ^ (64 - 7 * (i + 1)) := by
     rw [Nat.div_lt_iff_lt_mul (by omega)]
     have e : 64 - 7 * i = 64 - 7 * (i + 1) + 7 := by omega
     rw [e, Nat.pow_add] at hn; omega
   rw [putL_ge h, List.cons_append, getFrom, more7_nat, if_neg (by omega), if_neg (by omega), ih (i + 1) r (by omega) hn' (by omega)]
   simp; omega
theorem getFrom_some (l : List UInt8) : ∀ (i n : Nat) (r : List UInt8), getFrom i l = some (n, r) → l = putL n ++ r ∧ n < 2 ^ (64 - 7 * i) ∧ (0 < i → 0 < n) ∧ i < 10 := by
 induction l with
 | nil => intro i n r h; simp [getFrom] at h
 | cons c s ih =>
   intro i n r h
   rw [getFrom] at h
   by_cases hb : i ≥ 10 ∨ (i = 9 ∧ 1 < c.toNat) ∨ (0 < i ∧ c.toNat = 0)
   · rw [if_pos hb] at h; cases h
   · rw [if_neg hb] at h
     have hi : i < 10 := by omega
     by_cases hc : c.toNat < 128
     · rw [if_pos hc] at h
       simp only [Option.some.injEq, Prod.mk.injEq] at h
       obtain ⟨rfl, rfl⟩ := h
       refine ⟨?_, ?_, by omega, hi⟩
       · rw [putL_lt hc]; simp [last7]
       · by_cases h9 : i = 9
         · subst h9; simp; omega
         · have : 2 ^ 8 ≤ 2 ^ (64 - 7 * i) := Nat.pow_le_pow_right (by omega) (by omega)
           omega
     · rw [if_neg hc] at h
       cases hg : getFrom (i + 1) s with
       | none => rw [hg] at h; cases h
       | some x =>
         rw [hg] at h
         simp only [Option.map_some, Option.some.injEq, Prod.mk.injEq] at h
         obtain ⟨rfl, rfl⟩ := h
         obtain ⟨h1, h2, h3, h4⟩ := ih (i + 1) x.1 x.2 hg
         have h5 := h3 (by omega)
         have hcl := UInt8.toNat_lt c
         refine ⟨?_, ?_, by omega, hi⟩
         · rw [putL_ge (by omega)]
           have e1 : (c.toNat % 128 + 128 * x.1) / 128 = x.1 := by omega
           have e2 : more7 (c.toNat % 128 + 128 * x.1) = c := by
             apply UInt8.toNat_inj.1; rw [more7_nat]; omega
           rw [e1, e2, List.cons_append, ← h1]
         · have e : 64 - 7 * i = 64 - 7 * (i + 1) + 7 := by omega
           rw [e, Nat.pow_add]; omega
theorem get_iff (l : List UInt8) (n : Nat) (r : List UInt8) : getFrom 0 l = some (n, r) ↔ U64 n ∧ l = putL n ++ r := by
 constructor
 · intro h
   obtain ⟨h1, h2, _, _⟩ := getFrom_some l 0 n r h
   exact ⟨h2, h1⟩
 · rintro ⟨h1, rfl⟩
   exact getFrom_putL n 0 r (by omega) h1 (by omega)
open Go.RowKit
theorem cR {w : World} {g j : Nat} {R : Array Value} {T : TypeId} {v : Value} (h : w.heap[g]? = some (.cells R T (0, 0))) (e : R[j]? = some v) : w.cell? ⟨g, j, none⟩ = some v := by
  rw [cell_of_row w g j R T (0, 0) h]; exact e
theorem gL {α : Type} {a : Array α} {i : Nat} {x : α} (h : a[i]? = some x) : i < a.size := (Array.getElem?_eq_some_iff.1 h).1
theorem alB {w w' : World} {o : Obj} (h : Below w.heap.size w w') : Below w.heap.size w (w'.alloc o) := h.alloc h.size o
end Go.Proofs.Ytdoblbiodpcjdaa
