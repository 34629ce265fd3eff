/- SLICES THAT CAME IN, read as lists of cells. -/
import Derived.Test.YtpjhaecoeiimkaaBytes
import Derived.ProofKit
import Derived.OpenShut
import Derived.Deep.Slices
namespace Go.Proofs.Ytpjhaecoeiimkaa
open Go.RowKit

/-- v is a slice of n elements of k cells each, which hold these values one behind the other -/
def Sl (w : World) (v : Value) (k n : Nat) (cells : List Value) : Prop :=
  cells.length = n * k ∧ n ≤ maxLen ∧ ∃ (a : Option Addr) (cap : Nat), v = .slice a n cap ∧ (n = 0 ∨ ∃ b off, a = some ⟨b, off, none⟩ ∧ b < w.heap.size ∧ ∀ j (_ : j < cells.length), w.cell? ⟨b, off + j, none⟩ = some cells[j])
theorem Sl.below {w w' : World} {v : Value} {k n : Nat} {cells : List Value} (h : Sl w v k n cells) (hb : Below w.heap.size w w') : Sl w' v k n cells := by
  obtain ⟨h1, h2, a, cap, h3, h4⟩ := h
  refine ⟨h1, h2, a, cap, h3, h4.imp id ?_⟩
  rintro ⟨b, off, rfl, hlt, hc⟩
  exact ⟨b, off, rfl, Nat.lt_of_lt_of_le hlt hb.size, fun j hj => (hb.cell (p := ⟨b, off + j, none⟩) hlt).trans (hc j hj)⟩
theorem Sl.none (w : World) (k cap : Nat) (a : Option Addr) : Sl w (.slice a 0 cap) k 0 [] := ⟨by simp, Nat.zero_le _, a, cap, rfl, .inl rfl⟩

/-- from the form's own words: cells at 'a.add j' -/
theorem Sl.of_add {w : World} {a : Addr} {k n cap : Nat} {cells : List Value} (hl : cells.length = n * k) (hn : n ≤ maxLen) (hk : 0 < k) (h : ∀ j (_ : j < cells.length), w.cell? (a.add j) = some cells[j]) : Sl w (.slice (some a) n cap) k n cells := by
  refine ⟨hl, hn, some a, cap, rfl, ?_⟩
  by_cases h0 : n = 0
  · exact .inl h0
  · right
    have hpos : 0 < cells.length := by rw [hl]; exact Nat.mul_pos (Nat.pos_of_ne_zero h0) hk
    obtain ⟨b, off, spot⟩ := a
    have hc := h 0 hpos
    have hspot : spot = Option.none := by simpa [Addr.add] using World.cell?_spot hc
    subst hspot
    refine ⟨b, off, rfl, ?_, fun j hj => ?_⟩
    · exact World.block_lt_of_cell? w _ hc
    · have := h j hj
      have e : (⟨b, off, Option.none⟩ : Addr).add j = ⟨b, off + j, Option.none⟩ := by unfold Addr.add; split <;> simp_all
      rw [← e]; exact this

theorem length_flatMap_const {α : Type} {k : Nat} {f : α → List Value} (hf : ∀ a, (f a).length = k) (l : List α) : (l.flatMap f).length = l.length * k := by
  induction l with
  | nil => simp
  | cons a r ih => rw [List.flatMap_cons, List.length_append, hf, ih, List.length_cons, Nat.add_mul]; omega
theorem getElem?_flatMap_const {α : Type} {k : Nat} {f : α → List Value} (hf : ∀ a, (f a).length = k) (l : List α) (i j : Nat) (hj : j < k) (hi : i < l.length) : (l.flatMap f)[i * k + j]? = (f l[i])[j]? := by
  induction l generalizing i with
  | nil => simp at hi
  | cons a r ih =>
    rw [List.flatMap_cons]
    cases i with
    | zero => rw [Nat.zero_mul, Nat.zero_add, List.getElem?_append_left (by rw [hf]; exact hj)]; rfl
    | succ i =>
      rw [List.getElem?_append_right (by rw [hf, Nat.add_mul]; omega), hf, show (i + 1) * k + j - k = i * k + j by rw [Nat.add_mul]; omega]
      simpa using ih i (by simpa using hi)
/-- the j-th cell of the i-th element -/
theorem Sl.cell {w : World} {α : Type} {k : Nat} {f : α → List Value} {l : List α} {b off : Nat} (hf : ∀ a, (f a).length = k)
    (hc : ∀ j (_ : j < (l.flatMap f).length), w.cell? ⟨b, off + j, Option.none⟩ = some (l.flatMap f)[j]) (i j : Nat) (hj : j < k) (hi : i < l.length) (v : Value) (hv : (f l[i])[j]? = some v) : w.cell? ⟨b, off + (i * k + j), Option.none⟩ = some v := by
  have hlt : i * k + j < (l.flatMap f).length := by
    rw [length_flatMap_const hf]
    have : (i + 1) * k ≤ l.length * k := Nat.mul_le_mul_right _ hi
    rw [Nat.add_mul] at this; omega
  rw [hc _ hlt, ← List.getElem?_eq_getElem hlt, getElem?_flatMap_const hf l i j hj hi, hv]

def sumBy {α : Type} (sz : α → Nat) : List α → Nat | [] => 0 | a :: r => sz a + sumBy sz r
theorem sumBy_mem {α : Type} {sz : α → Nat} {l : List α} {a : α} (h : a ∈ l) : sz a ≤ sumBy sz l := by
  induction l with
  | nil => cases h
  | cons x r ih =>
    simp only [sumBy]
    rcases List.mem_cons.1 h with rfl | h
    · omega
    · have := ih h; omega
theorem sumBy_one {α : Type} {sz : α → Nat} (h : ∀ a, 1 ≤ sz a) (l : List α) : l.length ≤ sumBy sz l := by
  induction l with
  | nil => simp
  | cons x r ih => have := h x; simp only [sumBy, List.length_cons]; omega

open Go.ChangeShapes Go.WideShapes Go.Deep in
/-- A SLICE OF WHATEVER ELEMENTS, opened: 'cells a' are the cells of the element a, 'sz a' is at most its bulk. -/
theorem open_sl {P : Program} {H : Type} {enc : TypeId × Value → H} {W : World} {base : Nat} {t e : TypeId} {v : Value} {d : DataW H} {p : List MemPlace} {α : Type} [Inhabited α]
    (ht : P.underlying t = some (.slice e)) (k : Nat) (hk : P.cellsOf e = k) (hk0 : 0 < k) (cells : α → List Value) (hlen : ∀ a, (cells a).length = k) (good : α → Prop) (bulk : DataW H → Nat) (sz : α → Nat)
    (hel : ∀ (n : Nat) (cs : List Value) (x : DataW H × List MemPlace), DataW.trod enc P W 0 (fun _ => true) true n e cs = some x → ∃ a : α, cs = cells a ∧ good a ∧ sz a ≤ bulk x.1)
    (hv : Value.okWide P W .any base t v) (h : DataW.Trod enc P W 0 (fun _ => true) true t v d p) :
    ∃ as : List α, Sl W v k as.length (as.flatMap cells) ∧ (∀ a ∈ as, good a) ∧ ((d = .nil ∧ as = []) ∨ ∃ es rest : List (DataW H), d = .slice es rest ∧ sumBy sz as ≤ (es.map bulk).sum) := by
  obtain ⟨a0, len0, cap0, rfl⟩ := okWide_slice ht hv
  obtain ⟨fuel, hf⟩ := h
  rcases open_slice ht hf with ⟨hcs, hx⟩ | ⟨a, len, cap, m, n, D, Pl, hcs, _, hl, hm, hmm, hx, hi⟩
  · simp [Value.cells] at hcs
    obtain ⟨rfl, rfl, rfl⟩ := hcs
    simp only [Prod.mk.injEq] at hx
    exact ⟨[], Sl.none _ _ _ _, by simp, .inl ⟨hx.1, rfl⟩⟩
  · simp [Value.cells] at hcs
    obtain ⟨rfl, rfl, rfl⟩ := hcs
    simp only [if_true] at hmm
    subst hmm
    simp only [Prod.mk.injEq] at hx
    have hi' : ∀ i, i < len0 → ∃ y : α, W.cells? 0 (a.add (i * k)) k = some (cells y) ∧ good y ∧ sz y ≤ bulk (D i) := fun i hil => by
      obtain ⟨cs', h1, h2⟩ := hi i (by omega)
      rw [hk] at h1
      obtain ⟨y, rfl, h3, h4⟩ := hel n cs' _ h2
      exact ⟨y, h1, h3, h4⟩
    obtain ⟨f, hf'⟩ := choose_lt hi'
    have hll : ((List.range len0).map f).length = len0 := by simp
    refine ⟨(List.range len0).map f, ?_, ?_, .inr ⟨_, _, hx.1, ?_⟩⟩
    · rw [hll]
      refine Sl.of_add (by rw [length_flatMap_const hlen, hll]) (by omega) hk0 (fun j hj => ?_)
      rw [length_flatMap_const hlen, hll] at hj
      have hq : j / k < len0 := by rw [Nat.div_lt_iff_lt_mul hk0]; exact hj
      have hr : j % k < k := Nat.mod_lt _ hk0
      obtain ⟨hc, _, _⟩ := hf' (j / k) hq
      obtain ⟨_, _, hat⟩ := World.cells?_some hc
      have h1 := hat (j % k) hr
      rw [add_add] at h1
      have e : j / k * k + j % k = j := Nat.div_add_mod' _ _
      rw [e] at h1
      rw [h1, ← List.getElem?_eq_getElem]
      have h2 := getElem?_flatMap_const hlen ((List.range len0).map f) (j / k) (j % k) hr (by rw [hll]; exact hq)
      rw [e] at h2
      rw [h2]; simp
    · intro y hy
      simp only [List.mem_map, List.mem_range] at hy
      obtain ⟨i, hil, rfl⟩ := hy
      exact (hf' i hil).2.1
    · rw [List.map_map]
      have : ∀ (l : List Nat), (∀ i ∈ l, i < len0) → sumBy sz (l.map f) ≤ (l.map (bulk ∘ D)).sum := by
        intro l
        induction l with
        | nil => intro _; simp [sumBy]
        | cons i r ih =>
          intro hl'
          have h1 := (hf' i (hl' i (by simp))).2.2
          have h2 := ih (fun j hj => hl' j (by simp [hj]))
          simp only [List.map_cons, sumBy, List.sum_cons, Function.comp_apply]; omega
      exact this _ (fun i hi => by simpa using hi)
end Go.Proofs.Ytpjhaecoeiimkaa
