/- SLICES THAT CAME IN, read as lists of cells. -/
import Derived.Test.YtfdbcnpbjabjoaaBytes
import Derived.ProofKit
import Derived.OpenShut
import Derived.Deep.Slices
import Derived.Deep.Fields
import Derived.Laws.AppendOwnNone
namespace Go.Proofs.Ytfdbcnpbjabjoaa
open Go.RowKit

def NilOk (v : Value) : Prop := ∀ n c, v = .slice none n c → c = 0
/-- v is a slice of n elements of k cells each, which hold these values one behind the other -/
def Sl (w : World) (v : Value) (k n : Nat) (cells : List Value) : Prop :=
  cells.length = n * k ∧ (n ≤ maxLen ∧ NilOk v) ∧ ∃ (a : Option Addr) (cap : Nat), v = .slice a n cap ∧ (n = 0 ∨ ∃ b off, a = some ⟨b, off, none⟩ ∧ b < w.heap.size ∧ ∀ j (_ : j < cells.length), w.cell? ⟨b, off + j, none⟩ = some cells[j])
theorem Sl.below {w w' : World} {v : Value} {k n : Nat} {cells : List Value} (h : Sl w v k n cells) (hb : Below w.heap.size w w') : Sl w' v k n cells := by
  obtain ⟨h1, h2, a, cap, h3, h4⟩ := h
  refine ⟨h1, h2, a, cap, h3, h4.imp id ?_⟩
  rintro ⟨b, off, rfl, hlt, hc⟩
  exact ⟨b, off, rfl, Nat.lt_of_lt_of_le hlt hb.size, fun j hj => (hb.cell (p := ⟨b, off + j, none⟩) hlt).trans (hc j hj)⟩
theorem Sl.none (w : World) (k : Nat) : Sl w (.slice none 0 0) k 0 [] := ⟨by simp, ⟨Nat.zero_le _, fun n c h => by simp at h; exact h.2.symm⟩, Option.none, 0, rfl, .inl rfl⟩

/-- from the form's own words: cells at 'a.add j' -/
theorem Sl.of_add {w : World} {a : Addr} {k n cap : Nat} {cells : List Value} (hl : cells.length = n * k) (hn : n ≤ maxLen) (hk : 0 < k) (h : ∀ j (_ : j < cells.length), w.cell? (a.add j) = some cells[j]) : Sl w (.slice (some a) n cap) k n cells := by
  refine ⟨hl, ⟨hn, fun n c h => by simp at h⟩, some a, cap, rfl, ?_⟩
  by_cases h0 : n = 0
  · exact .inl h0
  · right
    have hpos : 0 < cells.length := by rw [hl]; exact Nat.mul_pos (Nat.pos_of_ne_zero h0) hk
    obtain ⟨b, off, spot⟩ := a
    have hc := h 0 hpos
    have hspot : spot = Option.none := by simpa [Addr.add] using World.cell?_spot hc
    subst hspot
    refine ⟨b, off, rfl, ?_, fun j hj => ?_⟩
    · exact World.block_lt_of_cell? w _ hc
    · have := h j hj
      have e : (⟨b, off, Option.none⟩ : Addr).add j = ⟨b, off + j, Option.none⟩ := by unfold Addr.add; split <;> simp_all
      rw [← e]; exact this

theorem length_flatMap_const {α : Type} {k : Nat} {f : α → List Value} (hf : ∀ a, (f a).length = k) (l : List α) : (l.flatMap f).length = l.length * k := by
  induction l with
  | nil => simp
  | cons a r ih => rw [List.flatMap_cons, List.length_append, hf, ih, List.length_cons, Nat.add_mul]; omega
theorem getElem?_flatMap_const {α : Type} {k : Nat} {f : α → List Value} (hf : ∀ a, (f a).length = k) (l : List α) (i j : Nat) (hj : j < k) (hi : i < l.length) : (l.flatMap f)[i * k + j]? = (f l[i])[j]? := by
  induction l generalizing i with
  | nil => simp at hi
  | cons a r ih =>
    rw [List.flatMap_cons]
    cases i with
    | zero => rw [Nat.zero_mul, Nat.zero_add, List.getElem?_append_left (by rw [hf]; exact hj)]; rfl
    | succ i =>
      rw [List.getElem?_append_right (by rw [hf, Nat.add_mul]; omega), hf, show (i + 1) * k + j - k = i * k + j by rw [Nat.add_mul]; omega]
      simpa using ih i (by simpa using hi)
/-- the j-th cell of the i-th element -/
theorem Sl.cell {w : World} {α : Type} {k : Nat} {f : α → List Value} {l : List α} {b off : Nat} (hf : ∀ a, (f a).length = k)
    (hc : ∀ j (_ : j < (l.flatMap f).length), w.cell? ⟨b, off + j, Option.none⟩ = some (l.flatMap f)[j]) (i j : Nat) (hj : j < k) (hi : i < l.length) (v : Value) (hv : (f l[i])[j]? = some v) : w.cell? ⟨b, off + (i * k + j), Option.none⟩ = some v := by
  have hlt : i * k + j < (l.flatMap f).length := by
    rw [length_flatMap_const hf]
    have : (i + 1) * k ≤ l.length * k := Nat.mul_le_mul_right _ hi
    rw [Nat.add_mul] at this; omega
  rw [hc _ hlt, ← List.getElem?_eq_getElem hlt, getElem?_flatMap_const hf l i j hj hi, hv]

def sumBy {α : Type} (sz : α → Nat) : List α → Nat | [] => 0 | a :: r => sz a + sumBy sz r
theorem sumBy_mem {α : Type} {sz : α → Nat} {l : List α} {a : α} (h : a ∈ l) : sz a ≤ sumBy sz l := by
  induction l with
  | nil => cases h
  | cons x r ih =>
    simp only [sumBy]
    rcases List.mem_cons.1 h with rfl | h
    · omega
    · have := ih h; omega
theorem sumBy_one {α : Type} {sz : α → Nat} (h : ∀ a, 1 ≤ sz a) (l : List α) : l.length ≤ sumBy sz l := by
  induction l with
  | nil => simp
  | cons x r ih => have := h x; simp only [sumBy, List.length_cons]; omega

open Go.ChangeShapes Go.WideShapes Go.Deep in
/-- A SLICE OF WHATEVER ELEMENTS, opened: 'cells a' are the cells of the element a, 'sz a' is at most its bulk. -/
theorem trod_sl {P : Program} {H : Type} {enc : TypeId × Value → H} {W : World} {t e : TypeId} {fuel : Nat} {v : Value} {d : DataW H × List MemPlace} {α : Type} [Inhabited α]
    (ht : P.underlying t = some (.slice e)) (k : Nat) (hk : P.cellsOf e = k) (hk0 : 0 < k) (cells : α → List Value) (hlen : ∀ a, (cells a).length = k) (good : α → Prop) (bulk : DataW H → Nat) (sz : α → Nat)
    (hel : ∀ (n : Nat) (cs : List Value) (x : DataW H × List MemPlace), DataW.trod enc P W 0 (fun _ => true) true n e cs = some x → ∃ a : α, cs = cells a ∧ good a ∧ sz a ≤ bulk x.1)
    (hf : DataW.trod enc P W 0 (fun _ => true) true fuel t [v] = some d) :
    ∃ as : List α, Sl W v k as.length (as.flatMap cells) ∧ (∀ a ∈ as, good a) ∧ ((d.1 = .nil ∧ as = []) ∨ ∃ es rest : List (DataW H), d.1 = .slice es rest ∧ sumBy sz as ≤ (es.map bulk).sum) := by
  rcases open_slice ht hf with ⟨hcs, hx⟩ | ⟨a, len, cap, m, n, D, Pl, hcs, _, hl, hm, hmm, hx, hi⟩
  · simp at hcs
    subst hcs
    subst hx
    exact ⟨[], Sl.none _ _, by simp, .inl ⟨rfl, rfl⟩⟩
  · simp at hcs
    subst hcs
    simp only [if_true] at hmm
    subst hmm
    have hi' : ∀ i, i < len → ∃ y : α, W.cells? 0 (a.add (i * k)) k = some (cells y) ∧ good y ∧ sz y ≤ bulk (D i) := fun i hil => by
      obtain ⟨cs', h1, h2⟩ := hi i (by omega)
      rw [hk] at h1
      obtain ⟨y, rfl, h3, h4⟩ := hel n cs' _ h2
      exact ⟨y, h1, h3, h4⟩
    obtain ⟨f, hf'⟩ := choose_lt hi'
    have hll : ((List.range len).map f).length = len := by simp
    refine ⟨(List.range len).map f, ?_, ?_, .inr ⟨_, _, by rw [hx], ?_⟩⟩
    · rw [hll]
      refine Sl.of_add (by rw [length_flatMap_const hlen, hll]) (by omega) hk0 (fun j hj => ?_)
      rw [length_flatMap_const hlen, hll] at hj
      have hq : j / k < len := by rw [Nat.div_lt_iff_lt_mul hk0]; exact hj
      have hr : j % k < k := Nat.mod_lt _ hk0
      obtain ⟨hc, _, _⟩ := hf' (j / k) hq
      obtain ⟨_, _, hat⟩ := World.cells?_some hc
      have h1 := hat (j % k) hr
      rw [add_add] at h1
      have e : j / k * k + j % k = j := Nat.div_add_mod' _ _
      rw [e] at h1
      rw [h1, ← List.getElem?_eq_getElem]
      have h2 := getElem?_flatMap_const hlen ((List.range len).map f) (j / k) (j % k) hr (by rw [hll]; exact hq)
      rw [e] at h2
      rw [h2]; simp
    · intro y hy
      simp only [List.mem_map, List.mem_range] at hy
      obtain ⟨i, hil, rfl⟩ := hy
      exact (hf' i hil).2.1
    · rw [List.map_map]
      have : ∀ (l : List Nat), (∀ i ∈ l, i < len) → sumBy sz (l.map f) ≤ (l.map (bulk ∘ D)).sum := by
        intro l
        induction l with
        | nil => intro _; simp [sumBy]
        | cons i r ih =>
          intro hl'
          have h1 := (hf' i (hl' i (by simp))).2.2
          have h2 := ih (fun j hj => hl' j (by simp [hj]))
          simp only [List.map_cons, sumBy, List.sum_cons, Function.comp_apply]; omega
      exact this _ (fun i hi => by simpa using hi)
open Go.ChangeShapes Go.WideShapes Go.Deep in
theorem open_sl {P : Program} {H : Type} {enc : TypeId × Value → H} {W : World} {base : Nat} {t e : TypeId} {v : Value} {d : DataW H} {p : List MemPlace} {α : Type} [Inhabited α]
    (ht : P.underlying t = some (.slice e)) (k : Nat) (hk : P.cellsOf e = k) (hk0 : 0 < k) (cells : α → List Value) (hlen : ∀ a, (cells a).length = k) (good : α → Prop) (bulk : DataW H → Nat) (sz : α → Nat)
    (hel : ∀ (n : Nat) (cs : List Value) (x : DataW H × List MemPlace), DataW.trod enc P W 0 (fun _ => true) true n e cs = some x → ∃ a : α, cs = cells a ∧ good a ∧ sz a ≤ bulk x.1)
    (hv : Value.okWide P W .any base t v) (h : DataW.Trod enc P W 0 (fun _ => true) true t v d p) :
    ∃ as : List α, Sl W v k as.length (as.flatMap cells) ∧ (∀ a ∈ as, good a) ∧ ((d = .nil ∧ as = []) ∨ ∃ es rest : List (DataW H), d = .slice es rest ∧ sumBy sz as ≤ (es.map bulk).sum) := by
  obtain ⟨a0, len0, cap0, rfl⟩ := okWide_slice ht hv
  obtain ⟨fuel, hf⟩ := h
  exact trod_sl ht k hk hk0 cells hlen good bulk sz hel (by simpa [Value.cells] using hf)

def strV (l : List UInt8) : Value := .string ⟨l.toArray⟩
theorem flatMap_one {α : Type} (f : α → Value) (l : List α) : l.flatMap (fun a => [f a]) = l.map f := by
  induction l with
  | nil => rfl
  | cons a r ih => simp [ih]
/-- a slice of texts -/
theorem trod_strs {P : Program} {H : Type} {enc : TypeId × Value → H} {W : World} {t e : TypeId} {fuel : Nat} {v : Value} {d : DataW H × List MemPlace} (ht : P.underlying t = some (.slice e)) (he : P.underlying e = some .string) (hk : P.cellsOf e = 1)
    (bulk : DataW H → Nat) (hb : ∀ l : List UInt8, l.length + 1 ≤ bulk (.lit (.string l))) (hf : DataW.trod enc P W 0 (fun _ => true) true fuel t [v] = some d) :
    ∃ ss : List (List UInt8), Sl W v 1 ss.length (ss.map strV) ∧ (∀ s ∈ ss, s.length ≤ maxLen) ∧ ((d.1 = .nil ∧ ss = []) ∨ ∃ es rest : List (DataW H), d.1 = .slice es rest ∧ sumBy (fun s => s.length + 1) ss ≤ (es.map bulk).sum) := by
  obtain ⟨ss, h1, h2, h3⟩ := trod_sl ht 1 hk (by omega) (fun s => [strV s]) (fun _ => rfl) (fun s => s.length ≤ maxLen) bulk (fun s => s.length + 1) (fun n cs x hx => by
    obtain ⟨s, rfl, rfl, hs⟩ := DataW.trod_string he hx
    exact ⟨s.data.toList, rfl, (show s.data.toList.length ≤ maxLen by rw [← Lib.size_eq]; exact hs), hb _⟩) hf
  rw [flatMap_one] at h1
  exact ⟨ss, h1, h2, h3⟩

open Go.ChangeShapes Go.WideShapes Go.Deep in
/-- a struct's fields, each of one cell -/
theorem trod_fields {P : Program} {H : Type} {enc : TypeId × Value → H} {w : World} {base : Nat} {spare : Nat → Bool} {held : Bool} {t : TypeId} {fs : Array Field} {fuel : Nat} {cs : List Value} {x : DataW H × List MemPlace}
    (ht : P.underlying t = some (.struct fs)) (hone : oneCellFields P fs = true) (hC : P.cellsOf t = fs.size) (h : DataW.trod enc P w base spare held fuel t cs = some x) :
    ∃ (ys : List (DataW H × List MemPlace)) (n : Nat), x.1 = .agg (ys.map (·.1)) ∧ ys.length = fs.size ∧ cs.length = fs.size ∧
      ∀ (j : Nat) (f : Field), fs[j]? = some f → ∃ v y, cs[j]? = some v ∧ ys[j]? = some y ∧ DataW.trod enc P w base spare held n f.type [v] = some y := by
  obtain ⟨ys, n, _, hx, hlen, hyl, hf⟩ := DataW.trod_struct ht h
  refine ⟨ys, n, by rw [hx], hyl, by rw [hlen, hC], fun j f hj => ?_⟩
  obtain ⟨ho, hk⟩ := hone_of hone j f hj
  have hjl : j < fs.size := (Array.getElem?_eq_some_iff.1 hj).1
  have hcl : j < cs.length := by rw [hlen, hC]; exact hjl
  have h1 := hf j f hj
  rw [ho, hk, List.drop_eq_getElem_cons hcl] at h1
  exact ⟨cs[j], ys[j]'(by omega), List.getElem?_eq_getElem hcl, List.getElem?_eq_getElem (by omega), h1.trans (List.getElem?_eq_getElem (by omega))⟩

/-- append a slice that is read to a row of the call's own -/
theorem wpList_append_sl {P : Program} (w : World) {ops : Array Oper} {rest : List Oper} {o : Oper} {a : Act} {Q : Exit → Act → World → Prop} (hgd : o.guard = none) (s x : Operand) (t : TypeId)
    (ho : o.op = .call { callee := .builtin .append, args := #[s, x], argTypes := #[t, t] })
    (B : Nat) (e : TypeId) (z : Value) (k bytes : Nat) (ht : P.underlying t = some (.slice e)) (hi : (P.info? e).map (fun i => (i.zero, i.size, i.bytes)) = some (some z, k, bytes)) (hzs : z.cells.size = k) (hk0 : 0 < k)
    (v : Value) (n : Nat) (xs : List Value) (hs : a.eval s = v) (hown : w.ownsRow B e k v n xs)
    (xv : Value) (m : Nat) (cells : List Value) (hx : a.eval x = xv) (hsl : Sl w xv k m cells) (h1 : ∀ u ∈ cells, u.oneCell' = true)
    (hlen : n + m ≤ maxLen) (hbytes : (n + m) * bytes ≤ 140737488355328) (w0 : World) (hB : B ≤ w.heap.size) (hb : Below B w0 w)
    (h : ∀ v' w', w'.ownsRow B e k v' (n + m) (xs ++ cells) → Below B w0 w' → w.grownBy w' v.ownBlock → wpList P ops Q rest (a.put o.dst v') w') : wpList P ops Q (o :: rest) a w := by
  obtain ⟨i0, hi0, hz0, hz1, hz2⟩ := info_parts hi
  obtain ⟨hl, ⟨_, hnil⟩, ad, cap, rfl, hc⟩ := hsl
  cases ad with
  | none =>
    have hc0 := hnil m cap rfl
    have hm : m = 0 := by
      rcases hc with h0 | ⟨b, off, h', _⟩
      · exact h0
      · cases h'
    subst hm; subst hc0
    have hce : cells = [] := List.eq_nil_of_length_eq_zero (by simpa using hl)
    subst hce
    refine wpList_append_own_none hgd s x t ho B e i0 k ht hi0 v n xs hs hown hx ?_
    have := h v w (by simpa using hown) hb ⟨rfl, rfl, rfl, Nat.le_refl _, fun _ _ _ => rfl⟩
    exact this
  | some ad =>
    refine wpList_append_own w hgd s x t ho B e i0 z k bytes ht hi0 hz0 hz1 hz2 hzs hk0 v n xs hs hown ad m cap cells hx hl ?_ h1 hlen hbytes hB ?_
    · intro j u hj
      obtain ⟨hjl, rfl⟩ := List.getElem?_eq_some_iff.1 hj
      rcases hc with h0 | ⟨b, off, h', _, hcell⟩
      · subst h0; simp at hl; subst hl; simp at hjl
      · cases h'
        have e : (⟨b, off, Option.none⟩ : Addr).add j = ⟨b, off + j, Option.none⟩ := by unfold Addr.add; split <;> simp_all
        rw [e]; exact hcell j hjl
    · intro v' w' g1 g2 _
      exact h v' w' g1 (hb.grown g2 hB (fun j hj => (World.ownsRow.lt hown j hj).1)) g2
/-- a row of the call's own reads as a slice -/
theorem Sl.of_own {w : World} {B : Nat} {e : TypeId} {k n : Nat} {v : Value} {xs : List Value} (h : w.ownsRow B e k v n xs) (hn : n ≤ maxLen) : Sl w v k n xs := by
  refine ⟨h.1, ?_⟩
  rcases h.2 with ⟨rfl, rfl⟩ | ⟨g, cap, cur, rfl, hb, hg, r⟩
  · exact (Sl.none w k).2 |> fun ⟨p, q⟩ => ⟨p, Option.none, 0, rfl, .inl rfl⟩
  · refine ⟨⟨hn, fun _ _ h => by simp at h⟩, some ⟨g, 0, Option.none⟩, cap, rfl, .inr ⟨g, 0, rfl, (Array.getElem?_eq_some_iff.1 hg).1, fun j hj => ?_⟩⟩
    have := World.ownsRow.cells h (g := g) rfl j xs[j] (List.getElem?_eq_getElem hj)
    have e : (⟨g, 0, Option.none⟩ : Addr).add j = ⟨g, 0 + j, Option.none⟩ := by unfold Addr.add; split <;> simp_all
    rw [← e]; exact this
/-- a literal slice: a new block of one-cell elements -/
theorem Sl.lit (w : World) (cells : List Value) (e : TypeId) (hn : cells.length ≤ maxLen) : Sl (w.alloc (.cells cells.toArray e)) (.slice (some ⟨w.heap.size, 0, Option.none⟩) cells.length cells.length) 1 cells.length cells := by
  refine ⟨by simp, ⟨hn, fun _ _ h => by simp at h⟩, some ⟨w.heap.size, 0, Option.none⟩, _, rfl, .inr ⟨w.heap.size, 0, rfl, by simp, fun j hj => ?_⟩⟩
  rw [Nat.zero_add, World.cell?_alloc_at _ _ _ _ rfl]
  simp [hj]
/-- what came in is as it was behind an append to a nil slice -/
theorem Sl.keep_own {w w' : World} {v : Value} {k n c c' : Nat} {cells : List Value} (h : Sl w v k n cells) (hg : w.grownBy w' (Value.slice Option.none c c').ownBlock) : Sl w' v k n cells :=
  h.below ((Below.refl _ _).grown hg (Nat.le_refl _) (fun k hk => by simp [Value.ownBlock] at hk))
end Go.Proofs.Ytfdbcnpbjabjoaa
