/- What the table's laws share: a key's pair, found either way; the boxes of From. -/
import Derived.Test.YtfdbcnpbjabjoaaTabSame
import Derived.Test.YtfdbcnpbjabjoaaTabRef3
namespace Go.Proofs.Ytfdbcnpbjabjoaa
open Go.RowKit
set_option linter.unusedVariables false
set_option linter.unusedSimpArgs false

theorem find_none {key : List UInt8} {l : List Pr} (h : ∀ p ∈ l, p.1 ≠ key) : findK key l = none := List.find?_eq_none.2 fun p hp => by simpa using h p hp
theorem find_ne {key : List UInt8} {q : Pr} {l : List Pr} (h : ¬ q.1 = key) : findK key (q :: l) = findK key l := by unfold findK; simp [List.find?_cons, h]
theorem find_eq {key : List UInt8} {q : Pr} {l : List Pr} (h : q.1 = key) : findK key (q :: l) = some q := by unfold findK; simp [List.find?_cons, h]
theorem get_same (key : List UInt8) : ∀ (l : List Pr) (last : List UInt8), ascB last l → findK key l = if thereK key l = true then l[atK key l]? else none
  | [], _, _ => rfl
  | q :: l, last, ha => by
    cases hq : ltB q.1 key with
    | true =>
      have hne : ¬ q.1 = key := fun e => by rw [e, ltB_irr] at hq; cases hq
      have e0 : atK key (q :: l) = atK key l + 1 := by rw [atK_cons, if_pos hq]
      have e1 : thereK key (q :: l) = thereK key l := by unfold thereK; rw [e0, List.getElem?_cons_succ]
      rw [e1, e0, List.getElem?_cons_succ, ← get_same key l q.1 ha.2, find_ne hne]
    | false =>
      have e0 : atK key (q :: l) = 0 := by rw [atK_cons, if_neg (by rw [hq]; simp)]
      have e1 : thereK key (q :: l) = (q.1 == key) := by unfold thereK; rw [e0, List.getElem?_cons_zero]; rfl
      rw [e1, e0, List.getElem?_cons_zero]
      by_cases e : q.1 = key
      · rw [if_pos (by simpa using e), find_eq e]
      · rw [if_neg (by simpa using e)]
        have hkq : ltB key q.1 = true := (ltB_tot hq).resolve_left e
        refine find_none fun p hp => ?_
        rcases List.mem_cons.1 hp with rfl | hp
        · exact e
        · intro e2
          have h1 := asc_lt ha.2 p hp
          rw [e2] at h1
          have h2 := ltB_trans h1 hkq
          rw [ltB_irr] at h2; cases h2
theorem get_there {key : List UInt8} {l : List Pr} (h : ascB [] l) : (findK key l).isSome = thereK key l ∧ (findK key l).getD pr0 = if thereK key l = true then l[atK key l]?.getD pr0 else pr0 := by
  rw [get_same key l [] h]
  cases ht : thereK key l with
  | false => simp
  | true =>
    have hm : atK key l < l.length := by
      rcases Nat.lt_or_ge (atK key l) l.length with q | q
      · exact q
      · unfold thereK at ht; rw [List.getElem?_eq_none q] at ht; cases ht
    rw [if_pos rfl, if_pos rfl, List.getElem?_eq_getElem hm]
    simp
theorem dropK_nil (l : List Pr) : dropK [] l = l := by
  unfold dropK
  cases l with
  | nil => rfl
  | cons p l => rw [List.dropWhile_cons, ltB_nil2]; rfl
theorem own_cap {w : World} {B n : Nat} {e : TypeId} {a : Option Addr} {c : Nat} {xs : List Value} (h : w.ownsRow B e 3 (.slice a n c) n xs) : n ≤ c := by
  rcases h.2 with ⟨q, h0⟩ | ⟨g, cap, cur, q, _, _, h1, _⟩
  · omega
  · rw [Value.slice.injEq] at q
    omega
theorem same_yes (xs : List Pr) (v1 v2 : Value) (hn : xs.length ≤ 1099511627776) (w : World) (h1 : Sl w v1 3 xs.length (xs.flatMap prC)) (h2 : Sl w v2 3 xs.length (xs.flatMap prC)) :
    Calls Try.prog 29 #[v1, v2] w fun e w' => e = .returned (.bool true) ∧ Below w.heap.size w w' := by
  refine (same_any xs xs v1 v2 hn hn w h1 h2).mono ?_
  rintro _ w' ⟨rfl, q, rfl⟩
  exact ⟨by rw [decide_eq_true rfl], ⟨rfl, rfl, rfl, Nat.le_refl _, fun _ _ => rfl⟩⟩
/-- what From lays -/
theorem from_boxes {w w' : World} {x y : Value} {T1 T2 : TypeId} (h : w' = (w.alloc (.cells #[x] T1)).alloc (.cells #[y] T2)) : w'.heap[w.heap.size]? = some (.cells #[x] T1 (0, 0)) ∧ w'.heap[w.heap.size + 1]? = some (.cells #[y] T2 (0, 0)) ∧ Below w.heap.size w w' := by
  have h1 := heap_alloc_new w (.cells #[x] T1)
  have h2 := heap_alloc_new (w.alloc (.cells #[x] T1)) (.cells #[y] T2)
  rw [World.size_alloc] at h2
  refine ⟨?_, by rw [h]; exact h2, by rw [h]; exact ((Below.refl _ _).alloc (Nat.le_refl _) _).alloc (by simp) _⟩
  rw [h]
  exact (Below.heap_alloc _ _ _ (by simp)).trans h1
end Go.Proofs.Ytfdbcnpbjabjoaa
