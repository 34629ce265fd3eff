/- TABLES in plain words: the block of a key; looking up; from a key on. -/
import Derived.Test.YtfdbcnpbjabjoaaTabR
namespace Go.Proofs.Ytfdbcnpbjabjoaa
open Go.RowKit
set_option linter.unusedVariables false
set_option linter.unusedSimpArgs false

theorem countP_down {P : Nat → Bool} : ∀ (n : Nat), (∀ a b, a ≤ b → b < n → P b = true → P a = true) → ∀ i, i < n → (i < (List.range n).countP P ↔ P i = true)
  | 0, _, i, hi => by omega
  | n + 1, hd, i, hi => by
    have hle : (List.range n).countP P ≤ n := by simpa using List.countP_le_length (p := P) (l := List.range n)
    rw [List.range_succ, List.countP_append]
    have e1 : [n].countP P = if P n = true then 1 else 0 := by simp [List.countP_cons]
    rw [e1]
    by_cases hn : P n = true
    · have : (List.range n).countP P = n := by
        have := (List.countP_eq_length (p := P) (l := List.range n)).2 fun a ha => hd a n (by have := List.mem_range.1 ha; omega) (by omega) hn
        simpa using this
      rw [this, if_pos hn]
      exact ⟨fun _ => hd i n (by omega) (by omega) hn, fun _ => by omega⟩
    · rw [if_neg hn]
      by_cases e : i = n
      · subst e
        exact ⟨fun q => by omega, fun q => absurd q hn⟩
      · have := countP_down n (fun a b h1 h2 h3 => hd a b h1 (by omega) h3) i (by omega)
        rw [Nat.add_zero]; exact this
theorem asc_sep : ∀ {x : List Pr} {last : List UInt8} {y : List Pr}, ascB last (x ++ y) → ∀ p ∈ x, ∀ q ∈ y, ltB p.1 q.1 = true
  | [], _, _, _, p, hp, _, _ => by simp at hp
  | r :: x, last, y, h, p, hp, q, hq => by
    rw [List.cons_append, ascB_cons] at h
    rcases List.mem_cons.1 hp with rfl | hp
    · exact asc_lt h.2 q (List.mem_append.2 (.inr hq))
    · exact asc_sep h.2 p hp q hq
theorem ltB_le {a b c : List UInt8} (h : ltB a b = true) (k : ltB c b = false) : ltB a c = true := by
  rcases ltB_tot k with rfl | q
  · exact h
  · exact ltB_trans h q
theorem flat_at {prs : List (List Pr)} {b : Nat} (hb : b < prs.length) : prs.flatten = (prs.take b).flatten ++ (prs[b] ++ (prs.drop (b + 1)).flatten) := by
  conv => lhs; rw [← List.take_append_drop b prs]
  rw [List.flatten_append, List.drop_eq_getElem_cons hb, List.flatten_cons]
section
variable {t : Tb} {prs : List (List Pr)}
theorem GoodT.len (h : GoodT t prs) : t.fs.length = prs.length := by rw [h.fs, List.length_map]
theorem GoodT.first (h : GoodT t prs) {j : Nat} (hj : j < prs.length) : t.fs[j]?.getD [] = headK prs[j] := by
  rw [h.fs, List.getElem?_map, List.getElem?_eq_getElem hj]; rfl
theorem GoodT.headm (h : GoodT t prs) {j : Nat} (hj : j < prs.length) : ∃ p ∈ prs[j], headK prs[j] = p.1 := by
  have := (h.g8 prs[j] (List.getElem_mem hj)).1
  cases e : prs[j] with
  | nil => exact absurd e this
  | cons p r => exact ⟨p, by simp, rfl⟩
theorem GoodT.below (h : GoodT t prs) {a b : Nat} (hab : a < b) (hb : b < prs.length) : ∀ p ∈ prs[a]'(by omega), ltB p.1 (headK prs[b]) = true := by
  intro p hp
  have ha := h.asc
  rw [h.ps, flat_at hb] at ha
  obtain ⟨q, hq, e⟩ := h.headm hb
  rw [e]
  refine asc_sep ha p (List.mem_flatten.2 ⟨_, ?_, hp⟩) q (List.mem_append.2 (.inl hq))
  exact List.mem_take_iff_getElem.2 ⟨a, by omega, rfl⟩
theorem GoodT.above (h : GoodT t prs) {b : Nat} (hb : b < prs.length) : ∀ p ∈ prs[b], ∀ key, ltB key (headK prs[b]) = true → ltB key p.1 = true := by
  intro p hp key hk
  have ha := h.asc
  rw [h.ps, flat_at hb] at ha
  have ha2 := ((ascB_app _ _ _).1 (((ascB_app _ _ _).1 ha).2)).1
  cases e : prs[b] with
  | nil => rw [e] at hp; simp at hp
  | cons q r =>
    rw [e] at hp ha2 hk
    rcases List.mem_cons.1 hp with rfl | hp
    · exact hk
    · exact ltB_trans hk (asc_lt ha2.2 p hp)
theorem GoodT.mono (h : GoodT t prs) : MonoK t.fs := by
  intro a b hab hb key hk
  rw [h.len] at hb
  rw [h.first hb]
  rw [h.first (show a < prs.length by omega)] at hk
  by_cases e : a = b
  · subst e; exact hk
  · obtain ⟨p, hp, e1⟩ := h.headm (show a < prs.length by omega)
    rw [e1] at hk
    exact ltB_trans hk (h.below (by omega) hb p hp)
theorem GoodT.up (h : GoodT t prs) (key : List UInt8) {i : Nat} (hi : i < prs.length) : i < upK t.fs key ↔ ltB key (headK prs[i]) = false := by
  unfold upK
  rw [countP_down t.fs.length (fun a b h1 h2 h3 => ?_) i (by rw [h.len]; exact hi), h.first hi]
  · simp
  · cases q : ltB key (t.fs[a]?.getD []) with
    | false => rfl
    | true => rw [h.mono a b h1 h2 key q] at h3; cases h3
theorem GoodT.blk_lt (h : GoodT t prs) (key : List UInt8) : blockK t.fs key < prs.length := by
  have := upK_le t.fs key
  have := List.length_pos_iff.2 h.ne
  rw [h.len] at *
  unfold blockK; omega
theorem GoodT.lows (h : GoodT t prs) (key : List UInt8) : ∀ p ∈ (prs.take (blockK t.fs key)).flatten, ltB p.1 key = true := by
  intro p hp
  obtain ⟨x, hx, hp⟩ := List.mem_flatten.1 hp
  obtain ⟨a, ha, rfl⟩ := List.mem_take_iff_getElem.1 hx
  have hk := h.blk_lt key
  have h1 : a + 1 < prs.length := by omega
  exact ltB_le (h.below (Nat.lt_succ_self a) h1 p hp) ((h.up key h1).1 (by unfold blockK at ha; omega))
theorem GoodT.highs (h : GoodT t prs) (key : List UInt8) : ∀ p ∈ (prs.drop (blockK t.fs key + 1)).flatten, ltB key p.1 = true := by
  intro p hp
  obtain ⟨x, hx, hp⟩ := List.mem_flatten.1 hp
  obtain ⟨a, ha0, rfl⟩ := List.mem_drop_iff_getElem.1 hx
  have ha : blockK t.fs key + 1 + a < prs.length := by omega
  refine h.above ha p hp key ?_
  cases q : ltB key (headK prs[blockK t.fs key + 1 + a]) with
  | true => rfl
  | false => have := (h.up key ha).2 q; unfold blockK at this; omega
/-- the pair of a key -/
def findK (key : List UInt8) (l : List Pr) : Option Pr := l.find? fun p => p.1 == key
theorem GoodT.find (h : GoodT t prs) (key : List UInt8) : findK key t.ps = findK key (prs[blockK t.fs key]'(h.blk_lt key)) := by
  unfold findK
  rw [h.ps, flat_at (h.blk_lt key), List.find?_append, List.find?_append]
  have e1 : (prs.take (blockK t.fs key)).flatten.find? (fun p => p.1 == key) = none := by
    rw [List.find?_eq_none]
    intro p hp e
    have := h.lows key p hp
    rw [eq_of_beq e, ltB_irr] at this; cases this
  have e2 : (prs.drop (blockK t.fs key + 1)).flatten.find? (fun p => p.1 == key) = none := by
    rw [List.find?_eq_none]
    intro p hp e
    have := h.highs key p hp
    rw [eq_of_beq e, ltB_irr] at this; cases this
  rw [e1, e2]
  simp
theorem GoodT.froms (h : GoodT t prs) (key : List UInt8) : (prs.drop (blockK t.fs key)).flatten.filter (fun p => !ltB p.1 key) = dropK key t.ps := by
  rw [← dropK_filter key h.asc, h.ps]
  conv => rhs; rw [← List.take_append_drop (blockK t.fs key) prs, List.flatten_append, List.filter_append]
  have e : (prs.take (blockK t.fs key)).flatten.filter (fun p => !ltB p.1 key) = [] := by
    rw [List.filter_eq_nil_iff]
    intro p hp
    rw [h.lows key p hp]; simp
  rw [e, List.nil_append]
theorem GoodT.has_find (h : GoodT t prs) (key : List UInt8) (hk : hasL t.fl key = false) : findK key t.ps = none := by
  unfold findK
  rw [List.find?_eq_none]
  intro p hp e
  have := h.has p hp
  rw [eq_of_beq e, hk] at this; cases this
end
end Go.Proofs.Ytfdbcnpbjabjoaa
