/- TABLES in plain words: what was opened holds its pairs in order; looking up, going on from a key. -/
import Derived.Test.YtfdbcnpbjabjoaaTabBlk
namespace Go.Proofs.Ytfdbcnpbjabjoaa
open Go.RowKit
set_option linter.unusedVariables false
set_option linter.unusedSimpArgs false

theorem ascB_cons (last : List UInt8) (q : Pr) (x : List Pr) : ascB last (q :: x) ↔ ltB last q.1 = true ∧ ascB q.1 x := Iff.rfl
theorem ascB_app : ∀ (x : List Pr) (last : List UInt8) (y : List Pr), ascB last (x ++ y) ↔ ascB last x ∧ ascB (lastK last x) y
  | [], last, y => by simp [ascB, lastK]
  | q :: x, last, y => by
    rw [List.cons_append, ascB_cons, ascB_cons, ascB_app x q.1 y]
    have e : lastK last (q :: x) = lastK q.1 x := by
      unfold lastK
      cases x with
      | nil => rfl
      | cons a b => simp [List.getLast?_cons]
    rw [e, and_assoc]
/-- what a table that was opened holds -/
structure GoodT (t : Tb) (prs : List (List Pr)) : Prop where
  bs : t.bs = prs.map blkL
  fs : t.fs = prs.map headK
  ps : t.ps = prs.flatten
  ne : prs ≠ []
  g8 : ∀ x ∈ prs, x ≠ [] ∧ x.length ≤ 8
  ok : ∀ p ∈ t.ps, PrOk p
  asc : ascB [] t.ps
  has : ∀ p ∈ t.ps, hasL t.fl p.1 = true
  fl : 1 ≤ t.fl.length ∧ t.fl.length ≤ 8192
  bl : t.bs.length ≤ 1048576 ∧ ∀ b ∈ t.bs, b.length ≤ 1048576
theorem chk_good (fl : List UInt8) : ∀ (bs : List (List UInt8)) (last : List UInt8) (fs : List (List UInt8)) (l : List Pr), fs.length = bs.length → chkBlocks fl last fs bs = some l →
    ∃ prs : List (List Pr), bs = prs.map blkL ∧ fs = prs.map headK ∧ l = prs.flatten ∧ (∀ x ∈ prs, x ≠ [] ∧ x.length ≤ 8) ∧ (∀ p ∈ l, PrOk p) ∧ ascB last l ∧ ∀ p ∈ l, hasL fl p.1 = true
  | [], last, fs, l, hf, h => by
    have hf0 : fs = [] := List.eq_nil_of_length_eq_zero hf
    subst hf0
    rw [chkBlocks] at h
    cases h
    exact ⟨[], rfl, rfl, rfl, by simp, by simp, by simp [ascB], by simp⟩
  | bk :: bs, last, [], l, hf, h => by simp at hf
  | bk :: bs, last, f :: fs, l, hf, h => by
    rw [chkBlocks] at h
    cases hp : pairsL bk with
    | none => rw [hp] at h; cases h
    | some x =>
      rw [hp] at h
      simp only at h
      split at h
      case isFalse => cases h
      case isTrue hc =>
      obtain ⟨⟨h1, h2, h3, h4, h5⟩, h6⟩ := hc
      cases hq : chkBlocks fl (lastK last x) fs bs with
      | none => rw [hq] at h; cases h
      | some l' =>
        rw [hq] at h
        simp only [Option.map_some, Option.some.injEq] at h
        subst h
        obtain ⟨prs, e1, e2, e3, e4, e5, e6, e7⟩ := chk_good fl bs _ fs l' (by simpa using hf) hq
        obtain ⟨k1, k2⟩ := pairsL_iff.1 hp
        refine ⟨x :: prs, by rw [List.map_cons, ← e1]; exact congrArg (· :: bs) k2, by rw [List.map_cons, ← e2, h4], by rw [List.flatten_cons, ← e3], fun y hy => ?_, fun p hp' => ?_, (ascB_app x last l').2 ⟨h5, e6⟩, fun p hp' => ?_⟩
        · rcases List.mem_cons.1 hy with rfl | hy
          · exact ⟨h1, h2⟩
          · exact e4 y hy
        · exact (List.mem_append.1 hp').elim (k1 p) (e5 p)
        · exact (List.mem_append.1 hp').elim (h6 p) (e7 p)
theorem open_good {s : List UInt8} {t : Tb} (hs : s.length ≤ 5242880) (h : openP s = some t) : ∃ prs, GoodT t prs := by
  have hsc := scan_five s.length s (Nat.le_refl _)
  unfold openP at h
  by_cases h1 : (scanL s).2 ≠ [] ∨ (scanL s).1.length < 2
  · rw [if_pos h1] at h; cases h
  rw [if_neg h1] at h
  obtain ⟨bs, hbs⟩ : ∃ bs, bs = (scanL s).1.dropLast := ⟨_, rfl⟩
  rw [← hbs] at h
  have hbl : bs.length ≤ 1048576 ∧ 1 ≤ bs.length := by rw [hbs, List.length_dropLast]; omega
  have hbm : ∀ b ∈ bs, b.length ≤ 1048576 := fun b hb => hsc.2 b (by rw [hbs] at hb; exact (List.dropLast_sublist _).subset hb)
  clear hbs h1 hsc
  simp only at h
  split at h
  · cases h
  split at h
  · cases h
  rename_i h2 h3
  generalize hfs : textsF bs.length (intF ((scanL s).1.getLast?.getD []) false ↑bs.length).2.1 (intF ((scanL s).1.getLast?.getD []) false ↑bs.length).2.2 = tx at h h3
  have hfl : tx.1.length = bs.length := by rw [← hfs]; exact textsF_len _ _ _
  clear hfs h2
  generalize intF tx.2.1 tx.2.2 ((bs.length * 8 : Nat) : Int) = cn at h h3
  generalize textF cn.2.1 cn.2.2 = f at h h3
  simp only [not_or] at h3
  obtain ⟨h31, h32, h33⟩ := h3
  cases hc : chkBlocks f.1 [] tx.1 bs with
  | none => rw [hc] at h; cases h
  | some l =>
    rw [hc] at h
    simp only at h
    split at h
    · cases h
    · simp only [Option.some.injEq] at h
      subst h
      obtain ⟨prs, e1, e2, e3, e4, e5, e6, e7⟩ := chk_good f.1 bs [] tx.1 l hfl hc
      refine ⟨prs, e1, e2, e3, fun e => ?_, e4, e5, e6, e7, ⟨?_, by show f.1.length ≤ 8192; omega⟩, hbl.1, hbm⟩
      · rw [e1, e] at hbl; simp at hbl
      · exact List.length_pos_iff.2 h32
/-- keys from the first that is not below -/
def dropK (key : List UInt8) (l : List Pr) : List Pr := l.dropWhile fun p => ltB p.1 key
theorem asc_lt : ∀ {l : List Pr} {last : List UInt8}, ascB last l → ∀ p ∈ l, ltB last p.1 = true
  | q :: l, last, h, p, hp => by
    rcases List.mem_cons.1 hp with rfl | hp
    · exact h.1
    · exact ltB_trans h.1 (asc_lt h.2 p hp)
theorem lt_asym {a b : List UInt8} (h : ltB a b = true) : ltB b a = false := by
  cases q : ltB b a with
  | false => rfl
  | true => have := ltB_trans h q; rw [ltB_irr] at this; cases this
/-- the pairs from a key on: those that are not below it -/
theorem dropK_filter : ∀ {l : List Pr} {last : List UInt8} (key : List UInt8), ascB last l → l.filter (fun p => !ltB p.1 key) = dropK key l
  | [], _, _, _ => rfl
  | q :: l, last, key, h => by
    unfold dropK
    rw [List.filter_cons, List.dropWhile_cons]
    cases hq : ltB q.1 key with
    | true => simp only [Bool.not_true, Bool.false_eq_true, if_false, if_true]; exact dropK_filter key h.2
    | false =>
      simp only [Bool.not_false, if_true, Bool.false_eq_true, if_false]
      rw [List.filter_eq_self.2]
      intro p hp
      have h1 := asc_lt h.2 p hp
      cases z : ltB p.1 key with
      | false => rfl
      | true => have := ltB_trans h1 z; rw [hq] at this; cases this
/-- groups one behind the other: the heads in order -/
theorem heads_lt : ∀ {prs : List (List Pr)} {last : List UInt8}, (∀ x ∈ prs, x ≠ [] ∧ x.length ≤ 8) → ascB last prs.flatten → ∀ x ∈ prs, ltB last (headK x) = true
  | x :: prs, last, hg, h, y, hy => by
    rw [List.flatten_cons, ascB_app] at h
    have hx := (hg x (by simp)).1
    have hh : ltB last (headK x) = true ∧ ∀ z, ltB (lastK last x) z = true → ltB last z = true := by
      cases x with
      | nil => exact absurd rfl hx
      | cons p r =>
        refine ⟨h.1.1, fun z hz => ?_⟩
        rcases r.eq_nil_or_concat with e | ⟨r', q, e⟩
        · subst e
          exact ltB_trans h.1.1 hz
        · have e2 : lastK last (p :: r) = q.1 := by rw [e, List.concat_eq_append, ← List.cons_append, lastK_snoc]
          rw [e2] at hz
          exact ltB_trans (asc_lt h.1 q (by rw [e]; simp)) hz
    rcases List.mem_cons.1 hy with rfl | hy
    · exact hh.1
    · exact hh.2 _ (heads_lt (fun z hz => hg z (by simp [hz])) h.2 y hy)
end Go.Proofs.Ytfdbcnpbjabjoaa
