/- TABLES in plain words: the order of keys; what may be built; a table's bytes. -/
import Derived.Test.YtfdbcnpbjabjoaaTabP
import Derived.Test.YtfdbcnpbjabjoaaTabScan
import Derived.Test.YtfdbcnpbjabjoaaBloomPlain
namespace Go.Proofs.Ytfdbcnpbjabjoaa
open Go.RowKit
set_option linter.unusedVariables false
set_option linter.unusedSimpArgs false

abbrev ltB (a b : List UInt8) : Bool := Op.bytesLess a b
theorem ltB_irr (a : List UInt8) : ltB a a = false := by
  induction a with
  | nil => rfl
  | cons c r ih =>
    show Op.bytesLess (c :: r) (c :: r) = false
    rw [Op.bytesLess]
    have : Op.bytesLess r r = false := ih
    simp [this]
theorem ltB_nil (a : List UInt8) : ltB [] a = !a.isEmpty := by cases a <;> rfl
theorem ltB_nil2 (a : List UInt8) : ltB a [] = false := by cases a <;> rfl
theorem ltB_cons (c d : UInt8) (r s : List UInt8) : ltB (c :: r) (d :: s) = (decide (c < d) || (c == d && ltB r s)) := rfl
theorem ltB_trans : ∀ {a b c : List UInt8}, ltB a b = true → ltB b c = true → ltB a c = true
  | _, [], _, h, _ => by rw [ltB_nil2] at h; cases h
  | _, _ :: _, [], _, h => by rw [ltB_nil2] at h; cases h
  | [], _ :: _, _ :: _, _, _ => rfl
  | x :: a, y :: b, z :: c, h, k => by
    rw [ltB_cons] at h k ⊢
    simp only [Bool.or_eq_true, decide_eq_true_eq, Bool.and_eq_true, beq_iff_eq] at h k ⊢
    rcases h with h | ⟨rfl, h⟩
    · rcases k with k | ⟨rfl, _⟩
      · exact .inl (UInt8.lt_trans h k)
      · exact .inl h
    · rcases k with k | ⟨rfl, k⟩
      · exact .inl k
      · exact .inr ⟨rfl, ltB_trans h k⟩
theorem ltB_tot : ∀ {a b : List UInt8}, ltB a b = false → a = b ∨ ltB b a = true
  | [], [], _ => .inl rfl
  | [], _ :: _, h => by cases h
  | _ :: _, [], _ => .inr rfl
  | x :: a, y :: b, h => by
    rw [ltB_cons] at h ⊢
    simp only [Bool.or_eq_false_iff, decide_eq_false_iff_not, Bool.and_eq_false_iff, beq_eq_false_iff_ne] at h
    obtain ⟨h1, h2⟩ := h
    by_cases e : x = y
    · subst e
      rcases h2 with h2 | h2
      · exact absurd rfl h2
      · rcases ltB_tot h2 with rfl | q
        · exact .inl rfl
        · exact .inr (by simp [q])
    · refine .inr ?_
      have : y < x := by
        rcases UInt8.lt_or_lt_of_ne e with q | q
        · exact absurd q h1
        · exact q
      simp [this]
theorem leB_eq (a b : List UInt8) : (ltB a b || a == b) = !ltB b a := by
  cases h : ltB b a with
  | false =>
    rcases ltB_tot h with rfl | q
    · simp
    · rw [q]; rfl
  | true =>
    have h1 : ltB a b = false := by
      cases q : ltB a b with
      | false => rfl
      | true => have := ltB_trans h q; rw [ltB_irr] at this; cases this
    have h2 : (a == b) = false := by
      rw [beq_eq_false_iff_ne]
      rintro rfl
      rw [ltB_irr] at h; cases h
    rw [h1, h2]; rfl
/-- keys in order, behind last -/
def ascB (last : List UInt8) : List Pr → Prop
  | [] => True
  | p :: r => ltB last p.1 = true ∧ ascB p.1 r
/-- what is wrong with a list of pairs -/
def chkB (last : List UInt8) : List Pr → Int
  | [] => 0
  | p :: r => if ltB last p.1 = false ∨ (p.2.2 = true ∧ p.2.1 ≠ []) then 1 else if 64 < p.1.length ∨ 8192 < p.2.1.length then 2 else chkB p.1 r
theorem chkB_ok : ∀ {l : List Pr} {last : List UInt8}, chkB last l = 0 ↔ ascB last l ∧ ∀ p ∈ l, PrOk p
  | [], _ => by simp [chkB, ascB]
  | p :: r, last => by
    unfold chkB ascB
    by_cases h1 : ltB last p.1 = false ∨ (p.2.2 = true ∧ p.2.1 ≠ [])
    · rw [if_pos h1]
      refine ⟨fun h => by simp at h, fun h => ?_⟩
      rcases h1 with q | q
      · rw [h.1.1] at q; cases q
      · exact absurd ((h.2 p (by simp)).gone q.1) q.2
    · rw [if_neg h1]
      simp only [not_or, Bool.not_eq_false, not_and, ne_eq, Decidable.not_not] at h1
      by_cases h2 : 64 < p.1.length ∨ 8192 < p.2.1.length
      · rw [if_pos h2]
        refine ⟨fun h => by simp at h, fun h => ?_⟩
        have := h.2 p (by simp)
        have := this.k64; have := (h.2 p (by simp)).v8
        omega
      · rw [if_neg h2, chkB_ok]
        refine ⟨fun h => ⟨⟨h1.1, h.1⟩, fun q hq => ?_⟩, fun h => ⟨h.1.2, fun q hq => h.2 q (by simp [hq])⟩⟩
        rcases List.mem_cons.1 hq with rfl | hq
        · refine ⟨fun e => ?_, by omega, by omega, h1.2⟩
          rw [e, ltB_nil2] at h1; exact absurd h1.1 (by simp)
        · exact h.2 q hq
theorem chkB_cases (last : List UInt8) (l : List Pr) : chkB last l = 0 ∨ chkB last l = 1 ∨ chkB last l = 2 := by
  induction l generalizing last with
  | nil => exact .inl rfl
  | cons p r ih =>
    unfold chkB
    split
    · exact .inr (.inl rfl)
    · split
      · exact .inr (.inr rfl)
      · exact ih _
/-- groups of eight -/
def grp (l : List Pr) : List (List Pr) := if h : l = [] then [] else l.take 8 :: grp (l.drop 8)
termination_by l.length
decreasing_by
  rw [List.length_drop]
  have := List.length_pos_iff.2 h
  omega
theorem grp_nil : grp [] = [] := by rw [grp, dif_pos rfl]
theorem grp_cons {l : List Pr} (h : l ≠ []) : grp l = l.take 8 :: grp (l.drop 8) := by rw [grp, dif_neg h]
theorem grp_flat (l : List Pr) : (grp l).flatten = l := by
  induction h : l.length using Nat.strongRecOn generalizing l with
  | _ n ih =>
    by_cases h0 : l = []
    · subst h0; rw [grp_nil]; rfl
    · rw [grp_cons h0, List.flatten_cons, ih (l.drop 8).length (by have := List.length_pos_iff.2 h0; rw [List.length_drop]; omega) _ rfl, List.take_append_drop]
def blkL (g : List Pr) : List UInt8 := g.flatMap pairL
def headK (g : List Pr) : List UInt8 := (g.head?.map (·.1)).getD []
def bodyL (l : List Pr) : List UInt8 := (grp l).flatMap fun g => wrapL (blkL g)
def indexL (l : List Pr) : List UInt8 := (grp l).flatMap fun g => textL (headK g)
def keysL (l : List Pr) : List (List UInt8) := l.map (·.1)
def filtL (l : List Pr) : List UInt8 := makeL (min (l.length + 8) 8192) (keysL l)
def footL (l : List Pr) : List UInt8 := putL (grp l).length ++ (indexL l ++ (putL l.length ++ textL (filtL l)))
/-- a table's bytes, or what is wrong -/
def buildF (l : List Pr) : List UInt8 × Int :=
  if l = [] then ([], 1) else if chkB [] l ≠ 0 then ([], chkB [] l) else if 1048576 < (footL l).length then ([], 2) else (bodyL l ++ wrapL (footL l), 0)
end Go.Proofs.Ytfdbcnpbjabjoaa
