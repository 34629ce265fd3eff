/- MailArrives, in plain words: what the two maps say of the letters under way. -/
import Derived.Test.YtfdbcnpbjabjoaaMapV
import Derived.Test.YtfdbcnpbjabjoaaMailRuns
namespace Go.Proofs.Ytfdbcnpbjabjoaa
open Go.RowKit
set_option linter.unusedVariables false

def mcnt (L : List Letter) (i : Int) : Nat := L.countP fun x => decide (x.1 = i)
def iL (i : Int) : Lit := .int .i64 i
theorem Ent.put_same (f : Ent) (i : Int) (v : Value) : (f.put (iL i) v) (iL i) = some v := by
  have : (iL i).sameKey (iL i) = true := by simp [iL, Lit.sameKey]
  simp [Ent.put, this]
theorem Ent.put_other (f : Ent) {i j : Int} (h : j ≠ i) (v : Value) : (f.put (iL i) v) (iL j) = f (iL j) := by
  have : (iL j).sameKey (iL i) = false := by simp [iL, Lit.sameKey, h]
  simp [Ent.put, this]
structure ArrOk (L : List Letter) (nx : Int) (fs fm : Ent) : Prop where
  ids : ∀ x ∈ L, 1 ≤ x.1 ∧ x.1 ≤ nx
  sent : ∀ x ∈ L, fs (iL x.1) = some (.agg #[strV x.2.1, strV x.2.2])
  no : ∀ i : Int, nx < i → fs (iL i) = none
  may : ∀ i : Int, (fm (iL i)).getD (.int .i64 0) = .int .i64 (mcnt L i : Nat)
theorem ArrOk.nil : ArrOk [] 0 Ent.none Ent.none := ⟨by simp, by simp, fun _ _ => rfl, fun _ => rfl⟩
theorem mcnt_app (A B : List Letter) (i : Int) : mcnt (A ++ B) i = mcnt A i + mcnt B i := by simp [mcnt]
theorem mcnt_one (x : Letter) (i : Int) : mcnt [x] i = if x.1 = i then 1 else 0 := by
  unfold mcnt
  by_cases h : x.1 = i <;> simp [h]
theorem mcnt_no {L : List Letter} {i : Int} (h : ∀ x ∈ L, x.1 ≠ i) : mcnt L i = 0 := by
  unfold mcnt
  rw [List.countP_eq_zero]
  intro x hx
  simpa using h x hx
theorem mcnt_le (L : List Letter) (i : Int) : mcnt L i ≤ L.length := List.countP_le_length
theorem ArrOk.send {L : List Letter} {nx : Int} {fs fm : Ent} (h : ArrOk L nx fs fm) (h0 : 0 ≤ nx) (to text : List UInt8) :
    ArrOk (L ++ [(nx + 1, to, text)]) (nx + 1) (fs.put (iL (nx + 1)) (.agg #[strV to, strV text])) (fm.put (iL (nx + 1)) (.int .i64 1)) := by
  have hn : ∀ x ∈ L, x.1 ≠ nx + 1 := fun x hx e => by have := (h.ids x hx).2; omega
  refine ⟨fun x hx => ?_, fun x hx => ?_, fun i hi => ?_, fun i => ?_⟩
  · rcases List.mem_append.1 hx with q | q
    · have := h.ids x q; omega
    · simp only [List.mem_singleton] at q
      subst q
      exact ⟨by show (1 : Int) ≤ nx + 1; omega, Int.le_refl _⟩
  · rcases List.mem_append.1 hx with q | q
    · rw [Ent.put_other _ (hn x q)]; exact h.sent x q
    · simp only [List.mem_singleton] at q
      subst q
      exact Ent.put_same _ _ _
  · rw [Ent.put_other _ (by omega)]; exact h.no i (by omega)
  · rw [mcnt_app, mcnt_one]
    by_cases e : i = nx + 1
    · subst e
      rw [Ent.put_same, mcnt_no hn]
      simp
    · rw [Ent.put_other _ e, h.may i, if_neg (fun q => e q.symm), Nat.add_zero]
theorem mcnt_pos {L : List Letter} {j : Nat} (hj : j < L.length) : 1 ≤ mcnt L L[j].1 := by
  unfold mcnt
  rw [Nat.one_le_iff_ne_zero]
  intro h
  rw [List.countP_eq_zero] at h
  have := h L[j] (List.getElem_mem hj)
  simp at this
theorem ArrOk.dbl {L : List Letter} {nx : Int} {fs fm : Ent} (h : ArrOk L nx fs fm) {j : Nat} (hj : j < L.length) :
    ArrOk (L ++ [L[j]]) nx fs (fm.put (iL L[j].1) (.int .i64 ((mcnt L L[j].1 : Nat) + 1))) := by
  have hm : ∀ x ∈ L ++ [L[j]], x ∈ L := fun x hx => by
    rcases List.mem_append.1 hx with q | q
    · exact q
    · simp only [List.mem_singleton] at q
      rw [q]; exact List.getElem_mem hj
  refine ⟨fun x hx => h.ids x (hm x hx), fun x hx => h.sent x (hm x hx), h.no, fun i => ?_⟩
  rw [mcnt_app, mcnt_one]
  by_cases e : i = L[j].1
  · subst e
    rw [Ent.put_same, if_pos rfl]
    simp
  · rw [Ent.put_other _ e, h.may i, if_neg (fun q => e q.symm), Nat.add_zero]
theorem mcnt_cut {L : List Letter} {j : Nat} (hj : j < L.length) (i : Int) : mcnt L i = mcnt (L.take j ++ L.drop (j + 1)) i + (if L[j].1 = i then 1 else 0) := by
  have e : L = L.take j ++ (L[j] :: L.drop (j + 1)) := by rw [← List.drop_eq_getElem_cons hj, List.take_append_drop]
  rw [show mcnt L i = mcnt (L.take j ++ ([L[j]] ++ L.drop (j + 1))) i by rw [List.singleton_append, ← e]]
  rw [mcnt_app, mcnt_app, mcnt_app, mcnt_one]
  omega
theorem ArrOk.cut {L : List Letter} {nx : Int} {fs fm : Ent} (h : ArrOk L nx fs fm) {j : Nat} (hj : j < L.length) :
    ArrOk (L.take j ++ L.drop (j + 1)) nx fs (fm.put (iL L[j].1) (.int .i64 ((mcnt L L[j].1 : Nat) - 1))) := by
  have hm : ∀ x ∈ L.take j ++ L.drop (j + 1), x ∈ L := fun x hx => by
    rcases List.mem_append.1 hx with q | q
    · exact List.mem_of_mem_take q
    · exact List.mem_of_mem_drop q
  refine ⟨fun x hx => h.ids x (hm x hx), fun x hx => h.sent x (hm x hx), h.no, fun i => ?_⟩
  have hc := mcnt_cut hj i
  by_cases e : i = L[j].1
  · rw [e, if_pos rfl] at hc
    rw [e, Ent.put_same]
    simp only [Option.getD_some, Value.int.injEq, true_and]
    omega
  · rw [if_neg (fun q => e q.symm)] at hc
    rw [Ent.put_other _ e, h.may i, hc, Nat.add_zero]
end Go.Proofs.Ytfdbcnpbjabjoaa
