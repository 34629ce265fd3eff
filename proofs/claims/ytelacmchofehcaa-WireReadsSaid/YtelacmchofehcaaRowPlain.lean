/- TASKS, LEASES, WORKFLOWS' ROWS, in plain Lean: their bytes; there and back. -/
import Derived.Test.YtelacmchofehcaaPgmPlain
namespace Go.Proofs.Ytelacmchofehcaa
open Go.RowKit
set_option linter.unusedVariables false

/-- kind, workflow, event, try -/
abbrev Tk := Int × List UInt8 × Int × Int
def TaskP (x : Tk) : Prop := (1 ≤ x.1 ∧ x.1 ≤ 7) ∧ NamedP x.2.1 ∧ (0 ≤ x.2.2.1 ∧ x.2.2.1 ≤ 500) ∧ (0 ≤ x.2.2.2 ∧ x.2.2.2 ≤ 5)
instance (x : Tk) : Decidable (TaskP x) := inferInstanceAs (Decidable (_ ∧ _ ∧ _ ∧ _))
def encT (x : Tk) : List UInt8 := putL x.1.toNat ++ (textL x.2.1 ++ (putL x.2.2.1.toNat ++ putL x.2.2.2.toNat))
def encTV (x : Tk) : List UInt8 := if TaskP x then encT x else []
def tkV (x : Tk) : Int := if TaskP x then 0 else 1
def taskG (tx : RS → List UInt8 × RS) (ck cr ct : Int) (s : RS) : Tk × RS :=
  let k := rdI ck s
  let n := tx k.2
  let r := rdI cr n.2
  let t := rdI ct r.2
  ((((k.1 : Int), n.1, (r.1 : Int), (t.1 : Int)) : Tk), t.2)
theorem taskG_put {tx : RS → List UInt8 × RS} {ck cr ct : Int} (htx : ∀ t r, t.length ≤ 16 → tx (textL t ++ r, false) = (t, r, false)) (h1 : 7 ≤ ck ∧ ck ≤ 1000) (h2 : 500 ≤ cr ∧ cr ≤ 1000) (h3 : 5 ≤ ct ∧ ct ≤ 1000) {x : Tk} (hx : TaskP x) (r : List UInt8) :
    taskG tx ck cr ct (encT x ++ r, false) = (x, r, false) := by
  obtain ⟨k, n, e, t⟩ := x
  obtain ⟨g1, g2, g3, g4⟩ := hx
  simp only at g1 g2 g3 g4
  have e0 : encT (k, n, e, t) ++ r = putL k.toNat ++ (textL n ++ (putL e.toNat ++ (putL t.toNat ++ r))) := by
    unfold encT
    simp only [List.append_assoc]
  have e1 := rdI_put' (n := k) (m := ck) (textL n ++ (putL e.toNat ++ (putL t.toNat ++ r))) (by omega) (by omega) (by omega)
  have e2 := htx n (putL e.toNat ++ (putL t.toNat ++ r)) g2.2.1
  have e3 := rdI_put' (n := e) (m := cr) (putL t.toNat ++ r) (by omega) (by omega) (by omega)
  have e4 := rdI_put' (n := t) (m := ct) r (by omega) (by omega) (by omega)
  unfold taskG
  rw [e0]
  simp only [e1, e2, e3, e4]
  rw [Int.toNat_of_nonneg (by omega), Int.toNat_of_nonneg (by omega), Int.toNat_of_nonneg (by omega)]
theorem taskG_out {s : RS} (h : (taskG tx1 7 500 5 s).2.2 = false) (hx : TaskP (taskG tx1 7 500 5 s).1) : s = (encT (taskG tx1 7 500 5 s).1 ++ (taskG tx1 7 500 5 s).2.1, false) := by
  unfold taskG at h hx ⊢
  simp only at h hx ⊢
  have h4 := rdI_out h
  have h3 := rdI_out (m := 500) (s := (tx1 (rdI 7 s).2).2) (by rw [h4])
  have h2 := tx1_out (s := (rdI 7 s).2) (by rw [h3]) hx.2.1.2.1
  have h1 := rdI_out (m := 7) (s := s) (by rw [h2])
  have q4 := congrArg Prod.fst h4
  have q3 := congrArg Prod.fst h3
  have q2 := congrArg Prod.fst h2
  simp only at q2 q3 q4
  refine h1.trans ?_
  unfold encT
  simp only [List.append_assoc, Int.toNat_natCast]
  rw [← q4, ← q3, ← q2]
def taskF (l : List UInt8) : Option Tk := if TaskP (taskG tx1 7 500 5 (l, false)).1 ∧ endF (taskG tx1 7 500 5 (l, false)).2.1 (taskG tx1 7 500 5 (l, false)).2.2 = true then some (taskG tx1 7 500 5 (l, false)).1 else none
def rtaskF (l : List UInt8) : Option Tk := if TaskP (taskG tx2 100 1000 100 (l, false)).1 ∧ endF (taskG tx2 100 1000 100 (l, false)).2.1 (taskG tx2 100 1000 100 (l, false)).2.2 = true ∧ encT (taskG tx2 100 1000 100 (l, false)).1 = l then some (taskG tx2 100 1000 100 (l, false)).1 else none
theorem taskF_iff {l : List UInt8} {x : Tk} : taskF l = some x ↔ TaskP x ∧ l = encT x := by
  unfold taskF
  constructor
  · intro h
    split at h
    · rename_i hc
      cases h
      obtain ⟨e1, e2⟩ := endF_iff.1 hc.2
      have := taskG_out e2 hc.1
      refine ⟨hc.1, ?_⟩
      rw [e1, List.append_nil] at this
      exact congrArg Prod.fst this
    · cases h
  · rintro ⟨hp, rfl⟩
    have := taskG_put (ck := 7) (cr := 500) (ct := 5) tx1_put (by omega) (by omega) (by omega) hp []
    rw [List.append_nil] at this
    rw [this, if_pos ⟨hp, rfl⟩]
theorem rtaskF_iff {l : List UInt8} {x : Tk} : rtaskF l = some x ↔ TaskP x ∧ l = encT x := by
  unfold rtaskF
  constructor
  · intro h
    split at h
    · rename_i hc
      cases h
      exact ⟨hc.1, hc.2.2.symm⟩
    · cases h
  · rintro ⟨hp, rfl⟩
    have := taskG_put (ck := 100) (cr := 1000) (ct := 100) tx2_put (by omega) (by omega) (by omega) hp []
    rw [List.append_nil] at this
    rw [this, if_pos ⟨hp, rfl, rfl⟩]
theorem task_same (l : List UInt8) : taskF l = rtaskF l := by
  cases h : taskF l with
  | none =>
    cases h2 : rtaskF l with
    | none => rfl
    | some x => rw [taskF_iff.2 (rtaskF_iff.1 h2)] at h; cases h
  | some x => exact (rtaskF_iff.2 (taskF_iff.1 h)).symm

/-- a lease: the range's number, the host -/
def HeldP (n : Int) (h : List UInt8) : Prop := (1 ≤ n ∧ n ≤ 2147483647) ∧ NamedP h
instance (n : Int) (h : List UInt8) : Decidable (HeldP n h) := inferInstanceAs (Decidable (_ ∧ _))
def encH (n : Int) (h : List UInt8) : List UInt8 := putL n.toNat ++ textL h
def encHV (n : Int) (h : List UInt8) : List UInt8 := if HeldP n h then encH n h else []
def hdV (n : Int) (h : List UInt8) : Int := if HeldP n h then 0 else 1
def heldG (tx : RS → List UInt8 × RS) (cn : Int) (s : RS) : Nat × List UInt8 × RS := ((rdI cn s).1, (tx (rdI cn s).2).1, (tx (rdI cn s).2).2)
theorem heldG_put {tx : RS → List UInt8 × RS} {cn : Int} (htx : ∀ t r, t.length ≤ 16 → tx (textL t ++ r, false) = (t, r, false)) (h1 : 2147483647 ≤ cn ∧ cn ≤ 9223372036854775807) {n : Int} {h : List UInt8} (hx : HeldP n h) (r : List UInt8) :
    heldG tx cn (encH n h ++ r, false) = (n.toNat, h, r, false) := by
  have e1 := rdI_put' (n := n) (m := cn) (textL h ++ r) (by have := hx.1; omega) (by have := hx.1; omega) h1.2
  have e2 := htx h r hx.2.2.1
  unfold heldG encH
  rw [List.append_assoc, e1]
  simp only
  rw [e2]
def heldF (l : List UInt8) : Option (Int × List UInt8) := if HeldP (heldG tx1 2147483647 (l, false)).1 (heldG tx1 2147483647 (l, false)).2.1 ∧ endF (heldG tx1 2147483647 (l, false)).2.2.1 (heldG tx1 2147483647 (l, false)).2.2.2 = true then some (((heldG tx1 2147483647 (l, false)).1 : Int), (heldG tx1 2147483647 (l, false)).2.1) else none
def rheldF (l : List UInt8) : Option (Int × List UInt8) := if HeldP (heldG tx2 1099511627776 (l, false)).1 (heldG tx2 1099511627776 (l, false)).2.1 ∧ endF (heldG tx2 1099511627776 (l, false)).2.2.1 (heldG tx2 1099511627776 (l, false)).2.2.2 = true ∧ encH (heldG tx2 1099511627776 (l, false)).1 (heldG tx2 1099511627776 (l, false)).2.1 = l then some (((heldG tx2 1099511627776 (l, false)).1 : Int), (heldG tx2 1099511627776 (l, false)).2.1) else none
theorem heldF_iff {l : List UInt8} {n : Int} {h : List UInt8} : heldF l = some (n, h) ↔ HeldP n h ∧ l = encH n h := by
  unfold heldF
  constructor
  · intro hh
    split at hh
    · rename_i hc
      cases hh
      refine ⟨hc.1, ?_⟩
      obtain ⟨e1, e2⟩ := endF_iff.1 hc.2
      unfold heldG at e1 e2 hc ⊢
      simp only at e1 e2 hc ⊢
      have h2 := tx1_out (s := (rdI 2147483647 (l, false)).2) e2 hc.1.2.2.1
      have h1 := rdI_out (m := 2147483647) (s := (l, false)) (by rw [h2])
      rw [e1, List.append_nil] at h2
      have q1 := congrArg Prod.fst h1
      have q2 := congrArg Prod.fst h2
      simp only at q1 q2
      unfold encH
      rw [Int.toNat_natCast, ← q2]
      exact q1
    · cases hh
  · rintro ⟨hp, rfl⟩
    have := heldG_put (cn := 2147483647) tx1_put (by omega) hp []
    rw [List.append_nil] at this
    rw [this]
    simp only
    rw [Int.toNat_of_nonneg (by have := hp.1; omega), if_pos ⟨hp, rfl⟩]
theorem rheldF_iff {l : List UInt8} {n : Int} {h : List UInt8} : rheldF l = some (n, h) ↔ HeldP n h ∧ l = encH n h := by
  unfold rheldF
  constructor
  · intro hh
    split at hh
    · rename_i hc
      cases hh
      exact ⟨hc.1, hc.2.2.symm⟩
    · cases hh
  · rintro ⟨hp, rfl⟩
    have := heldG_put (cn := 1099511627776) tx2_put (by omega) hp []
    rw [List.append_nil] at this
    rw [this]
    simp only
    rw [Int.toNat_of_nonneg (by have := hp.1; omega), if_pos ⟨hp, rfl, rfl⟩]
theorem held_same (l : List UInt8) : heldF l = rheldF l := by
  cases h : heldF l with
  | none =>
    cases h2 : rheldF l with
    | none => rfl
    | some x => obtain ⟨n, h3⟩ := x; rw [heldF_iff.2 (rheldF_iff.1 h2)] at h; cases h
  | some x => obtain ⟨n, h3⟩ := x; exact (rheldF_iff.2 (heldF_iff.1 h)).symm

/-- a workflow's row: status, next event, kept -/
def encM (st nx : Nat) (kept : Bool) : List UInt8 := putL st ++ (putL nx ++ putL (if kept then 1 else 0))
def flowG (s : RS) : Nat × Nat × Nat × RS := ((rdI 4 s).1, (rdI 501 (rdI 4 s).2).1, (rdI 1 (rdI 501 (rdI 4 s).2).2).1, (rdI 1 (rdI 501 (rdI 4 s).2).2).2)
def flowF (l : List UInt8) : Option (Nat × Nat × Bool) := if endF (flowG (l, false)).2.2.2.1 (flowG (l, false)).2.2.2.2 = true ∧ 2 ≤ (flowG (l, false)).2.1 then some ((flowG (l, false)).1, (flowG (l, false)).2.1, (flowG (l, false)).2.2.1 == 1) else none
theorem flowF_put {st nx : Nat} {kept : Bool} (h1 : st ≤ 4) (h2 : 2 ≤ nx ∧ nx ≤ 501) : flowF (encM st nx kept) = some (st, nx, kept) := by
  have hk : (if kept then 1 else 0 : Nat) ≤ 1 := by cases kept <;> simp
  have e1 := rdI_put (n := st) (m := 4) (putL nx ++ putL (if kept then 1 else 0)) (by omega) (by omega)
  have e2 := rdI_put (n := nx) (m := 501) (putL (if kept then 1 else 0)) (by omega) (by omega)
  have e3 := rdI_put (n := (if kept then 1 else 0)) (m := 1) [] (by omega) (by omega)
  rw [List.append_nil] at e3
  have hg : flowG (encM st nx kept, false) = (st, nx, (if kept then 1 else 0), [], false) := by
    unfold flowG encM
    rw [e1]
    simp only
    rw [e2]
    simp only
    rw [e3]
  unfold flowF
  rw [hg]
  simp only
  rw [if_pos ⟨rfl, h2.1⟩]
  cases kept <;> rfl
end Go.Proofs.Ytelacmchofehcaa
