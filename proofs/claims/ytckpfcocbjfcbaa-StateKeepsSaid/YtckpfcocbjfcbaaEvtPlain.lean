/- EVENTS, in plain Lean: what is one, its bytes, what is read; there and back. -/
import Derived.Test.YtckpfcocbjfcbaaPgmPlain
namespace Go.Proofs.Ytckpfcocbjfcbaa
open Go.RowKit
set_option linter.unusedVariables false

/-- id, kind, at, ref, step, try, undo, data -/
abbrev Ev := Int × Int × Int × Int × Int × Int × Bool × List UInt8
abbrev Ev.id (x : Ev) : Int := x.1
abbrev Ev.kd (x : Ev) : Int := x.2.1
abbrev Ev.tk (x : Ev) : Int := x.2.2.1
abbrev Ev.rf (x : Ev) : Int := x.2.2.2.1
abbrev Ev.sp (x : Ev) : Int := x.2.2.2.2.1
abbrev Ev.ty (x : Ev) : Int := x.2.2.2.2.2.1
abbrev Ev.ud (x : Ev) : Bool := x.2.2.2.2.2.2.1
abbrev Ev.dt (x : Ev) : List UInt8 := x.2.2.2.2.2.2.2
/-- the fields that a kind has, as bits -/
def evB (k : Int) : Int := if k = 1 ∨ k = 12 then 16 else if k = 3 ∨ k = 4 ∨ k = 5 ∨ k = 11 then 1 else if k = 6 then 10 else if k = 7 ∨ k = 8 ∨ k = 9 then 5 else if k = 10 then 2 else 0
theorem evB_cases (k : Int) : evB k = 16 ∨ evB k = 1 ∨ evB k = 10 ∨ evB k = 5 ∨ evB k = 2 ∨ evB k = 0 := by
  unfold evB; split <;> (try split) <;> (try split) <;> (try split) <;> (try split) <;> simp
def DataP (k : Int) (d : List UInt8) : Prop := (k = 1 → ∃ lim ss, progF d = some (lim, ss)) ∧ (k = 12 → NamedP d) ∧ (k ≠ 1 → k ≠ 12 → d = [])
instance (k : Int) (d : List UInt8) : Decidable (DataP k d) := by
  by_cases h1 : k = 1
  · cases h : progF d with
    | none => exact isFalse (fun q => by obtain ⟨a, b, e⟩ := q.1 h1; rw [h] at e; cases e)
    | some y => exact isTrue ⟨fun _ => ⟨y.1, y.2, h⟩, fun q => by omega, fun q => absurd h1 q⟩
  · by_cases h2 : k = 12
    · by_cases h3 : NamedP d
      · exact isTrue ⟨fun q => absurd q h1, fun _ => h3, fun _ q => absurd h2 q⟩
      · exact isFalse (fun q => h3 (q.2.1 h2))
    · by_cases h3 : d = []
      · exact isTrue ⟨fun q => absurd q h1, fun q => absurd q h2, fun _ _ => h3⟩
      · exact isFalse (fun q => h3 (q.2.2 h1 h2))
def EvP (x : Ev) : Prop := (1 ≤ x.kd ∧ x.kd ≤ 18) ∧ (1 ≤ x.id ∧ x.id ≤ 500) ∧ (0 ≤ x.tk ∧ x.tk ≤ 1099511627776) ∧
  (if evB x.kd = 1 ∨ evB x.kd = 5 then 1 ≤ x.rf ∧ x.rf ≤ x.id - 1 else x.rf = 0) ∧ (if evB x.kd = 2 ∨ evB x.kd = 10 then 0 ≤ x.sp ∧ x.sp ≤ 15 else x.sp = 0) ∧ (if evB x.kd = 5 then 1 ≤ x.ty ∧ x.ty ≤ 5 else x.ty = 0) ∧
  (x.ud = true → evB x.kd = 10) ∧ DataP x.kd x.dt
instance (x : Ev) : Decidable (EvP x) := inferInstanceAs (Decidable (_ ∧ _ ∧ _ ∧ _ ∧ _ ∧ _ ∧ _ ∧ _))
def udN (b : Bool) : Nat := if b then 1 else 0
def encTl (x : Ev) : List UInt8 := if evB x.kd = 1 then putL x.rf.toNat else if evB x.kd = 10 then putL x.sp.toNat ++ putL (udN x.ud) else if evB x.kd = 5 then putL x.rf.toNat ++ putL x.ty.toNat else if evB x.kd = 2 then putL x.sp.toNat else if evB x.kd = 16 then textL x.dt else []
def encE (x : Ev) : List UInt8 := putL x.id.toNat ++ (putL x.kd.toNat ++ (putL x.tk.toNat ++ encTl x))
def encEV (x : Ev) : List UInt8 := if EvP x then encE x else []
def evV (x : Ev) : Int := if EvP x then 0 else 120

theorem dataP_len {k : Int} {d : List UInt8} (h : DataP k d) : d.length ≤ 1400 := by
  by_cases h1 : k = 1
  · obtain ⟨lim, ss, e⟩ := h.1 h1
    obtain ⟨hp, rfl⟩ := progF_iff.1 e
    exact encP_len hp
  · by_cases h2 : k = 12
    · have := (h.2.1 h2).2.1; omega
    · rw [h.2.2 h1 h2]; simp
theorem encE_len {x : Ev} (h : EvP x) : (encE x).length ≤ 1500 := by
  obtain ⟨id, k, tk, rf, sp, ty, ud, d⟩ := x
  obtain ⟨h1, h2, h3, h4, h5, h6, h7, h8⟩ := h
  simp only [Ev.id, Ev.kd, Ev.tk, Ev.rf, Ev.sp, Ev.ty, Ev.ud, Ev.dt] at *
  have l1 := putL_len10 (n := id.toNat) (by unfold U64; omega)
  have l2 := putL_len10 (n := k.toNat) (by unfold U64; omega)
  have l3 := putL_len10 (n := tk.toNat) (by unfold U64; omega)
  have hd := dataP_len h8
  have l4 : (textL d).length ≤ 1410 := by
    have := putL_len10' d.length (by omega)
    unfold textL; rw [List.length_append]; omega
  have l5 : (putL (udN ud)).length ≤ 10 := putL_len10 (by unfold U64 udN; split <;> omega)
  unfold encE encTl
  simp only [Ev.id, Ev.kd, Ev.tk, Ev.rf, Ev.sp, Ev.ty, Ev.ud, Ev.dt, List.length_append]
  rcases evB_cases k with e | e | e | e | e | e
  all_goals simp only [e, Int.reduceEq, if_false, if_true, or_self, or_true, true_or] at h4 h5 h6 ⊢
  · omega
  · have l6 := putL_len10 (n := rf.toNat) (by unfold U64; omega)
    omega
  · have l6 := putL_len10 (n := sp.toNat) (by unfold U64; omega)
    simp only [List.length_append]; omega
  · have l6 := putL_len10 (n := rf.toNat) (by unfold U64; omega)
    have l7 := putL_len10 (n := ty.toNat) (by unfold U64; omega)
    simp only [List.length_append]; omega
  · have l6 := putL_len10 (n := sp.toNat) (by unfold U64; omega)
    omega
  · simp only [List.length_nil]; omega

/-! what is read -/
def tailG (tx : RS → List UInt8 × RS) (cr cs ct : Int) (i k a : Int) (s : RS) : Ev × RS :=
  if evB k = 1 then ((i, k, a, ((rdI cr s).1 : Int), 0, 0, false, []), (rdI cr s).2)
  else if evB k = 10 then ((i, k, a, 0, ((rdI cs s).1 : Int), 0, (rdI 1 (rdI cs s).2).1 == 1, []), (rdI 1 (rdI cs s).2).2)
  else if evB k = 5 then ((i, k, a, ((rdI cr s).1 : Int), 0, ((rdI ct (rdI cr s).2).1 : Int), false, []), (rdI ct (rdI cr s).2).2)
  else if evB k = 2 then ((i, k, a, 0, ((rdI cs s).1 : Int), 0, false, []), (rdI cs s).2)
  else if evB k = 16 then ((i, k, a, 0, 0, 0, false, (tx s).1), (tx s).2)
  else ((i, k, a, 0, 0, 0, false, []), s)
def evG (tx : RS → List UInt8 × RS) (ci ck ca cr cs ct : Int) (s : RS) : Ev × RS :=
  tailG tx cr cs ct ((rdI ci s).1 : Int) ((rdI ck (rdI ci s).2).1 : Int) ((rdI ca (rdI ck (rdI ci s).2).2).1 : Int) (rdI ca (rdI ck (rdI ci s).2).2).2
theorem evG_put {tx : RS → List UInt8 × RS} {ci ck ca cr cs ct : Int} (htx : ∀ t r, t.length ≤ 1400 → tx (textL t ++ r, false) = (t, r, false)) (h1 : 500 ≤ ci ∧ ci ≤ 1000) (h2 : 18 ≤ ck ∧ ck ≤ 1000) (h3 : 1099511627776 ≤ ca ∧ ca ≤ 1125899906842624) (h4 : 500 ≤ cr ∧ cr ≤ 1000) (h5 : 15 ≤ cs ∧ cs ≤ 1000) (h6 : 5 ≤ ct ∧ ct ≤ 1000) {x : Ev} (hx : EvP x) (r : List UInt8) :
    evG tx ci ck ca cr cs ct (encE x ++ r, false) = (x, r, false) := by
  obtain ⟨id, k, tk, rf, sp, ty, ud, d⟩ := x
  obtain ⟨g1, g2, g3, g4, g5, g6, g7, g8⟩ := hx
  simp only [Ev.id, Ev.kd, Ev.tk, Ev.rf, Ev.sp, Ev.ty, Ev.ud, Ev.dt] at *
  have hd := dataP_len g8
  have e0 : encE (id, k, tk, rf, sp, ty, ud, d) ++ r = putL id.toNat ++ (putL k.toNat ++ (putL tk.toNat ++ (encTl (id, k, tk, rf, sp, ty, ud, d) ++ r))) := by
    unfold encE
    simp only [List.append_assoc]
  have e1 := rdI_put' (n := id) (m := ci) (putL k.toNat ++ (putL tk.toNat ++ (encTl (id, k, tk, rf, sp, ty, ud, d) ++ r))) (by omega) (by omega) (by omega)
  have e2 := rdI_put' (n := k) (m := ck) (putL tk.toNat ++ (encTl (id, k, tk, rf, sp, ty, ud, d) ++ r)) (by omega) (by omega) (by omega)
  have e3 := rdI_put' (n := tk) (m := ca) (encTl (id, k, tk, rf, sp, ty, ud, d) ++ r) (by omega) (by omega) (by omega)
  unfold evG
  rw [e0]
  simp only [e1, e2, e3]
  rw [Int.toNat_of_nonneg (by omega), Int.toNat_of_nonneg (by omega), Int.toNat_of_nonneg (by omega)]
  unfold tailG encTl
  simp only [Ev.kd, Ev.rf, Ev.sp, Ev.ty, Ev.ud, Ev.dt]
  have hu : evB k ≠ 10 → ud = false := fun q => by
    cases ud with
    | false => rfl
    | true => exact absurd (g7 rfl) q
  have hdd : evB k ≠ 16 → d = [] := fun q => g8.2.2 (fun e => q (by rw [e]; rfl)) (fun e => q (by rw [e]; rfl))
  rcases evB_cases k with e | e | e | e | e | e
  all_goals simp only [e, Int.reduceEq, if_false, if_true, or_self, or_true, true_or] at g4 g5 g6 ⊢
  · subst g4; subst g5; subst g6
    rw [hu (by rw [e]; decide)]
    simp only [htx d r hd]
  · subst g5; subst g6
    rw [hu (by rw [e]; decide), hdd (by rw [e]; decide)]
    have e4 := rdI_put' (n := rf) (m := cr) r (by omega) (by omega) (by omega)
    simp only [e4]
    rw [Int.toNat_of_nonneg (by omega)]
  · subst g4; subst g6
    rw [hdd (by rw [e]; decide)]
    have e4 := rdI_put' (n := sp) (m := cs) (putL (udN ud) ++ r) (by omega) (by omega) (by omega)
    have e5 := rdI_put (n := udN ud) (m := 1) r (by unfold udN; split <;> omega) (by omega)
    rw [List.append_assoc]
    simp only [e4, e5]
    rw [Int.toNat_of_nonneg (by omega)]
    cases ud <;> rfl
  · subst g5
    rw [hu (by rw [e]; decide), hdd (by rw [e]; decide)]
    have e4 := rdI_put' (n := rf) (m := cr) (putL ty.toNat ++ r) (by omega) (by omega) (by omega)
    have e5 := rdI_put' (n := ty) (m := ct) r (by omega) (by omega) (by omega)
    rw [List.append_assoc]
    simp only [e4, e5]
    rw [Int.toNat_of_nonneg (by omega), Int.toNat_of_nonneg (by omega)]
  · subst g4; subst g6
    rw [hu (by rw [e]; decide), hdd (by rw [e]; decide)]
    have e4 := rdI_put' (n := sp) (m := cs) r (by omega) (by omega) (by omega)
    simp only [e4]
    rw [Int.toNat_of_nonneg (by omega)]
  · subst g4; subst g5; subst g6
    rw [hu (by rw [e]; decide), hdd (by rw [e]; decide), List.nil_append]
theorem rdI_le {m : Int} {s : RS} (h0 : 0 ≤ m) : ((rdI m s).1 : Int) ≤ m := intF_le h0
theorem tx1_out' {s : RS} (h : (tx1 s).2.2 = false) (hl : (tx1 s).1.length < 1099511627776) : s = (textL (tx1 s).1 ++ (tx1 s).2.1, false) := by
  have := textF_out h hl
  obtain ⟨r, b⟩ := s
  simp only at this
  rw [this.1]
  rw [this.1] at this
  exact Prod.ext this.2 rfl
theorem one_ud {n : Nat} (h : (n : Int) ≤ 1) : n = udN (n == 1) := by
  have : n = 0 ∨ n = 1 := by omega
  rcases this with rfl | rfl <;> rfl
theorem evG_out {s : RS} (h : (evG tx1 500 18 1099511627776 500 15 5 s).2.2 = false) (hx : EvP (evG tx1 500 18 1099511627776 500 15 5 s).1) : s = (encE (evG tx1 500 18 1099511627776 500 15 5 s).1 ++ (evG tx1 500 18 1099511627776 500 15 5 s).2.1, false) := by
  unfold evG at h hx ⊢
  generalize hA : rdI 500 s = A at *
  generalize hB : rdI 18 A.2 = B at *
  generalize hC : rdI 1099511627776 B.2 = C at *
  have hfin : ∀ (T : List UInt8) (R : List UInt8), C.2 = (T ++ R, false) → s = (putL A.1 ++ (putL B.1 ++ (putL C.1 ++ T)) ++ R, false) := fun T R hT => by
    have q3 := rdI_out (m := 1099511627776) (s := B.2) (by rw [hC, hT])
    rw [hC] at q3
    have q2 := rdI_out (m := 18) (s := A.2) (by rw [hB, q3])
    rw [hB] at q2
    have q1 := rdI_out (m := 500) (s := s) (by rw [hA, q2])
    rw [hA] at q1
    rw [q1]
    refine Prod.ext ?_ rfl
    simp only [List.append_assoc]
    rw [congrArg Prod.fst q2]
    simp only
    rw [congrArg Prod.fst q3]
    simp only
    rw [congrArg Prod.fst hT]
  unfold tailG at h hx ⊢
  have hv : encE = fun x => putL x.id.toNat ++ (putL x.kd.toNat ++ (putL x.tk.toNat ++ encTl x)) := rfl
  rw [hv]
  unfold encTl
  simp only [Ev.id, Ev.kd, Ev.tk, Ev.rf, Ev.sp, Ev.ty, Ev.ud, Ev.dt] at *
  rcases evB_cases (B.1 : Int) with e | e | e | e | e | e
  all_goals simp only [e, Int.reduceEq, if_false, if_true, Int.toNat_natCast] at h hx ⊢
  · exact hfin _ _ (tx1_out' h (by have := dataP_len hx.2.2.2.2.2.2.2; simp only [Ev.dt] at this; omega))
  · exact hfin _ _ (rdI_out h)
  · have q5 := rdI_out (m := 1) (s := (rdI 15 C.2).2) h
    have q4 := rdI_out (m := 15) (s := C.2) (by rw [q5])
    refine hfin _ _ (q4.trans (Prod.ext ?_ rfl))
    simp only [List.append_assoc]
    rw [congrArg Prod.fst q5, ← one_ud (rdI_le (by omega))]
  · have q5 := rdI_out (m := 5) (s := (rdI 500 C.2).2) h
    have q4 := rdI_out (m := 500) (s := C.2) (by rw [q5])
    refine hfin _ _ (q4.trans (Prod.ext ?_ rfl))
    simp only [List.append_assoc]
    rw [congrArg Prod.fst q5]
  · exact hfin _ _ (rdI_out h)
  · exact hfin [] _ (Prod.ext rfl h)
theorem tx1_put' (t r : List UInt8) (h : t.length ≤ 1400) : tx1 (textL t ++ r, false) = (t, r, false) := textF_put t r (by omega)
theorem tx2_put' (t r : List UInt8) (h : t.length ≤ 1400) : tx2 (textL t ++ r, false) = (t, r, false) := rtextF_put t r (by omega)
def ev1 (s : RS) : Ev × RS := evG tx1 500 18 1099511627776 500 15 5 s
def ev2 (s : RS) : Ev × RS := evG tx2 1000 100 1125899906842624 1000 100 100 s
def evF (l : List UInt8) : Option Ev := if EvP (ev1 (l, false)).1 ∧ endF (ev1 (l, false)).2.1 (ev1 (l, false)).2.2 = true then some (ev1 (l, false)).1 else none
def revF (l : List UInt8) : Option Ev := if EvP (ev2 (l, false)).1 ∧ endF (ev2 (l, false)).2.1 (ev2 (l, false)).2.2 = true ∧ encE (ev2 (l, false)).1 = l then some (ev2 (l, false)).1 else none
theorem evF_iff {l : List UInt8} {x : Ev} : evF l = some x ↔ EvP x ∧ l = encE x := by
  unfold evF
  constructor
  · intro h
    split at h
    · rename_i hc
      cases h
      obtain ⟨e1, e2⟩ := endF_iff.1 hc.2
      have := evG_out e2 hc.1
      refine ⟨hc.1, ?_⟩
      unfold ev1 at e1 ⊢
      rw [e1, List.append_nil] at this
      exact congrArg Prod.fst this
    · cases h
  · rintro ⟨hp, rfl⟩
    have := evG_put (ci := 500) (ck := 18) (ca := 1099511627776) (cr := 500) (cs := 15) (ct := 5) tx1_put' (by omega) (by omega) (by omega) (by omega) (by omega) (by omega) hp []
    rw [List.append_nil] at this
    unfold ev1
    rw [this, if_pos ⟨hp, rfl⟩]
theorem revF_iff {l : List UInt8} {x : Ev} : revF l = some x ↔ EvP x ∧ l = encE x := by
  unfold revF
  constructor
  · intro h
    split at h
    · rename_i hc
      cases h
      exact ⟨hc.1, hc.2.2.symm⟩
    · cases h
  · rintro ⟨hp, rfl⟩
    have := evG_put (ci := 1000) (ck := 100) (ca := 1125899906842624) (cr := 1000) (cs := 100) (ct := 100) tx2_put' (by omega) (by omega) (by omega) (by omega) (by omega) (by omega) hp []
    rw [List.append_nil] at this
    unfold ev2
    rw [this, if_pos ⟨hp, rfl, rfl⟩]
theorem ev_same (l : List UInt8) : evF l = revF l := by
  cases h : evF l with
  | none =>
    cases h2 : revF l with
    | none => rfl
    | some x => rw [evF_iff.2 (revF_iff.1 h2)] at h; cases h
  | some x => exact (revF_iff.2 (evF_iff.1 h)).symm

/-! histories -/
def HistP (l : List Ev) : Prop := l.length ≤ 500 ∧ ∀ x ∈ l, EvP x
instance (l : List Ev) : Decidable (HistP l) := inferInstanceAs (Decidable (_ ∧ _))
def encHs (l : List Ev) : List UInt8 := l.flatMap (fun x => textL (encE x))
def encHi (l : List Ev) : List UInt8 := putL l.length ++ encHs l
def hiV (l : List Ev) : List UInt8 := if HistP l then encHi l else []
def hiE (l : List Ev) : Int := if 500 < l.length then 2 else if HistP l then 0 else 120
def unG (tx : RS → List UInt8 × RS) (d : List UInt8 → Option Ev) : Nat → RS → Option (List Ev × RS)
  | 0, s => some ([], s)
  | n + 1, s => (d (tx s).1).bind fun x => (unG tx d n (tx s).2).map fun y => (x :: y.1, y.2)
def unF (l : List UInt8) : Option (List Ev) := (unG tx1 evF (rdI 500 (l, false)).1 (rdI 500 (l, false)).2).bind fun y => if endF y.2.1 y.2.2 = true then some y.1 else none
def runF (l : List UInt8) : Option (List Ev) := (unG tx2 revF (rdI 500 (l, false)).1 (rdI 500 (l, false)).2).bind fun y => if endF y.2.1 y.2.2 = true then some y.1 else none
theorem evF_nil : evF [] = none := by
  cases h : evF [] with
  | none => rfl
  | some x =>
    have := (evF_iff.1 h).2
    have hp := putL_pos x.id.toNat
    rw [show encE x = putL x.id.toNat ++ (putL x.kd.toNat ++ (putL x.tk.toNat ++ encTl x)) from rfl] at this
    have := congrArg List.length this
    rw [List.length_append] at this
    simp at this
    omega
theorem evF_long {l : List UInt8} (h : 1500 < l.length) : evF l = none := by
  cases e : evF l with
  | none => rfl
  | some x =>
    obtain ⟨hp, rfl⟩ := evF_iff.1 e
    have := encE_len hp
    omega
/-- the two readers read the same text, or none that is an event's -/
theorem tx_ev (s : RS) : tx1 s = tx2 s ∨ (evF (tx1 s).1 = none ∧ evF (tx2 s).1 = none) := by
  obtain ⟨r, b⟩ := s
  unfold tx1 tx2 textF rtextF
  simp only
  by_cases hn : (numF r b).1 ≤ 1099511627776
  · left
    rw [show min ((numF r b).1 : Int) 1099511627776 = ((numF r b).1 : Int) by omega]
  · right
    rw [show min ((numF r b).1 : Int) 1099511627776 = 1099511627776 by omega]
    have hlong : ∀ N : Int, 1099511627776 ≤ N → evF (takeF (numF r b).2.1 (numF r b).2.2 N).1 = none := fun N hN => by
      unfold takeF
      split
      · exact evF_nil
      · split
        · exact evF_nil
        · refine evF_long ?_
          simp only [List.length_take]
          omega
    exact ⟨hlong _ (by omega), hlong _ (by omega)⟩
theorem unG_same (n : Nat) : ∀ s, unG tx1 evF n s = unG tx2 revF n s := by
  induction n with
  | zero => intro s; rfl
  | succ n ih =>
    intro s
    rw [unG, unG]
    rcases tx_ev s with h | ⟨h1, h2⟩
    · rw [h, ih, ev_same]
    · rw [h1, ← ev_same, h2]; rfl
theorem un_same (l : List UInt8) : unF l = runF l := by
  unfold unF runF
  rw [unG_same]
theorem unG_put (l : List Ev) (h : ∀ x ∈ l, EvP x) (r : List UInt8) : unG tx1 evF l.length (encHs l ++ r, false) = some (l, r, false) := by
  induction l with
  | nil => rfl
  | cons x l ih =>
    have hx := h x (by simp)
    have e : encHs (x :: l) ++ r = textL (encE x) ++ (encHs l ++ r) := by
      unfold encHs
      rw [List.flatMap_cons, List.append_assoc]
    have ht : tx1 (textL (encE x) ++ (encHs l ++ r), false) = (encE x, encHs l ++ r, false) := textF_put _ _ (by have := encE_len hx; omega)
    rw [List.length_cons, e, unG, ht]
    simp only
    rw [evF_iff.2 ⟨hx, rfl⟩, ih (fun y hy => h y (by simp [hy]))]
    rfl
theorem unG_out (n : Nat) : ∀ {s : RS} {l : List Ev} {t : RS}, unG tx1 evF n s = some (l, t) → t.2 = false → l.length = n ∧ (∀ x ∈ l, EvP x) ∧ s = (encHs l ++ t.1, false) := by
  induction n with
  | zero =>
    intro s l t h ht
    cases h
    obtain ⟨r, b⟩ := s
    simp only at ht
    subst ht
    exact ⟨rfl, (by intro x hx; cases hx), rfl⟩
  | succ n ih =>
    intro s l t h ht
    rw [unG] at h
    cases hd : evF (tx1 s).1 with
    | none => rw [hd] at h; cases h
    | some x =>
      rw [hd] at h
      simp only [Option.bind_some] at h
      cases hr : unG tx1 evF n (tx1 s).2 with
      | none => rw [hr] at h; cases h
      | some y =>
        rw [hr] at h
        obtain ⟨ys, t'⟩ := y
        simp only [Option.map_some, Option.some.injEq, Prod.mk.injEq] at h
        obtain ⟨rfl, rfl⟩ := h
        obtain ⟨g1, g2, g3⟩ := ih hr ht
        obtain ⟨hp, he⟩ := evF_iff.1 hd
        have q := tx1_out' (s := s) (by rw [g3]) (by rw [he]; have := encE_len hp; omega)
        refine ⟨by simp [g1], ?_, ?_⟩
        · intro z hz
          rcases List.mem_cons.1 hz with rfl | hz
          · exact hp
          · exact g2 z hz
        · rw [q, he, congrArg Prod.fst g3]
          refine Prod.ext ?_ rfl
          unfold encHs
          rw [List.flatMap_cons, List.append_assoc]
theorem unF_iff {s : List UInt8} {l : List Ev} : unF s = some l ↔ HistP l ∧ s = encHi l := by
  unfold unF
  constructor
  · intro h
    cases hr : unG tx1 evF (rdI 500 (s, false)).1 (rdI 500 (s, false)).2 with
    | none => rw [hr] at h; cases h
    | some y =>
      rw [hr] at h
      simp only [Option.bind_some] at h
      split at h
      · rename_i he
        cases h
        obtain ⟨e1, e2⟩ := endF_iff.1 he
        obtain ⟨g1, g2, g3⟩ := unG_out _ (t := y.2) hr e2
        have q := rdI_out (m := 500) (s := (s, false)) (by rw [g3])
        refine ⟨⟨?_, g2⟩, ?_⟩
        · have := rdI_le (m := 500) (s := (s, false)) (by omega)
          omega
        · have q2 := congrArg Prod.fst q
          simp only at q2
          rw [congrArg Prod.fst g3] at q2
          rw [e1, List.append_nil] at q2
          unfold encHi
          rw [g1]
          exact q2
      · cases h
  · rintro ⟨⟨h1, h2⟩, rfl⟩
    have e1 := rdI_put (n := l.length) (m := 500) (encHs l) (by omega) (by omega)
    have e2 := unG_put l h2 []
    rw [List.append_nil] at e2
    unfold encHi
    rw [e1]
    simp only
    rw [e2]
    rfl
theorem encHi_inj {a b : List Ev} (ha : HistP a) (hb : HistP b) (h : encHi a = encHi b) : a = b := by
  have h1 := unF_iff.2 ⟨ha, rfl⟩
  rw [h, unF_iff.2 ⟨hb, rfl⟩] at h1
  exact (Option.some.inj h1).symm
theorem encE_inj {a b : Ev} (ha : EvP a) (hb : EvP b) (h : encE a = encE b) : a = b := by
  have h1 := evF_iff.2 ⟨ha, rfl⟩
  rw [h, evF_iff.2 ⟨hb, rfl⟩] at h1
  exact (Option.some.inj h1).symm
end Go.Proofs.Ytckpfcocbjfcbaa
