/- PLAIN: what a history has come to: event by event (the program), and seen as a whole (the document). PLAIN: a state that grows event by event is that of the whole history. PLAIN: events applied one by one, and the whole history: the same. -/
import Derived.Test.YtdoblbiodpcjdaaEvtPlain
namespace Go.Proofs.Ytdoblbiodpcjdaa
open Go.RowKit
set_option linter.unusedVariables false
abbrev Jb := Int × Int × Bool × Int
abbrev Ck := Int × Int × Int
abbrev Jb.id (j : Jb) : Int := j.1
abbrev Jb.sp (j : Jb) : Int := j.2.1
abbrev Jb.ud (j : Jb) : Bool := j.2.2.1
abbrev Jb.ty (j : Jb) : Int := j.2.2.2
abbrev Ck.id (c : Ck) : Int := c.1
abbrev Ck.sp (c : Ck) : Int := c.2.1
abbrev Ck.tk (c : Ck) : Int := c.2.2
@[ext] structure Sta where
 ss : List St
 lim : Int
 status : Int
 next : Int
 began : Int
 asked : Int
 taken : Int
 fresh : Bool
 jobs : List Jb
 clocks : List Ck
 cancel : Bool
 overdue : Bool
def s0 : Sta := ⟨[], 0, 0, 0, 0, 0, 0, false, [], [], false, false⟩
def atStep (ss : List St) (n kind : Int) : Option St := if 0 ≤ n then (ss[n.toNat]?).filter (fun x => decide (x.kd = kind)) else none
def triesOf (x : St) (ud : Bool) : Int := if ud then x.ut else x.tr
def triesF (ss : List St) (j : Jb) : Int := match atStep ss j.sp 1 with | none => 0 | some x => triesOf x j.ud
def inc (j : Jb) : Jb := (j.id, j.sp, j.ud, j.ty + 1)
def jobI (l : List Jb) (rf ty : Int) : Nat := l.findIdx (fun j => decide (j.id = rf) && decide (j.ty = ty))
def clockI (l : List Ck) (rf tk : Int) : Nat := l.findIdx (fun c => decide (c.id = rf) && decide (c.tk ≤ tk))
def decisionF (s : Sta) (e : Ev) : Option Sta :=
 if e.kd = 2 ∧ s.asked = 0 ∧ s.taken = 0 ∧ s.fresh = true then some { s with asked := e.id }
 else if e.kd = 3 ∧ s.asked = e.rf then some { s with asked := 0, taken := e.id, fresh := false }
 else if e.kd = 4 ∧ s.taken = e.rf then some { s with taken := 0 }
 else if e.kd = 5 ∧ s.taken = e.rf then some { s with taken := 0, fresh := true }
 else none
def workF (s : Sta) (e : Ev) : Option Sta :=
 if e.kd = 6 then match atStep s.ss e.sp 1 with
   | none => none
   | some x => if e.ud = true ∧ x.un = [] then none else some { s with jobs := s.jobs ++ [(e.id, e.sp, e.ud, 1)] }
 else match s.jobs[jobI s.jobs e.rf e.ty]? with
   | none => none
   | some j => if e.kd = 8 ∧ e.ty ≠ triesF s.ss j then some { s with jobs := s.jobs.set (jobI s.jobs e.rf e.ty) (inc j) }
     else if e.kd = 7 ∨ (e.kd = 9 ∧ e.ty = triesF s.ss j) then some { s with jobs := s.jobs.eraseIdx (jobI s.jobs e.rf e.ty), fresh := true }
     else none
def clockF (s : Sta) (e : Ev) : Option Sta :=
 if e.kd = 10 then match atStep s.ss e.sp 2 with
   | none => none
   | some x => some { s with clocks := s.clocks ++ [(e.id, e.sp, e.tk + x.wt)] }
 else if clockI s.clocks e.rf e.tk < s.clocks.length then some { s with clocks := s.clocks.eraseIdx (clockI s.clocks e.rf e.tk), fresh := true }
 else none
def endF' (s : Sta) (n : Int) : Sta := { s with status := n, asked := 0, taken := 0, fresh := false, jobs := [], clocks := [] }
def idleB (s : Sta) : Bool := decide (s.asked = 0) && (decide (s.taken = 0) && decide (s.jobs.length = 0))
def toldF (s : Sta) (e : Ev) : Option Sta :=
 if e.kd = 12 then some { s with fresh := true }
 else if e.kd = 13 then (if s.cancel = true then none else some { s with cancel := true, fresh := true })
 else if e.kd = 14 then (if s.overdue = true ∨ s.lim = 0 ∨ e.tk < s.began + s.lim then none else some { s with overdue := true, fresh := true })
 else if e.kd = 18 then some (endF' s 4)
 else if e.kd = 15 then (if idleB s then some (endF' s 1) else none)
 else if e.kd = 16 then (if idleB s then some (endF' s 2) else none)
 else if e.kd = 17 then (if idleB s then some (endF' s 3) else none)
 else none
def kindF (s : Sta) (e : Ev) : Option Sta :=
 if e.kd = 2 ∨ e.kd = 3 ∨ e.kd = 4 ∨ e.kd = 5 then decisionF s e
 else if e.kd = 6 ∨ e.kd = 7 ∨ e.kd = 8 ∨ e.kd = 9 then workF s e
 else if e.kd = 10 ∨ e.kd = 11 then clockF s e
 else toldF s e
def prgF (d : List UInt8) : Int × List St := (progF d).getD (0, [])
def begunS (e : Ev) : Sta := ⟨(prgF e.dt).2, (prgF e.dt).1, 0, 2, e.tk, 0, 0, true, [], [], false, false⟩
def applyF (s : Sta) (e : Ev) : Sta × Int :=
 if ¬ EvP e then (s0, 120)
 else if s.next = 0 then (if e.kd = 1 ∧ e.id = 1 then (begunS e, 0) else (s0, 120))
 else if s.status ≠ 0 then (s0, 182)
 else if e.id ≠ s.next then (s0, 120)
 else match kindF s e with
   | none => (s0, 120)
   | some t => ({ t with next := s.next + 1 }, 0)
/- the document's -/
def codeF (k : Int) : Int := if k = 15 then 1 else if k = 16 then 2 else if k = 17 then 3 else if k = 18 then 4 else 0
def statusF (l : List Ev) : Int := match l.getLast? with | none => 0 | some e => codeF e.kd
def lastG (k : Int) : Nat → Nat → List Ev → Nat
 | _, a, [] => a
 | p, a, x :: r => lastG k (p + 1) (if x.kd = k then p + 1 else a) r
def lastF (l : List Ev) (k : Int) : Nat := lastG k 0 0 l
def endedB (ref a b : Int) (x : Ev) : Bool := decide (x.rf = ref) && (decide (x.kd = a) || decide (x.kd = b))
def endedF (l : List Ev) (ref a b : Int) : Bool := l.any (endedB ref a b)
def askedF (l : List Ev) : Int := if endedF l (lastF l 2) 3 3 = true ∨ statusF l ≠ 0 then 0 else lastF l 2
def takenF (l : List Ev) : Int := if endedF l (lastF l 3) 4 5 = true ∨ statusF l ≠ 0 then 0 else lastF l 3
def freshB (x : Ev) : Bool := decide (x.kd = 1 ∨ x.kd = 5 ∨ x.kd = 7 ∨ x.kd = 9 ∨ x.kd = 11 ∨ x.kd = 12 ∨ x.kd = 13 ∨ x.kd = 14)
def freshF (l : List Ev) : Bool := if statusF l ≠ 0 then false else (l.drop (lastF l 3)).any freshB
def retB (n : Int) (x : Ev) : Bool := decide (x.kd = 8) && decide (x.rf = n)
def retF (l : List Ev) (n : Int) : Nat := (l.filter (retB n)).length
def jobAt (l : List Ev) (i : Nat) (x : Ev) : Option Jb := if x.kd = 6 ∧ endedF l (i + 1 : Nat) 7 9 = false then some (((i + 1 : Nat) : Int), x.sp, x.ud, 1 + (retF l (i + 1 : Nat) : Int)) else none
def jobsG (l : List Ev) : Nat → List Ev → List Jb
 | _, [] => []
 | i, x :: r => (jobAt l i x).toList ++ jobsG l (i + 1) r
def jobsF (l : List Ev) : List Jb := if statusF l ≠ 0 then [] else jobsG l 0 l
def prgL (l : List Ev) : Int × List St := match l with | [] => (0, []) | x :: _ => prgF x.dt
def waitOf (ss : List St) (n : Int) : Int := (ss.getD n.toNat (0, [], [], 0, 0, 0)).wt
def clockAt (l : List Ev) (i : Nat) (x : Ev) : Option Ck := if x.kd = 10 ∧ endedF l (i + 1 : Nat) 11 11 = false then some (((i + 1 : Nat) : Int), x.sp, x.tk + waitOf (prgL l).2 x.sp) else none
def clocksG (l : List Ev) : Nat → List Ev → List Ck
 | _, [] => []
 | i, x :: r => (clockAt l i x).toList ++ clocksG l (i + 1) r
def clocksF (l : List Ev) : List Ck := if statusF l ≠ 0 then [] else clocksG l 0 l
def hasKind (ss : List St) (n k : Int) : Bool := (ss[n.toNat]?).any (fun x => decide (x.kd = k))
def undoOf (ss : List St) (n : Int) : List UInt8 := (ss.getD n.toNat (0, [], [], 0, 0, 0)).un
def triedF (l : List Ev) (e : Ev) : Bool := match (jobsF l).find? (fun j => decide (j.id = e.rf) && decide (j.ty = e.ty)) with
 | none => false
 | some j => decide (e.kd = 7) || (decide (e.kd = 8) && decide (e.ty < triesF (prgL l).2 j)) || (decide (e.kd = 9) && decide (e.ty = triesF (prgL l).2 j))
def firedF (l : List Ev) (e : Ev) : Bool := match (clocksF l).find? (fun c => decide (c.id = e.rf)) with
 | none => false
 | some c => decide (c.tk ≤ e.tk)
def beganL (l : List Ev) : Int := match l with | [] => 0 | x :: _ => x.tk
def canF (l : List Ev) (e : Ev) : Bool :=
 if e.kd = 2 then decide (askedF l = 0) && decide (takenF l = 0) && freshF l
 else if e.kd = 3 then decide (askedF l = e.rf)
 else if e.kd = 4 ∨ e.kd = 5 then decide (takenF l = e.rf)
 else if e.kd = 6 then hasKind (prgL l).2 e.sp 1 && (!e.ud || decide (undoOf (prgL l).2 e.sp ≠ []))
 else if e.kd = 7 ∨ e.kd = 8 ∨ e.kd = 9 then triedF l e
 else if e.kd = 10 then hasKind (prgL l).2 e.sp 2
 else if e.kd = 11 then firedF l e
 else if e.kd = 12 ∨ e.kd = 18 then true
 else if e.kd = 13 then decide (lastF l 13 = 0)
 else if e.kd = 14 then decide (lastF l 14 = 0) && decide ((prgL l).1 ≠ 0) && decide (beganL l + (prgL l).1 ≤ e.tk)
 else if e.kd = 15 ∨ e.kd = 16 ∨ e.kd = 17 then decide (askedF l = 0) && decide (takenF l = 0) && decide ((jobsF l).length = 0)
 else false
def comesF (l : List Ev) (e : Ev) : Int :=
 if ¬ EvP e then 120
 else if l = [] then (if e.kd = 1 ∧ e.id = 1 then 0 else 120)
 else if statusF l ≠ 0 then 182
 else if e.id = l.length + 1 ∧ canF l e = true then 0 else 120
def stOf (l : List Ev) : Sta :=
 if l = [] then s0
 else ⟨(prgL l).2, (prgL l).1, statusF l, l.length + 1, beganL l, askedF l, takenF l, freshF l, jobsF l, clocksF l, decide (lastF l 13 ≠ 0), decide (lastF l 14 ≠ 0)⟩
inductive Hs : List Ev → Prop
 | nil : Hs []
 | snoc {l : List Ev} {e : Ev} : Hs l → comesF l e = 0 → Hs (l ++ [e])
/- one event more -/
theorem status_snoc (l : List Ev) (e : Ev) : statusF (l ++ [e]) = codeF e.kd := by unfold statusF; simp
theorem lastG_snoc (k : Int) (e : Ev) : ∀ (l : List Ev) (p a : Nat), lastG k p a (l ++ [e]) = if e.kd = k then p + l.length + 1 else lastG k p a l
 | [], p, a => by simp [lastG]
 | x :: r, p, a => by
   rw [List.cons_append]
   simp only [lastG]
   rw [lastG_snoc k e r]
   simp only [List.length_cons]
   split
   · omega
   · rfl
theorem last_snoc (l : List Ev) (e : Ev) (k : Int) : lastF (l ++ [e]) k = if e.kd = k then l.length + 1 else lastF l k := by
 unfold lastF
 rw [lastG_snoc]; simp
theorem last_le (k : Int) (l : List Ev) : lastF l k ≤ l.length := by
 have : ∀ (l : List Ev) (p a : Nat), a ≤ p → lastG k p a l ≤ p + l.length := by
   intro l
   induction l with
   | nil => intro p a h; simpa [lastG] using h
   | cons x r ih =>
     intro p a h
     simp only [lastG, List.length_cons]
     have := ih (p + 1) (if x.kd = k then p + 1 else a) (by split <;> omega)
     omega
 have := this l 0 0 (Nat.le_refl _)
 unfold lastF; omega
theorem ended_snoc (l : List Ev) (e : Ev) (r a b : Int) : endedF (l ++ [e]) r a b = (endedF l r a b || endedB r a b e) := by
 unfold endedF; rw [List.any_append]; simp
theorem ret_snoc (l : List Ev) (e : Ev) (n : Int) : retF (l ++ [e]) n = retF l n + if retB n e = true then 1 else 0 := by
 unfold retF
 rw [List.filter_append, List.length_append]
 by_cases h : retB n e = true
 · simp [List.filter, h]
 · simp [List.filter, h]
theorem prg_snoc {l : List Ev} (e : Ev) (h : l ≠ []) : prgL (l ++ [e]) = prgL l := by
 cases l with
 | nil => exact absurd rfl h
 | cons x r => rfl
theorem began_snoc {l : List Ev} (e : Ev) (h : l ≠ []) : beganL (l ++ [e]) = beganL l := by
 cases l with
 | nil => exact absurd rfl h
 | cons x r => rfl
theorem jobsG_snoc (L : List Ev) (e : Ev) : ∀ (l : List Ev) (i : Nat), jobsG L i (l ++ [e]) = jobsG L i l ++ (jobAt L (i + l.length) e).toList
 | [], i => by simp [jobsG]
 | x :: r, i => by
   rw [List.cons_append]
   simp only [jobsG]
   rw [jobsG_snoc L e r, List.append_assoc, List.length_cons, show i + 1 + r.length = i + (r.length + 1) by omega]
theorem clocksG_snoc (L : List Ev) (e : Ev) : ∀ (l : List Ev) (i : Nat), clocksG L i (l ++ [e]) = clocksG L i l ++ (clockAt L (i + l.length) e).toList
 | [], i => by simp [clocksG]
 | x :: r, i => by
   rw [List.cons_append]
   simp only [clocksG]
   rw [clocksG_snoc L e r, List.append_assoc, List.length_cons, show i + 1 + r.length = i + (r.length + 1) by omega]
theorem fresh_snoc (l : List Ev) (e : Ev) (h : codeF e.kd = 0) (h0 : statusF l = 0) : freshF (l ++ [e]) = if e.kd = 3 then false else (freshF l || freshB e) := by
 unfold freshF
 rw [status_snoc, h, h0, last_snoc]
 simp only [ne_eq, not_true_eq_false, if_false]
 split
 · rw [List.drop_eq_nil_of_le (by simp)]; rfl
 · rw [List.drop_append_of_le_length (last_le 3 l), List.any_append]; simp
def Nth (l : List Ev) : Prop := ∀ i x, l[i]? = some x → EvP x ∧ x.id = ((i + 1 : Nat) : Int)
theorem comes_evp {l : List Ev} {e : Ev} (h : comesF l e = 0) : EvP e ∧ e.id = ((l.length + 1 : Nat) : Int) ∧ statusF l = 0 ∧ (l = [] → e.kd = 1) ∧ (l ≠ [] → canF l e = true) := by
 unfold comesF at h
 split at h
 · cases h
 · rename_i h1
   have h1 := Decidable.of_not_not h1
   split at h
   · rename_i h2
     split at h
     · rename_i h3
       subst h2
       exact ⟨h1, by simpa using h3.2, rfl, fun _ => h3.1, fun q => absurd rfl q⟩
     · cases h
   · rename_i h2
     split at h
     · cases h
     · rename_i h3
       have h3 := Decidable.of_not_not h3
       split at h
       · rename_i h4
         exact ⟨h1, by rw [h4.1]; rfl, h3, fun q => absurd q h2, fun _ => h4.2⟩
       · cases h
theorem Hs.nth {l : List Ev} (h : Hs l) : Nth l := by
 induction h with
 | nil => intro i x hx; simp at hx
 | @snoc l e hl hc ih =>
   intro i x hx
   obtain ⟨h1, h2, -⟩ := comes_evp hc
   rcases Nat.lt_trichotomy i l.length with h | h | h
   · rw [List.getElem?_append_left h] at hx
     exact ih i x hx
   · subst h
     rw [List.getElem?_append_right (Nat.le_refl _)] at hx
     simp at hx
     subst hx
     exact ⟨h1, h2⟩
   · rw [List.getElem?_append_right (by omega)] at hx
     rw [show i - l.length = (i - l.length - 1) + 1 by omega] at hx
     simp at hx
theorem evp_rf {x : Ev} (h : EvP x) : x.rf ≤ x.id - 1 ∧ 0 ≤ x.rf := by
 obtain ⟨-, h2, -, h4, -⟩ := h
 split at h4
 · exact ⟨h4.2, by omega⟩
 · omega
theorem Nth.rf {l : List Ev} (h : Nth l) {x : Ev} (hx : x ∈ l) : EvP x ∧ x.rf < ((l.length : Nat) : Int) ∧ 0 ≤ x.rf := by
 obtain ⟨i, hi, rfl⟩ := List.getElem_of_mem hx
 obtain ⟨h1, h2⟩ := h i _ (List.getElem?_eq_getElem hi)
 have h3 := evp_rf h1
 exact ⟨h1, by omega, h3.2⟩
theorem Nth.unended {l : List Ev} (h : Nth l) (a b : Int) {n : Int} (hn : ((l.length : Nat) : Int) ≤ n) : endedF l n a b = false := by
 unfold endedF
 rw [List.any_eq_false]
 intro x hx
 have := (h.rf hx).2.1
 unfold endedB
 rw [decide_eq_false (by omega)]; simp
theorem Nth.unret {l : List Ev} (h : Nth l) {n : Int} (hn : ((l.length : Nat) : Int) ≤ n) : retF l n = 0 := by
 unfold retF
 rw [List.length_eq_zero_iff, List.filter_eq_nil_iff]
 intro x hx
 have := (h.rf hx).2.1
 unfold retB
 rw [decide_eq_false (show ¬ x.rf = n by omega)]; simp
/- lists -/
theorem getIdx_find {α : Type} (p : α → Bool) : ∀ l : List α, l[l.findIdx p]? = l.find? p
 | [] => rfl
 | x :: r => by
   rw [List.findIdx_cons, List.find?_cons]
   cases h : p x with
   | true => simp
   | false => simpa using getIdx_find p r
theorem set_one {α : Type} (key : α → Int) (p : α → Bool) (f : α → α) (n : Int) (hp : ∀ x, p x = true → key x = n) : ∀ (l : List α), l.Pairwise (fun a b => key a < key b) → ∀ j, l.find? p = some j → l.set (l.findIdx p) (f j) = l.map (fun x => if key x = n then f x else x)
 | [], _, j, h => by simp at h
 | x :: r, hw, j, h => by
   obtain ⟨h1, h2⟩ := List.pairwise_cons.1 hw
   rw [List.find?_cons] at h
   rw [List.findIdx_cons]
   cases hx : p x with
   | true =>
     rw [hx] at h
     simp only [Option.some.injEq] at h
     subst h
     have hk := hp x hx
     simp only [cond_true, List.set_cons_zero, List.map_cons]
     rw [if_pos hk]
     congr 1
     symm
     refine (List.map_congr_left (fun y hy => ?_)).trans (List.map_id r)
     have := h1 y hy
     rw [if_neg (by omega)]; rfl
   | false =>
     rw [hx] at h
     simp only at h
     have ih := set_one key p f n hp r h2 j h
     have hj := hp j (List.find?_some h)
     have := h1 j (List.mem_of_find?_eq_some h)
     simp only [cond_false, List.set_cons_succ, List.map_cons]
     rw [ih, if_neg (by omega)]
theorem erase_one {α : Type} (key : α → Int) (p : α → Bool) (n : Int) (hp : ∀ x, p x = true → key x = n) : ∀ (l : List α), l.Pairwise (fun a b => key a < key b) → ∀ j, l.find? p = some j → l.eraseIdx (l.findIdx p) = l.filter (fun x => decide (key x ≠ n))
 | [], _, j, h => by simp at h
 | x :: r, hw, j, h => by
   obtain ⟨h1, h2⟩ := List.pairwise_cons.1 hw
   rw [List.find?_cons] at h
   rw [List.findIdx_cons]
   cases hx : p x with
   | true =>
     rw [hx] at h
     simp only [Option.some.injEq] at h
     subst h
     have hk := hp x hx
     simp only [cond_true, List.eraseIdx_cons_zero]
     rw [List.filter_cons, if_neg (by simp [hk])]
     symm
     refine List.filter_eq_self.2 (fun y hy => ?_)
     have := h1 y hy
     simp; omega
   | false =>
     rw [hx] at h
     simp only at h
     have ih := erase_one key p n hp r h2 j h
     have hj := hp j (List.find?_some h)
     have := h1 j (List.mem_of_find?_eq_some h)
     simp only [cond_false, List.eraseIdx_cons_succ]
     rw [ih, List.filter_cons, if_pos (by simp; omega)]
theorem find_two {α : Type} (key : α → Int) (n : Int) (q : α → Bool) : ∀ (l : List α), l.Pairwise (fun a b => key a < key b) → l.find? (fun x => decide (key x = n) && q x) = (l.find? (fun x => decide (key x = n))).filter q
 | [], _ => rfl
 | x :: r, hw => by
   obtain ⟨h1, h2⟩ := List.pairwise_cons.1 hw
   rw [List.find?_cons, List.find?_cons]
   by_cases hk : key x = n
   · rw [decide_eq_true hk]
     cases hq : q x with
     | true => simp [Option.filter, hq]
     | false =>
       simp only [Bool.and_false, Option.filter, hq]
       rw [List.find?_eq_none.2 (fun y hy => by have := h1 y hy; simp; intro h; omega)]
       rfl
   · rw [decide_eq_false hk]
     simpa using find_two key n q r h2
theorem pairwise_one {l : List Jb} (h : l.Pairwise (fun a b => a.id < b.id)) {a b : Jb} (ha : a ∈ l) (hb : b ∈ l) (e : a.id = b.id) : a = b := by
 induction l with
 | nil => cases ha
 | cons x r ih =>
   obtain ⟨h1, h2⟩ := List.pairwise_cons.1 h
   rcases List.mem_cons.1 ha with h | h
   · rcases List.mem_cons.1 hb with h' | h'
     · rw [h, h']
     · have := h1 b h'; rw [← h] at this; omega
   · rcases List.mem_cons.1 hb with h' | h'
     · have := h1 a h; rw [← h'] at this; omega
     · exact ih h2 h h'
/- jobs, clocks of a history -/
theorem jobAt_id {L : List Ev} {i : Nat} {x : Ev} {j : Jb} (h : jobAt L i x = some j) : j.id = ((i + 1 : Nat) : Int) := by
 unfold jobAt at h
 split at h
 · cases h; rfl
 · cases h
theorem clockAt_id {L : List Ev} {i : Nat} {x : Ev} {c : Ck} (h : clockAt L i x = some c) : c.id = ((i + 1 : Nat) : Int) := by
 unfold clockAt at h
 split at h
 · cases h; rfl
 · cases h
theorem jobsG_ids (L : List Ev) : ∀ (l : List Ev) (i : Nat), (∀ j ∈ jobsG L i l, ((i : Nat) : Int) < j.id ∧ j.id ≤ ((i + l.length : Nat) : Int)) ∧ (jobsG L i l).Pairwise (fun a b => a.id < b.id)
 | [], i => ⟨by intro j hj; simp [jobsG] at hj, by simp [jobsG]⟩
 | x :: r, i => by
   obtain ⟨h1, h2⟩ := jobsG_ids L r (i + 1)
   have h3 : ∀ j ∈ (jobAt L i x).toList, j.id = ((i + 1 : Nat) : Int) := fun j hj => jobAt_id (by simpa using hj)
   simp only [jobsG, List.length_cons]
   refine ⟨fun j hj => ?_, ?_⟩
   · rcases List.mem_append.1 hj with h | h
     · have := h3 j h; omega
     · have := h1 j h; omega
   · refine List.pairwise_append.2 ⟨?_, h2, fun a ha b hb => ?_⟩
     · cases jobAt L i x <;> simp
     · have q1 := h3 a ha; have q2 := h1 b hb; omega
theorem clocksG_ids (L : List Ev) : ∀ (l : List Ev) (i : Nat), (∀ j ∈ clocksG L i l, ((i : Nat) : Int) < j.id ∧ j.id ≤ ((i + l.length : Nat) : Int)) ∧ (clocksG L i l).Pairwise (fun a b => a.id < b.id)
 | [], i => ⟨by intro j hj; simp [clocksG] at hj, by simp [clocksG]⟩
 | x :: r, i => by
   obtain ⟨h1, h2⟩ := clocksG_ids L r (i + 1)
   have h3 : ∀ j ∈ (clockAt L i x).toList, j.id = ((i + 1 : Nat) : Int) := fun j hj => clockAt_id (by simpa using hj)
   simp only [clocksG, List.length_cons]
   refine ⟨fun j hj => ?_, ?_⟩
   · rcases List.mem_append.1 hj with h | h
     · have := h3 j h; omega
     · have := h1 j h; omega
   · refine List.pairwise_append.2 ⟨?_, h2, fun a ha b hb => ?_⟩
     · cases clockAt L i x <;> simp
     · have q1 := h3 a ha; have q2 := h1 b hb; omega
theorem jobsF_ids (l : List Ev) : (∀ j ∈ jobsF l, 0 < j.id ∧ j.id ≤ ((l.length : Nat) : Int)) ∧ (jobsF l).Pairwise (fun a b => a.id < b.id) := by
 unfold jobsF
 split
 · exact ⟨by simp, by simp⟩
 · have := jobsG_ids l l 0
   simpa using this
theorem clocksF_ids (l : List Ev) : (∀ j ∈ clocksF l, 0 < j.id ∧ j.id ≤ ((l.length : Nat) : Int)) ∧ (clocksF l).Pairwise (fun a b => a.id < b.id) := by
 unfold clocksF
 split
 · exact ⟨by simp, by simp⟩
 · have := clocksG_ids l l 0
   simpa using this
theorem jobsG_len (L : List Ev) : ∀ (l : List Ev) (i : Nat), (jobsG L i l).length ≤ l.length
 | [], i => by simp [jobsG]
 | x :: r, i => by
   have := jobsG_len L r (i + 1)
   simp only [jobsG, List.length_append, List.length_cons]
   cases jobAt L i x <;> simp <;> omega
theorem clocksG_len (L : List Ev) : ∀ (l : List Ev) (i : Nat), (clocksG L i l).length ≤ l.length
 | [], i => by simp [clocksG]
 | x :: r, i => by
   have := clocksG_len L r (i + 1)
   simp only [clocksG, List.length_append, List.length_cons]
   cases clockAt L i x <;> simp <;> omega
theorem jobsF_len (l : List Ev) : (jobsF l).length ≤ l.length := by
 unfold jobsF; split
 · simp
 · exact jobsG_len l l 0
theorem clocksF_len (l : List Ev) : (clocksF l).length ≤ l.length := by
 unfold clocksF; split
 · simp
 · exact clocksG_len l l 0
theorem jobsG_same {L L' : List Ev} (h : ∀ i x, jobAt L i x = jobAt L' i x) : ∀ (l : List Ev) (i : Nat), jobsG L i l = jobsG L' i l
 | [], i => rfl
 | x :: r, i => by simp only [jobsG]; rw [h, jobsG_same h r]
theorem jobsG_map {L L' : List Ev} {f : Jb → Jb} (h : ∀ i x, jobAt L i x = (jobAt L' i x).map f) : ∀ (l : List Ev) (i : Nat), jobsG L i l = (jobsG L' i l).map f
 | [], i => rfl
 | x :: r, i => by
   simp only [jobsG]; rw [h, jobsG_map h r, List.map_append]
   cases jobAt L' i x <;> rfl
theorem jobsG_filter {L L' : List Ev} {f : Jb → Bool} (h : ∀ i x, jobAt L i x = (jobAt L' i x).filter f) : ∀ (l : List Ev) (i : Nat), jobsG L i l = (jobsG L' i l).filter f
 | [], i => rfl
 | x :: r, i => by
   simp only [jobsG]; rw [h, jobsG_filter h r, List.filter_append]
   cases jobAt L' i x with
   | none => rfl
   | some j => cases hf : f j <;> simp [Option.filter, hf]
theorem clocksG_same {L L' : List Ev} (h : ∀ i x, clockAt L i x = clockAt L' i x) : ∀ (l : List Ev) (i : Nat), clocksG L i l = clocksG L' i l
 | [], i => rfl
 | x :: r, i => by simp only [clocksG]; rw [h, clocksG_same h r]
theorem clocksG_filter {L L' : List Ev} {f : Ck → Bool} (h : ∀ i x, clockAt L i x = (clockAt L' i x).filter f) : ∀ (l : List Ev) (i : Nat), clocksG L i l = (clocksG L' i l).filter f
 | [], i => rfl
 | x :: r, i => by
   simp only [clocksG]; rw [h, clocksG_filter h r, List.filter_append]
   cases clockAt L' i x with
   | none => rfl
   | some j => cases hf : f j <;> simp [Option.filter, hf]
theorem endedB_no {n a b : Int} {e : Ev} (h : e.kd ≠ a ∧ e.kd ≠ b) : endedB n a b e = false := by
 unfold endedB
 rw [decide_eq_false h.1, decide_eq_false h.2]; simp
theorem endedB_yes {n a b : Int} {e : Ev} (h : e.kd = a ∨ e.kd = b) : endedB n a b e = decide (e.rf = n) := by
 unfold endedB
 rcases h with h | h <;> simp [h]
theorem retB_no {n : Int} {e : Ev} (h : e.kd ≠ 8) : retB n e = false := by
 unfold retB
 rw [decide_eq_false h]; rfl
section
variable {l : List Ev} {e : Ev}
theorem job_new (hn : Nth l) : jobAt (l ++ [e]) l.length e = if e.kd = 6 then some (((l.length + 1 : Nat) : Int), e.sp, e.ud, 1) else none := by
 unfold jobAt
 by_cases h : e.kd = 6
 · rw [ended_snoc, ret_snoc, hn.unended _ _ (by omega), hn.unret (by omega), endedB_no (by omega), retB_no (by omega)]
   simp [h]
 · rw [if_neg h, if_neg (fun q => h q.1)]
theorem clock_new (hl : l ≠ []) (hn : Nth l) : clockAt (l ++ [e]) l.length e = if e.kd = 10 then some (((l.length + 1 : Nat) : Int), e.sp, e.tk + waitOf (prgL l).2 e.sp) else none := by
 unfold clockAt
 by_cases h : e.kd = 10
 · rw [ended_snoc, hn.unended _ _ (by omega), endedB_no (by omega), prg_snoc e hl]
   simp [h]
 · rw [if_neg h, if_neg (fun q => h q.1)]
theorem jobAt_keep (h : e.kd ≠ 7 ∧ e.kd ≠ 8 ∧ e.kd ≠ 9) (i : Nat) (x : Ev) : jobAt (l ++ [e]) i x = jobAt l i x := by
 unfold jobAt
 rw [ended_snoc, ret_snoc, endedB_no ⟨h.1, h.2.2⟩, retB_no h.2.1]
 simp
theorem jobAt_inc (h : e.kd = 8) (i : Nat) (x : Ev) : jobAt (l ++ [e]) i x = (jobAt l i x).map (fun j => if j.id = e.rf then inc j else j) := by
 unfold jobAt
 rw [ended_snoc, ret_snoc, endedB_no (by omega)]
 simp only [Bool.or_false]
 by_cases c : x.kd = 6 ∧ endedF l (i + 1 : Nat) 7 9 = false
 · rw [if_pos c, if_pos c]
   unfold retB
   rw [decide_eq_true h]
   simp only [Option.map_some, Jb.id]
   by_cases q : e.rf = ((i + 1 : Nat) : Int)
   · rw [if_pos q.symm, decide_eq_true q]
     simp [inc, Jb.id, Jb.sp, Jb.ud, Jb.ty]
     omega
   · have q' : ¬ ((i : Int) + 1 = e.rf) := fun k => q (by omega)
     rw [decide_eq_false q]
     simp [q']
 · rw [if_neg c, if_neg c]; rfl
theorem jobAt_out (h : e.kd = 7 ∨ e.kd = 9) (i : Nat) (x : Ev) : jobAt (l ++ [e]) i x = (jobAt l i x).filter (fun j => decide (j.id ≠ e.rf)) := by
 unfold jobAt
 rw [ended_snoc, ret_snoc, endedB_yes h, retB_no (by omega)]
 by_cases c : x.kd = 6 ∧ endedF l (i + 1 : Nat) 7 9 = false
 · rw [if_pos c, c.2]
   simp only [Bool.false_or]
   by_cases q : e.rf = ((i + 1 : Nat) : Int)
   · simp [q, Option.filter]
   · rw [decide_eq_false q]
     have q' : ¬ (((i + 1 : Nat) : Int) = e.rf) := fun k => q k.symm
     simp [c.1, Option.filter, Jb.id]
     intro k; exact absurd k (by simpa using q')
 · rw [if_neg c]
   rw [if_neg (fun k => c ⟨k.1, by have := k.2; simp only [Bool.or_eq_false_iff] at this; exact this.1⟩)]
   rfl
theorem clockAt_keep (hl : l ≠ []) (h : e.kd ≠ 11) (i : Nat) (x : Ev) : clockAt (l ++ [e]) i x = clockAt l i x := by
 unfold clockAt
 rw [ended_snoc, endedB_no ⟨h, h⟩, prg_snoc e hl]
 simp
theorem clockAt_out (hl : l ≠ []) (h : e.kd = 11) (i : Nat) (x : Ev) : clockAt (l ++ [e]) i x = (clockAt l i x).filter (fun j => decide (j.id ≠ e.rf)) := by
 unfold clockAt
 rw [ended_snoc, endedB_yes (.inl h), prg_snoc e hl]
 by_cases c : x.kd = 10 ∧ endedF l (i + 1 : Nat) 11 11 = false
 · rw [if_pos c, c.2]
   simp only [Bool.false_or]
   by_cases q : e.rf = ((i + 1 : Nat) : Int)
   · simp [q, Option.filter]
   · rw [decide_eq_false q]
     have q' : ¬ (((i + 1 : Nat) : Int) = e.rf) := fun k => q k.symm
     simp [c.1, Option.filter, Ck.id]
     intro k; exact absurd k (by simpa using q')
 · rw [if_neg c]
   rw [if_neg (fun k => c ⟨k.1, by have := k.2; simp only [Bool.or_eq_false_iff] at this; exact this.1⟩)]
   rfl
theorem jobs_keep (hn : Nth l) (h0 : statusF l = 0) (hc : codeF e.kd = 0) (h : e.kd ≠ 7 ∧ e.kd ≠ 8 ∧ e.kd ≠ 9) : jobsF (l ++ [e]) = jobsF l ++ (if e.kd = 6 then [(((l.length + 1 : Nat) : Int), e.sp, e.ud, 1)] else []) := by
 unfold jobsF
 rw [status_snoc, h0, hc]
 simp only [ne_eq, not_true_eq_false, if_false]
 rw [jobsG_snoc, jobsG_same (jobAt_keep h), Nat.zero_add, job_new hn]
 split <;> rfl
theorem jobs_inc (hn : Nth l) (h0 : statusF l = 0) (h : e.kd = 8) : jobsF (l ++ [e]) = (jobsF l).map (fun j => if j.id = e.rf then inc j else j) := by
 unfold jobsF
 rw [status_snoc, h0, show codeF e.kd = 0 by rw [h]; rfl]
 simp only [ne_eq, not_true_eq_false, if_false]
 rw [jobsG_snoc, jobsG_map (jobAt_inc h), Nat.zero_add, job_new hn, if_neg (by omega)]
 simp
theorem jobs_out (hn : Nth l) (h0 : statusF l = 0) (h : e.kd = 7 ∨ e.kd = 9) : jobsF (l ++ [e]) = (jobsF l).filter (fun j => decide (j.id ≠ e.rf)) := by
 unfold jobsF
 rw [status_snoc, h0, show codeF e.kd = 0 by rcases h with h | h <;> rw [h] <;> rfl]
 simp only [ne_eq, not_true_eq_false, if_false]
 rw [jobsG_snoc, jobsG_filter (jobAt_out h), Nat.zero_add, job_new hn, if_neg (by omega)]
 simp
theorem clocks_keep (hl : l ≠ []) (hn : Nth l) (h0 : statusF l = 0) (hc : codeF e.kd = 0) (h : e.kd ≠ 11) : clocksF (l ++ [e]) = clocksF l ++ (if e.kd = 10 then [(((l.length + 1 : Nat) : Int), e.sp, e.tk + waitOf (prgL l).2 e.sp)] else []) := by
 unfold clocksF
 rw [status_snoc, h0, hc]
 simp only [ne_eq, not_true_eq_false, if_false]
 rw [clocksG_snoc, clocksG_same (clockAt_keep hl h), Nat.zero_add, clock_new hl hn]
 split <;> rfl
theorem clocks_out (hl : l ≠ []) (hn : Nth l) (h0 : statusF l = 0) (h : e.kd = 11) : clocksF (l ++ [e]) = (clocksF l).filter (fun j => decide (j.id ≠ e.rf)) := by
 unfold clocksF
 rw [status_snoc, h0, show codeF e.kd = 0 by rw [h]; rfl]
 simp only [ne_eq, not_true_eq_false, if_false]
 rw [clocksG_snoc, clocksG_filter (clockAt_out hl h), Nat.zero_add, clock_new hl hn, if_neg (by omega)]
 simp
theorem asked_keep (h0 : statusF l = 0) (hc : codeF e.kd = 0) (h : e.kd ≠ 2 ∧ e.kd ≠ 3) : askedF (l ++ [e]) = askedF l := by
 unfold askedF
 rw [status_snoc, h0, hc, last_snoc, if_neg h.1, ended_snoc, endedB_no ⟨h.2, h.2⟩]
 simp
theorem taken_keep (h0 : statusF l = 0) (hc : codeF e.kd = 0) (h : e.kd ≠ 3 ∧ e.kd ≠ 4 ∧ e.kd ≠ 5) : takenF (l ++ [e]) = takenF l := by
 unfold takenF
 rw [status_snoc, h0, hc, last_snoc, if_neg h.1, ended_snoc, endedB_no h.2]
 simp
theorem asked_new (hn : Nth l) (h : e.kd = 2) : askedF (l ++ [e]) = ((l.length + 1 : Nat) : Int) := by
 unfold askedF
 rw [status_snoc, last_snoc, if_pos h, ended_snoc, endedB_no (by omega), hn.unended _ _ (by omega), show codeF e.kd = 0 by rw [h]; rfl]
 simp
theorem taken_new (hn : Nth l) (h : e.kd = 3) : takenF (l ++ [e]) = ((l.length + 1 : Nat) : Int) := by
 unfold takenF
 rw [status_snoc, last_snoc, if_pos h, ended_snoc, endedB_no (by omega), hn.unended _ _ (by omega), show codeF e.kd = 0 by rw [h]; rfl]
 simp
theorem asked_out (h : e.kd = 3) (ha : askedF l = e.rf) (hr : 1 ≤ e.rf) : askedF (l ++ [e]) = 0 := by
 unfold askedF at ha ⊢
 split at ha
 · omega
 · rw [last_snoc, if_neg (show ¬ e.kd = 2 by omega), ended_snoc, endedB_yes (.inl h), ha]
   simp
theorem taken_out (h : e.kd = 4 ∨ e.kd = 5) (ha : takenF l = e.rf) (hr : 1 ≤ e.rf) : takenF (l ++ [e]) = 0 := by
 unfold takenF at ha ⊢
 split at ha
 · omega
 · rw [last_snoc, if_neg (show ¬ e.kd = 3 by omega), ended_snoc, endedB_yes h, ha]
   simp
end
theorem Hs.prog {l : List Ev} (h : Hs l) (hl : l ≠ []) : ProgP (prgL l).1 (prgL l).2 := by
 induction h with
 | nil => exact absurd rfl hl
 | @snoc l e hs hc ih =>
   by_cases h0 : l = []
   · subst h0
     obtain ⟨h1, -, -, h4, -⟩ := comes_evp hc
     have hk := h4 rfl
     obtain ⟨lim, ss, hp⟩ := h1.2.2.2.2.2.2.2.1 hk
     show ProgP (prgF e.dt).1 (prgF e.dt).2
     unfold prgF
     rw [hp]
     exact (progF_iff.1 hp).1
   · rw [prg_snoc e h0]; exact ih h0
theorem atStep_pos {ss : List St} {n k : Int} (hn : 0 ≤ n) : atStep ss n k = (ss[n.toNat]?).filter (fun x => decide (x.kd = k)) := by unfold atStep; rw [if_pos hn]
theorem hasKind_at {ss : List St} {n k : Int} (hn : 0 ≤ n) : hasKind ss n k = (atStep ss n k).isSome := by
 rw [atStep_pos hn]
 unfold hasKind
 cases ss[n.toNat]? with
 | none => rfl
 | some x => by_cases h : x.kd = k <;> simp [Option.filter, h]
theorem atStep_some {ss : List St} {n k : Int} {x : St} (h : atStep ss n k = some x) : 0 ≤ n ∧ ss[n.toNat]? = some x ∧ x.kd = k := by
 unfold atStep at h
 split at h
 · rename_i h1
   cases hx : ss[n.toNat]? with
   | none => rw [hx] at h; cases h
   | some y =>
     rw [hx] at h
     by_cases hk : y.kd = k
     · simp [Option.filter, hk] at h
       subst h
       exact ⟨h1, rfl, hk⟩
     · simp [Option.filter, hk] at h
 · cases h
def JOK (l : List Ev) : Prop := ∀ j ∈ jobsF l, ∃ x, atStep (prgL l).2 j.sp 1 = some x ∧ 1 ≤ j.ty ∧ j.ty ≤ triesOf x j.ud
theorem JOK.le {l : List Ev} (h : JOK l) {j : Jb} (hj : j ∈ jobsF l) : 1 ≤ j.ty ∧ j.ty ≤ triesF (prgL l).2 j := by
 obtain ⟨x, h1, h2, h3⟩ := h j hj
 unfold triesF
 rw [h1]
 exact ⟨h2, h3⟩
theorem codeF_zero {k : Int} (h : k ≤ 14) : codeF k = 0 := by
 unfold codeF
 rw [if_neg (by omega), if_neg (by omega), if_neg (by omega), if_neg (by omega)]
theorem codeF_pos {k : Int} (h : 15 ≤ k ∧ k ≤ 18) : codeF k ≠ 0 := by
 unfold codeF
 rcases (by omega : k = 15 ∨ k = 16 ∨ k = 17 ∨ k = 18) with rfl | rfl | rfl | rfl <;> decide
theorem evp_ref {e : Ev} (h : EvP e) (hk : e.kd = 3 ∨ e.kd = 4 ∨ e.kd = 5 ∨ e.kd = 11 ∨ e.kd = 7 ∨ e.kd = 8 ∨ e.kd = 9) : 1 ≤ e.rf := by
 obtain ⟨-, -, -, h4, -⟩ := h
 have : evB e.kd = 1 ∨ evB e.kd = 5 := by
   rcases hk with k | k | k | k | k | k | k <;> rw [k] <;> decide
 rw [if_pos this] at h4
 exact h4.1
theorem evp_step {e : Ev} (h : EvP e) : 0 ≤ e.sp := by
 obtain ⟨-, -, -, -, h5, -⟩ := h
 split at h5
 · exact h5.1
 · omega
theorem stOf_ne {l : List Ev} (h : l ≠ []) : stOf l = ⟨(prgL l).2, (prgL l).1, statusF l, l.length + 1, beganL l, askedF l, takenF l, freshF l, jobsF l, clocksF l, decide (lastF l 13 ≠ 0), decide (lastF l 14 ≠ 0)⟩ := by unfold stOf; rw [if_neg h]
theorem undoOf_at {ss : List St} {n k : Int} {x : St} (h : atStep ss n k = some x) : undoOf ss n = x.un := by
 obtain ⟨-, h2, -⟩ := atStep_some h
 unfold undoOf
 rw [List.getD_eq_getElem?_getD, h2]; rfl
theorem waitOf_at {ss : List St} {n k : Int} {x : St} (h : atStep ss n k = some x) : waitOf ss n = x.wt := by
 obtain ⟨-, h2, -⟩ := atStep_some h
 unfold waitOf
 rw [List.getD_eq_getElem?_getD, h2]; rfl
section
variable {l : List Ev} {e : Ev}
theorem snoc_st (hl : l ≠ []) : stOf (l ++ [e]) = ⟨(prgL l).2, (prgL l).1, codeF e.kd, l.length + 1 + 1, beganL l, askedF (l ++ [e]), takenF (l ++ [e]), freshF (l ++ [e]), jobsF (l ++ [e]), clocksF (l ++ [e]), decide (lastF (l ++ [e]) 13 ≠ 0), decide (lastF (l ++ [e]) 14 ≠ 0)⟩ := by
 rw [stOf_ne (by simp), prg_snoc e hl, began_snoc e hl, status_snoc]
 rw [List.length_append, List.length_singleton]
 rfl
theorem cancel_keep (h : e.kd ≠ 13) : lastF (l ++ [e]) 13 = lastF l 13 := by rw [last_snoc, if_neg h]
theorem over_keep (h : e.kd ≠ 14) : lastF (l ++ [e]) 14 = lastF l 14 := by rw [last_snoc, if_neg h]
theorem kind_decision (hl : l ≠ []) (hn : Nth l) (h0 : statusF l = 0) (hP : EvP e) (hid : e.id = ((l.length + 1 : Nat) : Int)) (hk : e.kd = 2 ∨ e.kd = 3 ∨ e.kd = 4 ∨ e.kd = 5) :
   (decisionF (stOf l) e).map (fun t => ({ t with next := (stOf l).next + 1 } : Sta)) = if canF l e = true then some (stOf (l ++ [e])) else none := by
 have hc : codeF e.kd = 0 := codeF_zero (by omega)
 have hj := jobs_keep hn h0 hc (e := e) (by omega)
 have hcl := clocks_keep hl hn h0 hc (e := e) (by omega)
 rw [if_neg (by omega), List.append_nil] at hj hcl
 have hfr := fresh_snoc l e hc h0
 rw [snoc_st hl, stOf_ne hl, hj, hcl, cancel_keep (by omega), over_keep (by omega), hc, hfr, h0]
 have n2 : ∀ {P : Prop}, e.kd ≠ 2 → ¬ (e.kd = 2 ∧ P) := fun h q => h q.1
 have n3 : ∀ {P : Prop}, e.kd ≠ 3 → ¬ (e.kd = 3 ∧ P) := fun h q => h q.1
 have n4 : ∀ {P : Prop}, e.kd ≠ 4 → ¬ (e.kd = 4 ∧ P) := fun h q => h q.1
 have n5 : ∀ {P : Prop}, e.kd ≠ 5 → ¬ (e.kd = 5 ∧ P) := fun h q => h q.1
 unfold decisionF canF
 simp only
 rcases hk with k | k | k | k
 · rw [if_neg (show ¬ e.kd = 3 by omega), if_neg (n3 (by omega)), if_neg (n4 (by omega)), if_neg (n5 (by omega)), if_pos k]
   by_cases g : askedF l = 0 ∧ takenF l = 0 ∧ freshF l = true
   · rw [if_pos ⟨k, g⟩, asked_new hn k, taken_keep h0 hc (by omega), g.1, g.2.1, g.2.2, hid]
     simp
     omega
   · rw [if_neg (fun q => g q.2), if_neg]
     · rfl
     · simp only [Bool.and_eq_true, decide_eq_true_eq]
       exact fun q => g ⟨q.1.1, q.1.2, q.2⟩
 · rw [if_neg (n2 (by omega)), if_neg (n4 (by omega)), if_neg (n5 (by omega)), if_neg (show ¬ e.kd = 2 by omega), if_pos k, if_pos k]
   by_cases g : askedF l = e.rf
   · rw [if_pos ⟨k, g⟩, if_pos (by simpa using g), asked_out k g (evp_ref hP (by omega)), taken_new hn k, hid]
     rfl
   · rw [if_neg (fun q => g q.2), if_neg (by simpa using g)]
     rfl
 · rw [if_neg (n2 (by omega)), if_neg (n3 (by omega)), if_neg (n5 (by omega)), if_neg (show ¬ e.kd = 2 by omega), if_neg (show ¬ e.kd = 3 by omega), if_neg (show ¬ e.kd = 3 by omega), if_pos (show e.kd = 4 ∨ e.kd = 5 from .inl k)]
   have hfb : freshB e = false := by unfold freshB; rw [decide_eq_false (by omega)]
   by_cases g : takenF l = e.rf
   · rw [if_pos ⟨k, g⟩, if_pos (by simpa using g), taken_out (.inl k) g (evp_ref hP (by omega)), asked_keep h0 hc (by omega), hfb, Bool.or_false]
     rfl
   · rw [if_neg (fun q => g q.2), if_neg (by simpa using g)]
     rfl
 · rw [if_neg (n2 (by omega)), if_neg (n3 (by omega)), if_neg (n4 (by omega)), if_neg (show ¬ e.kd = 2 by omega), if_neg (show ¬ e.kd = 3 by omega), if_neg (show ¬ e.kd = 3 by omega), if_pos (show e.kd = 4 ∨ e.kd = 5 from .inr k)]
   have hfb : freshB e = true := by unfold freshB; rw [decide_eq_true (by omega)]
   by_cases g : takenF l = e.rf
   · rw [if_pos ⟨k, g⟩, if_pos (by simpa using g), taken_out (.inr k) g (evp_ref hP (by omega)), asked_keep h0 hc (by omega), hfb, Bool.or_true]
     rfl
   · rw [if_neg (fun q => g q.2), if_neg (by simpa using g)]
     rfl
theorem kind_work (hl : l ≠ []) (hn : Nth l) (hj : JOK l) (h0 : statusF l = 0) (hP : EvP e) (hid : e.id = ((l.length + 1 : Nat) : Int)) (hk : e.kd = 6 ∨ e.kd = 7 ∨ e.kd = 8 ∨ e.kd = 9) :
   (workF (stOf l) e).map (fun t => ({ t with next := (stOf l).next + 1 } : Sta)) = if canF l e = true then some (stOf (l ++ [e])) else none := by
 have hc : codeF e.kd = 0 := codeF_zero (by omega)
 have hcl := clocks_keep hl hn h0 hc (e := e) (by omega)
 rw [if_neg (by omega), List.append_nil] at hcl
 have hfr := fresh_snoc l e hc h0
 rw [if_neg (by omega)] at hfr
 rw [snoc_st hl, stOf_ne hl, hcl, cancel_keep (by omega), over_keep (by omega), hc, hfr, h0, asked_keep h0 hc (by omega), taken_keep h0 hc (by omega)]
 unfold workF canF
 simp only
 rw [if_neg (show ¬ e.kd = 2 by omega), if_neg (show ¬ e.kd = 3 by omega), if_neg (show ¬ (e.kd = 4 ∨ e.kd = 5) by omega)]
 by_cases k : e.kd = 6
 · have hjk := jobs_keep hn h0 hc (e := e) (by omega)
   rw [if_pos k] at hjk
   have hfb : freshB e = false := by unfold freshB; rw [decide_eq_false (by omega)]
   rw [if_pos k, if_pos k, hjk, hfb, Bool.or_false, hasKind_at (evp_step hP), hid]
   cases ha : atStep (prgL l).2 e.sp 1 with
   | none => simp
   | some x =>
     rw [undoOf_at ha]
     simp only [Option.isSome_some, Bool.true_and]
     by_cases g : e.ud = true ∧ x.un = []
     · rw [if_pos g, if_neg (by rw [g.1, g.2]; simp)]; rfl
     · rw [if_neg g, if_pos]
       · rfl
       · simp only [Bool.or_eq_true, Bool.not_eq_true', decide_eq_true_eq]
         by_cases hu : e.ud = true
         · exact .inr (fun q => g ⟨hu, q⟩)
         · exact .inl (by simpa using hu)
 · rw [if_neg k, if_neg k, if_pos (show e.kd = 7 ∨ e.kd = 8 ∨ e.kd = 9 by omega)]
   unfold triedF
   have hgi : (jobsF l)[jobI (jobsF l) e.rf e.ty]? = (jobsF l).find? (fun j => decide (j.id = e.rf) && decide (j.ty = e.ty)) := getIdx_find _ _
   rw [hgi]
   cases hf : (jobsF l).find? (fun j => decide (j.id = e.rf) && decide (j.ty = e.ty)) with
   | none => simp
   | some j =>
     have hm := List.mem_of_find?_eq_some hf
     have hjp := List.find?_some hf
     simp only [Bool.and_eq_true, decide_eq_true_eq] at hjp
     obtain ⟨hj1, hj2⟩ := hjp
     obtain ⟨-, hle⟩ := hj.le hm
     obtain ⟨-, hpw⟩ := jobsF_ids l
     have hpk : ∀ x : Jb, (decide (x.id = e.rf) && decide (x.ty = e.ty)) = true → x.id = e.rf := fun x hx => by
       simp only [Bool.and_eq_true, decide_eq_true_eq] at hx
       exact hx.1
     simp only
     rcases (by omega : e.kd = 8 ∨ e.kd = 7 ∨ e.kd = 9) with k8 | k79
     · have hfb : freshB e = false := by unfold freshB; rw [decide_eq_false (by omega)]
       rw [jobs_inc hn h0 k8, ← set_one Jb.id _ inc e.rf hpk _ hpw j hf, hfb, Bool.or_false]
       by_cases g : e.ty = triesF (prgL l).2 j
       · rw [if_neg (fun q => q.2 g), if_neg (fun q => by omega), if_neg]
         · rfl
         · simp only [Bool.or_eq_true, Bool.and_eq_true, decide_eq_true_eq]; omega
       · rw [if_pos ⟨k8, g⟩, if_pos]
         · rfl
         · simp only [Bool.or_eq_true, Bool.and_eq_true, decide_eq_true_eq]; omega
     · have hfb : freshB e = true := by unfold freshB; rw [decide_eq_true (by omega)]
       rw [jobs_out hn h0 k79, ← erase_one Jb.id _ e.rf hpk _ hpw j hf, hfb, Bool.or_true, if_neg (fun q => by omega)]
       by_cases g : e.kd = 7 ∨ (e.kd = 9 ∧ e.ty = triesF (prgL l).2 j)
       · rw [if_pos g, if_pos]
         · rfl
         · simp only [Bool.or_eq_true, Bool.and_eq_true, decide_eq_true_eq]; omega
       · rw [if_neg g, if_neg]
         · rfl
         · simp only [Bool.or_eq_true, Bool.and_eq_true, decide_eq_true_eq]; omega
theorem kind_clock (hl : l ≠ []) (hn : Nth l) (h0 : statusF l = 0) (hP : EvP e) (hid : e.id = ((l.length + 1 : Nat) : Int)) (hk : e.kd = 10 ∨ e.kd = 11) :
   (clockF (stOf l) e).map (fun t => ({ t with next := (stOf l).next + 1 } : Sta)) = if canF l e = true then some (stOf (l ++ [e])) else none := by
 have hc : codeF e.kd = 0 := codeF_zero (by omega)
 have hj := jobs_keep hn h0 hc (e := e) (by omega)
 rw [if_neg (by omega), List.append_nil] at hj
 have hfr := fresh_snoc l e hc h0
 rw [if_neg (by omega)] at hfr
 rw [snoc_st hl, stOf_ne hl, hj, cancel_keep (by omega), over_keep (by omega), hc, hfr, h0, asked_keep h0 hc (by omega), taken_keep h0 hc (by omega)]
 unfold clockF canF
 simp only
 rw [if_neg (show ¬ e.kd = 2 by omega), if_neg (show ¬ e.kd = 3 by omega), if_neg (show ¬ (e.kd = 4 ∨ e.kd = 5) by omega), if_neg (show ¬ e.kd = 6 by omega), if_neg (show ¬ (e.kd = 7 ∨ e.kd = 8 ∨ e.kd = 9) by omega)]
 by_cases k : e.kd = 10
 · have hck := clocks_keep hl hn h0 hc (e := e) (by omega)
   rw [if_pos k] at hck
   have hfb : freshB e = false := by unfold freshB; rw [decide_eq_false (by omega)]
   rw [if_pos k, if_pos k, hck, hfb, Bool.or_false, hasKind_at (evp_step hP), hid]
   cases ha : atStep (prgL l).2 e.sp 2 with
   | none => simp
   | some x => rw [waitOf_at ha]; rfl
 · have k11 : e.kd = 11 := by omega
   rw [if_neg k, if_neg k, if_pos k11]
   have hfb : freshB e = true := by unfold freshB; rw [decide_eq_true (by omega)]
   rw [hfb, Bool.or_true, clocks_out hl hn h0 k11]
   obtain ⟨-, hpw⟩ := clocksF_ids l
   have hpk : ∀ x : Ck, (decide (x.id = e.rf) && decide (x.tk ≤ e.tk)) = true → x.id = e.rf := fun x hx => by
     simp only [Bool.and_eq_true, decide_eq_true_eq] at hx
     exact hx.1
   have hfe := find_two (fun x : Ck => x.id) e.rf (fun x : Ck => decide (x.tk ≤ e.tk)) _ hpw
   have hgi : (clocksF l)[clockI (clocksF l) e.rf e.tk]? = (clocksF l).find? (fun c => decide (c.id = e.rf) && decide (c.tk ≤ e.tk)) := getIdx_find _ _
   unfold firedF
   by_cases g : clockI (clocksF l) e.rf e.tk < (clocksF l).length
   · rw [if_pos g]
     rw [List.getElem?_eq_getElem g] at hgi
     rw [← hgi] at hfe
     have her := erase_one Ck.id _ e.rf hpk _ hpw _ hgi.symm
     cases hf : (clocksF l).find? (fun c => decide (c.id = e.rf)) with
     | none => rw [hf] at hfe; cases hfe
     | some c =>
       rw [hf] at hfe
       simp only
       by_cases hq : c.tk ≤ e.tk
       · rw [if_pos (show decide (c.tk ≤ e.tk) = true from decide_eq_true hq), ← her]
         rfl
       · simp [Option.filter, hq] at hfe
   · rw [if_neg g]
     rw [List.getElem?_eq_none (by omega)] at hgi
     rw [← hgi] at hfe
     cases hf : (clocksF l).find? (fun c => decide (c.id = e.rf)) with
     | none => rfl
     | some c =>
       rw [hf] at hfe
       simp only
       by_cases hq : c.tk ≤ e.tk
       · simp [Option.filter, hq] at hfe
       · rw [if_neg (show ¬ decide (c.tk ≤ e.tk) = true by simpa using hq)]; rfl
theorem kind_told (hl : l ≠ []) (hn : Nth l) (h0 : statusF l = 0) (hP : EvP e) (hk : e.kd = 1 ∨ (12 ≤ e.kd ∧ e.kd ≤ 18)) :
   (toldF (stOf l) e).map (fun t => ({ t with next := (stOf l).next + 1 } : Sta)) = if canF l e = true then some (stOf (l ++ [e])) else none := by
 unfold toldF canF
 rw [if_neg (show ¬ e.kd = 2 by omega), if_neg (show ¬ e.kd = 3 by omega), if_neg (show ¬ (e.kd = 4 ∨ e.kd = 5) by omega), if_neg (show ¬ e.kd = 6 by omega), if_neg (show ¬ (e.kd = 7 ∨ e.kd = 8 ∨ e.kd = 9) by omega), if_neg (show ¬ e.kd = 10 by omega), if_neg (show ¬ e.kd = 11 by omega)]
 by_cases hs : e.kd ≤ 14
 · have hc : codeF e.kd = 0 := codeF_zero hs
   have hj := jobs_keep hn h0 hc (e := e) (by omega)
   rw [if_neg (by omega), List.append_nil] at hj
   have hcl := clocks_keep hl hn h0 hc (e := e) (by omega)
   rw [if_neg (by omega), List.append_nil] at hcl
   have hfr := fresh_snoc l e hc h0
   rw [if_neg (by omega)] at hfr
   rw [snoc_st hl, stOf_ne hl, hj, hcl, hc, hfr, h0, asked_keep h0 hc (by omega), taken_keep h0 hc (by omega)]
   simp only
   rw [if_neg (show ¬ e.kd = 18 by omega), if_neg (show ¬ e.kd = 15 by omega), if_neg (show ¬ e.kd = 16 by omega), if_neg (show ¬ e.kd = 17 by omega)]
   have hfb : freshB e = true := by unfold freshB; rw [decide_eq_true (by omega)]
   rw [hfb, Bool.or_true]
   rcases (by omega : e.kd = 1 ∨ e.kd = 12 ∨ e.kd = 13 ∨ e.kd = 14) with k | k | k | k
   · rw [if_neg (show ¬ e.kd = 12 by omega), if_neg (show ¬ e.kd = 13 by omega), if_neg (show ¬ e.kd = 14 by omega), if_neg (show ¬ (e.kd = 12 ∨ e.kd = 18) by omega), if_neg (show ¬ e.kd = 13 by omega), if_neg (show ¬ e.kd = 14 by omega), if_neg (show ¬ (e.kd = 15 ∨ e.kd = 16 ∨ e.kd = 17) by omega)]
     rfl
   · rw [if_pos k, if_pos (show e.kd = 12 ∨ e.kd = 18 from .inl k), cancel_keep (by omega), over_keep (by omega)]
     rfl
   · rw [if_neg (show ¬ e.kd = 12 by omega), if_pos k, if_neg (show ¬ (e.kd = 12 ∨ e.kd = 18) by omega), if_pos k, over_keep (by omega), last_snoc, if_pos k]
     by_cases g : lastF l 13 = 0
     · simp [g]
     · simp [g]
   · rw [if_neg (show ¬ e.kd = 12 by omega), if_neg (show ¬ e.kd = 13 by omega), if_pos k, if_neg (show ¬ (e.kd = 12 ∨ e.kd = 18) by omega), if_neg (show ¬ e.kd = 13 by omega), if_pos k, cancel_keep (by omega), last_snoc, if_pos k]
     by_cases g : lastF l 14 = 0 ∧ (prgL l).1 ≠ 0 ∧ beganL l + (prgL l).1 ≤ e.tk
     · rw [if_neg (show ¬ (decide (lastF l 14 ≠ 0) = true ∨ (prgL l).1 = 0 ∨ e.tk < beganL l + (prgL l).1) by
         simp only [decide_eq_true_eq]
         rintro (q | q | q)
         · exact q g.1
         · exact g.2.1 q
         · have := g.2.2; omega)]
       rw [if_pos (show (decide (lastF l 14 = 0) && decide ((prgL l).1 ≠ 0) && decide (beganL l + (prgL l).1 ≤ e.tk)) = true by
         simp only [Bool.and_eq_true, decide_eq_true_eq]
         exact ⟨⟨g.1, g.2.1⟩, g.2.2⟩)]
       simp
     · rw [if_pos (show decide (lastF l 14 ≠ 0) = true ∨ (prgL l).1 = 0 ∨ e.tk < beganL l + (prgL l).1 by
         by_cases a : lastF l 14 = 0
         · by_cases b : (prgL l).1 = 0
           · exact .inr (.inl b)
           · exact .inr (.inr (by have := fun q => g ⟨a, b, q⟩; omega))
         · exact .inl (by simpa using a))]
       rw [if_neg (show ¬ (decide (lastF l 14 = 0) && decide ((prgL l).1 ≠ 0) && decide (beganL l + (prgL l).1 ≤ e.tk)) = true by
         simp only [Bool.and_eq_true, decide_eq_true_eq]
         exact fun q => g ⟨q.1.1, q.1.2, q.2⟩)]
       rfl
 · have hc : codeF e.kd ≠ 0 := codeF_pos (by have := hP.1; omega)
   have hss := status_snoc l e
   have ha : askedF (l ++ [e]) = 0 := by unfold askedF; rw [if_pos (.inr (by rw [hss]; exact hc))]
   have ht : takenF (l ++ [e]) = 0 := by unfold takenF; rw [if_pos (.inr (by rw [hss]; exact hc))]
   have hf : freshF (l ++ [e]) = false := by unfold freshF; rw [if_pos (by rw [hss]; exact hc)]
   have hj : jobsF (l ++ [e]) = [] := by unfold jobsF; rw [if_pos (by rw [hss]; exact hc)]
   have hcl : clocksF (l ++ [e]) = [] := by unfold clocksF; rw [if_pos (by rw [hss]; exact hc)]
   rw [snoc_st hl, stOf_ne hl, ha, ht, hf, hj, hcl, cancel_keep (by omega), over_keep (by omega)]
   have hid : idleB ⟨(prgL l).2, (prgL l).1, statusF l, l.length + 1, beganL l, askedF l, takenF l, freshF l, jobsF l, clocksF l, decide (lastF l 13 ≠ 0), decide (lastF l 14 ≠ 0)⟩ = (decide (askedF l = 0) && decide (takenF l = 0) && decide ((jobsF l).length = 0)) := by
     unfold idleB; rw [Bool.and_assoc]
   rw [hid]
   simp only
   rw [if_neg (show ¬ e.kd = 12 by omega), if_neg (show ¬ e.kd = 13 by omega), if_neg (show ¬ e.kd = 14 by omega), if_neg (show ¬ e.kd = 13 by omega), if_neg (show ¬ e.kd = 14 by omega)]
   obtain ⟨h1, h2⟩ := hP.1
   rcases (by omega : e.kd = 15 ∨ e.kd = 16 ∨ e.kd = 17 ∨ e.kd = 18) with k | k | k | k <;> rw [k]
   · generalize (decide (askedF l = 0) && decide (takenF l = 0) && decide ((jobsF l).length = 0)) = B
     cases B <;> rfl
   · generalize (decide (askedF l = 0) && decide (takenF l = 0) && decide ((jobsF l).length = 0)) = B
     cases B <;> rfl
   · generalize (decide (askedF l = 0) && decide (takenF l = 0) && decide ((jobsF l).length = 0)) = B
     cases B <;> rfl
   · rfl
end
theorem kind_same {l : List Ev} {e : Ev} (hl : l ≠ []) (hn : Nth l) (hj : JOK l) (h0 : statusF l = 0) (hP : EvP e) (hid : e.id = ((l.length + 1 : Nat) : Int)) :
   (kindF (stOf l) e).map (fun t => ({ t with next := (stOf l).next + 1 } : Sta)) = if canF l e = true then some (stOf (l ++ [e])) else none := by
 have hk := hP.1
 unfold kindF
 by_cases k1 : e.kd = 2 ∨ e.kd = 3 ∨ e.kd = 4 ∨ e.kd = 5
 · rw [if_pos k1]; exact kind_decision hl hn h0 hP hid k1
 · rw [if_neg k1]
   by_cases k2 : e.kd = 6 ∨ e.kd = 7 ∨ e.kd = 8 ∨ e.kd = 9
   · rw [if_pos k2]; exact kind_work hl hn hj h0 hP hid k2
   · rw [if_neg k2]
     by_cases k3 : e.kd = 10 ∨ e.kd = 11
     · rw [if_pos k3]; exact kind_clock hl hn h0 hP hid k3
     · rw [if_neg k3]; exact kind_told hl hn h0 hP (by omega)
theorem stOf_one {e : Ev} (hk : e.kd = 1) : stOf [e] = begunS e := by
 unfold stOf begunS
 rw [if_neg (by simp)]
 have h2 : lastF [e] 2 = 0 := by unfold lastF; simp [lastG, hk]
 have h3 : lastF [e] 3 = 0 := by unfold lastF; simp [lastG, hk]
 have h13 : lastF [e] 13 = 0 := by unfold lastF; simp [lastG, hk]
 have h14 : lastF [e] 14 = 0 := by unfold lastF; simp [lastG, hk]
 have hs : statusF [e] = 0 := by unfold statusF; simp [hk, codeF]
 have ha : askedF [e] = 0 := by unfold askedF; rw [h2]; split <;> rfl
 have ht : takenF [e] = 0 := by unfold takenF; rw [h3]; split <;> rfl
 have hf : freshF [e] = true := by unfold freshF; rw [hs, h3]; simp [freshB, hk]
 have hj : jobsF [e] = [] := by unfold jobsF; rw [hs]; simp [jobsG, jobAt, hk]
 have hc : clocksF [e] = [] := by unfold clocksF; rw [hs]; simp [clocksG, clockAt, hk]
 rw [hs, ha, ht, hf, hj, hc, h13, h14]
 rfl
theorem stOf_next {l : List Ev} (h : l ≠ []) : (stOf l).next = l.length + 1 := by rw [stOf_ne h]
theorem stOf_status {l : List Ev} (h : l ≠ []) : (stOf l).status = statusF l := by rw [stOf_ne h]
theorem apply_same {l : List Ev} (hn : Nth l) (hj : JOK l) (e : Ev) : applyF (stOf l) e = if comesF l e = 0 then (stOf (l ++ [e]), 0) else (s0, comesF l e) := by
 unfold applyF comesF
 by_cases hP : EvP e
 · rw [if_neg (not_not_intro hP), if_neg (not_not_intro hP)]
   by_cases hl : l = []
   · subst hl
     rw [if_pos (show (stOf []).next = 0 from rfl), if_pos rfl]
     by_cases hk : e.kd = 1 ∧ e.id = 1
     · rw [if_pos hk, if_pos hk, if_pos rfl]
       rw [List.nil_append, stOf_one hk.1]
     · rw [if_neg hk, if_neg hk, if_neg (by decide)]
   · rw [if_neg (show ¬ (stOf l).next = 0 by rw [stOf_next hl]; omega), if_neg hl, stOf_status hl]
     by_cases h0 : statusF l = 0
     · rw [if_neg (not_not_intro h0), if_neg (not_not_intro h0), stOf_next hl]
       by_cases hid : e.id = l.length + 1
       · have hid' : e.id = ((l.length + 1 : Nat) : Int) := by rw [hid]; rfl
         have hks := kind_same hl hn hj h0 hP hid'
         rw [stOf_next hl] at hks
         rw [if_neg (not_not_intro hid)]
         by_cases hc : canF l e = true
         · rw [if_pos hc] at hks
           rw [if_pos (show (if e.id = (l.length : Int) + 1 ∧ canF l e = true then (0 : Int) else 120) = 0 by rw [if_pos ⟨hid, hc⟩])]
           cases hkf : kindF (stOf l) e with
           | none => rw [hkf] at hks; cases hks
           | some t =>
             rw [hkf] at hks
             simp only [Option.map_some, Option.some.injEq] at hks
             rw [← hks]
         · rw [if_neg hc] at hks
           rw [if_neg (show ¬ (e.id = (l.length : Int) + 1 ∧ canF l e = true) from fun q => hc q.2), if_neg (show ¬ (120 : Int) = 0 by decide)]
           cases hkf : kindF (stOf l) e with
           | none => rfl
           | some t => rw [hkf] at hks; cases hks
       · rw [if_pos hid, if_neg (show ¬ (e.id = (l.length : Int) + 1 ∧ canF l e = true) from fun q => hid q.1), if_neg (show ¬ (120 : Int) = 0 by decide)]
     · rw [if_pos h0, if_pos h0, if_neg (by decide)]
 · rw [if_pos hP, if_pos hP, if_neg (by decide)]
theorem right_act {x : St} (h : RightP x) (hk : x.kd = 1) : RightA x := by
 rcases h with ⟨_, h⟩ | ⟨h, _⟩ | ⟨h, _⟩
 · exact h
 · omega
 · omega
theorem at_right {ss : List St} {n k : Int} {x : St} {lim : Int} (hp : ProgP lim ss) (h : atStep ss n k = some x) : RightP x := by
 obtain ⟨-, h2, -⟩ := atStep_some h
 exact hp.2.2 x (List.mem_of_getElem? h2)
theorem jok_snoc {l : List Ev} {e : Ev} (hs : Hs l) (hj : JOK l) (hc : comesF l e = 0) : JOK (l ++ [e]) := by
 have hn := hs.nth
 obtain ⟨hP, hid, h0, h1, hcan⟩ := comes_evp hc
 by_cases hl : l = []
 · subst hl
   intro j hj
   have hk := h1 rfl
   unfold jobsF at hj
   rw [List.nil_append] at hj
   split at hj
   · cases hj
   · simp [jobsG, jobAt, hk] at hj
 · have hcan := hcan hl
   have hprg := prg_snoc e hl
   have hpp := hs.prog hl
   by_cases h15 : e.kd ≤ 14
   · have hz := codeF_zero h15
     intro j hjm
     rw [hprg]
     rcases (by omega : e.kd = 8 ∨ (e.kd = 7 ∨ e.kd = 9) ∨ (e.kd ≠ 7 ∧ e.kd ≠ 8 ∧ e.kd ≠ 9)) with k | k | k
     · rw [jobs_inc hn h0 k] at hjm
       obtain ⟨j0, hm, hje⟩ := List.mem_map.1 hjm
       obtain ⟨x, g1, g2, g3⟩ := hj j0 hm
       by_cases q : j0.id = e.rf
       · rw [if_pos q] at hje
         subst hje
         refine ⟨x, g1, by show 1 ≤ j0.ty + 1; omega, ?_⟩
         -- the try that was refused was not the last
         unfold canF at hcan
         rw [if_neg (show ¬ e.kd = 2 by omega), if_neg (show ¬ e.kd = 3 by omega), if_neg (show ¬ (e.kd = 4 ∨ e.kd = 5) by omega), if_neg (show ¬ e.kd = 6 by omega), if_pos (show e.kd = 7 ∨ e.kd = 8 ∨ e.kd = 9 by omega)] at hcan
         unfold triedF at hcan
         cases hf : (jobsF l).find? (fun j => decide (j.id = e.rf) && decide (j.ty = e.ty)) with
         | none => rw [hf] at hcan; cases hcan
         | some j1 =>
           rw [hf] at hcan
           have hm1 := List.mem_of_find?_eq_some hf
           have hp1 := List.find?_some hf
           simp only [Bool.and_eq_true, decide_eq_true_eq] at hp1
           have heq : j1 = j0 := pairwise_one (jobsF_ids l).2 hm1 hm (by rw [hp1.1, q])
           subst heq
           simp only [Bool.or_eq_true, Bool.and_eq_true, decide_eq_true_eq] at hcan
           have hlt : e.ty < triesF (prgL l).2 j1 := by omega
           unfold triesF at hlt
           rw [g1] at hlt
           show j1.ty + 1 ≤ triesOf x j1.ud
           simp only at hlt
           omega
       · rw [if_neg q] at hje
         subst hje
         exact ⟨x, g1, g2, g3⟩
     · rw [jobs_out hn h0 k] at hjm
       exact hj j (List.mem_filter.1 hjm).1
     · rw [jobs_keep hn h0 hz k] at hjm
       rcases List.mem_append.1 hjm with hm | hm
       · exact hj j hm
       · split at hm
         · rename_i k6
           simp only [List.mem_singleton] at hm
           subst hm
           unfold canF at hcan
           rw [if_neg (show ¬ e.kd = 2 by omega), if_neg (show ¬ e.kd = 3 by omega), if_neg (show ¬ (e.kd = 4 ∨ e.kd = 5) by omega), if_pos k6, hasKind_at (evp_step hP)] at hcan
           cases ha : atStep (prgL l).2 e.sp 1 with
           | none => rw [ha] at hcan; simp at hcan
           | some x =>
             rw [ha, undoOf_at ha] at hcan
             simp only [Option.isSome_some, Bool.true_and, Bool.or_eq_true, Bool.not_eq_true', decide_eq_true_eq] at hcan
             have hr := right_act (at_right hpp ha) (atStep_some ha).2.2
             refine ⟨x, rfl, Int.le_refl 1, ?_⟩
             show 1 ≤ triesOf x e.ud
             unfold triesOf
             split
             · rename_i hu
               rcases hcan with q | q
               · rw [hu] at q; cases q
               · rcases hr.1 with ⟨h, _⟩ | ⟨_, h, _⟩
                 · exact absurd h q
                 · exact h
             · exact hr.2.2.1.1
         · cases hm
   · intro j hjm
     have hz := codeF_pos (k := e.kd) (by have := hP.1; omega)
     unfold jobsF at hjm
     rw [if_pos (by rw [status_snoc]; exact hz)] at hjm
     cases hjm
theorem Hs.jok {l : List Ev} (h : Hs l) : JOK l := by
 induction h with
 | nil => intro j hj; unfold jobsF at hj; simp [jobsG] at hj
 | snoc hs hc ih => exact jok_snoc hs ih hc
theorem Hs.apply {l : List Ev} (h : Hs l) (e : Ev) : applyF (stOf l) e = if comesF l e = 0 then (stOf (l ++ [e]), 0) else (s0, comesF l e) := apply_same h.nth h.jok e
theorem Hs.short {l : List Ev} (h : Hs l) : l.length ≤ 500 := by
 cases h with
 | nil => simp
 | @snoc l e hs hc =>
   obtain ⟨hP, hid, -⟩ := comes_evp hc
   have := hP.2.1
   rw [List.length_append, List.length_singleton]
   omega
def firstBad : List Ev → List Ev → Option (Nat × Int)
 | _, [] => none
 | p, x :: r => if comesF p x ≠ 0 then some (p.length, comesF p x) else firstBad (p ++ [x]) r
def rbuildF (l : List Ev) : Sta × Int × Int := match firstBad [] l with
 | some (i, e) => (s0, i, e)
 | none => (stOf l, 0, 0)
theorem firstBad_none : ∀ (r p : List Ev), Hs p → firstBad p r = none → Hs (p ++ r)
 | [], p, h, _ => by simpa using h
 | x :: r, p, h, hn => by
   simp only [firstBad] at hn
   split at hn
   · cases hn
   · rename_i hc
     have := firstBad_none r (p ++ [x]) (.snoc h (Decidable.of_not_not hc)) hn
     rw [List.append_assoc, List.singleton_append] at this
     exact this
theorem Hs.take {l : List Ev} (h : Hs l) : ∀ n, Hs (l.take n) := by
 induction h with
 | nil => intro n; simp; exact .nil
 | @snoc l e hs hc ih =>
   intro n
   by_cases hn : n ≤ l.length
   · rw [List.take_append_of_le_length hn]; exact ih n
   · rw [List.take_of_length_le (by simp; omega)]; exact .snoc hs hc
end Go.Proofs.Ytdoblbiodpcjdaa
