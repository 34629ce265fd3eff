/- PLAIN: of each decision, try and timer of a history one end at most is there; behind an end there is nothing. -/
import Derived.Test.YtckpfcocbjfcbaaSmP
namespace Go.Proofs.Ytckpfcocbjfcbaa
open Go.RowKit
set_option linter.unusedVariables false

theorem jobsG_mem {L : List Ev} : ∀ (l : List Ev) (i : Nat) {j : Jb}, j ∈ jobsG L i l → ∃ (n : Nat) (x : Ev), l[n]? = some x ∧ jobAt L (i + n) x = some j
  | [], i, j, h => by cases h
  | x :: r, i, j, h => by
    simp only [jobsG, List.mem_append] at h
    rcases h with h | h
    · exact ⟨0, x, rfl, by simpa using h⟩
    · obtain ⟨n, y, h1, h2⟩ := jobsG_mem r (i + 1) h
      exact ⟨n + 1, y, by simpa using h1, by rw [show i + (n + 1) = i + 1 + n by omega]; exact h2⟩
theorem clocksG_mem {L : List Ev} : ∀ (l : List Ev) (i : Nat) {j : Ck}, j ∈ clocksG L i l → ∃ (n : Nat) (x : Ev), l[n]? = some x ∧ clockAt L (i + n) x = some j
  | [], i, j, h => by cases h
  | x :: r, i, j, h => by
    simp only [clocksG, List.mem_append] at h
    rcases h with h | h
    · exact ⟨0, x, rfl, by simpa using h⟩
    · obtain ⟨n, y, h1, h2⟩ := clocksG_mem r (i + 1) h
      exact ⟨n + 1, y, by simpa using h1, by rw [show i + (n + 1) = i + 1 + n by omega]; exact h2⟩
theorem jobsF_at {l : List Ev} {j : Jb} (h : j ∈ jobsF l) : statusF l = 0 ∧ ∃ (n : Nat) (x : Ev), l[n]? = some x ∧ x.kd = 6 ∧ j = (((n + 1 : Nat) : Int), x.sp, x.ud, 1 + (retF l (n + 1 : Nat) : Int)) ∧ endedF l (n + 1 : Nat) 7 9 = false := by
  unfold jobsF at h
  split at h
  · cases h
  · rename_i h0
    obtain ⟨n, x, h1, h2⟩ := jobsG_mem l 0 h
    unfold jobAt at h2
    rw [Nat.zero_add] at h2
    split at h2
    · rename_i h3
      injection h2 with h2
      exact ⟨Decidable.of_not_not h0, n, x, h1, h3.1, h2.symm, h3.2⟩
    · cases h2
theorem clocksF_at {l : List Ev} {j : Ck} (h : j ∈ clocksF l) : statusF l = 0 ∧ ∃ (n : Nat) (x : Ev), l[n]? = some x ∧ x.kd = 10 ∧ j = (((n + 1 : Nat) : Int), x.sp, x.tk + waitOf (prgL l).2 x.sp) ∧ endedF l (n + 1 : Nat) 11 11 = false := by
  unfold clocksF at h
  split at h
  · cases h
  · rename_i h0
    obtain ⟨n, x, h1, h2⟩ := clocksG_mem l 0 h
    unfold clockAt at h2
    rw [Nat.zero_add] at h2
    split at h2
    · rename_i h3
      injection h2 with h2
      exact ⟨Decidable.of_not_not h0, n, x, h1, h3.1, h2.symm, h3.2⟩
    · cases h2
theorem ended_no {l : List Ev} {r a b : Int} (h : endedF l r a b = false) {x : Ev} (hx : x ∈ l) (hr : x.rf = r) : x.kd ≠ a ∧ x.kd ≠ b := by
  have := List.any_eq_false.1 h x hx
  unfold endedB at this
  rw [hr] at this
  simpa using this
theorem taken_open {l : List Ev} (h : takenF l ≠ 0) : endedF l (takenF l) 4 5 = false ∧ statusF l = 0 ∧ takenF l = lastF l 3 := by
  unfold takenF at h ⊢
  split at h
  · exact absurd rfl h
  · rename_i hc
    rw [if_neg hc]
    have h1 : ¬ endedF l (lastF l 3) 4 5 = true := fun q => hc (.inl q)
    have h2 : ¬ statusF l ≠ 0 := fun q => hc (.inr q)
    exact ⟨by simpa using h1, Decidable.of_not_not h2, rfl⟩
theorem asked_open {l : List Ev} (h : askedF l ≠ 0) : endedF l (askedF l) 3 3 = false ∧ statusF l = 0 ∧ askedF l = lastF l 2 := by
  unfold askedF at h ⊢
  split at h
  · exact absurd rfl h
  · rename_i hc
    rw [if_neg hc]
    have h1 : ¬ endedF l (lastF l 2) 3 3 = true := fun q => hc (.inl q)
    have h2 : ¬ statusF l ≠ 0 := fun q => hc (.inr q)
    exact ⟨by simpa using h1, Decidable.of_not_not h2, rfl⟩
theorem can_taken {l : List Ev} {e : Ev} (hc : canF l e = true) (hk : e.kd = 4 ∨ e.kd = 5) : takenF l = e.rf := by
  unfold canF at hc
  rw [if_neg (by omega), if_neg (by omega), if_pos hk] at hc
  exact of_decide_eq_true hc
theorem can_asked {l : List Ev} {e : Ev} (hc : canF l e = true) (hk : e.kd = 3) : askedF l = e.rf := by
  unfold canF at hc
  rw [if_neg (by omega), if_pos hk] at hc
  exact of_decide_eq_true hc
theorem can_tried {l : List Ev} {e : Ev} (hc : canF l e = true) (hk : e.kd = 7 ∨ e.kd = 8 ∨ e.kd = 9) : ∃ j ∈ jobsF l, j.id = e.rf ∧ j.ty = e.ty ∧ (e.kd = 7 ∨ (e.kd = 8 ∧ e.ty < triesF (prgL l).2 j) ∨ (e.kd = 9 ∧ e.ty = triesF (prgL l).2 j)) := by
  unfold canF at hc
  rw [if_neg (by omega), if_neg (by omega), if_neg (by omega), if_neg (by omega), if_pos hk] at hc
  unfold triedF at hc
  cases hf : (jobsF l).find? (fun j => decide (j.id = e.rf) && decide (j.ty = e.ty)) with
  | none => rw [hf] at hc; cases hc
  | some j =>
    rw [hf] at hc
    have h1 := List.find?_some hf
    simp only [Bool.and_eq_true, decide_eq_true_eq] at h1
    simp only [Bool.or_eq_true, Bool.and_eq_true, decide_eq_true_eq] at hc
    refine ⟨j, List.mem_of_find?_eq_some hf, h1.1, h1.2, ?_⟩
    rcases hc with (h | h) | h
    · exact .inl h
    · exact .inr (.inl h)
    · exact .inr (.inr h)
theorem can_fired {l : List Ev} {e : Ev} (hc : canF l e = true) (hk : e.kd = 11) : ∃ j ∈ clocksF l, j.id = e.rf := by
  unfold canF at hc
  rw [if_neg (by omega), if_neg (by omega), if_neg (by omega), if_neg (by omega), if_neg (by omega), if_neg (by omega), if_pos hk] at hc
  unfold firedF at hc
  cases hf : (clocksF l).find? (fun c => decide (c.id = e.rf)) with
  | none => rw [hf] at hc; cases hc
  | some c =>
    have h1 := List.find?_some hf
    exact ⟨c, List.mem_of_find?_eq_some hf, of_decide_eq_true h1⟩
/-- a history's last event came -/
theorem Hs.last {l : List Ev} {e : Ev} (h : Hs (l ++ [e])) : Hs l ∧ comesF l e = 0 := by
  generalize hL : l ++ [e] = L at h
  cases h with
  | nil => simp at hL
  | @snoc m f h1 h2 =>
    obtain ⟨rfl, h3⟩ := List.append_inj' hL rfl
    injection h3 with h3
    subst h3
    exact ⟨h1, h2⟩
theorem can_of {l : List Ev} {e : Ev} (hc : comesF l e = 0) (hk : e.kd ≠ 1) : EvP e ∧ l ≠ [] ∧ canF l e = true := by
  obtain ⟨h1, h2, h3, h4, h5⟩ := comes_evp hc
  have hl : l ≠ [] := fun q => hk (h4 q)
  exact ⟨h1, hl, h5 hl⟩
theorem ret_lt {l : List Ev} (h : Hs l) : ∀ x ∈ l, x.kd = 8 → x.ty < 1 + (retF l x.rf : Int) := by
  induction h with
  | nil => intro x hx; cases hx
  | @snoc l e hl hc ih =>
    intro x hx hk
    rw [ret_snoc]
    rcases List.mem_append.1 hx with hx | hx
    · have := ih x hx hk
      split <;> omega
    · rw [List.mem_singleton] at hx
      subst hx
      obtain ⟨-, -, hcan⟩ := can_of hc (by omega)
      obtain ⟨j, hj, h1, h2, -⟩ := can_tried hcan (by omega)
      obtain ⟨-, n, y, -, -, rfl, -⟩ := jobsF_at hj
      have e1 : ((n + 1 : Nat) : Int) = x.rf := h1
      have e2 : 1 + (retF l (n + 1 : Nat) : Int) = x.ty := h2
      have hr : retB x.rf x = true := by unfold retB; simp [hk]
      rw [if_pos hr, ← e1, ← e2]
      push_cast
      omega
def onceK (x : Ev) : Option (Int × Int × Int) := if x.kd = 4 ∨ x.kd = 5 then some (1, x.rf, 0) else if x.kd = 7 ∨ x.kd = 8 ∨ x.kd = 9 then some (2, x.rf, x.ty) else if x.kd = 11 ∨ x.kd = 3 then some (x.kd + 10, x.rf, 0) else none
theorem once_snoc {l : List Ev} {e : Ev} (h : Hs l) (hc : comesF l e = 0) {k : Int × Int × Int} (hk : onceK e = some k) : ∀ x ∈ l, onceK x ≠ some k := by
  intro x hx hxk
  have hke : e.kd = 4 ∨ e.kd = 5 ∨ e.kd = 7 ∨ e.kd = 8 ∨ e.kd = 9 ∨ e.kd = 11 ∨ e.kd = 3 := by
    unfold onceK at hk
    split at hk
    · omega
    · split at hk
      · omega
      · split at hk
        · omega
        · cases hk
  obtain ⟨hP, hl, hcan⟩ := can_of hc (by omega)
  have hr := evp_ref hP (by omega)
  have key : ∃ a b c : Int, k = (a, b, c) ∧ b = e.rf ∧ ((a = 1 ∧ (e.kd = 4 ∨ e.kd = 5)) ∨ (a = 2 ∧ c = e.ty ∧ (e.kd = 7 ∨ e.kd = 8 ∨ e.kd = 9)) ∨ (a = 21 ∧ e.kd = 11) ∨ (a = 13 ∧ e.kd = 3)) := by
    unfold onceK at hk
    split at hk
    · injection hk with hk
      exact ⟨1, e.rf, 0, hk.symm, rfl, by omega⟩
    · split at hk
      · injection hk with hk
        exact ⟨2, e.rf, e.ty, hk.symm, rfl, by omega⟩
      · split at hk
        · injection hk with hk
          exact ⟨_, e.rf, 0, hk.symm, rfl, by omega⟩
        · cases hk
  have keyx : ∃ a b c : Int, k = (a, b, c) ∧ b = x.rf ∧ ((a = 1 ∧ (x.kd = 4 ∨ x.kd = 5)) ∨ (a = 2 ∧ c = x.ty ∧ (x.kd = 7 ∨ x.kd = 8 ∨ x.kd = 9)) ∨ (a = 21 ∧ x.kd = 11) ∨ (a = 13 ∧ x.kd = 3)) := by
    unfold onceK at hxk
    split at hxk
    · injection hxk with hxk
      exact ⟨1, x.rf, 0, hxk.symm, rfl, by omega⟩
    · split at hxk
      · injection hxk with hxk
        exact ⟨2, x.rf, x.ty, hxk.symm, rfl, by omega⟩
      · split at hxk
        · injection hxk with hxk
          exact ⟨_, x.rf, 0, hxk.symm, rfl, by omega⟩
        · cases hxk
  obtain ⟨a, b, c, rfl, rfl, h1⟩ := key
  obtain ⟨a', b', c', q, h2, h3⟩ := keyx
  injection q with q1 q2
  injection q2 with q2 q3
  subst q1; subst q2; subst q3
  rcases h1 with ⟨rfl, hk1⟩ | ⟨rfl, h4, hk1⟩ | ⟨rfl, hk1⟩ | ⟨rfl, hk1⟩
  · have ht := can_taken hcan hk1
    obtain ⟨h5, -, -⟩ := taken_open (l := l) (by omega)
    have := ended_no h5 hx (by omega)
    omega
  · obtain ⟨j, hj, j1, j2, -⟩ := can_tried hcan hk1
    obtain ⟨-, n, y, -, -, rfl, hen⟩ := jobsF_at hj
    have e1 : ((n + 1 : Nat) : Int) = e.rf := j1
    have e2 : 1 + (retF l (n + 1 : Nat) : Int) = e.ty := j2
    have := ended_no hen hx (by omega)
    have hk8 : x.kd = 8 := by omega
    have := ret_lt h x hx hk8
    rw [← h2, ← e1] at this
    omega
  · obtain ⟨j, hj, j1⟩ := can_fired hcan hk1
    obtain ⟨-, n, y, -, -, rfl, hen⟩ := clocksF_at hj
    have e1 : ((n + 1 : Nat) : Int) = e.rf := j1
    have := ended_no hen hx (by omega)
    omega
  · have ht := can_asked hcan hk1
    obtain ⟨h5, -, -⟩ := asked_open (l := l) (by omega)
    have := ended_no h5 hx (by omega)
    omega
theorem Hs.at {l : List Ev} (h : Hs l) {k : Nat} (hk : k < l.length) : Hs (l.take k) ∧ comesF (l.take k) l[k] = 0 := by
  have := h.take (k + 1)
  rw [List.take_succ_eq_append_getElem hk] at this
  exact this.last
/-- behind an end there is nothing -/
theorem Hs.before {l : List Ev} (h : Hs l) {k : Nat} (hk : k + 1 < l.length) : (l[k]'(by omega)).kd < 15 := by
  obtain ⟨h1, h2⟩ := h.at hk
  obtain ⟨-, -, h3, -⟩ := comes_evp h2
  rw [List.take_succ_eq_append_getElem (show k < l.length by omega), status_snoc] at h3
  have h4 := (h.nth k _ (List.getElem?_eq_getElem (by omega))).1
  by_cases q : 15 ≤ (l[k]'(by omega)).kd
  · exact absurd h3 (codeF_pos ⟨q, h4.1.2⟩)
  · omega
theorem Hs.once {l : List Ev} (h : Hs l) {k : Nat} (hk : k < l.length) {v : Int × Int × Int} (hv : onceK l[k] = some v) : ∀ x ∈ l.take k, onceK x ≠ some v := by
  obtain ⟨h1, h2⟩ := h.at hk
  exact once_snoc h1 h2 hv
end Go.Proofs.Ytckpfcocbjfcbaa
