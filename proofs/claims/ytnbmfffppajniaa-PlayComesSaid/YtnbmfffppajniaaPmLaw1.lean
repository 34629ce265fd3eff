/- PLAIN: what is commanded can come. WALK of PlayComes. -/
import Derived.Test.YtnbmfffppajniaaPmP
import Derived.Test.YtnbmfffppajniaaPmN
import Derived.IntWalk
namespace Go.Proofs.Ytnbmfffppajniaa
open Go.RowKit
set_option linter.unusedVariables false

def kdC (c : Cmd) : Int := if c.1 = 1 then 6 else if c.1 = 2 then 10 else if c.1 = 3 then 15 else if c.1 = 4 then 16 else 17
def spC (c : Cmd) : Int := if c.1 = 1 ∨ c.1 = 2 then c.2.1 else 0
def udC (c : Cmd) : Bool := if c.1 = 1 then c.2.2 else false
theorem has_kd {ss : List St} {n : Nat} {k : Int} (hn : n < ss.length) (hk : kdN ss n = k) : hasKind ss (n : Int) k = true := by
  unfold hasKind
  unfold kdN at hk
  rw [List.getD_eq_getElem?_getD, List.getElem?_eq_getElem hn] at hk
  rw [Int.toNat_natCast, List.getElem?_eq_getElem hn]
  simpa using hk
theorem comes_next {l : List Ev} (hH : Hs l) (hl : l ≠ []) (h300 : l.length ≤ 300) (h0 : statusF l = 0) (ha : askedF l = 0) (ht : takenF l = 0) (h : Cf l []) {c : Cmd} {r : List Cmd} (hn : (nextF l).1 = c :: r) {tk : Int} (htk : 0 ≤ tk ∧ tk ≤ 1099511627776) :
    comesF l ((l.length : Int) + 1, kdC c, tk, 0, spC c, 0, udC c, []) = 0 := by
  rw [nextF_open hH hl h0] at hn
  have hne : nextC (prgL l).2 (crsF l) ≠ [] := by intro q; rw [q] at hn; cases hn
  have K := h.known hl
  obtain ⟨hj, hap⟩ := apt_next K.inv (hH.kinds hl) hne
  have h16 := (hH.prog hl).1
  have hid : 1 ≤ (l.length : Int) + 1 ∧ (l.length : Int) + 1 ≤ 500 := by omega
  have fin : ∀ x : Ev, EvP x → x.id = (l.length : Int) + 1 → canF l x = true → comesF l x = 0 := fun x h1 h2 h3 => by
    unfold comesF
    rw [if_neg (not_not_intro h1), if_neg hl, if_neg (not_not_intro h0), if_pos ⟨h2, h3⟩]
  rcases hap with ⟨n, e, a1, a2, -⟩ | ⟨n, e, a1, a2, -⟩ | ⟨n, e, a1, -⟩ | ⟨e, -⟩ | ⟨e, -⟩ | ⟨e, -⟩
  · rw [e] at hn; injection hn with hn; subst hn
    refine fin _ ?_ rfl ?_
    · exact ⟨(show (1 : Int) ≤ 6 ∧ (6 : Int) ≤ 18 by decide), hid, htk, rfl, (show (0 : Int) ≤ (n : Int) ∧ (n : Int) ≤ 15 by omega), rfl, (fun q => rfl), (show DataP 6 [] by decide)⟩
    · show (hasKind (prgL l).2 (n : Int) 1 && (!false || decide (undoOf (prgL l).2 (n : Int) ≠ []))) = true
      rw [has_kd a1 a2]; rfl
  · rw [e] at hn; injection hn with hn; subst hn
    refine fin _ ?_ rfl ?_
    · exact ⟨(show (1 : Int) ≤ 10 ∧ (10 : Int) ≤ 18 by decide), hid, htk, rfl, (show (0 : Int) ≤ (n : Int) ∧ (n : Int) ≤ 15 by omega), rfl, (fun q => by cases q), (show DataP 10 [] by decide)⟩
    · show hasKind (prgL l).2 (n : Int) 2 = true
      exact has_kd a1 a2
  · rw [e] at hn; injection hn with hn; subst hn
    obtain ⟨i, q, b1, b2, -, b3⟩ := K.inv.owed_nat a1
    have : n = i := by omega
    subst this
    refine fin _ ?_ rfl ?_
    · exact ⟨(show (1 : Int) ≤ 6 ∧ (6 : Int) ≤ 18 by decide), hid, htk, rfl, (show (0 : Int) ≤ (n : Int) ∧ (n : Int) ≤ 15 by omega), rfl, (fun q => rfl), (show DataP 6 [] by decide)⟩
    · show (hasKind (prgL l).2 (n : Int) 1 && (!true || decide (undoOf (prgL l).2 (n : Int) ≠ []))) = true
      rw [has_kd b1 b2]; simp [b3]
  all_goals
    rw [e] at hn; injection hn with hn; subst hn
    refine fin _ ?_ rfl ?_
    · first | exact ⟨(show (1 : Int) ≤ 15 ∧ (15 : Int) ≤ 18 by decide), hid, htk, rfl, rfl, rfl, (fun q => by cases q), (show DataP 15 [] by decide)⟩ | exact ⟨(show (1 : Int) ≤ 16 ∧ (16 : Int) ≤ 18 by decide), hid, htk, rfl, rfl, rfl, (fun q => by cases q), (show DataP 16 [] by decide)⟩ | exact ⟨(show (1 : Int) ≤ 17 ∧ (17 : Int) ≤ 18 by decide), hid, htk, rfl, rfl, rfl, (fun q => by cases q), (show DataP 17 [] by decide)⟩
    · show (decide (askedF l = 0) && decide (takenF l = 0) && decide ((jobsF l).length = 0)) = true
      rw [ha, ht, hj]; rfl
/-- a history that is none of its program's is wrong behind its beginning -/
theorem chkG_pos : ∀ (r L : List Ev) (i : Nat) (w : List Cmd), 0 < i → 0 < L.length → (chkG L i w r).1 = 0 → (chkG L i w r).2 = 0
  | [], L, i, w, hi, hL, h => by
    unfold chkG at h ⊢
    split
    · rename_i q
      rw [if_pos q] at h
      have : (L.length : Int) = 0 := h
      omega
    · rfl
  | e :: r, L, i, w, hi, hL, h => by
    unfold chkG at h ⊢
    split
    · rename_i c hc
      rw [hc] at h
      simp only at h
      split
      · rename_i q
        rw [if_pos q] at h
        have : (i : Int) = 0 := h
        omega
      · rename_i q
        rw [if_neg q] at h
        exact chkG_pos r L _ _ (by omega) hL h
    · rename_i hc
      rw [hc] at h
      simp only at h
      split
      · rename_i q
        rw [if_pos q] at h
        have : (i : Int) = 0 := h
        omega
      · rename_i q
        rw [if_neg q] at h
        exact chkG_pos r L _ _ (by omega) hL h
theorem check_zero {l : List Ev} (h : Hs l) (hl : l ≠ []) (h0 : (checkF l).1 = 0) : (checkF l).2 = 0 := by
  rw [check_hs h hl] at h0 ⊢
  cases l with
  | nil => exact absurd rfl hl
  | cons e r =>
    have h1 := h.take 1
    rw [List.take_succ_cons, List.take_zero] at h1
    have hk : e.kd = 1 := by
      have := Hs.last (l := []) (e := e) h1
      exact (comes_evp this.2).2.2.2.1 rfl
    have hm : meantF e = none := by
      unfold meantF
      rw [if_neg (by omega), if_neg (by omega), if_neg (by omega), if_neg (by omega), if_neg (by omega)]
    unfold chkG at h0 ⊢
    rw [hm] at h0 ⊢
    simp only [ne_eq, not_true, if_false] at h0 ⊢
    exact chkG_pos r _ _ _ (by omega) (by simp) h0
end Go.Proofs.Ytnbmfffppajniaa
namespace Go.Proofs.Ytnbmfffppajniaa
open Go.RowKit
set_option linter.unusedVariables false
set_option linter.unusedSimpArgs false

set_option maxHeartbeats 8000000 in
set_option maxRecDepth 100000 in
theorem revent_any (ck ci : Int) (cu : Bool) (w : World) :
    Calls Try.prog 21 #[.agg #[.int .i64 ck, .int .i64 ci, .bool cu]] w fun e w' => e = .returned (.agg #[.int .i64 0, .int .i64 (kdC (ck, ci, cu)), .int .i64 0, .int .i64 0, .int .i64 (spC (ck, ci, cu)), .int .i64 0, .bool (udC (ck, ci, cu)), .string ⟨#[]⟩]) ∧ Below w.heap.size w w' := by
  by_cases k1 : ck = 1
  · subst k1
    have HR := hid (show kdC (1, ci, cu) = 6 ∧ spC (1, ci, cu) = ci ∧ udC (1, ci, cu) = cu from ⟨rfl, rfl, rfl⟩)
    have HB := hid (((Below.refl w.heap.size w).alloc (Nat.le_refl _) (.cells #[.int .i64 1, .int .i64 ci, .bool cu] 50)).alloc (by rw [World.size_alloc]; omega) (.cells #[.int .i64 0, .int .i64 6, .int .i64 0, .int .i64 0, .int .i64 ci, .int .i64 0, .bool cu, .string ⟨#[]⟩] 23))
    go_enter Try.func21, Try.ntmps21
    go_wp2_with fail
    refine bodyPost_ret (v := .agg #[.int .i64 0, .int .i64 6, .int .i64 0, .int .i64 0, .int .i64 ci, .int .i64 0, .bool cu, .string ⟨#[]⟩]) ?_ rfl ⟨(by rw [HR.out.1, HR.out.2.1, HR.out.2.2]), HB.out⟩
    rw [results_cell1 rfl]
    go_simp
    try rfl
  by_cases k2 : ck = 2
  · subst k2
    have HR := hid (show kdC (2, ci, cu) = 10 ∧ spC (2, ci, cu) = ci ∧ udC (2, ci, cu) = false from ⟨rfl, rfl, rfl⟩)
    have HB := hid (((Below.refl w.heap.size w).alloc (Nat.le_refl _) (.cells #[.int .i64 2, .int .i64 ci, .bool cu] 50)).alloc (by rw [World.size_alloc]; omega) (.cells #[.int .i64 0, .int .i64 10, .int .i64 0, .int .i64 0, .int .i64 ci, .int .i64 0, .bool false, .string ⟨#[]⟩] 23))
    go_enter Try.func21, Try.ntmps21
    go_wp2_with fail
    refine bodyPost_ret (v := .agg #[.int .i64 0, .int .i64 10, .int .i64 0, .int .i64 0, .int .i64 ci, .int .i64 0, .bool false, .string ⟨#[]⟩]) ?_ rfl ⟨(by rw [HR.out.1, HR.out.2.1, HR.out.2.2]), HB.out⟩
    rw [results_cell1 rfl]
    go_simp
    try rfl
  by_cases k3 : ck = 3
  · subst k3
    have HR := hid (show kdC (3, ci, cu) = 15 ∧ spC (3, ci, cu) = 0 ∧ udC (3, ci, cu) = false from ⟨rfl, rfl, rfl⟩)
    have HB := hid (((Below.refl w.heap.size w).alloc (Nat.le_refl _) (.cells #[.int .i64 3, .int .i64 ci, .bool cu] 50)).alloc (by rw [World.size_alloc]; omega) (.cells #[.int .i64 0, .int .i64 15, .int .i64 0, .int .i64 0, .int .i64 0, .int .i64 0, .bool false, .string ⟨#[]⟩] 23))
    go_enter Try.func21, Try.ntmps21
    go_wp2_with fail
    refine bodyPost_ret (v := .agg #[.int .i64 0, .int .i64 15, .int .i64 0, .int .i64 0, .int .i64 0, .int .i64 0, .bool false, .string ⟨#[]⟩]) ?_ rfl ⟨(by rw [HR.out.1, HR.out.2.1, HR.out.2.2]), HB.out⟩
    rw [results_cell1 rfl]
    go_simp
    try rfl
  by_cases k4 : ck = 4
  · subst k4
    have HR := hid (show kdC (4, ci, cu) = 16 ∧ spC (4, ci, cu) = 0 ∧ udC (4, ci, cu) = false from ⟨rfl, rfl, rfl⟩)
    have HB := hid (((Below.refl w.heap.size w).alloc (Nat.le_refl _) (.cells #[.int .i64 4, .int .i64 ci, .bool cu] 50)).alloc (by rw [World.size_alloc]; omega) (.cells #[.int .i64 0, .int .i64 16, .int .i64 0, .int .i64 0, .int .i64 0, .int .i64 0, .bool false, .string ⟨#[]⟩] 23))
    go_enter Try.func21, Try.ntmps21
    go_wp2_with fail
    refine bodyPost_ret (v := .agg #[.int .i64 0, .int .i64 16, .int .i64 0, .int .i64 0, .int .i64 0, .int .i64 0, .bool false, .string ⟨#[]⟩]) ?_ rfl ⟨(by rw [HR.out.1, HR.out.2.1, HR.out.2.2]), HB.out⟩
    rw [results_cell1 rfl]
    go_simp
    try rfl
  have e1 : (ck == 1) = false := by simpa using k1
  have e2 : (ck == 2) = false := by simpa using k2
  have e3 : (ck == 3) = false := by simpa using k3
  have e4 : (ck == 4) = false := by simpa using k4
  have HR := hid (show kdC (ck, ci, cu) = 17 ∧ spC (ck, ci, cu) = 0 ∧ udC (ck, ci, cu) = false from ⟨by unfold kdC; simp [k1, k2, k3, k4], by unfold spC; simp [k1, k2], by unfold udC; simp [k1]⟩)
  clear k1 k2 k3 k4
  have HB := hid (((Below.refl w.heap.size w).alloc (Nat.le_refl _) (.cells #[.int .i64 ck, .int .i64 ci, .bool cu] 50)).alloc (by rw [World.size_alloc]; omega) (.cells #[.int .i64 0, .int .i64 17, .int .i64 0, .int .i64 0, .int .i64 0, .int .i64 0, .bool false, .string ⟨#[]⟩] 23))
  go_enter Try.func21, Try.ntmps21
  go_wp2_with fail
  refine bodyPost_ret (v := .agg #[.int .i64 0, .int .i64 17, .int .i64 0, .int .i64 0, .int .i64 0, .int .i64 0, .bool false, .string ⟨#[]⟩]) ?_ rfl ⟨(by rw [HR.out.1, HR.out.2.1, HR.out.2.2]), HB.out⟩
  rw [results_cell1 rfl]
  go_simp
  try rfl
set_option maxHeartbeats 64000000 in
set_option maxRecDepth 100000 in
theorem playComes_b (a : Option Addr) (c : Nat) (l : List Ev) (w : World) (hs : Sl w (.slice a l.length c) 8 l.length (l.flatMap evc)) (hcap : l.length ≤ c) (hfit : FitE l) :
    Calls Try.prog 5 #[.slice a l.length c] w fun e w' => e = .returned (.bool true) ∧ Below w.heap.size w w' := by
  have hm : l.length ≤ 9223372036854775807 := hs.2.1.1
  go_enter Try.func5, Try.ntmps5
  go_wp2_with fail
  refine (pawake_any w).mono ?_
  rintro _ w1 ⟨rfl, b1⟩
  have hs1 := hs.below b1
  go_wp2_with fail
  refine (build_any a c l w1 hs1 hfit).mono ?_
  rintro _ w2 ⟨va, ua, ca, vc, uc, cc, rfl, hst, b2⟩
  have b02 := bnext b1 b2
  have hs2 := hs1.below b2
  have HBA := hid (fun (R : Array Value) => bnext b02 ((Below.refl w2.heap.size w2).alloc (Nat.le_refl _) (.cells R 36)))
  by_cases hf0 : (rbuildF l).2.2 = 0
  case neg =>
    have hq : ((rbuildF l).2.2 == 0) = false := by simpa using hf0
    have hq' : ((rbuildF l).2.2 != 0) = true := by simpa using hf0
    clear hf0 hst hs hs1 hs2 b1 b2 b02
    generalize (rbuildF l).2.2 = e9 at *
    generalize (rbuildF l).2.1 = i9 at *
    generalize (rbuildF l).1 = s9 at *
    rw [show staV s9 (.slice va s9.ss.length vc) (.slice ua s9.jobs.length uc) (.slice ca s9.clocks.length cc) = .agg #[.slice va s9.ss.length vc, .int .i64 s9.lim, .int .i64 s9.status, .int .i64 s9.next, .int .i64 s9.began, .int .i64 s9.asked, .int .i64 s9.taken, .bool s9.fresh, .slice ua s9.jobs.length uc, .slice ca s9.clocks.length cc, .bool s9.cancel, .bool s9.overdue] from rfl]
    go_wp2_with fail
    go_ret
    exact ⟨rfl, HBA.out _⟩
  obtain ⟨hH, hrb⟩ := rbP_ok hf0
  have h500 := hH.short
  rw [hrb] at hst ⊢
  simp only at hst ⊢
  by_cases hl0 : l.length = 0
  · have hl1 : ((l.length : Int) == 0) = true := by simp [hl0]
    clear hf0 hst hs hs1 hs2 b1 b2 b02 hrb hH
    generalize stOf l = s9 at *
    rw [show staV s9 (.slice va s9.ss.length vc) (.slice ua s9.jobs.length uc) (.slice ca s9.clocks.length cc) = .agg #[.slice va s9.ss.length vc, .int .i64 s9.lim, .int .i64 s9.status, .int .i64 s9.next, .int .i64 s9.began, .int .i64 s9.asked, .int .i64 s9.taken, .bool s9.fresh, .slice ua s9.jobs.length uc, .slice ca s9.clocks.length cc, .bool s9.cancel, .bool s9.overdue] from rfl]
    go_wp2_with fail
    go_ret
    exact ⟨rfl, HBA.out _⟩
  have hl : l ≠ [] := fun q => hl0 (by rw [q]; rfl)
  have hl1 : ((l.length : Int) == 0) = false := by simpa using hl0
  have hlp : (0 : Int) < (l.length : Int) := by omega
  by_cases h300 : 300 < l.length
  · have hq : (300 : Int) < (l.length : Int) := by omega
    clear hf0 hst hs hs1 hs2 b1 b2 b02 hrb hH
    generalize stOf l = s9 at *
    rw [show staV s9 (.slice va s9.ss.length vc) (.slice ua s9.jobs.length uc) (.slice ca s9.clocks.length cc) = .agg #[.slice va s9.ss.length vc, .int .i64 s9.lim, .int .i64 s9.status, .int .i64 s9.next, .int .i64 s9.began, .int .i64 s9.asked, .int .i64 s9.taken, .bool s9.fresh, .slice ua s9.jobs.length uc, .slice ca s9.clocks.length cc, .bool s9.cancel, .bool s9.overdue] from rfl]
    go_wp2_with fail
    go_ret
    exact ⟨rfl, HBA.out _⟩
  have h3 : (l.length : Int) ≤ 300 := by omega
  obtain ⟨s, hsq⟩ : ∃ s, s = stOf l := ⟨_, rfl⟩
  have hsv := hsq
  rw [stOf_ne hl] at hsv
  have hsok := hH.sok
  rw [← hsq] at hst hsok ⊢
  have HAP := hid (fun x => hsq ▸ hH.apply x)
  obtain ⟨ss, lim, st, nx, bg, ak, tn, fr, js, cs, cn, ov⟩ := s
  simp only [Sta.mk.injEq] at hsv
  obtain ⟨-, -, hstat, hnx, -, hak, htn, -⟩ := hsv
  rw [show staV ⟨ss, lim, st, nx, bg, ak, tn, fr, js, cs, cn, ov⟩ (.slice va (⟨ss, lim, st, nx, bg, ak, tn, fr, js, cs, cn, ov⟩ : Sta).ss.length vc) (.slice ua (⟨ss, lim, st, nx, bg, ak, tn, fr, js, cs, cn, ov⟩ : Sta).jobs.length uc) (.slice ca (⟨ss, lim, st, nx, bg, ak, tn, fr, js, cs, cn, ov⟩ : Sta).clocks.length cc) = .agg #[.slice va ss.length vc, .int .i64 lim, .int .i64 st, .int .i64 nx, .int .i64 bg, .int .i64 ak, .int .i64 tn, .bool fr, .slice ua js.length uc, .slice ca cs.length cc, .bool cn, .bool ov] from rfl]
  have b3 : Below w2.heap.size w2 (w2.alloc (.cells #[.slice va ss.length vc, .int .i64 lim, .int .i64 st, .int .i64 nx, .int .i64 bg, .int .i64 ak, .int .i64 tn, .bool fr, .slice ua js.length uc, .slice ca cs.length cc, .bool cn, .bool ov] 36)) := (Below.refl _ _).alloc (Nat.le_refl _) _
  have hx3 : (w2.alloc (.cells #[.slice va ss.length vc, .int .i64 lim, .int .i64 st, .int .i64 nx, .int .i64 bg, .int .i64 ak, .int .i64 tn, .bool fr, .slice ua js.length uc, .slice ca cs.length cc, .bool cn, .bool ov] 36)).heap[w2.heap.size]? = some (.cells #[.slice va ss.length vc, .int .i64 lim, .int .i64 st, .int .i64 nx, .int .i64 bg, .int .i64 ak, .int .i64 tn, .bool fr, .slice ua js.length uc, .slice ca cs.length cc, .bool cn, .bool ov] 36 (0, 0)) := heap_alloc_new w2 _
  have b03 := bnext b02 b3
  have hs3 := hs2.below b3
  have hst3 := hst.new b3
  have x0 : (w2.alloc (.cells #[.slice va ss.length vc, .int .i64 lim, .int .i64 st, .int .i64 nx, .int .i64 bg, .int .i64 ak, .int .i64 tn, .bool fr, .slice ua js.length uc, .slice ca cs.length cc, .bool cn, .bool ov] 36)).cell? ⟨w2.heap.size, 0, none⟩ = some (.slice va ss.length vc) := by rw [cell_of_row _ _ 0 _ _ (0, 0) hx3]; rfl
  have x1 : (w2.alloc (.cells #[.slice va ss.length vc, .int .i64 lim, .int .i64 st, .int .i64 nx, .int .i64 bg, .int .i64 ak, .int .i64 tn, .bool fr, .slice ua js.length uc, .slice ca cs.length cc, .bool cn, .bool ov] 36)).cell? ⟨w2.heap.size, 1, none⟩ = some (.int .i64 lim) := by rw [cell_of_row _ _ 1 _ _ (0, 0) hx3]; rfl
  have x2 : (w2.alloc (.cells #[.slice va ss.length vc, .int .i64 lim, .int .i64 st, .int .i64 nx, .int .i64 bg, .int .i64 ak, .int .i64 tn, .bool fr, .slice ua js.length uc, .slice ca cs.length cc, .bool cn, .bool ov] 36)).cell? ⟨w2.heap.size, 2, none⟩ = some (.int .i64 st) := by rw [cell_of_row _ _ 2 _ _ (0, 0) hx3]; rfl
  have x3 : (w2.alloc (.cells #[.slice va ss.length vc, .int .i64 lim, .int .i64 st, .int .i64 nx, .int .i64 bg, .int .i64 ak, .int .i64 tn, .bool fr, .slice ua js.length uc, .slice ca cs.length cc, .bool cn, .bool ov] 36)).cell? ⟨w2.heap.size, 3, none⟩ = some (.int .i64 nx) := by rw [cell_of_row _ _ 3 _ _ (0, 0) hx3]; rfl
  have x4 : (w2.alloc (.cells #[.slice va ss.length vc, .int .i64 lim, .int .i64 st, .int .i64 nx, .int .i64 bg, .int .i64 ak, .int .i64 tn, .bool fr, .slice ua js.length uc, .slice ca cs.length cc, .bool cn, .bool ov] 36)).cell? ⟨w2.heap.size, 4, none⟩ = some (.int .i64 bg) := by rw [cell_of_row _ _ 4 _ _ (0, 0) hx3]; rfl
  have x5 : (w2.alloc (.cells #[.slice va ss.length vc, .int .i64 lim, .int .i64 st, .int .i64 nx, .int .i64 bg, .int .i64 ak, .int .i64 tn, .bool fr, .slice ua js.length uc, .slice ca cs.length cc, .bool cn, .bool ov] 36)).cell? ⟨w2.heap.size, 5, none⟩ = some (.int .i64 ak) := by rw [cell_of_row _ _ 5 _ _ (0, 0) hx3]; rfl
  have x6 : (w2.alloc (.cells #[.slice va ss.length vc, .int .i64 lim, .int .i64 st, .int .i64 nx, .int .i64 bg, .int .i64 ak, .int .i64 tn, .bool fr, .slice ua js.length uc, .slice ca cs.length cc, .bool cn, .bool ov] 36)).cell? ⟨w2.heap.size, 6, none⟩ = some (.int .i64 tn) := by rw [cell_of_row _ _ 6 _ _ (0, 0) hx3]; rfl
  have x7 : (w2.alloc (.cells #[.slice va ss.length vc, .int .i64 lim, .int .i64 st, .int .i64 nx, .int .i64 bg, .int .i64 ak, .int .i64 tn, .bool fr, .slice ua js.length uc, .slice ca cs.length cc, .bool cn, .bool ov] 36)).cell? ⟨w2.heap.size, 7, none⟩ = some (.bool fr) := by rw [cell_of_row _ _ 7 _ _ (0, 0) hx3]; rfl
  have x8 : (w2.alloc (.cells #[.slice va ss.length vc, .int .i64 lim, .int .i64 st, .int .i64 nx, .int .i64 bg, .int .i64 ak, .int .i64 tn, .bool fr, .slice ua js.length uc, .slice ca cs.length cc, .bool cn, .bool ov] 36)).cell? ⟨w2.heap.size, 8, none⟩ = some (.slice ua js.length uc) := by rw [cell_of_row _ _ 8 _ _ (0, 0) hx3]; rfl
  have x9 : (w2.alloc (.cells #[.slice va ss.length vc, .int .i64 lim, .int .i64 st, .int .i64 nx, .int .i64 bg, .int .i64 ak, .int .i64 tn, .bool fr, .slice ua js.length uc, .slice ca cs.length cc, .bool cn, .bool ov] 36)).cell? ⟨w2.heap.size, 9, none⟩ = some (.slice ca cs.length cc) := by rw [cell_of_row _ _ 9 _ _ (0, 0) hx3]; rfl
  have x10 : (w2.alloc (.cells #[.slice va ss.length vc, .int .i64 lim, .int .i64 st, .int .i64 nx, .int .i64 bg, .int .i64 ak, .int .i64 tn, .bool fr, .slice ua js.length uc, .slice ca cs.length cc, .bool cn, .bool ov] 36)).cell? ⟨w2.heap.size, 10, none⟩ = some (.bool cn) := by rw [cell_of_row _ _ 10 _ _ (0, 0) hx3]; rfl
  have x11 : (w2.alloc (.cells #[.slice va ss.length vc, .int .i64 lim, .int .i64 st, .int .i64 nx, .int .i64 bg, .int .i64 ak, .int .i64 tn, .bool fr, .slice ua js.length uc, .slice ca cs.length cc, .bool cn, .bool ov] 36)).cell? ⟨w2.heap.size, 11, none⟩ = some (.bool ov) := by rw [cell_of_row _ _ 11 _ _ (0, 0) hx3]; rfl
  have HSV := hid (show st = statusF l ∧ nx = (l.length : Int) + 1 ∧ ak = askedF l ∧ tn = takenF l from ⟨hstat, by rw [hnx], hak, htn⟩)
  have HX3 := hid hx3
  have HS3 := hid hs3
  have HST := hid hst3
  have HB := hid b03
  have HH := hid hH
  have HL := hid hl
  have HOK := hid hsok
  clear hf0 hst hs hs1 hs2 b1 b2 b02 hrb hH HBA hsq b3 hx3 b03 hs3 hst3 hl hl0 hsok hstat hnx hak htn
  by_cases hst0 : st = 0
  case neg =>
    have hq : (st == 0) = false := by simpa using hst0
    have hq' : (st != 0) = true := by simpa using hst0
    clear hst0
    go_wp2_with fail
    go_ret
    exact ⟨rfl, HB.out⟩
  subst hst0
  by_cases hak0 : ak = 0
  case neg =>
    have hq : (ak == 0) = false := by simpa using hak0
    have hq' : (ak != 0) = true := by simpa using hak0
    clear hak0
    go_wp2_with fail
    go_ret
    exact ⟨rfl, HB.out⟩
  subst hak0
  by_cases htn0 : tn = 0
  case neg =>
    have hq : (tn == 0) = false := by simpa using htn0
    have hq' : (tn != 0) = true := by simpa using htn0
    clear htn0
    go_wp2_with fail
    go_ret
    exact ⟨rfl, HB.out⟩
  subst htn0
  have HNX := hid (next_any a c l _ HS3.out hfit)
  clear x0 x1 x3 x4 x7 x8 x9 x10 x11
  go_wp2_with fail
  refine HNX.out.mono ?_
  rintro _ w4 ⟨v4, rfl, hO4, b4⟩
  have hn2 : (nextF l).2 = 0 := by rw [nextF_open HH.out HL.out HSV.out.1.symm]
  rw [hn2]
  have hx4 := (b4.block _ (Array.getElem?_eq_some_iff.1 HX3.out).1).trans HX3.out
  have hs4 := HS3.out.below b4
  have hst4 := HST.out.new b4
  have hW4 := hO4.want (nextF_len _)
  have hb4 := HB.out.trans (b4.mono HB.out.size)
  obtain ⟨a4, c4, rfl, hl4, hwx⟩ := hW4
  cases hnq : (nextF l).1 with
  | nil =>
    have HBF := hid hb4
    clear hx4 hs4 hst4 hb4 b4 hO4 hwx hnq hl4 hn2
    rw [show ([] : List Cmd).length = 0 from rfl]
    go_wp2_with fail
    go_ret
    exact ⟨rfl, HBF.out⟩
  | cons q r =>
  have hr : r = [] := by
    rw [hnq, List.length_cons] at hl4
    exact List.eq_nil_of_length_eq_zero (by omega)
  subst hr
  obtain ⟨ck, ci, cu⟩ := q
  obtain ⟨g4, rfl, hg4, hc4, z0, z1, z2'⟩ := hwx _ hnq
  rw [show [((ck, ci, cu) : Cmd)].length = 1 from rfl]
  simp only at z0 z1 z2'
  have HNQ := hid hnq
  have HB4 := hid hb4
  have HX4 := hid hx4
  have HS4 := hid hs4
  have HST4 := hid hst4
  have HZ := hid (And.intro z0 (And.intro z1 z2'))
  have HG4 := hid hg4
  have HCK := hid (plcheck_any a c l w4 hs4 hfit hcap)
  clear hb4 hx4 hs4 hst4 z0 z1 z2' hg4 hnq hn2 hwx hO4 b4 hl4 x2 x5 x6
  go_wp2_with fail
  refine HCK.out.mono ?_
  rintro _ w5 ⟨rfl, b5⟩
  clear HCK
  have hb5 := HB4.out.trans (b5.mono HB4.out.size)
  by_cases hi : (checkF l).1 = 0
  case neg =>
    have hq : ((checkF l).1 == 0) = false := by simpa using hi
    have hq' : ((checkF l).1 != 0) = true := by simpa using hi
    have HBF := hid hb5
    clear hi b5 hb5
    generalize (checkF l).1 = i8 at *
    generalize (checkF l).2 = e8 at *
    go_wp2_with fail
    go_ret
    exact ⟨rfl, HBF.out⟩
  have hcz := check_zero HH.out HL.out hi
  rw [hi, hcz]
  obtain ⟨-, hcf⟩ := check_ok.1 hcz
  have z0 := (b5.cell (p := ⟨g4, 0, none⟩) HG4.out).trans HZ.out.1
  have z1 := (b5.cell (p := ⟨g4, 1, none⟩) HG4.out).trans HZ.out.2.1
  have z2' := (b5.cell (p := ⟨g4, 2, none⟩) HG4.out).trans HZ.out.2.2
  have hx5 := (b5.block _ (Array.getElem?_eq_some_iff.1 HX4.out).1).trans HX4.out
  have hs5 := HS4.out.below b5
  have hst5 := HST4.out.new b5
  have HCF := hid hcf
  have HB5 := hid hb5
  have HX5 := hid hx5
  have HS5 := hid hs5
  have HST5 := hid hst5
  clear hi hcz hcf hx5 hs5 hst5 hb5 b5 HX4 HS4 HST4 HB4 HZ HG4
  go_wp2_with fail
  refine (revent_any ck ci cu w5).mono ?_
  rintro _ w6 ⟨rfl, b6⟩
  obtain ⟨kd, hkd⟩ : ∃ x, x = kdC (ck, ci, cu) := ⟨_, rfl⟩
  obtain ⟨sp, hsp⟩ : ∃ x, x = spC (ck, ci, cu) := ⟨_, rfl⟩
  obtain ⟨ud, hud⟩ : ∃ x, x = udC (ck, ci, cu) := ⟨_, rfl⟩
  rw [← hkd, ← hsp, ← hud]
  have HKD := hid (And.intro hkd (And.intro hsp hud))
  have b7 : Below w6.heap.size w6 (w6.alloc (.cells #[.int .i64 0, .int .i64 kd, .int .i64 0, .int .i64 0, .int .i64 sp, .int .i64 0, .bool ud, .string ⟨#[]⟩] 23)) := (Below.refl _ _).alloc (Nat.le_refl _) _
  have hx7 : (w6.alloc (.cells #[.int .i64 0, .int .i64 kd, .int .i64 0, .int .i64 0, .int .i64 sp, .int .i64 0, .bool ud, .string ⟨#[]⟩] 23)).heap[w6.heap.size]? = some (.cells #[.int .i64 0, .int .i64 kd, .int .i64 0, .int .i64 0, .int .i64 sp, .int .i64 0, .bool ud, .string ⟨#[]⟩] 23 (0, 0)) := heap_alloc_new w6 _
  have b57 := bnext b6 b7
  obtain ⟨_, _, a', cap, hv, hc⟩ := HS5.out
  rw [Value.slice.injEq] at hv
  obtain ⟨rfl, -, rfl⟩ := hv
  obtain ⟨b, off, rfl, hblt, hc⟩ := hc.resolve_left (by omega)
  obtain ⟨K, hK⟩ : ∃ K, l.length = K + 1 := ⟨l.length - 1, by omega⟩
  have hKl : K < l.length := by omega
  have hKI : (l.length : Int) - 1 = (K : Int) := by omega
  have cl := (b57.cell (p := ⟨b, off + K * 8 + 2, none⟩) hblt).trans (ev_cell hc K 2 (by decide) hKl _ rfl : w5.cell? ⟨b, off + K * 8 + 2, none⟩ = some (.int .i64 (l[K]).2.2.1))
  have hnth := HH.out.nth K _ (List.getElem?_eq_getElem hKl)
  obtain ⟨tk, htk⟩ : ∃ x, x = (l[K]).2.2.1 := ⟨_, rfl⟩
  rw [← htk] at cl
  have cl6 : w6.cell? ⟨b, off + K * 8 + 2, none⟩ = some (.int .i64 tk) := (b6.cell (p := ⟨b, off + K * 8 + 2, none⟩) hblt).trans ((ev_cell hc K 2 (by decide) hKl _ rfl).trans (by rw [htk]))
  have x36 : w6.cell? ⟨w2.heap.size, 3, none⟩ = some (.int .i64 nx) := by
    have hx := (b6.block _ (Array.getElem?_eq_some_iff.1 HX5.out).1).trans HX5.out
    rw [cell_of_row _ _ 3 _ _ (0, 0) hx]; rfl
  have htb : 0 ≤ tk ∧ tk ≤ 1099511627776 := by rw [htk]; exact hnth.1.2.2.1
  have HTB := hid htb
  have x3 : (w6.alloc (.cells #[.int .i64 0, .int .i64 kd, .int .i64 0, .int .i64 0, .int .i64 sp, .int .i64 0, .bool ud, .string ⟨#[]⟩] 23)).cell? ⟨w2.heap.size, 3, none⟩ = some (.int .i64 nx) := by
    have hx := (b57.block _ (Array.getElem?_eq_some_iff.1 HX5.out).1).trans HX5.out
    rw [cell_of_row _ _ 3 _ _ (0, 0) hx]; rfl
  have hgx : w2.heap.size < w6.heap.size := Nat.lt_of_lt_of_le (Array.getElem?_eq_some_iff.1 HX5.out).1 b6.size
  have hgb : b < w6.heap.size := Nat.lt_of_lt_of_le hblt b6.size
  clear z0 z1 z2' hkd hsp hud hc hnth htk htb
  go_wp2_with fail
  go_region
  have b8 : Below w6.heap.size w6 ((w6.alloc (.cells #[.int .i64 nx, .int .i64 kd, .int .i64 tk, .int .i64 0, .int .i64 sp, .int .i64 0, .bool ud, .string ⟨#[]⟩] 23))).drew := ((Below.refl _ _).alloc (Nat.le_refl _) _).trans (below_drewN _ _ 1)
  have b58 := bnext b6 b8
  have hy8 : ((w6.alloc (.cells #[.int .i64 nx, .int .i64 kd, .int .i64 tk, .int .i64 0, .int .i64 sp, .int .i64 0, .bool ud, .string ⟨#[]⟩] 23))).drew.heap[w6.heap.size]? = some (.cells #[.int .i64 nx, .int .i64 kd, .int .i64 tk, .int .i64 0, .int .i64 sp, .int .i64 0, .bool ud, .string ⟨#[]⟩] 23 (0, 0)) := heap_alloc_new w6 _
  have hx8 := (b58.block _ (Array.getElem?_eq_some_iff.1 HX5.out).1).trans HX5.out
  have s0 : ((w6.alloc (.cells #[.int .i64 nx, .int .i64 kd, .int .i64 tk, .int .i64 0, .int .i64 sp, .int .i64 0, .bool ud, .string ⟨#[]⟩] 23))).drew.cell? ⟨w2.heap.size, 0, none⟩ = some (.slice va ss.length vc) := by rw [cell_of_row _ _ 0 _ _ (0, 0) hx8]; rfl
  have s1 : ((w6.alloc (.cells #[.int .i64 nx, .int .i64 kd, .int .i64 tk, .int .i64 0, .int .i64 sp, .int .i64 0, .bool ud, .string ⟨#[]⟩] 23))).drew.cell? ⟨w2.heap.size, 1, none⟩ = some (.int .i64 lim) := by rw [cell_of_row _ _ 1 _ _ (0, 0) hx8]; rfl
  have s2 : ((w6.alloc (.cells #[.int .i64 nx, .int .i64 kd, .int .i64 tk, .int .i64 0, .int .i64 sp, .int .i64 0, .bool ud, .string ⟨#[]⟩] 23))).drew.cell? ⟨w2.heap.size, 2, none⟩ = some (.int .i64 0) := by rw [cell_of_row _ _ 2 _ _ (0, 0) hx8]; rfl
  have s3 : ((w6.alloc (.cells #[.int .i64 nx, .int .i64 kd, .int .i64 tk, .int .i64 0, .int .i64 sp, .int .i64 0, .bool ud, .string ⟨#[]⟩] 23))).drew.cell? ⟨w2.heap.size, 3, none⟩ = some (.int .i64 nx) := by rw [cell_of_row _ _ 3 _ _ (0, 0) hx8]; rfl
  have s4 : ((w6.alloc (.cells #[.int .i64 nx, .int .i64 kd, .int .i64 tk, .int .i64 0, .int .i64 sp, .int .i64 0, .bool ud, .string ⟨#[]⟩] 23))).drew.cell? ⟨w2.heap.size, 4, none⟩ = some (.int .i64 bg) := by rw [cell_of_row _ _ 4 _ _ (0, 0) hx8]; rfl
  have s5 : ((w6.alloc (.cells #[.int .i64 nx, .int .i64 kd, .int .i64 tk, .int .i64 0, .int .i64 sp, .int .i64 0, .bool ud, .string ⟨#[]⟩] 23))).drew.cell? ⟨w2.heap.size, 5, none⟩ = some (.int .i64 0) := by rw [cell_of_row _ _ 5 _ _ (0, 0) hx8]; rfl
  have s6 : ((w6.alloc (.cells #[.int .i64 nx, .int .i64 kd, .int .i64 tk, .int .i64 0, .int .i64 sp, .int .i64 0, .bool ud, .string ⟨#[]⟩] 23))).drew.cell? ⟨w2.heap.size, 6, none⟩ = some (.int .i64 0) := by rw [cell_of_row _ _ 6 _ _ (0, 0) hx8]; rfl
  have s7 : ((w6.alloc (.cells #[.int .i64 nx, .int .i64 kd, .int .i64 tk, .int .i64 0, .int .i64 sp, .int .i64 0, .bool ud, .string ⟨#[]⟩] 23))).drew.cell? ⟨w2.heap.size, 7, none⟩ = some (.bool fr) := by rw [cell_of_row _ _ 7 _ _ (0, 0) hx8]; rfl
  have s8 : ((w6.alloc (.cells #[.int .i64 nx, .int .i64 kd, .int .i64 tk, .int .i64 0, .int .i64 sp, .int .i64 0, .bool ud, .string ⟨#[]⟩] 23))).drew.cell? ⟨w2.heap.size, 8, none⟩ = some (.slice ua js.length uc) := by rw [cell_of_row _ _ 8 _ _ (0, 0) hx8]; rfl
  have s9 : ((w6.alloc (.cells #[.int .i64 nx, .int .i64 kd, .int .i64 tk, .int .i64 0, .int .i64 sp, .int .i64 0, .bool ud, .string ⟨#[]⟩] 23))).drew.cell? ⟨w2.heap.size, 9, none⟩ = some (.slice ca cs.length cc) := by rw [cell_of_row _ _ 9 _ _ (0, 0) hx8]; rfl
  have s10 : ((w6.alloc (.cells #[.int .i64 nx, .int .i64 kd, .int .i64 tk, .int .i64 0, .int .i64 sp, .int .i64 0, .bool ud, .string ⟨#[]⟩] 23))).drew.cell? ⟨w2.heap.size, 10, none⟩ = some (.bool cn) := by rw [cell_of_row _ _ 10 _ _ (0, 0) hx8]; rfl
  have s11 : ((w6.alloc (.cells #[.int .i64 nx, .int .i64 kd, .int .i64 tk, .int .i64 0, .int .i64 sp, .int .i64 0, .bool ud, .string ⟨#[]⟩] 23))).drew.cell? ⟨w2.heap.size, 11, none⟩ = some (.bool ov) := by rw [cell_of_row _ _ 11 _ _ (0, 0) hx8]; rfl
  have y0 : ((w6.alloc (.cells #[.int .i64 nx, .int .i64 kd, .int .i64 tk, .int .i64 0, .int .i64 sp, .int .i64 0, .bool ud, .string ⟨#[]⟩] 23))).drew.cell? ⟨w6.heap.size, 0, none⟩ = some (.int .i64 nx) := by rw [cell_of_row _ _ 0 _ _ (0, 0) hy8]; rfl
  have y1 : ((w6.alloc (.cells #[.int .i64 nx, .int .i64 kd, .int .i64 tk, .int .i64 0, .int .i64 sp, .int .i64 0, .bool ud, .string ⟨#[]⟩] 23))).drew.cell? ⟨w6.heap.size, 1, none⟩ = some (.int .i64 kd) := by rw [cell_of_row _ _ 1 _ _ (0, 0) hy8]; rfl
  have y2 : ((w6.alloc (.cells #[.int .i64 nx, .int .i64 kd, .int .i64 tk, .int .i64 0, .int .i64 sp, .int .i64 0, .bool ud, .string ⟨#[]⟩] 23))).drew.cell? ⟨w6.heap.size, 2, none⟩ = some (.int .i64 tk) := by rw [cell_of_row _ _ 2 _ _ (0, 0) hy8]; rfl
  have y3 : ((w6.alloc (.cells #[.int .i64 nx, .int .i64 kd, .int .i64 tk, .int .i64 0, .int .i64 sp, .int .i64 0, .bool ud, .string ⟨#[]⟩] 23))).drew.cell? ⟨w6.heap.size, 3, none⟩ = some (.int .i64 0) := by rw [cell_of_row _ _ 3 _ _ (0, 0) hy8]; rfl
  have y4 : ((w6.alloc (.cells #[.int .i64 nx, .int .i64 kd, .int .i64 tk, .int .i64 0, .int .i64 sp, .int .i64 0, .bool ud, .string ⟨#[]⟩] 23))).drew.cell? ⟨w6.heap.size, 4, none⟩ = some (.int .i64 sp) := by rw [cell_of_row _ _ 4 _ _ (0, 0) hy8]; rfl
  have y5 : ((w6.alloc (.cells #[.int .i64 nx, .int .i64 kd, .int .i64 tk, .int .i64 0, .int .i64 sp, .int .i64 0, .bool ud, .string ⟨#[]⟩] 23))).drew.cell? ⟨w6.heap.size, 5, none⟩ = some (.int .i64 0) := by rw [cell_of_row _ _ 5 _ _ (0, 0) hy8]; rfl
  have y6 : ((w6.alloc (.cells #[.int .i64 nx, .int .i64 kd, .int .i64 tk, .int .i64 0, .int .i64 sp, .int .i64 0, .bool ud, .string ⟨#[]⟩] 23))).drew.cell? ⟨w6.heap.size, 6, none⟩ = some (.bool ud) := by rw [cell_of_row _ _ 6 _ _ (0, 0) hy8]; rfl
  have y7 : ((w6.alloc (.cells #[.int .i64 nx, .int .i64 kd, .int .i64 tk, .int .i64 0, .int .i64 sp, .int .i64 0, .bool ud, .string ⟨#[]⟩] 23))).drew.cell? ⟨w6.heap.size, 7, none⟩ = some (.string ⟨#[]⟩) := by rw [cell_of_row _ _ 7 _ _ (0, 0) hy8]; rfl
  have hr8 := (HST5.out.new b58).read
  have HCM := hid (show comesF l (nx, kd, tk, 0, sp, 0, ud, []) = 0 from by
    have := comes_next HH.out HL.out (by omega) HSV.out.1.symm HSV.out.2.2.1.symm HSV.out.2.2.2.symm HCF.out HNQ.out HTB.out
    rw [HSV.out.2.1, HKD.out.1, HKD.out.2.1, HKD.out.2.2]; exact this)
  have HA := hid (apply_any ss lim 0 nx bg 0 0 fr js cs cn ov va ua ca vc uc cc nx kd tk 0 sp 0 ud [] _ hr8 HOK.out (by simp))
  have HB8 := hid (HB5.out.trans (b58.mono HB5.out.size))
  clear hx7 b57 hblt cl x3 cl6 x36 hgx hgb b7 b6 b8 b58 hy8 hx8 hr8 hKl hKI
  go_wp2_with fail
  refine HA.out.mono ?_
  rintro e' w9 hpost
  have hpost2 : APost _ _ _ e' w9 := hpost
  clear hpost
  rw [HAP.out, HCM.out, if_pos rfl] at hpost2
  generalize stOf (l ++ [(nx, kd, tk, 0, sp, 0, ud, [])]) = t at hpost2
  obtain ⟨b9, vt, ut, ct, vn, un, cm, rfl, -⟩ := hpost2
  rw [show staV (t, (0 : Int)).1 (.slice vt (t, (0 : Int)).1.ss.length vn) (.slice ut (t, (0 : Int)).1.jobs.length un) (.slice ct (t, (0 : Int)).1.clocks.length cm) = .agg #[.slice vt t.ss.length vn, .int .i64 t.lim, .int .i64 t.status, .int .i64 t.next, .int .i64 t.began, .int .i64 t.asked, .int .i64 t.taken, .bool t.fresh, .slice ut t.jobs.length un, .slice ct t.clocks.length cm, .bool t.cancel, .bool t.overdue] from rfl]
  have HB9 := hid (fun (R : Array Value) => (HB8.out.trans (b9.mono HB8.out.size)).trans (((Below.refl w9.heap.size w9).alloc (Nat.le_refl _) (.cells R 36)).mono (HB8.out.trans (b9.mono HB8.out.size)).size))
  clear b9 s0 s1 s2 s3 s4 s5 s6 s7 s8 s9 s10 s11 y0 y1 y2 y3 y4 y5 y6 y7
  simp only
  go_wp2_with fail
  go_ret
  exact ⟨rfl, HB9.out _⟩
theorem playComes_v (v : Value) (a : Option Addr) (c : Nat) (l : List Ev) (w : World) (hv : v = .slice a l.length c) (hs : Sl w v 8 l.length (l.flatMap evc)) (hcap : l.length ≤ c) (hfit : FitE l) :
    Calls Try.prog 5 #[v] w fun e w' => e = .returned (.bool true) ∧ Below w.heap.size w w' := by
  subst hv; exact playComes_b a c l w hs hcap hfit
end Go.Proofs.Ytnbmfffppajniaa
