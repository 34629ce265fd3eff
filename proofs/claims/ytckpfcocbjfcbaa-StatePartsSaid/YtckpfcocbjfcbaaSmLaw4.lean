/- WALK of StateParts. -/
import Derived.Test.YtckpfcocbjfcbaaStPartsP
import Derived.IntWalk
namespace Go.Proofs.Ytckpfcocbjfcbaa
open Go.RowKit
set_option linter.unusedVariables false
set_option linter.unusedSimpArgs false

set_option maxHeartbeats 64000000 in
set_option maxRecDepth 100000 in
theorem stateParts_bad (a : Option Addr) (c : Nat) (l : List Ev) (n : Int) (hn : -9223372036854775808 ≤ n ∧ n ≤ 9223372036854775807) (w : World) (hs : Sl w (.slice a l.length c) 8 l.length (l.flatMap evc)) (hcap : l.length ≤ c) (hfit : FitE l) (hf0 : (rbuildF l).2.2 ≠ 0) :
    Calls Try.prog 5 #[.slice a l.length c, .int .i64 n] w fun e w' => e = .returned (.bool true) ∧ Below w.heap.size w w' := by
  have hm : l.length ≤ 9223372036854775807 := hs.2.1.1
  go_enter Try.func5, Try.ntmps5
  go_wp2_with fail
  refine (awake_any w).mono ?_
  rintro _ w1 ⟨rfl, b1⟩
  have hs1 := hs.below b1
  go_wp2_with fail
  refine (build_any a c l w1 hs1 hfit).mono ?_
  rintro _ w2 ⟨va, ua, ca, vc, uc, cc, rfl, hst, b2⟩
  have hs2 := hs1.below b2
  have hq : ((rbuildF l).2.2 == 0) = false := by simpa using hf0
  have hq' : ((rbuildF l).2.2 != 0) = true := by simpa using hf0
  obtain ⟨i, hi, hlt, hb0⟩ := rb_bad hf0
  rw [hi]
  have hlk : (l.take i).length = i := by rw [List.length_take, Nat.min_eq_left (by omega)]
  have hCB : ∀ w' : World, Sl w' (.slice a i c) 8 i ((l.take i).flatMap evc) → Calls Try.prog 12 #[.slice a i c] w' fun e' w'' => ∃ (vb ub cb : Option Addr) (vd ud' cd : Nat) (s1 : Sta) (i1 : Int), e' = .returned (.tuple #[.agg #[.slice vb s1.ss.length vd, .int .i64 s1.lim, .int .i64 s1.status, .int .i64 s1.next, .int .i64 s1.began, .int .i64 s1.asked, .int .i64 s1.taken, .bool s1.fresh, .slice ub s1.jobs.length ud', .slice cb s1.clocks.length cd, .bool s1.cancel, .bool s1.overdue], .int .i64 i1, .int .i64 0]) ∧ Below w'.heap.size w' w'' := fun w' h => by
    have := build_any a c (l.take i) w' (by rw [hlk]; exact h) (fun x hx => hfit x (List.mem_of_mem_take hx))
    rw [hlk] at this
    refine this.mono ?_
    rintro _ w3 ⟨va, ua, ca, vc, uc, cc, rfl, -, b3⟩
    exact ⟨va, ua, ca, vc, uc, cc, (rbuildF (l.take i)).1, (rbuildF (l.take i)).2.1, by rw [hb0]; rfl, b3⟩
  have HCB := hid hCB
  have hi0 : ¬ ((i : Int) < 0) := by omega
  have hi1 : (i : Int) < (l.length : Int) := by omega
  have hic : (i : Int) ≤ (c : Int) := by omega
  have b3 := fun (R : Array Value) => ((Below.refl w2.heap.size w2).alloc (Nat.le_refl _) (.cells R 36))
  have HB := hid (fun (R : Array Value) => bnext (bnext b1 b2) (b3 R))
  have HSK := hid (fun (R : Array Value) => (hs2.below (b3 R)).take (Nat.le_of_lt hlt))
  clear hf0 hst hi hCB hs hs1 hs2 b1 b2 b3 hb0
  generalize (rbuildF l).2.2 = e9 at *
  generalize (rbuildF l).1 = s9 at *
  rw [show staV s9 (.slice va s9.ss.length vc) (.slice ua s9.jobs.length uc) (.slice ca s9.clocks.length cc) = .agg #[.slice va s9.ss.length vc, .int .i64 s9.lim, .int .i64 s9.status, .int .i64 s9.next, .int .i64 s9.began, .int .i64 s9.asked, .int .i64 s9.taken, .bool s9.fresh, .slice ua s9.jobs.length uc, .slice ca s9.clocks.length cc, .bool s9.cancel, .bool s9.overdue] from rfl]
  go_wp2_with fail
  refine (HCB.out _ (HSK.out _)).mono ?_
  rintro _ w3 ⟨vb, ub, cb, vd, ud', cd, s1, i1, rfl, b3⟩
  have HBF := hid (fun (R : Array Value) => bnext (bnext (HB.out _) b3) ((Below.refl w3.heap.size w3).alloc (Nat.le_refl _) (.cells R 36)))
  clear HB HSK HCB b3
  go_wp2_with fail
  go_ret
  exact ⟨rfl, HBF.out _⟩
set_option maxHeartbeats 64000000 in
set_option maxRecDepth 100000 in
theorem stateParts_good (a : Option Addr) (c : Nat) (l : List Ev) (n : Int) (hn : -9223372036854775808 ≤ n ∧ n ≤ 9223372036854775807) (w : World) (hs : Sl w (.slice a l.length c) 8 l.length (l.flatMap evc)) (hcap : l.length ≤ c) (hfit : FitE l) (hf0 : (rbuildF l).2.2 = 0) :
    Calls Try.prog 5 #[.slice a l.length c, .int .i64 n] w fun e w' => e = .returned (.bool true) ∧ Below w.heap.size w w' := by
  have HSI := hid hs
  have hm : l.length ≤ 9223372036854775807 := hs.2.1.1
  go_enter Try.func5, Try.ntmps5
  go_wp2_with fail
  refine (awake_any w).mono ?_
  rintro _ w1 ⟨rfl, b1⟩
  have hs1 := hs.below b1
  go_wp2_with fail
  refine (build_any a c l w1 hs1 hfit).mono ?_
  rintro _ w2 ⟨va, ua, ca, vc, uc, cc, rfl, hst, b2⟩
  have hs2 := hs1.below b2
  obtain ⟨hH, hrb⟩ := rb_ok hf0
  obtain ⟨N, hN, hNe, hz1, hz2⟩ := tmod_in n l.length
  rw [hrb] at hst ⊢
  simp only at hst ⊢
  have HRB := hid hrb
  obtain ⟨s, hsq⟩ : ∃ s, s = stOf l := ⟨_, rfl⟩
  rw [← hsq] at hst ⊢
  have HSQ := hid hsq
  have HNE := hid hNe
  obtain ⟨ss, lim, st, nx, bg, ak, tn, fr, js, cs, cn, ov⟩ := s
  rw [show staV ⟨ss, lim, st, nx, bg, ak, tn, fr, js, cs, cn, ov⟩ (.slice va (⟨ss, lim, st, nx, bg, ak, tn, fr, js, cs, cn, ov⟩ : Sta).ss.length vc) (.slice ua (⟨ss, lim, st, nx, bg, ak, tn, fr, js, cs, cn, ov⟩ : Sta).jobs.length uc) (.slice ca (⟨ss, lim, st, nx, bg, ak, tn, fr, js, cs, cn, ov⟩ : Sta).clocks.length cc) = .agg #[.slice va ss.length vc, .int .i64 lim, .int .i64 st, .int .i64 nx, .int .i64 bg, .int .i64 ak, .int .i64 tn, .bool fr, .slice ua js.length uc, .slice ca cs.length cc, .bool cn, .bool ov] from rfl]
  have b3 : Below w2.heap.size w2 (w2.alloc (.cells #[.slice va ss.length vc, .int .i64 lim, .int .i64 st, .int .i64 nx, .int .i64 bg, .int .i64 ak, .int .i64 tn, .bool fr, .slice ua js.length uc, .slice ca cs.length cc, .bool cn, .bool ov] 36)) := (Below.refl _ _).alloc (Nat.le_refl _) _
  have hx3 : (w2.alloc (.cells #[.slice va ss.length vc, .int .i64 lim, .int .i64 st, .int .i64 nx, .int .i64 bg, .int .i64 ak, .int .i64 tn, .bool fr, .slice ua js.length uc, .slice ca cs.length cc, .bool cn, .bool ov] 36)).heap[w2.heap.size]? = some (.cells #[.slice va ss.length vc, .int .i64 lim, .int .i64 st, .int .i64 nx, .int .i64 bg, .int .i64 ak, .int .i64 tn, .bool fr, .slice ua js.length uc, .slice ca cs.length cc, .bool cn, .bool ov] 36 (0, 0)) := heap_alloc_new w2 _
  have hs3 := hs2.below b3
  have hst3 := hst.new b3
  have b03 := bnext (bnext b1 b2) b3
  clear hf0 hrb hsq hs hs1 hs2 b1 b2 b3 hst hNe
  have h500 := hH.short
  have hNI : (N : Int) ≤ 500 := by omega
  have hNp : (0 : Int) ≤ (N : Int) := by omega
  have hw1 : wrap64 ((l.length : Int) + 1) = (l.length : Int) + 1 := IntWalk.wrap64_in _ (by omega)
  have hw2 : wrap64 (n.tmod ((l.length : Int) + 1) + (l.length : Int)) = n.tmod ((l.length : Int) + 1) + (l.length : Int) := IntWalk.wrap64_in _ (by omega)
  have hw3 : wrap64 (n.tmod ((l.length : Int) + 1) + (l.length : Int) + 1) = n.tmod ((l.length : Int) + 1) + (l.length : Int) + 1 := IntWalk.wrap64_in _ (by omega)
  have hd0 : ¬ ((l.length : Int) + 1 = 0) := by omega
  have hNc : (N : Int) ≤ (c : Int) := by omega
  have hNl : (N : Int) ≤ (l.length : Int) := by omega
  have hlk : (l.take N).length = N := by rw [List.length_take, Nat.min_eq_left hN]
  obtain ⟨t, htq⟩ : ∃ t, t = stOf (l.take N) := ⟨_, rfl⟩
  have hCB : ∀ w' : World, Sl w' (.slice a N c) 8 N ((l.take N).flatMap evc) → Calls Try.prog 12 #[.slice a N c] w' fun e' w'' => ∃ (vt ut ct : Option Addr) (vn un cm : Nat), e' = .returned (.tuple #[.agg #[.slice vt t.ss.length vn, .int .i64 t.lim, .int .i64 t.status, .int .i64 t.next, .int .i64 t.began, .int .i64 t.asked, .int .i64 t.taken, .bool t.fresh, .slice ut t.jobs.length un, .slice ct t.clocks.length cm, .bool t.cancel, .bool t.overdue], .int .i64 0, .int .i64 0]) ∧ StO w'' w'.heap.size t (.slice vt t.ss.length vn) (.slice ut t.jobs.length un) (.slice ct t.clocks.length cm) ∧ Below w'.heap.size w' w'' := fun w' h => by
    have := build_any a c (l.take N) w' (by rw [hlk]; exact h) (fun x hx => hfit x (List.mem_of_mem_take hx))
    have hrn : rbuildF (l.take N) = (t, 0, 0) := by
      have := firstBad_hs' (l.take N) [] (by simpa using hH.take N)
      unfold rbuildF; rw [this, htq]
    rw [hlk, hrn] at this
    exact this
  have HCB := hid hCB
  have htn : 0 < N → t.next = (N : Int) + 1 := fun h => by
    rw [htq, stOf_next (fun q => by rw [q] at hlk; simp at hlk; omega), hlk]
  have HTQ := hid htq
  have HTN := hid htn
  have hs3n := hs3.take hN
  have HS3 := hid hs3
  have hNe := HNE.out
  clear htq htn hCB hs3
  go_wp2_with fail
  refine (HCB.out _ hs3n).mono ?_
  rintro _ w4 ⟨vt, ut, ct, vn, un, cm, rfl, hO4, b4⟩
  have b5 : Below w4.heap.size w4 (w4.alloc (.cells #[.slice vt t.ss.length vn, .int .i64 t.lim, .int .i64 t.status, .int .i64 t.next, .int .i64 t.began, .int .i64 t.asked, .int .i64 t.taken, .bool t.fresh, .slice ut t.jobs.length un, .slice ct t.clocks.length cm, .bool t.cancel, .bool t.overdue] 36)) := (Below.refl _ _).alloc (Nat.le_refl _) _
  have hz5 : (w4.alloc (.cells #[.slice vt t.ss.length vn, .int .i64 t.lim, .int .i64 t.status, .int .i64 t.next, .int .i64 t.began, .int .i64 t.asked, .int .i64 t.taken, .bool t.fresh, .slice ut t.jobs.length un, .slice ct t.clocks.length cm, .bool t.cancel, .bool t.overdue] 36)).heap[w4.heap.size]? = some (.cells #[.slice vt t.ss.length vn, .int .i64 t.lim, .int .i64 t.status, .int .i64 t.next, .int .i64 t.began, .int .i64 t.asked, .int .i64 t.taken, .bool t.fresh, .slice ut t.jobs.length un, .slice ct t.clocks.length cm, .bool t.cancel, .bool t.overdue] 36 (0, 0)) := heap_alloc_new w4 _
  have hx4 := (b4.block _ (Array.getElem?_eq_some_iff.1 hx3).1).trans hx3
  have hx5 := (b5.block _ (Array.getElem?_eq_some_iff.1 hx4).1).trans hx4
  have hs5 := (HS3.out.below b4).below b5
  have hst5 := ((hst3.new b4).new b5).mono (Nat.zero_le _)
  have hO5 := (hO4.new b5).mono (Nat.zero_le _)
  have b05 := bnext (bnext b03 b4) b5
  have z3 : (w4.alloc (.cells #[.slice vt t.ss.length vn, .int .i64 t.lim, .int .i64 t.status, .int .i64 t.next, .int .i64 t.began, .int .i64 t.asked, .int .i64 t.taken, .bool t.fresh, .slice ut t.jobs.length un, .slice ct t.clocks.length cm, .bool t.cancel, .bool t.overdue] 36)).cell? ⟨w4.heap.size, 3, none⟩ = some (.int .i64 t.next) := by rw [cell_of_row _ _ 3 _ _ (0, 0) hz5]; rfl
  have hne45 : w2.heap.size ≠ w4.heap.size := by
    have e1 := b4.size
    have e2 : (w2.alloc (.cells #[.slice va ss.length vc, .int .i64 lim, .int .i64 st, .int .i64 nx, .int .i64 bg, .int .i64 ak, .int .i64 tn, .bool fr, .slice ua js.length uc, .slice ca cs.length cc, .bool cn, .bool ov] 36)).heap.size = w2.heap.size + 1 := Array.size_push ..
    omega
  have hg45 : w.heap.size ≤ w4.heap.size := (bnext b03 b4).size
  obtain ⟨m, hmq⟩ : ∃ m, m = l.length - N := ⟨_, rfl⟩
  have hcut : ∀ wx : World, (Instr.sliceAt 29 (.slice a l.length c) (some (.int .i64 (N : Int))) none none).run Try.prog wx = .ok (.slice (if c = N then a else a.map (·.add (N * 8))) (l.length - N) (c - N)) wx := fun wx => by
    go_simp
  rw [← hmq] at hcut
  obtain ⟨a8, ha8⟩ : ∃ x, x = (if c = N then a else a.map (·.add (N * 8))) := ⟨_, rfl⟩
  obtain ⟨c8, hc8⟩ : ∃ x, x = c - N := ⟨_, rfl⟩
  rw [← ha8, ← hc8] at hcut
  have HA8 := hid ha8
  have HC8 := hid hc8
  have hmm : m ≤ 9223372036854775807 := by omega
  obtain ⟨L, hLq⟩ : ∃ L, L = l.drop N := ⟨_, rfl⟩
  have hLl : L.length = m := by rw [hLq, hmq, List.length_drop]
  have HLQ := hid hLq
  have HLL := hid hLl
  have HMQ := hid hmq
  have HSW := hid (fun (wr : World) (hb : Below w.heap.size w wr) => HSI.out.below hb)
  clear hx3 hs3n hst3 b03 hO4 b4 b5 HCB HS3 hLq hLl hmq hs5 hNe ha8 hc8 hw2 hw3 hlk
  have HTR := hid (show t = stOf (l.take (N + 0)) from HTQ.out)
  have HST := hid (And.intro hx5 (And.intro hz5 (And.intro hst5 (And.intro hO5 b05))))
  have HSD0 := hid (fun (wr : World) (hb : Below w.heap.size w wr) => (HSW.out wr hb).drop8 hN hcap HA8.out HC8.out HMQ.out HLQ.out)
  have HS0 := HSW
  rcases Nat.eq_zero_or_pos N with hN0 | hN0
  case' inl => have hN1 : ¬ (0 : Int) < (N : Int) := by omega
  case' inr =>
    have hN1 : (0 : Int) < (N : Int) := by omega
    have hnx : (t.next != (N : Int) + 1) = false := by rw [HTN.out hN0]; simp
  all_goals
    clear hN0 z3 hx5 hz5 hst5 hO5 b05
    go_wp2_with fail
    clear hN1 hcut
    try clear hnx
    go_loopw [84] (fun n0 wr => ∃ (k : Nat) (t : Sta) (vt ut ct : Option Addr) (vn un cm : Nat), k ≤ m ∧ n0 = .int .i64 (k : Int) ∧ t = stOf (l.take (N + k)) ∧ wr.heap[w2.heap.size]? = some (.cells #[.slice va ss.length vc, .int .i64 lim, .int .i64 st, .int .i64 nx, .int .i64 bg, .int .i64 ak, .int .i64 tn, .bool fr, .slice ua js.length uc, .slice ca cs.length cc, .bool cn, .bool ov] 36 (0, 0)) ∧ wr.heap[w4.heap.size]? = some (.cells #[.slice vt t.ss.length vn, .int .i64 t.lim, .int .i64 t.status, .int .i64 t.next, .int .i64 t.began, .int .i64 t.asked, .int .i64 t.taken, .bool t.fresh, .slice ut t.jobs.length un, .slice ct t.clocks.length cm, .bool t.cancel, .bool t.overdue] 36 (0, 0)) ∧ StO wr 0 ⟨ss, lim, st, nx, bg, ak, tn, fr, js, cs, cn, ov⟩ (.slice va ss.length vc) (.slice ua js.length uc) (.slice ca cs.length cc) ∧ StO wr 0 t (.slice vt t.ss.length vn) (.slice ut t.jobs.length un) (.slice ct t.clocks.length cm) ∧ Below w.heap.size w wr) (fun n0 _ => m - (intOf n0).toNat)
    case atStart => exact ⟨0, t, vt, ut, ct, vn, un, cm, Nat.zero_le _, rfl, HTR.out, HST.out.1, HST.out.2.1, HST.out.2.2.1, HST.out.2.2.2.1, HST.out.2.2.2.2⟩
    case round =>
      obtain ⟨k, t, vt, ut, ct, vn, un, cm, hk, rfl, htq, hx, hz, hst, hO, hb⟩ := hrel
      have hsr := HSD0.out wr hb
      by_cases hlt : k < m
      case neg =>
        obtain rfl : k = m := by omega
        have hNm : N + k = l.length := by have := HMQ.out; omega
        rw [hNm, List.take_length, ← HSQ.out] at htq
        subst htq
        simp only at hz hO
        have hsl := HS0.out wr hb
        clear hsr
        obtain ⟨wo, rfl⟩ : ∃ wo : World, wo = wr := ⟨_, rfl⟩
        go_wp2_with fail
        go_loopw [99] (fun n1 wq => ∃ k2 : Nat, k2 ≤ l.length ∧ n1 = .int .i64 (k2 : Int) ∧ Below wo.heap.size wo wq) (fun n1 _ => l.length - (intOf n1).toNat)
        case atStart => exact ⟨0, Nat.zero_le _, rfl, Below.refl _ _⟩
        case round =>
          obtain ⟨k, hk2, rfl, hbq⟩ := hrel
          by_cases hlt : k < l.length
          case neg =>
            obtain rfl : k = l.length := by omega
            have hx9 := (hbq.block _ (Array.getElem?_eq_some_iff.1 hx).1).trans hx
            have hz9 := (hbq.block _ (Array.getElem?_eq_some_iff.1 hz).1).trans hz
            have hr1 := (hst.new hbq).read
            have hr2 := (hO.new hbq).read
            have hb9 := hb.trans (hbq.mono hb.size)
            have x0 : wr.cell? ⟨w2.heap.size, 0, none⟩ = some (.slice va ss.length vc) := by rw [cell_of_row _ _ 0 _ _ (0, 0) hx9]; rfl
            have x1 : wr.cell? ⟨w2.heap.size, 1, none⟩ = some (.int .i64 lim) := by rw [cell_of_row _ _ 1 _ _ (0, 0) hx9]; rfl
            have x2 : wr.cell? ⟨w2.heap.size, 2, none⟩ = some (.int .i64 st) := by rw [cell_of_row _ _ 2 _ _ (0, 0) hx9]; rfl
            have x3 : wr.cell? ⟨w2.heap.size, 3, none⟩ = some (.int .i64 nx) := by rw [cell_of_row _ _ 3 _ _ (0, 0) hx9]; rfl
            have x4 : wr.cell? ⟨w2.heap.size, 4, none⟩ = some (.int .i64 bg) := by rw [cell_of_row _ _ 4 _ _ (0, 0) hx9]; rfl
            have x5 : wr.cell? ⟨w2.heap.size, 5, none⟩ = some (.int .i64 ak) := by rw [cell_of_row _ _ 5 _ _ (0, 0) hx9]; rfl
            have x6 : wr.cell? ⟨w2.heap.size, 6, none⟩ = some (.int .i64 tn) := by rw [cell_of_row _ _ 6 _ _ (0, 0) hx9]; rfl
            have x7 : wr.cell? ⟨w2.heap.size, 7, none⟩ = some (.bool fr) := by rw [cell_of_row _ _ 7 _ _ (0, 0) hx9]; rfl
            have x8 : wr.cell? ⟨w2.heap.size, 8, none⟩ = some (.slice ua js.length uc) := by rw [cell_of_row _ _ 8 _ _ (0, 0) hx9]; rfl
            have x9 : wr.cell? ⟨w2.heap.size, 9, none⟩ = some (.slice ca cs.length cc) := by rw [cell_of_row _ _ 9 _ _ (0, 0) hx9]; rfl
            have x10 : wr.cell? ⟨w2.heap.size, 10, none⟩ = some (.bool cn) := by rw [cell_of_row _ _ 10 _ _ (0, 0) hx9]; rfl
            have x11 : wr.cell? ⟨w2.heap.size, 11, none⟩ = some (.bool ov) := by rw [cell_of_row _ _ 11 _ _ (0, 0) hx9]; rfl
            have z0 : wr.cell? ⟨w4.heap.size, 0, none⟩ = some (.slice vt ss.length vn) := by rw [cell_of_row _ _ 0 _ _ (0, 0) hz9]; rfl
            have z1 : wr.cell? ⟨w4.heap.size, 1, none⟩ = some (.int .i64 lim) := by rw [cell_of_row _ _ 1 _ _ (0, 0) hz9]; rfl
            have z2 : wr.cell? ⟨w4.heap.size, 2, none⟩ = some (.int .i64 st) := by rw [cell_of_row _ _ 2 _ _ (0, 0) hz9]; rfl
            have z3 : wr.cell? ⟨w4.heap.size, 3, none⟩ = some (.int .i64 nx) := by rw [cell_of_row _ _ 3 _ _ (0, 0) hz9]; rfl
            have z4 : wr.cell? ⟨w4.heap.size, 4, none⟩ = some (.int .i64 bg) := by rw [cell_of_row _ _ 4 _ _ (0, 0) hz9]; rfl
            have z5 : wr.cell? ⟨w4.heap.size, 5, none⟩ = some (.int .i64 ak) := by rw [cell_of_row _ _ 5 _ _ (0, 0) hz9]; rfl
            have z6 : wr.cell? ⟨w4.heap.size, 6, none⟩ = some (.int .i64 tn) := by rw [cell_of_row _ _ 6 _ _ (0, 0) hz9]; rfl
            have z7 : wr.cell? ⟨w4.heap.size, 7, none⟩ = some (.bool fr) := by rw [cell_of_row _ _ 7 _ _ (0, 0) hz9]; rfl
            have z8 : wr.cell? ⟨w4.heap.size, 8, none⟩ = some (.slice ut js.length un) := by rw [cell_of_row _ _ 8 _ _ (0, 0) hz9]; rfl
            have z9 : wr.cell? ⟨w4.heap.size, 9, none⟩ = some (.slice ct cs.length cm) := by rw [cell_of_row _ _ 9 _ _ (0, 0) hz9]; rfl
            have z10 : wr.cell? ⟨w4.heap.size, 10, none⟩ = some (.bool cn) := by rw [cell_of_row _ _ 10 _ _ (0, 0) hz9]; rfl
            have z11 : wr.cell? ⟨w4.heap.size, 11, none⟩ = some (.bool ov) := by rw [cell_of_row _ _ 11 _ _ (0, 0) hz9]; rfl
            clear hx hz hst hO hbq hb hsl hx9 hz9
            go_wp2_with fail
            refine (rsame_yes ss lim st nx bg ak tn fr js cs cn ov va ua ca vt ut ct vc uc cc vn un cm _ hr1 hr2).mono ?_
            rintro _ w9 ⟨rfl, b9⟩
            have HBF := hid (bnext hb9 b9)
            clear x0 z0 x1 z1 x2 z2 x3 z3 x4 z4 x5 z5 x6 z6 x7 z7 x8 z8 x9 z9 x10 z10 x11 z11 hr1 hr2 hb9 b9
            go_wp2_with fail
            go_ret
            exact ⟨rfl, HBF.out⟩
          have hid1 : (l[k]).1 = (k : Int) + 1 := by
            have := (hH.nth k _ (List.getElem?_eq_getElem hlt)).2
            have h9 : (l[k]).1 = ((k + 1 : Nat) : Int) := this
            rw [h9]; push_cast; rfl
          have hsq := hsl.below hbq
          obtain ⟨_, _, a', cap, hv, hc⟩ := hsq
          rw [Value.slice.injEq] at hv
          obtain ⟨rfl, -, rfl⟩ := hv
          obtain ⟨b, off, rfl, hblt, hc⟩ := hc.resolve_left (by omega)
          obtain ⟨L2, hL2⟩ : ∃ L2, L2 = l := ⟨_, rfl⟩
          have c0 : wr.cell? ⟨b, off + k * 8, none⟩ = some (.int .i64 (l[k]).1) := ev_cell hc k 0 (by decide) hlt _ rfl
          have c1 : wr.cell? ⟨b, off + k * 8 + 1, none⟩ = some (.int .i64 (l[k]).2.1) := ev_cell hc k 1 (by decide) hlt _ rfl
          have c2 : wr.cell? ⟨b, off + k * 8 + 2, none⟩ = some (.int .i64 (l[k]).2.2.1) := ev_cell hc k 2 (by decide) hlt _ rfl
          have c3 : wr.cell? ⟨b, off + k * 8 + 3, none⟩ = some (.int .i64 (l[k]).2.2.2.1) := ev_cell hc k 3 (by decide) hlt _ rfl
          have c4 : wr.cell? ⟨b, off + k * 8 + 4, none⟩ = some (.int .i64 (l[k]).2.2.2.2.1) := ev_cell hc k 4 (by decide) hlt _ rfl
          have c5 : wr.cell? ⟨b, off + k * 8 + 5, none⟩ = some (.int .i64 (l[k]).2.2.2.2.2.1) := ev_cell hc k 5 (by decide) hlt _ rfl
          have c6 : wr.cell? ⟨b, off + k * 8 + 6, none⟩ = some (.bool (l[k]).2.2.2.2.2.2.1) := ev_cell hc k 6 (by decide) hlt _ rfl
          have c7 : wr.cell? ⟨b, off + k * 8 + 7, none⟩ = some (.string ⟨(l[k]).2.2.2.2.2.2.2.toArray⟩) := ev_cell hc k 7 (by decide) hlt _ rfl
          clear hc hL2 L2
          obtain ⟨X, hX⟩ : ∃ X, X = l[k] := ⟨_, rfl⟩
          rw [← hX] at hid1 c0 c1 c2 c3 c4 c5 c6 c7
          have HX := hid hX
          clear hX
          obtain ⟨id, kd, tk, rf, sp, ty, ud, dt⟩ := X
          simp only at hid1 c0 c1 c2 c3 c4 c5 c6 c7
          subst hid1
          have hkI : (k : Int) < (l.length : Int) := by omega
          have hk500 : (k : Int) ≤ 500 := by omega
          have hkp : (0 : Int) ≤ (k : Int) := by omega
          have HF := hid (hbq.trans (show Below wo.heap.size wr (wr.alloc (.cells #[.int .i64 ((k : Int) + 1), .int .i64 kd, .int .i64 tk, .int .i64 rf, .int .i64 sp, .int .i64 ty, .bool ud, .string ⟨dt.toArray⟩] 23)) from (Below.refl _ _).alloc hbq.size _))
          clear hx hz hst hO hbq hb hsl
          go_wp2_with fail
          go_roundw
          case rel => first
            | exact ⟨k + 1, by omega, by go_num, HF.out⟩
            | ((repeat apply Exists.intro); exact ⟨⟨k + 1, by omega, by go_num, HF.out⟩, rfl⟩)
          case measure => simp [intOf]; omega
      have hlL : k < L.length := by have := HLL.out; omega
      have hNk : N + k < l.length := by have := HMQ.out; omega
      have hLk : L[k] = l[N + k] := by simp [HLQ.out]
      have hat := hH.at' hNk
      have happ : applyF t l[N + k] = (stOf (l.take (N + (k + 1))), 0) := by
        rw [htq, hat.1.apply, if_pos hat.2, ← List.take_succ_eq_append_getElem hNk]; rfl
      have hok : SOK t := by rw [htq]; exact hat.1.sok
      rw [← hLk] at happ
      have hdt : (L[k]).2.2.2.2.2.2.2.length ≤ 140737488355328 := by rw [hLk]; exact hfit _ (List.getElem_mem hNk)
      obtain ⟨_, _, a', cap, hv, hc⟩ := hsr
      rw [Value.slice.injEq] at hv
      obtain ⟨rfl, -, rfl⟩ := hv
      obtain ⟨b, off, rfl, hblt, hc⟩ := hc.resolve_left (by omega)
      have c0 : wr.cell? ⟨b, off + k * 8, none⟩ = some (.int .i64 (L[k]).1) := ev_cell hc k 0 (by decide) hlL _ rfl
      have c1 : wr.cell? ⟨b, off + k * 8 + 1, none⟩ = some (.int .i64 (L[k]).2.1) := ev_cell hc k 1 (by decide) hlL _ rfl
      have c2 : wr.cell? ⟨b, off + k * 8 + 2, none⟩ = some (.int .i64 (L[k]).2.2.1) := ev_cell hc k 2 (by decide) hlL _ rfl
      have c3 : wr.cell? ⟨b, off + k * 8 + 3, none⟩ = some (.int .i64 (L[k]).2.2.2.1) := ev_cell hc k 3 (by decide) hlL _ rfl
      have c4 : wr.cell? ⟨b, off + k * 8 + 4, none⟩ = some (.int .i64 (L[k]).2.2.2.2.1) := ev_cell hc k 4 (by decide) hlL _ rfl
      have c5 : wr.cell? ⟨b, off + k * 8 + 5, none⟩ = some (.int .i64 (L[k]).2.2.2.2.2.1) := ev_cell hc k 5 (by decide) hlL _ rfl
      have c6 : wr.cell? ⟨b, off + k * 8 + 6, none⟩ = some (.bool (L[k]).2.2.2.2.2.2.1) := ev_cell hc k 6 (by decide) hlL _ rfl
      have c7 : wr.cell? ⟨b, off + k * 8 + 7, none⟩ = some (.string ⟨(L[k]).2.2.2.2.2.2.2.toArray⟩) := ev_cell hc k 7 (by decide) hlL _ rfl
      clear hc htq hat
      obtain ⟨X, hX⟩ : ∃ X, X = L[k] := ⟨_, rfl⟩
      rw [← hX] at happ hdt c0 c1 c2 c3 c4 c5 c6 c7
      clear hX hLk
      obtain ⟨id, kd, tk, rf, sp, ty, ud, dt⟩ := X
      obtain ⟨ss1, lim1, st1, nx1, bg1, ak1, tn1, fr1, js1, cs1, cn1, ov1⟩ := t
      simp only at hdt c0 c1 c2 c3 c4 c5 c6 c7 hO hz
      have hkI : (k : Int) < (m : Int) := by omega
      have be : Below wr.heap.size wr (wr.alloc (.cells #[.int .i64 id, .int .i64 kd, .int .i64 tk, .int .i64 rf, .int .i64 sp, .int .i64 ty, .bool ud, .string ⟨dt.toArray⟩] 23)) := (Below.refl _ _).alloc (Nat.le_refl _) _
      have hxe := (be.block _ (Array.getElem?_eq_some_iff.1 hx).1).trans hx
      have hze := (be.block _ (Array.getElem?_eq_some_iff.1 hz).1).trans hz
      have hste := hst.new be
      have hOe := hO.new be
      have hbe := hb.trans (be.mono hb.size)
      have z0 : (wr.alloc (.cells #[.int .i64 id, .int .i64 kd, .int .i64 tk, .int .i64 rf, .int .i64 sp, .int .i64 ty, .bool ud, .string ⟨dt.toArray⟩] 23)).cell? ⟨w4.heap.size, 0, none⟩ = some (.slice vt ss1.length vn) := by rw [cell_of_row _ _ 0 _ _ (0, 0) hze]; rfl
      have z1 : (wr.alloc (.cells #[.int .i64 id, .int .i64 kd, .int .i64 tk, .int .i64 rf, .int .i64 sp, .int .i64 ty, .bool ud, .string ⟨dt.toArray⟩] 23)).cell? ⟨w4.heap.size, 1, none⟩ = some (.int .i64 lim1) := by rw [cell_of_row _ _ 1 _ _ (0, 0) hze]; rfl
      have z2 : (wr.alloc (.cells #[.int .i64 id, .int .i64 kd, .int .i64 tk, .int .i64 rf, .int .i64 sp, .int .i64 ty, .bool ud, .string ⟨dt.toArray⟩] 23)).cell? ⟨w4.heap.size, 2, none⟩ = some (.int .i64 st1) := by rw [cell_of_row _ _ 2 _ _ (0, 0) hze]; rfl
      have z3 : (wr.alloc (.cells #[.int .i64 id, .int .i64 kd, .int .i64 tk, .int .i64 rf, .int .i64 sp, .int .i64 ty, .bool ud, .string ⟨dt.toArray⟩] 23)).cell? ⟨w4.heap.size, 3, none⟩ = some (.int .i64 nx1) := by rw [cell_of_row _ _ 3 _ _ (0, 0) hze]; rfl
      have z4 : (wr.alloc (.cells #[.int .i64 id, .int .i64 kd, .int .i64 tk, .int .i64 rf, .int .i64 sp, .int .i64 ty, .bool ud, .string ⟨dt.toArray⟩] 23)).cell? ⟨w4.heap.size, 4, none⟩ = some (.int .i64 bg1) := by rw [cell_of_row _ _ 4 _ _ (0, 0) hze]; rfl
      have z5 : (wr.alloc (.cells #[.int .i64 id, .int .i64 kd, .int .i64 tk, .int .i64 rf, .int .i64 sp, .int .i64 ty, .bool ud, .string ⟨dt.toArray⟩] 23)).cell? ⟨w4.heap.size, 5, none⟩ = some (.int .i64 ak1) := by rw [cell_of_row _ _ 5 _ _ (0, 0) hze]; rfl
      have z6 : (wr.alloc (.cells #[.int .i64 id, .int .i64 kd, .int .i64 tk, .int .i64 rf, .int .i64 sp, .int .i64 ty, .bool ud, .string ⟨dt.toArray⟩] 23)).cell? ⟨w4.heap.size, 6, none⟩ = some (.int .i64 tn1) := by rw [cell_of_row _ _ 6 _ _ (0, 0) hze]; rfl
      have z7 : (wr.alloc (.cells #[.int .i64 id, .int .i64 kd, .int .i64 tk, .int .i64 rf, .int .i64 sp, .int .i64 ty, .bool ud, .string ⟨dt.toArray⟩] 23)).cell? ⟨w4.heap.size, 7, none⟩ = some (.bool fr1) := by rw [cell_of_row _ _ 7 _ _ (0, 0) hze]; rfl
      have z8 : (wr.alloc (.cells #[.int .i64 id, .int .i64 kd, .int .i64 tk, .int .i64 rf, .int .i64 sp, .int .i64 ty, .bool ud, .string ⟨dt.toArray⟩] 23)).cell? ⟨w4.heap.size, 8, none⟩ = some (.slice ut js1.length un) := by rw [cell_of_row _ _ 8 _ _ (0, 0) hze]; rfl
      have z9 : (wr.alloc (.cells #[.int .i64 id, .int .i64 kd, .int .i64 tk, .int .i64 rf, .int .i64 sp, .int .i64 ty, .bool ud, .string ⟨dt.toArray⟩] 23)).cell? ⟨w4.heap.size, 9, none⟩ = some (.slice ct cs1.length cm) := by rw [cell_of_row _ _ 9 _ _ (0, 0) hze]; rfl
      have z10 : (wr.alloc (.cells #[.int .i64 id, .int .i64 kd, .int .i64 tk, .int .i64 rf, .int .i64 sp, .int .i64 ty, .bool ud, .string ⟨dt.toArray⟩] 23)).cell? ⟨w4.heap.size, 10, none⟩ = some (.bool cn1) := by rw [cell_of_row _ _ 10 _ _ (0, 0) hze]; rfl
      have z11 : (wr.alloc (.cells #[.int .i64 id, .int .i64 kd, .int .i64 tk, .int .i64 rf, .int .i64 sp, .int .i64 ty, .bool ud, .string ⟨dt.toArray⟩] 23)).cell? ⟨w4.heap.size, 11, none⟩ = some (.bool ov1) := by rw [cell_of_row _ _ 11 _ _ (0, 0) hze]; rfl
      have HAPP := hid happ
      clear happ hst hO hx hz hb
      go_wp2_with fail
      refine (apply_any ss1 lim1 st1 nx1 bg1 ak1 tn1 fr1 js1 cs1 cn1 ov1 vt ut ct vn un cm id kd tk rf sp ty ud dt _ hOe.read hok hdt).mono ?_
      rintro e' w6 hap
      have hap2 : APost _ _ _ e' w6 := hap
      rw [HAPP.out] at hap2
      clear hap z0 z1 z2 z3 z4 z5 z6 z7 z8 z9 z10 z11 c0 c1 c2 c3 c4 c5 c6 c7 hok HAPP hOe
      obtain ⟨t2, ht2⟩ : ∃ t2, t2 = stOf (l.take (N + (k + 1))) := ⟨_, rfl⟩
      rw [← ht2] at hap2
      obtain ⟨b2, vb, ub, cb, vd, ud', cd, rfl, hO2⟩ := hap2
      simp only at hO2
      rw [show staV (t2, (0 : Int)).1 (.slice vb (t2, (0 : Int)).1.ss.length vd) (.slice ub (t2, (0 : Int)).1.jobs.length ud') (.slice cb (t2, (0 : Int)).1.clocks.length cd) = .agg #[.slice vb t2.ss.length vd, .int .i64 t2.lim, .int .i64 t2.status, .int .i64 t2.next, .int .i64 t2.began, .int .i64 t2.asked, .int .i64 t2.taken, .bool t2.fresh, .slice ub t2.jobs.length ud', .slice cb t2.clocks.length cd, .bool t2.cancel, .bool t2.overdue] from rfl]
      have hx6 := (b2.block _ (Array.getElem?_eq_some_iff.1 hxe).1).trans hxe
      have hz6 := (b2.block _ (Array.getElem?_eq_some_iff.1 hze).1).trans hze
      have hst6 := hste.new b2
      have hO6 := hO2.mono (Nat.zero_le 0 |> fun _ => Nat.zero_le _)
      have hb6 := hbe.trans (b2.mono hbe.size)
      have z0 : w6.cell? ⟨w4.heap.size, 0, none⟩ = some (.slice vt ss1.length vn) := (by rw [cell_of_row _ _ 0 _ _ (0, 0) hz6]; rfl)
      have zf0 := frozen_of_row w6 _ 0 _ _ hz6
      have z1 : w6.cell? ⟨w4.heap.size, 1, none⟩ = some (.int .i64 lim1) := (by rw [cell_of_row _ _ 1 _ _ (0, 0) hz6]; rfl)
      have zf1 := frozen_of_row w6 _ 1 _ _ hz6
      have z2 : w6.cell? ⟨w4.heap.size, 2, none⟩ = some (.int .i64 st1) := (by rw [cell_of_row _ _ 2 _ _ (0, 0) hz6]; rfl)
      have zf2 := frozen_of_row w6 _ 2 _ _ hz6
      have z3 : w6.cell? ⟨w4.heap.size, 3, none⟩ = some (.int .i64 nx1) := (by rw [cell_of_row _ _ 3 _ _ (0, 0) hz6]; rfl)
      have zf3 := frozen_of_row w6 _ 3 _ _ hz6
      have z4 : w6.cell? ⟨w4.heap.size, 4, none⟩ = some (.int .i64 bg1) := (by rw [cell_of_row _ _ 4 _ _ (0, 0) hz6]; rfl)
      have zf4 := frozen_of_row w6 _ 4 _ _ hz6
      have z5 : w6.cell? ⟨w4.heap.size, 5, none⟩ = some (.int .i64 ak1) := (by rw [cell_of_row _ _ 5 _ _ (0, 0) hz6]; rfl)
      have zf5 := frozen_of_row w6 _ 5 _ _ hz6
      have z6 : w6.cell? ⟨w4.heap.size, 6, none⟩ = some (.int .i64 tn1) := (by rw [cell_of_row _ _ 6 _ _ (0, 0) hz6]; rfl)
      have zf6 := frozen_of_row w6 _ 6 _ _ hz6
      have z7 : w6.cell? ⟨w4.heap.size, 7, none⟩ = some (.bool fr1) := (by rw [cell_of_row _ _ 7 _ _ (0, 0) hz6]; rfl)
      have zf7 := frozen_of_row w6 _ 7 _ _ hz6
      have z8 : w6.cell? ⟨w4.heap.size, 8, none⟩ = some (.slice ut js1.length un) := (by rw [cell_of_row _ _ 8 _ _ (0, 0) hz6]; rfl)
      have zf8 := frozen_of_row w6 _ 8 _ _ hz6
      have z9 : w6.cell? ⟨w4.heap.size, 9, none⟩ = some (.slice ct cs1.length cm) := (by rw [cell_of_row _ _ 9 _ _ (0, 0) hz6]; rfl)
      have zf9 := frozen_of_row w6 _ 9 _ _ hz6
      have z10 : w6.cell? ⟨w4.heap.size, 10, none⟩ = some (.bool cn1) := (by rw [cell_of_row _ _ 10 _ _ (0, 0) hz6]; rfl)
      have zf10 := frozen_of_row w6 _ 10 _ _ hz6
      have z11 : w6.cell? ⟨w4.heap.size, 11, none⟩ = some (.bool ov1) := (by rw [cell_of_row _ _ 11 _ _ (0, 0) hz6]; rfl)
      have zf11 := frozen_of_row w6 _ 11 _ _ hz6
      have a4 := (((((((((((((At.refl w4.heap.size w6).set 0 (.slice vb t2.ss.length vd)).set 1 (.int .i64 t2.lim)).set 2 (.int .i64 t2.status)).set 3 (.int .i64 t2.next)).set 4 (.int .i64 t2.began)).set 5 (.int .i64 t2.asked)).set 6 (.int .i64 t2.taken)).set 7 (.bool t2.fresh)).set 8 (.slice ub t2.jobs.length ud')).set 9 (.slice cb t2.clocks.length cd)).set 10 (.bool t2.cancel)).set 11 (.bool t2.overdue))
      have hz7 := row_put12 hz6 (.slice vb t2.ss.length vd) (.int .i64 t2.lim) (.int .i64 t2.status) (.int .i64 t2.next) (.int .i64 t2.began) (.int .i64 t2.asked) (.int .i64 t2.taken) (.bool t2.fresh) (.slice ub t2.jobs.length ud') (.slice cb t2.clocks.length cd) (.bool t2.cancel) (.bool t2.overdue)
      have hx7 := (a4.block _ (Array.getElem?_eq_some_iff.1 hx6).1 (by simpa using hne45)).trans hx6
      have hst7 := hst6.at hz6 (by decide) a4
      have hO7 := hO6.at hz6 (by decide) a4
      have hb7 := hb6.grown a4 hb6.size (fun j hj => by cases hj; exact hg45)
      have HF := hid (And.intro hx7 (And.intro hz7 (And.intro hst7 (And.intro hO7 hb7))))
      have HT2 := hid ht2
      clear hxe hze hste hbe be b2 hO2 hx6 hz6 hst6 hO6 hb6 a4 hz7 hx7 hst7 hO7 hb7 ht2
      go_wp2_with fail
      go_roundw
      case rel => first
        | exact ⟨k + 1, t2, vb, ub, cb, vd, ud', cd, by omega, by go_num, HT2.out, HF.out.1, HF.out.2.1, HF.out.2.2.1, HF.out.2.2.2.1, HF.out.2.2.2.2⟩
        | ((repeat apply Exists.intro); exact ⟨⟨k + 1, t2, vb, ub, cb, vd, ud', cd, by omega, by go_num, HT2.out, HF.out.1, HF.out.2.1, HF.out.2.2.1, HF.out.2.2.2.1, HF.out.2.2.2.2⟩, rfl⟩)
      case measure => simp [intOf]; omega
theorem stateParts_v (v : Value) (a : Option Addr) (c : Nat) (l : List Ev) (n : Int) (hn : -9223372036854775808 ≤ n ∧ n ≤ 9223372036854775807) (w : World) (hv : v = .slice a l.length c) (hs : Sl w v 8 l.length (l.flatMap evc)) (hcap : l.length ≤ c) (hfit : FitE l) : Calls Try.prog 5 #[v, .int .i64 n] w fun e w' => e = .returned (.bool true) ∧ Below w.heap.size w w' := by
  subst hv
  by_cases hf0 : (rbuildF l).2.2 = 0
  · exact stateParts_good a c l n hn w hs hcap hfit hf0
  · exact stateParts_bad a c l n hn w hs hcap hfit hf0
end Go.Proofs.Ytckpfcocbjfcbaa
