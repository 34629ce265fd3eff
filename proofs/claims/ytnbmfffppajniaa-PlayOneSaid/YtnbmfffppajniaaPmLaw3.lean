/- WALK of PlayOne. -/
import Derived.Test.YtnbmfffppajniaaPmN
import Derived.Test.YtnbmfffppajniaaPmP
namespace Go.Proofs.Ytnbmfffppajniaa
open Go.RowKit
set_option linter.unusedVariables false
set_option linter.unusedSimpArgs false

theorem one_ok {l : List Ev} (hl : l ≠ []) (h : Cf l []) : (statusF l ≠ 0 ∧ nextF l = ([], 182)) ∨ (statusF l = 0 ∧ (nextF l).2 = 0 ∧ (jobsF l = [] ∨ (nextF l).1 = [])) := by
  have hH := h.hs
  by_cases h0 : statusF l = 0
  · right
    rw [nextF_open hH hl h0]
    refine ⟨h0, rfl, ?_⟩
    by_cases hn : nextC (prgL l).2 (crsF l) = []
    · exact .inr hn
    · exact .inl (apt_next (h.known hl).inv (hH.kinds hl) hn).1
  · left
    refine ⟨h0, ?_⟩
    unfold nextF
    rw [hs_iff.2 hH, if_neg (by simp [hl]), if_pos h0]
set_option maxHeartbeats 64000000 in
set_option maxRecDepth 100000 in
theorem playOne_b (a : Option Addr) (c : Nat) (l : List Ev) (w : World) (hs : Sl w (.slice a l.length c) 8 l.length (l.flatMap evc)) (hcap : l.length ≤ c) (hfit : FitE l) :
    Calls Try.prog 7 #[.slice a l.length c] w fun e w' => e = .returned (.bool true) ∧ Below w.heap.size w w' := by
  have hm : l.length ≤ 9223372036854775807 := hs.2.1.1
  go_enter Try.func7, Try.ntmps7
  go_wp2_with fail
  refine (pawake_any w).mono ?_
  rintro _ w1 ⟨rfl, b1⟩
  have hs1 := hs.below b1
  have HC := hid (plcheck_any a c l w1 hs1 hfit hcap)
  go_wp2_with fail
  refine HC.out.mono ?_
  rintro _ w2 ⟨rfl, b2⟩
  have b02 := bnext b1 b2
  have hs2 := hs1.below b2
  by_cases hc0 : (checkF l).2 = 0
  case neg =>
    have hq : ((checkF l).2 == 0) = false := by simpa using hc0
    have hq' : ((checkF l).2 != 0) = true := by simpa using hc0
    have HB := hid b02
    clear hc0 hs hs1 hs2 b1 b2 b02 HC
    generalize (checkF l).2 = e9 at *
    generalize (checkF l).1 = i9 at *
    go_wp2_with fail
    go_ret
    exact ⟨rfl, HB.out⟩
  rw [hc0]
  obtain ⟨hl, hcf⟩ := check_ok.1 hc0
  have hH := hcf.hs
  have h500 := hH.short
  by_cases h300 : 300 < l.length
  · have hq : (300 : Int) < (l.length : Int) := by omega
    have HB := hid b02
    clear hc0 hs hs1 hs2 b1 b2 b02 HC
    generalize (checkF l).1 = i9 at *
    go_wp2_with fail
    go_ret
    exact ⟨rfl, HB.out⟩
  have hq : (l.length : Int) ≤ 300 := by omega
  have hH1 := one_ok hl hcf
  have HBU := hid (build_any a c l w2 hs2 hfit)
  have HS := hid hs2
  have HB := hid b02
  have HL := hid hl
  have HHs := hid hH
  clear hc0 hs hs1 hs2 b1 b2 b02 HC hl hcf
  generalize (checkF l).1 = i9 at *
  go_wp2_with fail
  refine HBU.out.mono ?_
  rintro _ w3 ⟨va, ua, ca, vc, uc, cc, rfl, hst, b3⟩
  have hrb : rbuildF l = (stOf l, 0, 0) := by unfold rbuildF; rw [hs_iff.2 HHs.out]
  rw [hrb] at hst ⊢
  simp only at hst ⊢
  obtain ⟨s, hsq⟩ : ∃ s, s = stOf l := ⟨_, rfl⟩
  have hsv := hsq
  rw [stOf_ne HL.out] at hsv
  rw [← hsq] at hst ⊢
  obtain ⟨ss, lim, st, nx, bg, ak, tn, fr, js, cs, cn, ov⟩ := s
  simp only [Sta.mk.injEq] at hsv
  obtain ⟨-, -, hstat, -, -, -, -, -, hjq, -, -⟩ := hsv
  rw [show staV ⟨ss, lim, st, nx, bg, ak, tn, fr, js, cs, cn, ov⟩ (.slice va (⟨ss, lim, st, nx, bg, ak, tn, fr, js, cs, cn, ov⟩ : Sta).ss.length vc) (.slice ua (⟨ss, lim, st, nx, bg, ak, tn, fr, js, cs, cn, ov⟩ : Sta).jobs.length uc) (.slice ca (⟨ss, lim, st, nx, bg, ak, tn, fr, js, cs, cn, ov⟩ : Sta).clocks.length cc) = .agg #[.slice va ss.length vc, .int .i64 lim, .int .i64 st, .int .i64 nx, .int .i64 bg, .int .i64 ak, .int .i64 tn, .bool fr, .slice ua js.length uc, .slice ca cs.length cc, .bool cn, .bool ov] from rfl]
  have b4 : Below w3.heap.size w3 (w3.alloc (.cells #[.slice va ss.length vc, .int .i64 lim, .int .i64 st, .int .i64 nx, .int .i64 bg, .int .i64 ak, .int .i64 tn, .bool fr, .slice ua js.length uc, .slice ca cs.length cc, .bool cn, .bool ov] 36)) := (Below.refl _ _).alloc (Nat.le_refl _) _
  have hx4 : (w3.alloc (.cells #[.slice va ss.length vc, .int .i64 lim, .int .i64 st, .int .i64 nx, .int .i64 bg, .int .i64 ak, .int .i64 tn, .bool fr, .slice ua js.length uc, .slice ca cs.length cc, .bool cn, .bool ov] 36)).heap[w3.heap.size]? = some (.cells #[.slice va ss.length vc, .int .i64 lim, .int .i64 st, .int .i64 nx, .int .i64 bg, .int .i64 ak, .int .i64 tn, .bool fr, .slice ua js.length uc, .slice ca cs.length cc, .bool cn, .bool ov] 36 (0, 0)) := heap_alloc_new w3 _
  have b04 := (HB.out.trans (b3.mono HB.out.size)).trans (b4.mono (HB.out.trans (b3.mono HB.out.size)).size)
  have hs4 := (HS.out.below b3).below b4
  have HNX := hid (next_any a c l (w3.alloc (.cells #[.slice va ss.length vc, .int .i64 lim, .int .i64 st, .int .i64 nx, .int .i64 bg, .int .i64 ak, .int .i64 tn, .bool fr, .slice ua js.length uc, .slice ca cs.length cc, .bool cn, .bool ov] 36)) hs4 hfit)
  have HB4 := hid b04
  rw [← hstat, ← hjq] at hH1
  have hjm : js.length ≤ 9223372036854775807 := (own_max' hst.hj)
  clear hst hsq hstat hjq b3 b4 b04 hs4 hrb HBU HB
  have HX4 := hid hx4
  clear hx4
  go_wp2_with fail
  refine HNX.out.mono ?_
  rintro _ w5 ⟨v5, rfl, hO5, b5⟩
  have hx5 := (b5.block _ (Array.getElem?_eq_some_iff.1 HX4.out).1).trans HX4.out
  have x2 : w5.cell? ⟨w3.heap.size, 2, none⟩ = some (.int .i64 st) := by rw [cell_of_row _ _ 2 _ _ (0, 0) hx5]; rfl
  have x8 : w5.cell? ⟨w3.heap.size, 8, none⟩ = some (.slice ua js.length uc) := by rw [cell_of_row _ _ 8 _ _ (0, 0) hx5]; rfl
  obtain ⟨a5, c5, rfl, hl5, -⟩ := hO5.want (nextF_len _)
  have HB5 := hid (HB4.out.trans (b5.mono HB4.out.size))
  clear hx5 hO5 b5 HB4 HNX
  rcases hH1 with ⟨hst, hn⟩ | ⟨hst, hn2, hor⟩
  · rw [hn]
    have hq1 : (st == 0) = false := by simpa using hst
    have hq2 : (st != 0) = true := by simpa using hst
    clear hn hst hl5
    rw [show ([] : List Cmd).length = 0 from rfl]
    go_wp2_with fail
    go_ret
    exact ⟨rfl, HB5.out⟩
  · subst hst
    rw [hn2]
    obtain ⟨m5, hm5⟩ : ∃ m, m = (nextF l).1.length := ⟨_, rfl⟩
    rw [← hm5] at hl5 ⊢
    have hl5I : (m5 : Int) ≤ 1 := by omega
    by_cases hj : js.length = 0
    · rw [hj] at x8 ⊢
      clear hor hn2 hm5
      go_wp2_with fail
      go_ret
      exact ⟨rfl, HB5.out⟩
    · have hjf : ((js.length : Int) == 0) = false := beq_eq_false_iff_ne.2 (fun q => hj (by omega))
      have hm0 : m5 = 0 := by
        rcases hor with q | q
        · exact absurd (congrArg List.length q) hj
        · rw [hm5, q]; rfl
      subst hm0
      clear hor hn2 hm5
      go_wp2_with fail
      go_ret
      exact ⟨rfl, HB5.out⟩
theorem playOne_v (v : Value) (a : Option Addr) (c : Nat) (l : List Ev) (w : World) (hv : v = .slice a l.length c) (hs : Sl w v 8 l.length (l.flatMap evc)) (hcap : l.length ≤ c) (hfit : FitE l) :
    Calls Try.prog 7 #[v] w fun e w' => e = .returned (.bool true) ∧ Below w.heap.size w w' := by
  subst hv; exact playOne_b a c l w hs hcap hfit
end Go.Proofs.Ytnbmfffppajniaa
