/- WALK of StateKeeps. -/
import Derived.Test.YtckpfcocbjfcbaaStKeepM
namespace Go.Proofs.Ytckpfcocbjfcbaa
open Go.RowKit
set_option linter.unusedVariables false
set_option linter.unusedSimpArgs false

set_option maxHeartbeats 64000000 in
set_option maxRecDepth 100000 in
theorem stateKeeps_w (a : Option Addr) (c : Nat) (l : List Ev) (id kd tk rf sp ty : Int) (ud : Bool) (dt : List UInt8) (hdt : dt.length ≤ 140737488355328) (w : World) (hs : Sl w (.slice a l.length c) 8 l.length (l.flatMap evc)) (hcap : l.length ≤ c) (hfit : FitE l) :
    Calls Try.prog 8 #[.slice a l.length c, .agg #[.int .i64 id, .int .i64 kd, .int .i64 tk, .int .i64 rf, .int .i64 sp, .int .i64 ty, .bool ud, .string ⟨dt.toArray⟩]] w fun e w' => e = .returned (.bool true) ∧ Below w.heap.size w w' := by
  have hm : l.length ≤ 9223372036854775807 := hs.2.1.1
  have HSI := hid hs
  obtain ⟨w0, hw0⟩ : ∃ x, x = w.alloc (.cells #[.int .i64 id, .int .i64 kd, .int .i64 tk, .int .i64 rf, .int .i64 sp, .int .i64 ty, .bool ud, .string ⟨dt.toArray⟩] 23) := ⟨_, rfl⟩
  have b0 : Below w.heap.size w w0 := by rw [hw0]; exact (Below.refl _ _).alloc (Nat.le_refl _) _
  have he0 : w0.heap[w.heap.size]? = some (.cells #[.int .i64 id, .int .i64 kd, .int .i64 tk, .int .i64 rf, .int .i64 sp, .int .i64 ty, .bool ud, .string ⟨dt.toArray⟩] 23 (0, 0)) := by rw [hw0]; exact heap_alloc_new w _
  have hs0 := hs.below b0
  have HW := hid hw0
  clear hw0 hs
  go_enter Try.func8, Try.ntmps8
  go_wp2_with fail
  rw [← HW.out]
  refine (awake_any w0).mono ?_
  rintro _ w1 ⟨rfl, b1⟩
  have hs1 := hs0.below b1
  have he1 := (b1.block _ (Array.getElem?_eq_some_iff.1 he0).1).trans he0
  go_wp2_with fail
  refine (build_any a c l w1 hs1 hfit).mono ?_
  rintro _ w2 ⟨va, ua, ca, vc, uc, cc, rfl, hst, b2⟩
  have he2 := (b2.block _ (Array.getElem?_eq_some_iff.1 he1).1).trans he1
  by_cases hf0 : (rbuildF l).2.2 = 0
  case neg =>
    have hq : ((rbuildF l).2.2 == 0) = false := by simpa using hf0
    have hq' : ((rbuildF l).2.2 != 0) = true := by simpa using hf0
    have HB := hid (fun (R : Array Value) => bnext (bnext (bnext b0 b1) b2) ((Below.refl w2.heap.size w2).alloc (Nat.le_refl _) (.cells R 36)))
    clear hf0 hst
    generalize (rbuildF l).2.2 = e9 at *
    generalize (rbuildF l).1 = s9 at *
    rw [show staV s9 (.slice va s9.ss.length vc) (.slice ua s9.jobs.length uc) (.slice ca s9.clocks.length cc) = .agg #[.slice va s9.ss.length vc, .int .i64 s9.lim, .int .i64 s9.status, .int .i64 s9.next, .int .i64 s9.began, .int .i64 s9.asked, .int .i64 s9.taken, .bool s9.fresh, .slice ua s9.jobs.length uc, .slice ca s9.clocks.length cc, .bool s9.cancel, .bool s9.overdue] from rfl]
    go_wp2_with fail
    go_ret
    exact ⟨rfl, HB.out _⟩
  obtain ⟨hH, hrb⟩ := rb_ok hf0
  have hok := hH.sok
  have h500 := hH.short
  rw [hrb] at hst ⊢
  simp only at hst ⊢
  have HRB := hid hrb
  obtain ⟨s, hsq⟩ : ∃ s, s = stOf l := ⟨_, rfl⟩
  rw [← hsq] at hst hok ⊢
  have HSQ := hid hsq
  by_cases h60 : l.length ≤ 60
  case neg =>
    have h60' : (60 : Int) < (l.length : Int) := by omega
    have HB := hid (fun (R : Array Value) => bnext (bnext (bnext b0 b1) b2) ((Below.refl w2.heap.size w2).alloc (Nat.le_refl _) (.cells R 36)))
    rw [show staV s (.slice va s.ss.length vc) (.slice ua s.jobs.length uc) (.slice ca s.clocks.length cc) = .agg #[.slice va s.ss.length vc, .int .i64 s.lim, .int .i64 s.status, .int .i64 s.next, .int .i64 s.began, .int .i64 s.asked, .int .i64 s.taken, .bool s.fresh, .slice ua s.jobs.length uc, .slice ca s.clocks.length cc, .bool s.cancel, .bool s.overdue] from rfl]
    clear hf0 hrb hsq hs0 hs1 he0 he1 he2 b0 b1 b2 hst hok
    go_wp2_with fail
    go_ret
    exact ⟨rfl, HB.out _⟩
  have h60' : (l.length : Int) ≤ 60 := by omega
  obtain ⟨⟨t, g⟩, hap⟩ : ∃ x, applyF s (id, kd, tk, rf, sp, ty, ud, dt) = x := ⟨_, rfl⟩
  have hlenA : (stOf l).ss.length ≤ 1000 := (by rw [← hsq]; exact hok.1.1)
  have hlt2 : t.ss.length ≤ 2000 ∧ t.jobs.length ≤ 2000 ∧ t.clocks.length ≤ 2000 := by
    have h9 := hH.apply (id, kd, tk, rf, sp, ty, ud, dt)
    rw [← hsq, hap] at h9
    by_cases hc : comesF l (id, kd, tk, rf, sp, ty, ud, dt) = 0
    · rw [if_pos hc] at h9
      injection h9 with h9 _
      rw [h9]
      have := (Hs.snoc hH hc).sok.1
      omega
    · rw [if_neg hc] at h9
      injection h9 with h9 _
      rw [h9]
      exact ⟨by decide, by decide, by decide⟩
  obtain ⟨ss, lim, st, nx, bg, ak, tn, fr, js, cs, cn, ov⟩ := s
  obtain ⟨ss2, lim2, st2, nx2, bg2, ak2, tn2, fr2, js2, cs2, cn2, ov2⟩ := t
  simp only at hlt2
  have HLEN := hid hlt2
  have hgq : (g == g) = true := by simp
  have hgq' : (g != g) = false := by simp
  rw [show staV ⟨ss, lim, st, nx, bg, ak, tn, fr, js, cs, cn, ov⟩ (.slice va (⟨ss, lim, st, nx, bg, ak, tn, fr, js, cs, cn, ov⟩ : Sta).ss.length vc) (.slice ua (⟨ss, lim, st, nx, bg, ak, tn, fr, js, cs, cn, ov⟩ : Sta).jobs.length uc) (.slice ca (⟨ss, lim, st, nx, bg, ak, tn, fr, js, cs, cn, ov⟩ : Sta).clocks.length cc) = .agg #[.slice va ss.length vc, .int .i64 lim, .int .i64 st, .int .i64 nx, .int .i64 bg, .int .i64 ak, .int .i64 tn, .bool fr, .slice ua js.length uc, .slice ca cs.length cc, .bool cn, .bool ov] from rfl]
  have b3 : Below w2.heap.size w2 (w2.alloc (.cells #[.slice va ss.length vc, .int .i64 lim, .int .i64 st, .int .i64 nx, .int .i64 bg, .int .i64 ak, .int .i64 tn, .bool fr, .slice ua js.length uc, .slice ca cs.length cc, .bool cn, .bool ov] 36)) := (Below.refl _ _).alloc (Nat.le_refl _) _
  have hx3 : (w2.alloc (.cells #[.slice va ss.length vc, .int .i64 lim, .int .i64 st, .int .i64 nx, .int .i64 bg, .int .i64 ak, .int .i64 tn, .bool fr, .slice ua js.length uc, .slice ca cs.length cc, .bool cn, .bool ov] 36)).heap[w2.heap.size]? = some (.cells #[.slice va ss.length vc, .int .i64 lim, .int .i64 st, .int .i64 nx, .int .i64 bg, .int .i64 ak, .int .i64 tn, .bool fr, .slice ua js.length uc, .slice ca cs.length cc, .bool cn, .bool ov] 36 (0, 0)) := heap_alloc_new w2 _
  have hst3 := hst.new b3
  have he3 := (b3.block _ (Array.getElem?_eq_some_iff.1 he2).1).trans he2
  have b03 := bnext (bnext (bnext b0 b1) b2) b3
  have x0 : (w2.alloc (.cells #[.slice va ss.length vc, .int .i64 lim, .int .i64 st, .int .i64 nx, .int .i64 bg, .int .i64 ak, .int .i64 tn, .bool fr, .slice ua js.length uc, .slice ca cs.length cc, .bool cn, .bool ov] 36)).cell? ⟨w2.heap.size, 0, none⟩ = some (.slice va ss.length vc) := by rw [cell_of_row _ _ 0 _ _ (0, 0) hx3]; rfl
  have x1 : (w2.alloc (.cells #[.slice va ss.length vc, .int .i64 lim, .int .i64 st, .int .i64 nx, .int .i64 bg, .int .i64 ak, .int .i64 tn, .bool fr, .slice ua js.length uc, .slice ca cs.length cc, .bool cn, .bool ov] 36)).cell? ⟨w2.heap.size, 1, none⟩ = some (.int .i64 lim) := by rw [cell_of_row _ _ 1 _ _ (0, 0) hx3]; rfl
  have x2 : (w2.alloc (.cells #[.slice va ss.length vc, .int .i64 lim, .int .i64 st, .int .i64 nx, .int .i64 bg, .int .i64 ak, .int .i64 tn, .bool fr, .slice ua js.length uc, .slice ca cs.length cc, .bool cn, .bool ov] 36)).cell? ⟨w2.heap.size, 2, none⟩ = some (.int .i64 st) := by rw [cell_of_row _ _ 2 _ _ (0, 0) hx3]; rfl
  have x3 : (w2.alloc (.cells #[.slice va ss.length vc, .int .i64 lim, .int .i64 st, .int .i64 nx, .int .i64 bg, .int .i64 ak, .int .i64 tn, .bool fr, .slice ua js.length uc, .slice ca cs.length cc, .bool cn, .bool ov] 36)).cell? ⟨w2.heap.size, 3, none⟩ = some (.int .i64 nx) := by rw [cell_of_row _ _ 3 _ _ (0, 0) hx3]; rfl
  have x4 : (w2.alloc (.cells #[.slice va ss.length vc, .int .i64 lim, .int .i64 st, .int .i64 nx, .int .i64 bg, .int .i64 ak, .int .i64 tn, .bool fr, .slice ua js.length uc, .slice ca cs.length cc, .bool cn, .bool ov] 36)).cell? ⟨w2.heap.size, 4, none⟩ = some (.int .i64 bg) := by rw [cell_of_row _ _ 4 _ _ (0, 0) hx3]; rfl
  have x5 : (w2.alloc (.cells #[.slice va ss.length vc, .int .i64 lim, .int .i64 st, .int .i64 nx, .int .i64 bg, .int .i64 ak, .int .i64 tn, .bool fr, .slice ua js.length uc, .slice ca cs.length cc, .bool cn, .bool ov] 36)).cell? ⟨w2.heap.size, 5, none⟩ = some (.int .i64 ak) := by rw [cell_of_row _ _ 5 _ _ (0, 0) hx3]; rfl
  have x6 : (w2.alloc (.cells #[.slice va ss.length vc, .int .i64 lim, .int .i64 st, .int .i64 nx, .int .i64 bg, .int .i64 ak, .int .i64 tn, .bool fr, .slice ua js.length uc, .slice ca cs.length cc, .bool cn, .bool ov] 36)).cell? ⟨w2.heap.size, 6, none⟩ = some (.int .i64 tn) := by rw [cell_of_row _ _ 6 _ _ (0, 0) hx3]; rfl
  have x7 : (w2.alloc (.cells #[.slice va ss.length vc, .int .i64 lim, .int .i64 st, .int .i64 nx, .int .i64 bg, .int .i64 ak, .int .i64 tn, .bool fr, .slice ua js.length uc, .slice ca cs.length cc, .bool cn, .bool ov] 36)).cell? ⟨w2.heap.size, 7, none⟩ = some (.bool fr) := by rw [cell_of_row _ _ 7 _ _ (0, 0) hx3]; rfl
  have x8 : (w2.alloc (.cells #[.slice va ss.length vc, .int .i64 lim, .int .i64 st, .int .i64 nx, .int .i64 bg, .int .i64 ak, .int .i64 tn, .bool fr, .slice ua js.length uc, .slice ca cs.length cc, .bool cn, .bool ov] 36)).cell? ⟨w2.heap.size, 8, none⟩ = some (.slice ua js.length uc) := by rw [cell_of_row _ _ 8 _ _ (0, 0) hx3]; rfl
  have x9 : (w2.alloc (.cells #[.slice va ss.length vc, .int .i64 lim, .int .i64 st, .int .i64 nx, .int .i64 bg, .int .i64 ak, .int .i64 tn, .bool fr, .slice ua js.length uc, .slice ca cs.length cc, .bool cn, .bool ov] 36)).cell? ⟨w2.heap.size, 9, none⟩ = some (.slice ca cs.length cc) := by rw [cell_of_row _ _ 9 _ _ (0, 0) hx3]; rfl
  have x10 : (w2.alloc (.cells #[.slice va ss.length vc, .int .i64 lim, .int .i64 st, .int .i64 nx, .int .i64 bg, .int .i64 ak, .int .i64 tn, .bool fr, .slice ua js.length uc, .slice ca cs.length cc, .bool cn, .bool ov] 36)).cell? ⟨w2.heap.size, 10, none⟩ = some (.bool cn) := by rw [cell_of_row _ _ 10 _ _ (0, 0) hx3]; rfl
  have x11 : (w2.alloc (.cells #[.slice va ss.length vc, .int .i64 lim, .int .i64 st, .int .i64 nx, .int .i64 bg, .int .i64 ak, .int .i64 tn, .bool fr, .slice ua js.length uc, .slice ca cs.length cc, .bool cn, .bool ov] 36)).cell? ⟨w2.heap.size, 11, none⟩ = some (.bool ov) := by rw [cell_of_row _ _ 11 _ _ (0, 0) hx3]; rfl
  have y0 : (w2.alloc (.cells #[.slice va ss.length vc, .int .i64 lim, .int .i64 st, .int .i64 nx, .int .i64 bg, .int .i64 ak, .int .i64 tn, .bool fr, .slice ua js.length uc, .slice ca cs.length cc, .bool cn, .bool ov] 36)).cell? ⟨w.heap.size, 0, none⟩ = some (.int .i64 id) := by rw [cell_of_row _ _ 0 _ _ (0, 0) he3]; rfl
  have y1 : (w2.alloc (.cells #[.slice va ss.length vc, .int .i64 lim, .int .i64 st, .int .i64 nx, .int .i64 bg, .int .i64 ak, .int .i64 tn, .bool fr, .slice ua js.length uc, .slice ca cs.length cc, .bool cn, .bool ov] 36)).cell? ⟨w.heap.size, 1, none⟩ = some (.int .i64 kd) := by rw [cell_of_row _ _ 1 _ _ (0, 0) he3]; rfl
  have y2 : (w2.alloc (.cells #[.slice va ss.length vc, .int .i64 lim, .int .i64 st, .int .i64 nx, .int .i64 bg, .int .i64 ak, .int .i64 tn, .bool fr, .slice ua js.length uc, .slice ca cs.length cc, .bool cn, .bool ov] 36)).cell? ⟨w.heap.size, 2, none⟩ = some (.int .i64 tk) := by rw [cell_of_row _ _ 2 _ _ (0, 0) he3]; rfl
  have y3 : (w2.alloc (.cells #[.slice va ss.length vc, .int .i64 lim, .int .i64 st, .int .i64 nx, .int .i64 bg, .int .i64 ak, .int .i64 tn, .bool fr, .slice ua js.length uc, .slice ca cs.length cc, .bool cn, .bool ov] 36)).cell? ⟨w.heap.size, 3, none⟩ = some (.int .i64 rf) := by rw [cell_of_row _ _ 3 _ _ (0, 0) he3]; rfl
  have y4 : (w2.alloc (.cells #[.slice va ss.length vc, .int .i64 lim, .int .i64 st, .int .i64 nx, .int .i64 bg, .int .i64 ak, .int .i64 tn, .bool fr, .slice ua js.length uc, .slice ca cs.length cc, .bool cn, .bool ov] 36)).cell? ⟨w.heap.size, 4, none⟩ = some (.int .i64 sp) := by rw [cell_of_row _ _ 4 _ _ (0, 0) he3]; rfl
  have y5 : (w2.alloc (.cells #[.slice va ss.length vc, .int .i64 lim, .int .i64 st, .int .i64 nx, .int .i64 bg, .int .i64 ak, .int .i64 tn, .bool fr, .slice ua js.length uc, .slice ca cs.length cc, .bool cn, .bool ov] 36)).cell? ⟨w.heap.size, 5, none⟩ = some (.int .i64 ty) := by rw [cell_of_row _ _ 5 _ _ (0, 0) he3]; rfl
  have y6 : (w2.alloc (.cells #[.slice va ss.length vc, .int .i64 lim, .int .i64 st, .int .i64 nx, .int .i64 bg, .int .i64 ak, .int .i64 tn, .bool fr, .slice ua js.length uc, .slice ca cs.length cc, .bool cn, .bool ov] 36)).cell? ⟨w.heap.size, 6, none⟩ = some (.bool ud) := by rw [cell_of_row _ _ 6 _ _ (0, 0) he3]; rfl
  have y7 : (w2.alloc (.cells #[.slice va ss.length vc, .int .i64 lim, .int .i64 st, .int .i64 nx, .int .i64 bg, .int .i64 ak, .int .i64 tn, .bool fr, .slice ua js.length uc, .slice ca cs.length cc, .bool cn, .bool ov] 36)).cell? ⟨w.heap.size, 7, none⟩ = some (.string ⟨dt.toArray⟩) := by rw [cell_of_row _ _ 7 _ _ (0, 0) he3]; rfl
  have HAP := hid hap
  clear hf0 hrb hap hsq hs0 hs1 he0 he1 he2 b0 b1 b2 b3 hst HW hlenA hlt2
  go_wp2_with fail
  refine (apply_any ss lim st nx bg ak tn fr js cs cn ov va ua ca vc uc cc id kd tk rf sp ty ud dt _ hst3.read hok hdt).mono ?_
  rintro e' w4 hpost
  have hpost2 : APost _ _ _ e' w4 := hpost
  rw [HAP.out] at hpost2
  obtain ⟨b4, vt, ut, ct, vn, un, cm, rfl, hO4⟩ := hpost2
  clear hpost
  simp only at hO4
  rw [show staV ((⟨ss2, lim2, st2, nx2, bg2, ak2, tn2, fr2, js2, cs2, cn2, ov2⟩, g) : Sta × Int).1 (.slice vt ((⟨ss2, lim2, st2, nx2, bg2, ak2, tn2, fr2, js2, cs2, cn2, ov2⟩, g) : Sta × Int).1.ss.length vn) (.slice ut ((⟨ss2, lim2, st2, nx2, bg2, ak2, tn2, fr2, js2, cs2, cn2, ov2⟩, g) : Sta × Int).1.jobs.length un) (.slice ct ((⟨ss2, lim2, st2, nx2, bg2, ak2, tn2, fr2, js2, cs2, cn2, ov2⟩, g) : Sta × Int).1.clocks.length cm) = .agg #[.slice vt ss2.length vn, .int .i64 lim2, .int .i64 st2, .int .i64 nx2, .int .i64 bg2, .int .i64 ak2, .int .i64 tn2, .bool fr2, .slice ut js2.length un, .slice ct cs2.length cm, .bool cn2, .bool ov2] from rfl]
  have b5 : Below w4.heap.size w4 (w4.alloc (.cells #[.slice vt ss2.length vn, .int .i64 lim2, .int .i64 st2, .int .i64 nx2, .int .i64 bg2, .int .i64 ak2, .int .i64 tn2, .bool fr2, .slice ut js2.length un, .slice ct cs2.length cm, .bool cn2, .bool ov2] 36)) := (Below.refl _ _).alloc (Nat.le_refl _) _
  have hz5 : (w4.alloc (.cells #[.slice vt ss2.length vn, .int .i64 lim2, .int .i64 st2, .int .i64 nx2, .int .i64 bg2, .int .i64 ak2, .int .i64 tn2, .bool fr2, .slice ut js2.length un, .slice ct cs2.length cm, .bool cn2, .bool ov2] 36)).heap[w4.heap.size]? = some (.cells #[.slice vt ss2.length vn, .int .i64 lim2, .int .i64 st2, .int .i64 nx2, .int .i64 bg2, .int .i64 ak2, .int .i64 tn2, .bool fr2, .slice ut js2.length un, .slice ct cs2.length cm, .bool cn2, .bool ov2] 36 (0, 0)) := heap_alloc_new w4 _
  have hx4 := (b4.block _ (Array.getElem?_eq_some_iff.1 hx3).1).trans hx3
  have hx5 := (b5.block _ (Array.getElem?_eq_some_iff.1 hx4).1).trans hx4
  have he4 := (b4.block _ (Array.getElem?_eq_some_iff.1 he3).1).trans he3
  have he5 := (b5.block _ (Array.getElem?_eq_some_iff.1 he4).1).trans he4
  have hst5 := (hst3.new b4).new b5
  have hO5 := hO4.new b5
  have b05 := bnext (bnext b03 b4) b5
  have HRL := hid hO4
  have HS3 := hid hst3
  obtain ⟨Ba, hBa⟩ : ∃ B, B = (w2.alloc (.cells #[.slice va ss.length vc, .int .i64 lim, .int .i64 st, .int .i64 nx, .int .i64 bg, .int .i64 ak, .int .i64 tn, .bool fr, .slice ua js.length uc, .slice ca cs.length cc, .bool cn, .bool ov] 36)).heap.size := ⟨_, rfl⟩
  obtain ⟨Ra, hRa⟩ : ∃ B, B = w4.heap.size := ⟨_, rfl⟩
  have hBR : Ba ≤ Ra := by rw [hBa, hRa]; exact b4.size
  have hBA0 : w.heap.size ≤ Ba := by rw [hBa]; exact b03.size
  have hxl : w2.heap.size < Ba := by rw [hBa]; exact (Array.getElem?_eq_some_iff.1 hx3).1
  have hel : w.heap.size < Ba := by rw [hBa]; exact (Array.getElem?_eq_some_iff.1 he3).1
  have HBAQ := hid hBa
  have HRAQ := hid hRa
  clear x0 x1 x2 x3 x4 x5 x6 x7 x8 x9 x10 x11 y0 y1 y2 y3 y4 y5 y6 y7 hx3 he3 hx4 he4 hst3 hO4 b03 b4 b5 hBa hRa
  have x0 : (w4.alloc (.cells #[.slice vt ss2.length vn, .int .i64 lim2, .int .i64 st2, .int .i64 nx2, .int .i64 bg2, .int .i64 ak2, .int .i64 tn2, .bool fr2, .slice ut js2.length un, .slice ct cs2.length cm, .bool cn2, .bool ov2] 36)).cell? ⟨w2.heap.size, 0, none⟩ = some (.slice va ss.length vc) := by rw [cell_of_row _ _ 0 _ _ (0, 0) hx5]; rfl
  have x1 : (w4.alloc (.cells #[.slice vt ss2.length vn, .int .i64 lim2, .int .i64 st2, .int .i64 nx2, .int .i64 bg2, .int .i64 ak2, .int .i64 tn2, .bool fr2, .slice ut js2.length un, .slice ct cs2.length cm, .bool cn2, .bool ov2] 36)).cell? ⟨w2.heap.size, 1, none⟩ = some (.int .i64 lim) := by rw [cell_of_row _ _ 1 _ _ (0, 0) hx5]; rfl
  have x2 : (w4.alloc (.cells #[.slice vt ss2.length vn, .int .i64 lim2, .int .i64 st2, .int .i64 nx2, .int .i64 bg2, .int .i64 ak2, .int .i64 tn2, .bool fr2, .slice ut js2.length un, .slice ct cs2.length cm, .bool cn2, .bool ov2] 36)).cell? ⟨w2.heap.size, 2, none⟩ = some (.int .i64 st) := by rw [cell_of_row _ _ 2 _ _ (0, 0) hx5]; rfl
  have x3 : (w4.alloc (.cells #[.slice vt ss2.length vn, .int .i64 lim2, .int .i64 st2, .int .i64 nx2, .int .i64 bg2, .int .i64 ak2, .int .i64 tn2, .bool fr2, .slice ut js2.length un, .slice ct cs2.length cm, .bool cn2, .bool ov2] 36)).cell? ⟨w2.heap.size, 3, none⟩ = some (.int .i64 nx) := by rw [cell_of_row _ _ 3 _ _ (0, 0) hx5]; rfl
  have x4 : (w4.alloc (.cells #[.slice vt ss2.length vn, .int .i64 lim2, .int .i64 st2, .int .i64 nx2, .int .i64 bg2, .int .i64 ak2, .int .i64 tn2, .bool fr2, .slice ut js2.length un, .slice ct cs2.length cm, .bool cn2, .bool ov2] 36)).cell? ⟨w2.heap.size, 4, none⟩ = some (.int .i64 bg) := by rw [cell_of_row _ _ 4 _ _ (0, 0) hx5]; rfl
  have x5 : (w4.alloc (.cells #[.slice vt ss2.length vn, .int .i64 lim2, .int .i64 st2, .int .i64 nx2, .int .i64 bg2, .int .i64 ak2, .int .i64 tn2, .bool fr2, .slice ut js2.length un, .slice ct cs2.length cm, .bool cn2, .bool ov2] 36)).cell? ⟨w2.heap.size, 5, none⟩ = some (.int .i64 ak) := by rw [cell_of_row _ _ 5 _ _ (0, 0) hx5]; rfl
  have x6 : (w4.alloc (.cells #[.slice vt ss2.length vn, .int .i64 lim2, .int .i64 st2, .int .i64 nx2, .int .i64 bg2, .int .i64 ak2, .int .i64 tn2, .bool fr2, .slice ut js2.length un, .slice ct cs2.length cm, .bool cn2, .bool ov2] 36)).cell? ⟨w2.heap.size, 6, none⟩ = some (.int .i64 tn) := by rw [cell_of_row _ _ 6 _ _ (0, 0) hx5]; rfl
  have x7 : (w4.alloc (.cells #[.slice vt ss2.length vn, .int .i64 lim2, .int .i64 st2, .int .i64 nx2, .int .i64 bg2, .int .i64 ak2, .int .i64 tn2, .bool fr2, .slice ut js2.length un, .slice ct cs2.length cm, .bool cn2, .bool ov2] 36)).cell? ⟨w2.heap.size, 7, none⟩ = some (.bool fr) := by rw [cell_of_row _ _ 7 _ _ (0, 0) hx5]; rfl
  have x8 : (w4.alloc (.cells #[.slice vt ss2.length vn, .int .i64 lim2, .int .i64 st2, .int .i64 nx2, .int .i64 bg2, .int .i64 ak2, .int .i64 tn2, .bool fr2, .slice ut js2.length un, .slice ct cs2.length cm, .bool cn2, .bool ov2] 36)).cell? ⟨w2.heap.size, 8, none⟩ = some (.slice ua js.length uc) := by rw [cell_of_row _ _ 8 _ _ (0, 0) hx5]; rfl
  have x9 : (w4.alloc (.cells #[.slice vt ss2.length vn, .int .i64 lim2, .int .i64 st2, .int .i64 nx2, .int .i64 bg2, .int .i64 ak2, .int .i64 tn2, .bool fr2, .slice ut js2.length un, .slice ct cs2.length cm, .bool cn2, .bool ov2] 36)).cell? ⟨w2.heap.size, 9, none⟩ = some (.slice ca cs.length cc) := by rw [cell_of_row _ _ 9 _ _ (0, 0) hx5]; rfl
  have x10 : (w4.alloc (.cells #[.slice vt ss2.length vn, .int .i64 lim2, .int .i64 st2, .int .i64 nx2, .int .i64 bg2, .int .i64 ak2, .int .i64 tn2, .bool fr2, .slice ut js2.length un, .slice ct cs2.length cm, .bool cn2, .bool ov2] 36)).cell? ⟨w2.heap.size, 10, none⟩ = some (.bool cn) := by rw [cell_of_row _ _ 10 _ _ (0, 0) hx5]; rfl
  have x11 : (w4.alloc (.cells #[.slice vt ss2.length vn, .int .i64 lim2, .int .i64 st2, .int .i64 nx2, .int .i64 bg2, .int .i64 ak2, .int .i64 tn2, .bool fr2, .slice ut js2.length un, .slice ct cs2.length cm, .bool cn2, .bool ov2] 36)).cell? ⟨w2.heap.size, 11, none⟩ = some (.bool ov) := by rw [cell_of_row _ _ 11 _ _ (0, 0) hx5]; rfl
  have y0 : (w4.alloc (.cells #[.slice vt ss2.length vn, .int .i64 lim2, .int .i64 st2, .int .i64 nx2, .int .i64 bg2, .int .i64 ak2, .int .i64 tn2, .bool fr2, .slice ut js2.length un, .slice ct cs2.length cm, .bool cn2, .bool ov2] 36)).cell? ⟨w.heap.size, 0, none⟩ = some (.int .i64 id) := by rw [cell_of_row _ _ 0 _ _ (0, 0) he5]; rfl
  have y1 : (w4.alloc (.cells #[.slice vt ss2.length vn, .int .i64 lim2, .int .i64 st2, .int .i64 nx2, .int .i64 bg2, .int .i64 ak2, .int .i64 tn2, .bool fr2, .slice ut js2.length un, .slice ct cs2.length cm, .bool cn2, .bool ov2] 36)).cell? ⟨w.heap.size, 1, none⟩ = some (.int .i64 kd) := by rw [cell_of_row _ _ 1 _ _ (0, 0) he5]; rfl
  have y2 : (w4.alloc (.cells #[.slice vt ss2.length vn, .int .i64 lim2, .int .i64 st2, .int .i64 nx2, .int .i64 bg2, .int .i64 ak2, .int .i64 tn2, .bool fr2, .slice ut js2.length un, .slice ct cs2.length cm, .bool cn2, .bool ov2] 36)).cell? ⟨w.heap.size, 2, none⟩ = some (.int .i64 tk) := by rw [cell_of_row _ _ 2 _ _ (0, 0) he5]; rfl
  have y3 : (w4.alloc (.cells #[.slice vt ss2.length vn, .int .i64 lim2, .int .i64 st2, .int .i64 nx2, .int .i64 bg2, .int .i64 ak2, .int .i64 tn2, .bool fr2, .slice ut js2.length un, .slice ct cs2.length cm, .bool cn2, .bool ov2] 36)).cell? ⟨w.heap.size, 3, none⟩ = some (.int .i64 rf) := by rw [cell_of_row _ _ 3 _ _ (0, 0) he5]; rfl
  have y4 : (w4.alloc (.cells #[.slice vt ss2.length vn, .int .i64 lim2, .int .i64 st2, .int .i64 nx2, .int .i64 bg2, .int .i64 ak2, .int .i64 tn2, .bool fr2, .slice ut js2.length un, .slice ct cs2.length cm, .bool cn2, .bool ov2] 36)).cell? ⟨w.heap.size, 4, none⟩ = some (.int .i64 sp) := by rw [cell_of_row _ _ 4 _ _ (0, 0) he5]; rfl
  have y5 : (w4.alloc (.cells #[.slice vt ss2.length vn, .int .i64 lim2, .int .i64 st2, .int .i64 nx2, .int .i64 bg2, .int .i64 ak2, .int .i64 tn2, .bool fr2, .slice ut js2.length un, .slice ct cs2.length cm, .bool cn2, .bool ov2] 36)).cell? ⟨w.heap.size, 5, none⟩ = some (.int .i64 ty) := by rw [cell_of_row _ _ 5 _ _ (0, 0) he5]; rfl
  have y6 : (w4.alloc (.cells #[.slice vt ss2.length vn, .int .i64 lim2, .int .i64 st2, .int .i64 nx2, .int .i64 bg2, .int .i64 ak2, .int .i64 tn2, .bool fr2, .slice ut js2.length un, .slice ct cs2.length cm, .bool cn2, .bool ov2] 36)).cell? ⟨w.heap.size, 6, none⟩ = some (.bool ud) := by rw [cell_of_row _ _ 6 _ _ (0, 0) he5]; rfl
  have y7 : (w4.alloc (.cells #[.slice vt ss2.length vn, .int .i64 lim2, .int .i64 st2, .int .i64 nx2, .int .i64 bg2, .int .i64 ak2, .int .i64 tn2, .bool fr2, .slice ut js2.length un, .slice ct cs2.length cm, .bool cn2, .bool ov2] 36)).cell? ⟨w.heap.size, 7, none⟩ = some (.string ⟨dt.toArray⟩) := by rw [cell_of_row _ _ 7 _ _ (0, 0) he5]; rfl
  go_wp2_with fail
  refine (apply_any ss lim st nx bg ak tn fr js cs cn ov va ua ca vc uc cc id kd tk rf sp ty ud dt _ hst5.read hok hdt).mono ?_
  rintro e' w6 hpost
  have hpost2 : APost _ _ _ e' w6 := hpost
  rw [HAP.out] at hpost2
  obtain ⟨b6, vb, ub, cb, vd, ud', cd, rfl, hO6⟩ := hpost2
  clear hpost
  simp only at hO6
  rw [show staV ((⟨ss2, lim2, st2, nx2, bg2, ak2, tn2, fr2, js2, cs2, cn2, ov2⟩, g) : Sta × Int).1 (.slice vb ((⟨ss2, lim2, st2, nx2, bg2, ak2, tn2, fr2, js2, cs2, cn2, ov2⟩, g) : Sta × Int).1.ss.length vd) (.slice ub ((⟨ss2, lim2, st2, nx2, bg2, ak2, tn2, fr2, js2, cs2, cn2, ov2⟩, g) : Sta × Int).1.jobs.length ud') (.slice cb ((⟨ss2, lim2, st2, nx2, bg2, ak2, tn2, fr2, js2, cs2, cn2, ov2⟩, g) : Sta × Int).1.clocks.length cd) = .agg #[.slice vb ss2.length vd, .int .i64 lim2, .int .i64 st2, .int .i64 nx2, .int .i64 bg2, .int .i64 ak2, .int .i64 tn2, .bool fr2, .slice ub js2.length ud', .slice cb cs2.length cd, .bool cn2, .bool ov2] from rfl]
  have b7 : Below w6.heap.size w6 (w6.alloc (.cells #[.slice vb ss2.length vd, .int .i64 lim2, .int .i64 st2, .int .i64 nx2, .int .i64 bg2, .int .i64 ak2, .int .i64 tn2, .bool fr2, .slice ub js2.length ud', .slice cb cs2.length cd, .bool cn2, .bool ov2] 36)) := (Below.refl _ _).alloc (Nat.le_refl _) _
  have hb7 : (w6.alloc (.cells #[.slice vb ss2.length vd, .int .i64 lim2, .int .i64 st2, .int .i64 nx2, .int .i64 bg2, .int .i64 ak2, .int .i64 tn2, .bool fr2, .slice ub js2.length ud', .slice cb cs2.length cd, .bool cn2, .bool ov2] 36)).heap[w6.heap.size]? = some (.cells #[.slice vb ss2.length vd, .int .i64 lim2, .int .i64 st2, .int .i64 nx2, .int .i64 bg2, .int .i64 ak2, .int .i64 tn2, .bool fr2, .slice ub js2.length ud', .slice cb cs2.length cd, .bool cn2, .bool ov2] 36 (0, 0)) := heap_alloc_new w6 _
  have hx6 := (b6.block _ (Array.getElem?_eq_some_iff.1 hx5).1).trans hx5
  have hx7 := (b7.block _ (Array.getElem?_eq_some_iff.1 hx6).1).trans hx6
  have he6 := (b6.block _ (Array.getElem?_eq_some_iff.1 he5).1).trans he5
  have he7 := (b7.block _ (Array.getElem?_eq_some_iff.1 he6).1).trans he6
  have hz6 := (b6.block _ (Array.getElem?_eq_some_iff.1 hz5).1).trans hz5
  have hz7 := (b7.block _ (Array.getElem?_eq_some_iff.1 hz6).1).trans hz6
  have HSTS := hid ((hst5.new b6).new b7)
  have hO7 := (hO5.new b6).new b7
  have HSTB := hid (hO6.new b7)
  have HBW := hid (bnext (bnext b05 b6) b7)
  have HRA : Hid (RA Ba Ra (w6.alloc (.cells #[.slice vb ss2.length vd, .int .i64 lim2, .int .i64 st2, .int .i64 nx2, .int .i64 bg2, .int .i64 ak2, .int .i64 tn2, .bool fr2, .slice ub js2.length ud', .slice cb cs2.length cd, .bool cn2, .bool ov2] 36)) (w6.alloc (.cells #[.slice vb ss2.length vd, .int .i64 lim2, .int .i64 st2, .int .i64 nx2, .int .i64 bg2, .int .i64 ak2, .int .i64 tn2, .bool fr2, .slice ub js2.length ud', .slice cb cs2.length cd, .bool cn2, .bool ov2] 36)) (.slice vt ss2.length vn) (.slice ut js2.length un) (.slice ct cs2.length cm) ss2.length js2.length cs2.length) := hid (RA.start (s := ⟨ss2, lim2, st2, nx2, bg2, ak2, tn2, fr2, js2, cs2, cn2, ov2⟩) (w1 := w4) (by rw [HBAQ.out]; exact hO7) (by rw [HBAQ.out]; exact HRL.out) (by rw [HRAQ.out]; exact Nat.le_refl _))
  have HXS := hid hx7
  have HXE := hid he7
  have HXA := hid hz7
  have HXB := hid hb7
  have HGS : Hid (w2.heap.size < Ba ∨ Ra ≤ w2.heap.size) := hid (.inl hxl)
  have HGE : Hid (w.heap.size < Ba ∨ Ra ≤ w.heap.size) := hid (.inl hel)
  have HGA : Hid (w4.heap.size < Ba ∨ Ra ≤ w4.heap.size) := hid (.inr (by rw [HRAQ.out]; exact Nat.le_refl _))
  have h46 : w4.heap.size ≤ (w4.alloc (.cells #[.slice vt ss2.length vn, .int .i64 lim2, .int .i64 st2, .int .i64 nx2, .int .i64 bg2, .int .i64 ak2, .int .i64 tn2, .bool fr2, .slice ut js2.length un, .slice ct cs2.length cm, .bool cn2, .bool ov2] 36)).heap.size := by rw [World.size_alloc]; omega
  have HGB : Hid (w6.heap.size < Ba ∨ Ra ≤ w6.heap.size) := hid (.inr (by rw [HRAQ.out]; exact Nat.le_trans h46 b6.size))
  have HSL := hid (HS3.out.blocks_lt (M := Ba) (by rw [HBAQ.out]; exact Nat.le_refl _))
  have HBL := hid (HSTB.out.blocks_ge (M := Ra) (by rw [HRAQ.out]; exact h46))
  have HBA : Hid (w.heap.size ≤ Ba) := hid hBA0
  have hxp : (w6.alloc (.cells #[.slice vb ss2.length vd, .int .i64 lim2, .int .i64 st2, .int .i64 nx2, .int .i64 bg2, .int .i64 ak2, .int .i64 tn2, .bool fr2, .slice ub js2.length ud', .slice cb cs2.length cd, .bool cn2, .bool ov2] 36)).cell? ⟨w4.heap.size, 8, none⟩ = some (.slice ut js2.length un) := by rw [cell_of_row _ _ 8 _ _ (0, 0) hz7]; rfl
  have HW7 : ∃ w7, w7 = (w6.alloc (.cells #[.slice vb ss2.length vd, .int .i64 lim2, .int .i64 st2, .int .i64 nx2, .int .i64 bg2, .int .i64 ak2, .int .i64 tn2, .bool fr2, .slice ub js2.length ud', .slice cb cs2.length cd, .bool cn2, .bool ov2] 36)) := ⟨_, rfl⟩
  obtain ⟨w7, hw7⟩ := HW7
  rw [← hw7] at HSTS HSTB HBW HRA HXS HXE HXA HXB
  have HW7 := hid hw7
  clear x0 x1 x2 x3 x4 x5 x6 x7 x8 x9 x10 x11 y0 y1 y2 y3 y4 y5 y6 y7 hx5 he5 hz5 hx6 he6 hz6 hx7 he7 hz7 hb7 hst5 hO5 hO6 hO7 b05 b6 b7 hxl hel h46 hBR hBA0 hw7 HRL HS3
  go_wp2_with fail
  rw [← HW7.out]
  clear hxp
  go_loopw [53] (fun n0 wr => ∃ k : Nat, k ≤ js2.length ∧ n0 = .int .i64 (k : Int) ∧ RA Ba Ra w7 wr (.slice vt ss2.length vn) (.slice ut js2.length un) (.slice ct cs2.length cm) ss2.length js2.length cs2.length) (fun n0 _ => js2.length - (intOf n0).toNat)
  case atStart => exact ⟨0, Nat.zero_le _, rfl, HRA.out⟩
  case round =>
    obtain ⟨k, hk, rfl, hra⟩ := hrel
    have hxa : wr.cell? ⟨w4.heap.size, 8, none⟩ = some (.slice ut js2.length un) := by rw [cell_of_row _ _ 8 _ _ (0, 0) (hra.row HXA.out HGA.out)]; rfl
    by_cases hlt : k < js2.length
    case pos =>
      obtain ⟨xs, hown⟩ := hra.hj
      obtain ⟨g0, hg0⟩ := own_at_some hown (by omega)
      rw [hg0] at hown hra hxa
      have hlen := HLEN.out
      have hlen2 : (js2.length : Int) ≤ 2000 := by omega
      have hkp : (0 : Int) ≤ (k : Int) := by omega
      obtain ⟨x0, hx0⟩ := own_one (p := k * 4 + 3) hown (by omega)
      have hf0 := hown.frozenAt (k * 4 + 3)
      have hkI : (k : Int) < (js2.length : Int) := by omega
      have HF := hid (fun x => hra.setj (p := k * 4 + 3) (x := x))
      have HG0 := hid hg0
      clear hown hra hlen hg0
      go_wp2_with fail
      go_roundw
      case rel => first
        | exact ⟨k + 1, by omega, by go_num, (by rw [HG0.out]; exact HF.out _)⟩
        | ((repeat apply Exists.intro); exact ⟨⟨k + 1, by omega, by go_num, (by rw [HG0.out]; exact HF.out _)⟩, rfl⟩)
      case measure => simp [intOf]; omega
    obtain rfl : k = js2.length := by omega
    have HRA := hid hra
    clear hra hxa
    obtain ⟨wo, rfl⟩ : ∃ wo : World, wo = wr := ⟨_, rfl⟩
    have hxp : wo.cell? ⟨w4.heap.size, 9, none⟩ = some (.slice ct cs2.length cm) := by rw [cell_of_row _ _ 9 _ _ (0, 0) (HRA.out.row HXA.out HGA.out)]; rfl
    go_wp2_with fail
    clear hxp
    go_loopw [65] (fun n0 wr => ∃ k : Nat, k ≤ cs2.length ∧ n0 = .int .i64 (k : Int) ∧ RA Ba Ra w7 wr (.slice vt ss2.length vn) (.slice ut js2.length un) (.slice ct cs2.length cm) ss2.length js2.length cs2.length) (fun n0 _ => cs2.length - (intOf n0).toNat)
    case atStart => exact ⟨0, Nat.zero_le _, rfl, HRA.out⟩
    case round =>
      obtain ⟨k, hk, rfl, hra⟩ := hrel
      have hxa : wr.cell? ⟨w4.heap.size, 9, none⟩ = some (.slice ct cs2.length cm) := by rw [cell_of_row _ _ 9 _ _ (0, 0) (hra.row HXA.out HGA.out)]; rfl
      by_cases hlt : k < cs2.length
      case pos =>
        obtain ⟨xs, hown⟩ := hra.hc
        obtain ⟨g0, hg0⟩ := own_at_some hown (by omega)
        rw [hg0] at hown hra hxa
        have hlen := HLEN.out
        have hlen2 : (cs2.length : Int) ≤ 2000 := by omega
        have hkp : (0 : Int) ≤ (k : Int) := by omega
        obtain ⟨x0, hx0⟩ := own_one (p := k * 3 + 2) hown (by omega)
        have hf0 := hown.frozenAt (k * 3 + 2)
        have hkI : (k : Int) < (cs2.length : Int) := by omega
        have HF := hid (fun x => hra.setc (p := k * 3 + 2) (x := x))
        have HG0 := hid hg0
        clear hown hra hlen hg0
        go_wp2_with fail
        go_roundw
        case rel => first
          | exact ⟨k + 1, by omega, by go_num, (by rw [HG0.out]; exact HF.out _)⟩
          | ((repeat apply Exists.intro); exact ⟨⟨k + 1, by omega, by go_num, (by rw [HG0.out]; exact HF.out _)⟩, rfl⟩)
        case measure => simp [intOf]; omega
      obtain rfl : k = cs2.length := by omega
      have HRA := hid hra
      clear hra hxa
      obtain ⟨wp, rfl⟩ : ∃ wp : World, wp = wr := ⟨_, rfl⟩
      have hxp : wp.cell? ⟨w4.heap.size, 0, none⟩ = some (.slice vt ss2.length vn) := by rw [cell_of_row _ _ 0 _ _ (0, 0) (HRA.out.row HXA.out HGA.out)]; rfl
      go_wp2_with fail
      clear hxp
      go_loopw [78] (fun n0 wr => ∃ k : Nat, k ≤ ss2.length ∧ n0 = .int .i64 (k : Int) ∧ RA Ba Ra w7 wr (.slice vt ss2.length vn) (.slice ut js2.length un) (.slice ct cs2.length cm) ss2.length js2.length cs2.length) (fun n0 _ => ss2.length - (intOf n0).toNat)
      case atStart => exact ⟨0, Nat.zero_le _, rfl, HRA.out⟩
      case round =>
        obtain ⟨k, hk, rfl, hra⟩ := hrel
        have hxa : wr.cell? ⟨w4.heap.size, 0, none⟩ = some (.slice vt ss2.length vn) := by rw [cell_of_row _ _ 0 _ _ (0, 0) (hra.row HXA.out HGA.out)]; rfl
        by_cases hlt : k < ss2.length
        case pos =>
          obtain ⟨xs, hown⟩ := hra.hs
          obtain ⟨g0, hg0⟩ := own_at_some hown (by omega)
          rw [hg0] at hown hra hxa
          have hlen := HLEN.out
          have hlen2 : (ss2.length : Int) ≤ 2000 := by omega
          have hkp : (0 : Int) ≤ (k : Int) := by omega
          obtain ⟨x0, hx0⟩ := own_one (p := k * 6 + 1) hown (by omega)
          have hf0 := hown.frozenAt (k * 6 + 1)
          have hkI : (k : Int) < (ss2.length : Int) := by omega
          have HF := hid (fun x => hra.sets (p := k * 6 + 1) (x := x))
          have HG0 := hid hg0
          clear hown hra hlen hg0
          go_wp2_with fail
          go_roundw
          case rel => first
            | exact ⟨k + 1, by omega, by go_num, (by rw [HG0.out]; exact HF.out _)⟩
            | ((repeat apply Exists.intro); exact ⟨⟨k + 1, by omega, by go_num, (by rw [HG0.out]; exact HF.out _)⟩, rfl⟩)
          case measure => simp [intOf]; omega
        obtain rfl : k = ss2.length := by omega
        have HRA := hid hra
        clear hra hxa
        obtain ⟨wq, rfl⟩ : ∃ wq : World, wq = wr := ⟨_, rfl⟩
        have hra := HRA.out
        have hx := hra.row HXS.out HGS.out
        have he := hra.row HXE.out HGE.out
        have hxa := hra.row HXA.out HGA.out
        have hxb := hra.row HXB.out HGB.out
        have hst := hra.sto HSTS.out (fun b q => .inl (HSL.out b q))
        have hOb := hra.sto HSTB.out (fun b q => .inr (HBL.out b q))
        have bw := hra.below HBW.out HBA.out
        have hsw := HSI.out.below bw
        clear hra
        go_wp2_with fail
        refine (rbuild_any a c l _ hsw hcap hfit).mono ?_
        rintro _ w8 ⟨va', ua', ca', vc', uc', cc', rfl, hrt, b8⟩
        rw [HRB.out] at hrt ⊢
        simp only at hrt ⊢
        rw [← HSQ.out] at hrt ⊢
        simp only at hrt ⊢
        rw [show staV ⟨ss, lim, st, nx, bg, ak, tn, fr, js, cs, cn, ov⟩ (.slice va' (⟨ss, lim, st, nx, bg, ak, tn, fr, js, cs, cn, ov⟩ : Sta).ss.length vc') (.slice ua' (⟨ss, lim, st, nx, bg, ak, tn, fr, js, cs, cn, ov⟩ : Sta).jobs.length uc') (.slice ca' (⟨ss, lim, st, nx, bg, ak, tn, fr, js, cs, cn, ov⟩ : Sta).clocks.length cc') = .agg #[.slice va' ss.length vc', .int .i64 lim, .int .i64 st, .int .i64 nx, .int .i64 bg, .int .i64 ak, .int .i64 tn, .bool fr, .slice ua' js.length uc', .slice ca' cs.length cc', .bool cn, .bool ov] from rfl]
        have b9 : Below w8.heap.size w8 (w8.alloc (.cells #[.slice va' ss.length vc', .int .i64 lim, .int .i64 st, .int .i64 nx, .int .i64 bg, .int .i64 ak, .int .i64 tn, .bool fr, .slice ua' js.length uc', .slice ca' cs.length cc', .bool cn, .bool ov] 36)) := (Below.refl _ _).alloc (Nat.le_refl _) _
        have hy9 : (w8.alloc (.cells #[.slice va' ss.length vc', .int .i64 lim, .int .i64 st, .int .i64 nx, .int .i64 bg, .int .i64 ak, .int .i64 tn, .bool fr, .slice ua' js.length uc', .slice ca' cs.length cc', .bool cn, .bool ov] 36)).heap[w8.heap.size]? = some (.cells #[.slice va' ss.length vc', .int .i64 lim, .int .i64 st, .int .i64 nx, .int .i64 bg, .int .i64 ak, .int .i64 tn, .bool fr, .slice ua' js.length uc', .slice ca' cs.length cc', .bool cn, .bool ov] 36 (0, 0)) := heap_alloc_new w8 _
        have hx8 := (b8.block _ (Array.getElem?_eq_some_iff.1 hx).1).trans hx
        have hx9 := (b9.block _ (Array.getElem?_eq_some_iff.1 hx8).1).trans hx8
        have he8 := (b8.block _ (Array.getElem?_eq_some_iff.1 he).1).trans he
        have he9 := (b9.block _ (Array.getElem?_eq_some_iff.1 he8).1).trans he8
        have hxb8 := (b8.block _ (Array.getElem?_eq_some_iff.1 hxb).1).trans hxb
        have hxb9 := (b9.block _ (Array.getElem?_eq_some_iff.1 hxb8).1).trans hxb8
        have hst9 := (hst.new b8).new b9
        have hOb9 := (hOb.new b8).new b9
        have hrt9 := hrt.below b9
        have bw9 := bnext (bnext bw b8) b9
        have x0 : (w8.alloc (.cells #[.slice va' ss.length vc', .int .i64 lim, .int .i64 st, .int .i64 nx, .int .i64 bg, .int .i64 ak, .int .i64 tn, .bool fr, .slice ua' js.length uc', .slice ca' cs.length cc', .bool cn, .bool ov] 36)).cell? ⟨w2.heap.size, 0, none⟩ = some (.slice va ss.length vc) := by rw [cell_of_row _ _ 0 _ _ (0, 0) hx9]; rfl
        have x1 : (w8.alloc (.cells #[.slice va' ss.length vc', .int .i64 lim, .int .i64 st, .int .i64 nx, .int .i64 bg, .int .i64 ak, .int .i64 tn, .bool fr, .slice ua' js.length uc', .slice ca' cs.length cc', .bool cn, .bool ov] 36)).cell? ⟨w2.heap.size, 1, none⟩ = some (.int .i64 lim) := by rw [cell_of_row _ _ 1 _ _ (0, 0) hx9]; rfl
        have x2 : (w8.alloc (.cells #[.slice va' ss.length vc', .int .i64 lim, .int .i64 st, .int .i64 nx, .int .i64 bg, .int .i64 ak, .int .i64 tn, .bool fr, .slice ua' js.length uc', .slice ca' cs.length cc', .bool cn, .bool ov] 36)).cell? ⟨w2.heap.size, 2, none⟩ = some (.int .i64 st) := by rw [cell_of_row _ _ 2 _ _ (0, 0) hx9]; rfl
        have x3 : (w8.alloc (.cells #[.slice va' ss.length vc', .int .i64 lim, .int .i64 st, .int .i64 nx, .int .i64 bg, .int .i64 ak, .int .i64 tn, .bool fr, .slice ua' js.length uc', .slice ca' cs.length cc', .bool cn, .bool ov] 36)).cell? ⟨w2.heap.size, 3, none⟩ = some (.int .i64 nx) := by rw [cell_of_row _ _ 3 _ _ (0, 0) hx9]; rfl
        have x4 : (w8.alloc (.cells #[.slice va' ss.length vc', .int .i64 lim, .int .i64 st, .int .i64 nx, .int .i64 bg, .int .i64 ak, .int .i64 tn, .bool fr, .slice ua' js.length uc', .slice ca' cs.length cc', .bool cn, .bool ov] 36)).cell? ⟨w2.heap.size, 4, none⟩ = some (.int .i64 bg) := by rw [cell_of_row _ _ 4 _ _ (0, 0) hx9]; rfl
        have x5 : (w8.alloc (.cells #[.slice va' ss.length vc', .int .i64 lim, .int .i64 st, .int .i64 nx, .int .i64 bg, .int .i64 ak, .int .i64 tn, .bool fr, .slice ua' js.length uc', .slice ca' cs.length cc', .bool cn, .bool ov] 36)).cell? ⟨w2.heap.size, 5, none⟩ = some (.int .i64 ak) := by rw [cell_of_row _ _ 5 _ _ (0, 0) hx9]; rfl
        have x6 : (w8.alloc (.cells #[.slice va' ss.length vc', .int .i64 lim, .int .i64 st, .int .i64 nx, .int .i64 bg, .int .i64 ak, .int .i64 tn, .bool fr, .slice ua' js.length uc', .slice ca' cs.length cc', .bool cn, .bool ov] 36)).cell? ⟨w2.heap.size, 6, none⟩ = some (.int .i64 tn) := by rw [cell_of_row _ _ 6 _ _ (0, 0) hx9]; rfl
        have x7 : (w8.alloc (.cells #[.slice va' ss.length vc', .int .i64 lim, .int .i64 st, .int .i64 nx, .int .i64 bg, .int .i64 ak, .int .i64 tn, .bool fr, .slice ua' js.length uc', .slice ca' cs.length cc', .bool cn, .bool ov] 36)).cell? ⟨w2.heap.size, 7, none⟩ = some (.bool fr) := by rw [cell_of_row _ _ 7 _ _ (0, 0) hx9]; rfl
        have x8 : (w8.alloc (.cells #[.slice va' ss.length vc', .int .i64 lim, .int .i64 st, .int .i64 nx, .int .i64 bg, .int .i64 ak, .int .i64 tn, .bool fr, .slice ua' js.length uc', .slice ca' cs.length cc', .bool cn, .bool ov] 36)).cell? ⟨w2.heap.size, 8, none⟩ = some (.slice ua js.length uc) := by rw [cell_of_row _ _ 8 _ _ (0, 0) hx9]; rfl
        have x9 : (w8.alloc (.cells #[.slice va' ss.length vc', .int .i64 lim, .int .i64 st, .int .i64 nx, .int .i64 bg, .int .i64 ak, .int .i64 tn, .bool fr, .slice ua' js.length uc', .slice ca' cs.length cc', .bool cn, .bool ov] 36)).cell? ⟨w2.heap.size, 9, none⟩ = some (.slice ca cs.length cc) := by rw [cell_of_row _ _ 9 _ _ (0, 0) hx9]; rfl
        have x10 : (w8.alloc (.cells #[.slice va' ss.length vc', .int .i64 lim, .int .i64 st, .int .i64 nx, .int .i64 bg, .int .i64 ak, .int .i64 tn, .bool fr, .slice ua' js.length uc', .slice ca' cs.length cc', .bool cn, .bool ov] 36)).cell? ⟨w2.heap.size, 10, none⟩ = some (.bool cn) := by rw [cell_of_row _ _ 10 _ _ (0, 0) hx9]; rfl
        have x11 : (w8.alloc (.cells #[.slice va' ss.length vc', .int .i64 lim, .int .i64 st, .int .i64 nx, .int .i64 bg, .int .i64 ak, .int .i64 tn, .bool fr, .slice ua' js.length uc', .slice ca' cs.length cc', .bool cn, .bool ov] 36)).cell? ⟨w2.heap.size, 11, none⟩ = some (.bool ov) := by rw [cell_of_row _ _ 11 _ _ (0, 0) hx9]; rfl
        have y0 : (w8.alloc (.cells #[.slice va' ss.length vc', .int .i64 lim, .int .i64 st, .int .i64 nx, .int .i64 bg, .int .i64 ak, .int .i64 tn, .bool fr, .slice ua' js.length uc', .slice ca' cs.length cc', .bool cn, .bool ov] 36)).cell? ⟨w.heap.size, 0, none⟩ = some (.int .i64 id) := by rw [cell_of_row _ _ 0 _ _ (0, 0) he9]; rfl
        have y1 : (w8.alloc (.cells #[.slice va' ss.length vc', .int .i64 lim, .int .i64 st, .int .i64 nx, .int .i64 bg, .int .i64 ak, .int .i64 tn, .bool fr, .slice ua' js.length uc', .slice ca' cs.length cc', .bool cn, .bool ov] 36)).cell? ⟨w.heap.size, 1, none⟩ = some (.int .i64 kd) := by rw [cell_of_row _ _ 1 _ _ (0, 0) he9]; rfl
        have y2 : (w8.alloc (.cells #[.slice va' ss.length vc', .int .i64 lim, .int .i64 st, .int .i64 nx, .int .i64 bg, .int .i64 ak, .int .i64 tn, .bool fr, .slice ua' js.length uc', .slice ca' cs.length cc', .bool cn, .bool ov] 36)).cell? ⟨w.heap.size, 2, none⟩ = some (.int .i64 tk) := by rw [cell_of_row _ _ 2 _ _ (0, 0) he9]; rfl
        have y3 : (w8.alloc (.cells #[.slice va' ss.length vc', .int .i64 lim, .int .i64 st, .int .i64 nx, .int .i64 bg, .int .i64 ak, .int .i64 tn, .bool fr, .slice ua' js.length uc', .slice ca' cs.length cc', .bool cn, .bool ov] 36)).cell? ⟨w.heap.size, 3, none⟩ = some (.int .i64 rf) := by rw [cell_of_row _ _ 3 _ _ (0, 0) he9]; rfl
        have y4 : (w8.alloc (.cells #[.slice va' ss.length vc', .int .i64 lim, .int .i64 st, .int .i64 nx, .int .i64 bg, .int .i64 ak, .int .i64 tn, .bool fr, .slice ua' js.length uc', .slice ca' cs.length cc', .bool cn, .bool ov] 36)).cell? ⟨w.heap.size, 4, none⟩ = some (.int .i64 sp) := by rw [cell_of_row _ _ 4 _ _ (0, 0) he9]; rfl
        have y5 : (w8.alloc (.cells #[.slice va' ss.length vc', .int .i64 lim, .int .i64 st, .int .i64 nx, .int .i64 bg, .int .i64 ak, .int .i64 tn, .bool fr, .slice ua' js.length uc', .slice ca' cs.length cc', .bool cn, .bool ov] 36)).cell? ⟨w.heap.size, 5, none⟩ = some (.int .i64 ty) := by rw [cell_of_row _ _ 5 _ _ (0, 0) he9]; rfl
        have y6 : (w8.alloc (.cells #[.slice va' ss.length vc', .int .i64 lim, .int .i64 st, .int .i64 nx, .int .i64 bg, .int .i64 ak, .int .i64 tn, .bool fr, .slice ua' js.length uc', .slice ca' cs.length cc', .bool cn, .bool ov] 36)).cell? ⟨w.heap.size, 6, none⟩ = some (.bool ud) := by rw [cell_of_row _ _ 6 _ _ (0, 0) he9]; rfl
        have y7 : (w8.alloc (.cells #[.slice va' ss.length vc', .int .i64 lim, .int .i64 st, .int .i64 nx, .int .i64 bg, .int .i64 ak, .int .i64 tn, .bool fr, .slice ua' js.length uc', .slice ca' cs.length cc', .bool cn, .bool ov] 36)).cell? ⟨w.heap.size, 7, none⟩ = some (.string ⟨dt.toArray⟩) := by rw [cell_of_row _ _ 7 _ _ (0, 0) he9]; rfl
        clear hx he hxa hxb hst hOb bw hsw hrt b8 b9 hx8 he8 hxb8
        go_wp2_with fail
        refine (apply_any ss lim st nx bg ak tn fr js cs cn ov va ua ca vc uc cc id kd tk rf sp ty ud dt _ hst9.read hok hdt).mono ?_
        rintro e' w10 hpost
        have hpost2 : APost _ _ _ e' w10 := hpost
        rw [HAP.out] at hpost2
        obtain ⟨b10, vg, ug, cg, vh, uh, ch, rfl, hO10⟩ := hpost2
        clear hpost
        simp only at hO10
        rw [show staV ((⟨ss2, lim2, st2, nx2, bg2, ak2, tn2, fr2, js2, cs2, cn2, ov2⟩, g) : Sta × Int).1 (.slice vg ((⟨ss2, lim2, st2, nx2, bg2, ak2, tn2, fr2, js2, cs2, cn2, ov2⟩, g) : Sta × Int).1.ss.length vh) (.slice ug ((⟨ss2, lim2, st2, nx2, bg2, ak2, tn2, fr2, js2, cs2, cn2, ov2⟩, g) : Sta × Int).1.jobs.length uh) (.slice cg ((⟨ss2, lim2, st2, nx2, bg2, ak2, tn2, fr2, js2, cs2, cn2, ov2⟩, g) : Sta × Int).1.clocks.length ch) = .agg #[.slice vg ss2.length vh, .int .i64 lim2, .int .i64 st2, .int .i64 nx2, .int .i64 bg2, .int .i64 ak2, .int .i64 tn2, .bool fr2, .slice ug js2.length uh, .slice cg cs2.length ch, .bool cn2, .bool ov2] from rfl]
        have b11 : Below w10.heap.size w10 (w10.alloc (.cells #[.slice vg ss2.length vh, .int .i64 lim2, .int .i64 st2, .int .i64 nx2, .int .i64 bg2, .int .i64 ak2, .int .i64 tn2, .bool fr2, .slice ug js2.length uh, .slice cg cs2.length ch, .bool cn2, .bool ov2] 36)) := (Below.refl _ _).alloc (Nat.le_refl _) _
        have hu11 : (w10.alloc (.cells #[.slice vg ss2.length vh, .int .i64 lim2, .int .i64 st2, .int .i64 nx2, .int .i64 bg2, .int .i64 ak2, .int .i64 tn2, .bool fr2, .slice ug js2.length uh, .slice cg cs2.length ch, .bool cn2, .bool ov2] 36)).heap[w10.heap.size]? = some (.cells #[.slice vg ss2.length vh, .int .i64 lim2, .int .i64 st2, .int .i64 nx2, .int .i64 bg2, .int .i64 ak2, .int .i64 tn2, .bool fr2, .slice ug js2.length uh, .slice cg cs2.length ch, .bool cn2, .bool ov2] 36 (0, 0)) := heap_alloc_new w10 _
        have hx10 := (b10.block _ (Array.getElem?_eq_some_iff.1 hx9).1).trans hx9
        have hx11 := (b11.block _ (Array.getElem?_eq_some_iff.1 hx10).1).trans hx10
        have hy10 := (b10.block _ (Array.getElem?_eq_some_iff.1 hy9).1).trans hy9
        have hy11 := (b11.block _ (Array.getElem?_eq_some_iff.1 hy10).1).trans hy10
        have hxb10 := (b10.block _ (Array.getElem?_eq_some_iff.1 hxb9).1).trans hxb9
        have hxb11 := (b11.block _ (Array.getElem?_eq_some_iff.1 hxb10).1).trans hxb10
        have hr1 := ((hst9.new b10).new b11).read
        have hr2 := ((hrt9.below b10).below b11)
        have hr3 := ((hO10.new b11)).read
        have hr4 := ((hOb9.new b10).new b11).read
        have bw11 := bnext (bnext bw9 b10) b11
        clear x0 x1 x2 x3 x4 x5 x6 x7 x8 x9 x10 x11 y0 y1 y2 y3 y4 y5 y6 y7
        have x0 : (w10.alloc (.cells #[.slice vg ss2.length vh, .int .i64 lim2, .int .i64 st2, .int .i64 nx2, .int .i64 bg2, .int .i64 ak2, .int .i64 tn2, .bool fr2, .slice ug js2.length uh, .slice cg cs2.length ch, .bool cn2, .bool ov2] 36)).cell? ⟨w2.heap.size, 0, none⟩ = some (.slice va ss.length vc) := by rw [cell_of_row _ _ 0 _ _ (0, 0) hx11]; rfl
        have x1 : (w10.alloc (.cells #[.slice vg ss2.length vh, .int .i64 lim2, .int .i64 st2, .int .i64 nx2, .int .i64 bg2, .int .i64 ak2, .int .i64 tn2, .bool fr2, .slice ug js2.length uh, .slice cg cs2.length ch, .bool cn2, .bool ov2] 36)).cell? ⟨w2.heap.size, 1, none⟩ = some (.int .i64 lim) := by rw [cell_of_row _ _ 1 _ _ (0, 0) hx11]; rfl
        have x2 : (w10.alloc (.cells #[.slice vg ss2.length vh, .int .i64 lim2, .int .i64 st2, .int .i64 nx2, .int .i64 bg2, .int .i64 ak2, .int .i64 tn2, .bool fr2, .slice ug js2.length uh, .slice cg cs2.length ch, .bool cn2, .bool ov2] 36)).cell? ⟨w2.heap.size, 2, none⟩ = some (.int .i64 st) := by rw [cell_of_row _ _ 2 _ _ (0, 0) hx11]; rfl
        have x3 : (w10.alloc (.cells #[.slice vg ss2.length vh, .int .i64 lim2, .int .i64 st2, .int .i64 nx2, .int .i64 bg2, .int .i64 ak2, .int .i64 tn2, .bool fr2, .slice ug js2.length uh, .slice cg cs2.length ch, .bool cn2, .bool ov2] 36)).cell? ⟨w2.heap.size, 3, none⟩ = some (.int .i64 nx) := by rw [cell_of_row _ _ 3 _ _ (0, 0) hx11]; rfl
        have x4 : (w10.alloc (.cells #[.slice vg ss2.length vh, .int .i64 lim2, .int .i64 st2, .int .i64 nx2, .int .i64 bg2, .int .i64 ak2, .int .i64 tn2, .bool fr2, .slice ug js2.length uh, .slice cg cs2.length ch, .bool cn2, .bool ov2] 36)).cell? ⟨w2.heap.size, 4, none⟩ = some (.int .i64 bg) := by rw [cell_of_row _ _ 4 _ _ (0, 0) hx11]; rfl
        have x5 : (w10.alloc (.cells #[.slice vg ss2.length vh, .int .i64 lim2, .int .i64 st2, .int .i64 nx2, .int .i64 bg2, .int .i64 ak2, .int .i64 tn2, .bool fr2, .slice ug js2.length uh, .slice cg cs2.length ch, .bool cn2, .bool ov2] 36)).cell? ⟨w2.heap.size, 5, none⟩ = some (.int .i64 ak) := by rw [cell_of_row _ _ 5 _ _ (0, 0) hx11]; rfl
        have x6 : (w10.alloc (.cells #[.slice vg ss2.length vh, .int .i64 lim2, .int .i64 st2, .int .i64 nx2, .int .i64 bg2, .int .i64 ak2, .int .i64 tn2, .bool fr2, .slice ug js2.length uh, .slice cg cs2.length ch, .bool cn2, .bool ov2] 36)).cell? ⟨w2.heap.size, 6, none⟩ = some (.int .i64 tn) := by rw [cell_of_row _ _ 6 _ _ (0, 0) hx11]; rfl
        have x7 : (w10.alloc (.cells #[.slice vg ss2.length vh, .int .i64 lim2, .int .i64 st2, .int .i64 nx2, .int .i64 bg2, .int .i64 ak2, .int .i64 tn2, .bool fr2, .slice ug js2.length uh, .slice cg cs2.length ch, .bool cn2, .bool ov2] 36)).cell? ⟨w2.heap.size, 7, none⟩ = some (.bool fr) := by rw [cell_of_row _ _ 7 _ _ (0, 0) hx11]; rfl
        have x8 : (w10.alloc (.cells #[.slice vg ss2.length vh, .int .i64 lim2, .int .i64 st2, .int .i64 nx2, .int .i64 bg2, .int .i64 ak2, .int .i64 tn2, .bool fr2, .slice ug js2.length uh, .slice cg cs2.length ch, .bool cn2, .bool ov2] 36)).cell? ⟨w2.heap.size, 8, none⟩ = some (.slice ua js.length uc) := by rw [cell_of_row _ _ 8 _ _ (0, 0) hx11]; rfl
        have x9 : (w10.alloc (.cells #[.slice vg ss2.length vh, .int .i64 lim2, .int .i64 st2, .int .i64 nx2, .int .i64 bg2, .int .i64 ak2, .int .i64 tn2, .bool fr2, .slice ug js2.length uh, .slice cg cs2.length ch, .bool cn2, .bool ov2] 36)).cell? ⟨w2.heap.size, 9, none⟩ = some (.slice ca cs.length cc) := by rw [cell_of_row _ _ 9 _ _ (0, 0) hx11]; rfl
        have x10 : (w10.alloc (.cells #[.slice vg ss2.length vh, .int .i64 lim2, .int .i64 st2, .int .i64 nx2, .int .i64 bg2, .int .i64 ak2, .int .i64 tn2, .bool fr2, .slice ug js2.length uh, .slice cg cs2.length ch, .bool cn2, .bool ov2] 36)).cell? ⟨w2.heap.size, 10, none⟩ = some (.bool cn) := by rw [cell_of_row _ _ 10 _ _ (0, 0) hx11]; rfl
        have x11 : (w10.alloc (.cells #[.slice vg ss2.length vh, .int .i64 lim2, .int .i64 st2, .int .i64 nx2, .int .i64 bg2, .int .i64 ak2, .int .i64 tn2, .bool fr2, .slice ug js2.length uh, .slice cg cs2.length ch, .bool cn2, .bool ov2] 36)).cell? ⟨w2.heap.size, 11, none⟩ = some (.bool ov) := by rw [cell_of_row _ _ 11 _ _ (0, 0) hx11]; rfl
        have y0 : (w10.alloc (.cells #[.slice vg ss2.length vh, .int .i64 lim2, .int .i64 st2, .int .i64 nx2, .int .i64 bg2, .int .i64 ak2, .int .i64 tn2, .bool fr2, .slice ug js2.length uh, .slice cg cs2.length ch, .bool cn2, .bool ov2] 36)).cell? ⟨w8.heap.size, 0, none⟩ = some (.slice va' ss.length vc') := by rw [cell_of_row _ _ 0 _ _ (0, 0) hy11]; rfl
        have y1 : (w10.alloc (.cells #[.slice vg ss2.length vh, .int .i64 lim2, .int .i64 st2, .int .i64 nx2, .int .i64 bg2, .int .i64 ak2, .int .i64 tn2, .bool fr2, .slice ug js2.length uh, .slice cg cs2.length ch, .bool cn2, .bool ov2] 36)).cell? ⟨w8.heap.size, 1, none⟩ = some (.int .i64 lim) := by rw [cell_of_row _ _ 1 _ _ (0, 0) hy11]; rfl
        have y2 : (w10.alloc (.cells #[.slice vg ss2.length vh, .int .i64 lim2, .int .i64 st2, .int .i64 nx2, .int .i64 bg2, .int .i64 ak2, .int .i64 tn2, .bool fr2, .slice ug js2.length uh, .slice cg cs2.length ch, .bool cn2, .bool ov2] 36)).cell? ⟨w8.heap.size, 2, none⟩ = some (.int .i64 st) := by rw [cell_of_row _ _ 2 _ _ (0, 0) hy11]; rfl
        have y3 : (w10.alloc (.cells #[.slice vg ss2.length vh, .int .i64 lim2, .int .i64 st2, .int .i64 nx2, .int .i64 bg2, .int .i64 ak2, .int .i64 tn2, .bool fr2, .slice ug js2.length uh, .slice cg cs2.length ch, .bool cn2, .bool ov2] 36)).cell? ⟨w8.heap.size, 3, none⟩ = some (.int .i64 nx) := by rw [cell_of_row _ _ 3 _ _ (0, 0) hy11]; rfl
        have y4 : (w10.alloc (.cells #[.slice vg ss2.length vh, .int .i64 lim2, .int .i64 st2, .int .i64 nx2, .int .i64 bg2, .int .i64 ak2, .int .i64 tn2, .bool fr2, .slice ug js2.length uh, .slice cg cs2.length ch, .bool cn2, .bool ov2] 36)).cell? ⟨w8.heap.size, 4, none⟩ = some (.int .i64 bg) := by rw [cell_of_row _ _ 4 _ _ (0, 0) hy11]; rfl
        have y5 : (w10.alloc (.cells #[.slice vg ss2.length vh, .int .i64 lim2, .int .i64 st2, .int .i64 nx2, .int .i64 bg2, .int .i64 ak2, .int .i64 tn2, .bool fr2, .slice ug js2.length uh, .slice cg cs2.length ch, .bool cn2, .bool ov2] 36)).cell? ⟨w8.heap.size, 5, none⟩ = some (.int .i64 ak) := by rw [cell_of_row _ _ 5 _ _ (0, 0) hy11]; rfl
        have y6 : (w10.alloc (.cells #[.slice vg ss2.length vh, .int .i64 lim2, .int .i64 st2, .int .i64 nx2, .int .i64 bg2, .int .i64 ak2, .int .i64 tn2, .bool fr2, .slice ug js2.length uh, .slice cg cs2.length ch, .bool cn2, .bool ov2] 36)).cell? ⟨w8.heap.size, 6, none⟩ = some (.int .i64 tn) := by rw [cell_of_row _ _ 6 _ _ (0, 0) hy11]; rfl
        have y7 : (w10.alloc (.cells #[.slice vg ss2.length vh, .int .i64 lim2, .int .i64 st2, .int .i64 nx2, .int .i64 bg2, .int .i64 ak2, .int .i64 tn2, .bool fr2, .slice ug js2.length uh, .slice cg cs2.length ch, .bool cn2, .bool ov2] 36)).cell? ⟨w8.heap.size, 7, none⟩ = some (.bool fr) := by rw [cell_of_row _ _ 7 _ _ (0, 0) hy11]; rfl
        have y8 : (w10.alloc (.cells #[.slice vg ss2.length vh, .int .i64 lim2, .int .i64 st2, .int .i64 nx2, .int .i64 bg2, .int .i64 ak2, .int .i64 tn2, .bool fr2, .slice ug js2.length uh, .slice cg cs2.length ch, .bool cn2, .bool ov2] 36)).cell? ⟨w8.heap.size, 8, none⟩ = some (.slice ua' js.length uc') := by rw [cell_of_row _ _ 8 _ _ (0, 0) hy11]; rfl
        have y9 : (w10.alloc (.cells #[.slice vg ss2.length vh, .int .i64 lim2, .int .i64 st2, .int .i64 nx2, .int .i64 bg2, .int .i64 ak2, .int .i64 tn2, .bool fr2, .slice ug js2.length uh, .slice cg cs2.length ch, .bool cn2, .bool ov2] 36)).cell? ⟨w8.heap.size, 9, none⟩ = some (.slice ca' cs.length cc') := by rw [cell_of_row _ _ 9 _ _ (0, 0) hy11]; rfl
        have y10 : (w10.alloc (.cells #[.slice vg ss2.length vh, .int .i64 lim2, .int .i64 st2, .int .i64 nx2, .int .i64 bg2, .int .i64 ak2, .int .i64 tn2, .bool fr2, .slice ug js2.length uh, .slice cg cs2.length ch, .bool cn2, .bool ov2] 36)).cell? ⟨w8.heap.size, 10, none⟩ = some (.bool cn) := by rw [cell_of_row _ _ 10 _ _ (0, 0) hy11]; rfl
        have y11 : (w10.alloc (.cells #[.slice vg ss2.length vh, .int .i64 lim2, .int .i64 st2, .int .i64 nx2, .int .i64 bg2, .int .i64 ak2, .int .i64 tn2, .bool fr2, .slice ug js2.length uh, .slice cg cs2.length ch, .bool cn2, .bool ov2] 36)).cell? ⟨w8.heap.size, 11, none⟩ = some (.bool ov) := by rw [cell_of_row _ _ 11 _ _ (0, 0) hy11]; rfl
        have z0 : (w10.alloc (.cells #[.slice vg ss2.length vh, .int .i64 lim2, .int .i64 st2, .int .i64 nx2, .int .i64 bg2, .int .i64 ak2, .int .i64 tn2, .bool fr2, .slice ug js2.length uh, .slice cg cs2.length ch, .bool cn2, .bool ov2] 36)).cell? ⟨w10.heap.size, 0, none⟩ = some (.slice vg ss2.length vh) := by rw [cell_of_row _ _ 0 _ _ (0, 0) hu11]; rfl
        have z1 : (w10.alloc (.cells #[.slice vg ss2.length vh, .int .i64 lim2, .int .i64 st2, .int .i64 nx2, .int .i64 bg2, .int .i64 ak2, .int .i64 tn2, .bool fr2, .slice ug js2.length uh, .slice cg cs2.length ch, .bool cn2, .bool ov2] 36)).cell? ⟨w10.heap.size, 1, none⟩ = some (.int .i64 lim2) := by rw [cell_of_row _ _ 1 _ _ (0, 0) hu11]; rfl
        have z2 : (w10.alloc (.cells #[.slice vg ss2.length vh, .int .i64 lim2, .int .i64 st2, .int .i64 nx2, .int .i64 bg2, .int .i64 ak2, .int .i64 tn2, .bool fr2, .slice ug js2.length uh, .slice cg cs2.length ch, .bool cn2, .bool ov2] 36)).cell? ⟨w10.heap.size, 2, none⟩ = some (.int .i64 st2) := by rw [cell_of_row _ _ 2 _ _ (0, 0) hu11]; rfl
        have z3 : (w10.alloc (.cells #[.slice vg ss2.length vh, .int .i64 lim2, .int .i64 st2, .int .i64 nx2, .int .i64 bg2, .int .i64 ak2, .int .i64 tn2, .bool fr2, .slice ug js2.length uh, .slice cg cs2.length ch, .bool cn2, .bool ov2] 36)).cell? ⟨w10.heap.size, 3, none⟩ = some (.int .i64 nx2) := by rw [cell_of_row _ _ 3 _ _ (0, 0) hu11]; rfl
        have z4 : (w10.alloc (.cells #[.slice vg ss2.length vh, .int .i64 lim2, .int .i64 st2, .int .i64 nx2, .int .i64 bg2, .int .i64 ak2, .int .i64 tn2, .bool fr2, .slice ug js2.length uh, .slice cg cs2.length ch, .bool cn2, .bool ov2] 36)).cell? ⟨w10.heap.size, 4, none⟩ = some (.int .i64 bg2) := by rw [cell_of_row _ _ 4 _ _ (0, 0) hu11]; rfl
        have z5 : (w10.alloc (.cells #[.slice vg ss2.length vh, .int .i64 lim2, .int .i64 st2, .int .i64 nx2, .int .i64 bg2, .int .i64 ak2, .int .i64 tn2, .bool fr2, .slice ug js2.length uh, .slice cg cs2.length ch, .bool cn2, .bool ov2] 36)).cell? ⟨w10.heap.size, 5, none⟩ = some (.int .i64 ak2) := by rw [cell_of_row _ _ 5 _ _ (0, 0) hu11]; rfl
        have z6 : (w10.alloc (.cells #[.slice vg ss2.length vh, .int .i64 lim2, .int .i64 st2, .int .i64 nx2, .int .i64 bg2, .int .i64 ak2, .int .i64 tn2, .bool fr2, .slice ug js2.length uh, .slice cg cs2.length ch, .bool cn2, .bool ov2] 36)).cell? ⟨w10.heap.size, 6, none⟩ = some (.int .i64 tn2) := by rw [cell_of_row _ _ 6 _ _ (0, 0) hu11]; rfl
        have z7 : (w10.alloc (.cells #[.slice vg ss2.length vh, .int .i64 lim2, .int .i64 st2, .int .i64 nx2, .int .i64 bg2, .int .i64 ak2, .int .i64 tn2, .bool fr2, .slice ug js2.length uh, .slice cg cs2.length ch, .bool cn2, .bool ov2] 36)).cell? ⟨w10.heap.size, 7, none⟩ = some (.bool fr2) := by rw [cell_of_row _ _ 7 _ _ (0, 0) hu11]; rfl
        have z8 : (w10.alloc (.cells #[.slice vg ss2.length vh, .int .i64 lim2, .int .i64 st2, .int .i64 nx2, .int .i64 bg2, .int .i64 ak2, .int .i64 tn2, .bool fr2, .slice ug js2.length uh, .slice cg cs2.length ch, .bool cn2, .bool ov2] 36)).cell? ⟨w10.heap.size, 8, none⟩ = some (.slice ug js2.length uh) := by rw [cell_of_row _ _ 8 _ _ (0, 0) hu11]; rfl
        have z9 : (w10.alloc (.cells #[.slice vg ss2.length vh, .int .i64 lim2, .int .i64 st2, .int .i64 nx2, .int .i64 bg2, .int .i64 ak2, .int .i64 tn2, .bool fr2, .slice ug js2.length uh, .slice cg cs2.length ch, .bool cn2, .bool ov2] 36)).cell? ⟨w10.heap.size, 9, none⟩ = some (.slice cg cs2.length ch) := by rw [cell_of_row _ _ 9 _ _ (0, 0) hu11]; rfl
        have z10 : (w10.alloc (.cells #[.slice vg ss2.length vh, .int .i64 lim2, .int .i64 st2, .int .i64 nx2, .int .i64 bg2, .int .i64 ak2, .int .i64 tn2, .bool fr2, .slice ug js2.length uh, .slice cg cs2.length ch, .bool cn2, .bool ov2] 36)).cell? ⟨w10.heap.size, 10, none⟩ = some (.bool cn2) := by rw [cell_of_row _ _ 10 _ _ (0, 0) hu11]; rfl
        have z11 : (w10.alloc (.cells #[.slice vg ss2.length vh, .int .i64 lim2, .int .i64 st2, .int .i64 nx2, .int .i64 bg2, .int .i64 ak2, .int .i64 tn2, .bool fr2, .slice ug js2.length uh, .slice cg cs2.length ch, .bool cn2, .bool ov2] 36)).cell? ⟨w10.heap.size, 11, none⟩ = some (.bool ov2) := by rw [cell_of_row _ _ 11 _ _ (0, 0) hu11]; rfl
        have v0 : (w10.alloc (.cells #[.slice vg ss2.length vh, .int .i64 lim2, .int .i64 st2, .int .i64 nx2, .int .i64 bg2, .int .i64 ak2, .int .i64 tn2, .bool fr2, .slice ug js2.length uh, .slice cg cs2.length ch, .bool cn2, .bool ov2] 36)).cell? ⟨w6.heap.size, 0, none⟩ = some (.slice vb ss2.length vd) := by rw [cell_of_row _ _ 0 _ _ (0, 0) hxb11]; rfl
        have v1 : (w10.alloc (.cells #[.slice vg ss2.length vh, .int .i64 lim2, .int .i64 st2, .int .i64 nx2, .int .i64 bg2, .int .i64 ak2, .int .i64 tn2, .bool fr2, .slice ug js2.length uh, .slice cg cs2.length ch, .bool cn2, .bool ov2] 36)).cell? ⟨w6.heap.size, 1, none⟩ = some (.int .i64 lim2) := by rw [cell_of_row _ _ 1 _ _ (0, 0) hxb11]; rfl
        have v2 : (w10.alloc (.cells #[.slice vg ss2.length vh, .int .i64 lim2, .int .i64 st2, .int .i64 nx2, .int .i64 bg2, .int .i64 ak2, .int .i64 tn2, .bool fr2, .slice ug js2.length uh, .slice cg cs2.length ch, .bool cn2, .bool ov2] 36)).cell? ⟨w6.heap.size, 2, none⟩ = some (.int .i64 st2) := by rw [cell_of_row _ _ 2 _ _ (0, 0) hxb11]; rfl
        have v3 : (w10.alloc (.cells #[.slice vg ss2.length vh, .int .i64 lim2, .int .i64 st2, .int .i64 nx2, .int .i64 bg2, .int .i64 ak2, .int .i64 tn2, .bool fr2, .slice ug js2.length uh, .slice cg cs2.length ch, .bool cn2, .bool ov2] 36)).cell? ⟨w6.heap.size, 3, none⟩ = some (.int .i64 nx2) := by rw [cell_of_row _ _ 3 _ _ (0, 0) hxb11]; rfl
        have v4 : (w10.alloc (.cells #[.slice vg ss2.length vh, .int .i64 lim2, .int .i64 st2, .int .i64 nx2, .int .i64 bg2, .int .i64 ak2, .int .i64 tn2, .bool fr2, .slice ug js2.length uh, .slice cg cs2.length ch, .bool cn2, .bool ov2] 36)).cell? ⟨w6.heap.size, 4, none⟩ = some (.int .i64 bg2) := by rw [cell_of_row _ _ 4 _ _ (0, 0) hxb11]; rfl
        have v5 : (w10.alloc (.cells #[.slice vg ss2.length vh, .int .i64 lim2, .int .i64 st2, .int .i64 nx2, .int .i64 bg2, .int .i64 ak2, .int .i64 tn2, .bool fr2, .slice ug js2.length uh, .slice cg cs2.length ch, .bool cn2, .bool ov2] 36)).cell? ⟨w6.heap.size, 5, none⟩ = some (.int .i64 ak2) := by rw [cell_of_row _ _ 5 _ _ (0, 0) hxb11]; rfl
        have v6 : (w10.alloc (.cells #[.slice vg ss2.length vh, .int .i64 lim2, .int .i64 st2, .int .i64 nx2, .int .i64 bg2, .int .i64 ak2, .int .i64 tn2, .bool fr2, .slice ug js2.length uh, .slice cg cs2.length ch, .bool cn2, .bool ov2] 36)).cell? ⟨w6.heap.size, 6, none⟩ = some (.int .i64 tn2) := by rw [cell_of_row _ _ 6 _ _ (0, 0) hxb11]; rfl
        have v7 : (w10.alloc (.cells #[.slice vg ss2.length vh, .int .i64 lim2, .int .i64 st2, .int .i64 nx2, .int .i64 bg2, .int .i64 ak2, .int .i64 tn2, .bool fr2, .slice ug js2.length uh, .slice cg cs2.length ch, .bool cn2, .bool ov2] 36)).cell? ⟨w6.heap.size, 7, none⟩ = some (.bool fr2) := by rw [cell_of_row _ _ 7 _ _ (0, 0) hxb11]; rfl
        have v8 : (w10.alloc (.cells #[.slice vg ss2.length vh, .int .i64 lim2, .int .i64 st2, .int .i64 nx2, .int .i64 bg2, .int .i64 ak2, .int .i64 tn2, .bool fr2, .slice ug js2.length uh, .slice cg cs2.length ch, .bool cn2, .bool ov2] 36)).cell? ⟨w6.heap.size, 8, none⟩ = some (.slice ub js2.length ud') := by rw [cell_of_row _ _ 8 _ _ (0, 0) hxb11]; rfl
        have v9 : (w10.alloc (.cells #[.slice vg ss2.length vh, .int .i64 lim2, .int .i64 st2, .int .i64 nx2, .int .i64 bg2, .int .i64 ak2, .int .i64 tn2, .bool fr2, .slice ug js2.length uh, .slice cg cs2.length ch, .bool cn2, .bool ov2] 36)).cell? ⟨w6.heap.size, 9, none⟩ = some (.slice cb cs2.length cd) := by rw [cell_of_row _ _ 9 _ _ (0, 0) hxb11]; rfl
        have v10 : (w10.alloc (.cells #[.slice vg ss2.length vh, .int .i64 lim2, .int .i64 st2, .int .i64 nx2, .int .i64 bg2, .int .i64 ak2, .int .i64 tn2, .bool fr2, .slice ug js2.length uh, .slice cg cs2.length ch, .bool cn2, .bool ov2] 36)).cell? ⟨w6.heap.size, 10, none⟩ = some (.bool cn2) := by rw [cell_of_row _ _ 10 _ _ (0, 0) hxb11]; rfl
        have v11 : (w10.alloc (.cells #[.slice vg ss2.length vh, .int .i64 lim2, .int .i64 st2, .int .i64 nx2, .int .i64 bg2, .int .i64 ak2, .int .i64 tn2, .bool fr2, .slice ug js2.length uh, .slice cg cs2.length ch, .bool cn2, .bool ov2] 36)).cell? ⟨w6.heap.size, 11, none⟩ = some (.bool ov2) := by rw [cell_of_row _ _ 11 _ _ (0, 0) hxb11]; rfl
        have SC := hid (fun (w' : World) (q : Below (w10.alloc (.cells #[.slice vg ss2.length vh, .int .i64 lim2, .int .i64 st2, .int .i64 nx2, .int .i64 bg2, .int .i64 ak2, .int .i64 tn2, .bool fr2, .slice ug js2.length uh, .slice cg cs2.length ch, .bool cn2, .bool ov2] 36)).heap.size (w10.alloc (.cells #[.slice vg ss2.length vh, .int .i64 lim2, .int .i64 st2, .int .i64 nx2, .int .i64 bg2, .int .i64 ak2, .int .i64 tn2, .bool fr2, .slice ug js2.length uh, .slice cg cs2.length ch, .bool cn2, .bool ov2] 36)) w') => And.intro (q.block _ (Array.getElem?_eq_some_iff.1 hu11).1) (q.block _ (Array.getElem?_eq_some_iff.1 hxb11).1))
        have HU := hid hu11
        have HV := hid hxb11
        have HR3 := hid hr3
        have HR4 := hid hr4
        have HBW11 := hid bw11
        clear hx9 hy9 hxb9 hx10 hy10 hxb10 hx11 hy11 hxb11 hu11 he9 hst9 hOb9 hrt9 bw9 b10 b11 hO10 hr3 hr4 bw11 z0 z1 z2 z3 z4 z5 z6 z7 z8 z9 z10 z11 v0 v1 v2 v3 v4 v5 v6 v7 v8 v9 v10 v11
        go_wp2_with fail
        refine (rsame_yes ss lim st nx bg ak tn fr js cs cn ov va ua ca va' ua' ca' vc uc cc vc' uc' cc' _ hr1 hr2).mono ?_
        rintro _ w12 ⟨rfl, b12⟩
        have hu12 := (SC.out _ b12).1.trans HU.out
        have hv12 := (SC.out _ b12).2.trans HV.out
        have z0 : w12.cell? ⟨w10.heap.size, 0, none⟩ = some (.slice vg ss2.length vh) := by rw [cell_of_row _ _ 0 _ _ (0, 0) hu12]; rfl
        have z1 : w12.cell? ⟨w10.heap.size, 1, none⟩ = some (.int .i64 lim2) := by rw [cell_of_row _ _ 1 _ _ (0, 0) hu12]; rfl
        have z2 : w12.cell? ⟨w10.heap.size, 2, none⟩ = some (.int .i64 st2) := by rw [cell_of_row _ _ 2 _ _ (0, 0) hu12]; rfl
        have z3 : w12.cell? ⟨w10.heap.size, 3, none⟩ = some (.int .i64 nx2) := by rw [cell_of_row _ _ 3 _ _ (0, 0) hu12]; rfl
        have z4 : w12.cell? ⟨w10.heap.size, 4, none⟩ = some (.int .i64 bg2) := by rw [cell_of_row _ _ 4 _ _ (0, 0) hu12]; rfl
        have z5 : w12.cell? ⟨w10.heap.size, 5, none⟩ = some (.int .i64 ak2) := by rw [cell_of_row _ _ 5 _ _ (0, 0) hu12]; rfl
        have z6 : w12.cell? ⟨w10.heap.size, 6, none⟩ = some (.int .i64 tn2) := by rw [cell_of_row _ _ 6 _ _ (0, 0) hu12]; rfl
        have z7 : w12.cell? ⟨w10.heap.size, 7, none⟩ = some (.bool fr2) := by rw [cell_of_row _ _ 7 _ _ (0, 0) hu12]; rfl
        have z8 : w12.cell? ⟨w10.heap.size, 8, none⟩ = some (.slice ug js2.length uh) := by rw [cell_of_row _ _ 8 _ _ (0, 0) hu12]; rfl
        have z9 : w12.cell? ⟨w10.heap.size, 9, none⟩ = some (.slice cg cs2.length ch) := by rw [cell_of_row _ _ 9 _ _ (0, 0) hu12]; rfl
        have z10 : w12.cell? ⟨w10.heap.size, 10, none⟩ = some (.bool cn2) := by rw [cell_of_row _ _ 10 _ _ (0, 0) hu12]; rfl
        have z11 : w12.cell? ⟨w10.heap.size, 11, none⟩ = some (.bool ov2) := by rw [cell_of_row _ _ 11 _ _ (0, 0) hu12]; rfl
        have v0 : w12.cell? ⟨w6.heap.size, 0, none⟩ = some (.slice vb ss2.length vd) := by rw [cell_of_row _ _ 0 _ _ (0, 0) hv12]; rfl
        have v1 : w12.cell? ⟨w6.heap.size, 1, none⟩ = some (.int .i64 lim2) := by rw [cell_of_row _ _ 1 _ _ (0, 0) hv12]; rfl
        have v2 : w12.cell? ⟨w6.heap.size, 2, none⟩ = some (.int .i64 st2) := by rw [cell_of_row _ _ 2 _ _ (0, 0) hv12]; rfl
        have v3 : w12.cell? ⟨w6.heap.size, 3, none⟩ = some (.int .i64 nx2) := by rw [cell_of_row _ _ 3 _ _ (0, 0) hv12]; rfl
        have v4 : w12.cell? ⟨w6.heap.size, 4, none⟩ = some (.int .i64 bg2) := by rw [cell_of_row _ _ 4 _ _ (0, 0) hv12]; rfl
        have v5 : w12.cell? ⟨w6.heap.size, 5, none⟩ = some (.int .i64 ak2) := by rw [cell_of_row _ _ 5 _ _ (0, 0) hv12]; rfl
        have v6 : w12.cell? ⟨w6.heap.size, 6, none⟩ = some (.int .i64 tn2) := by rw [cell_of_row _ _ 6 _ _ (0, 0) hv12]; rfl
        have v7 : w12.cell? ⟨w6.heap.size, 7, none⟩ = some (.bool fr2) := by rw [cell_of_row _ _ 7 _ _ (0, 0) hv12]; rfl
        have v8 : w12.cell? ⟨w6.heap.size, 8, none⟩ = some (.slice ub js2.length ud') := by rw [cell_of_row _ _ 8 _ _ (0, 0) hv12]; rfl
        have v9 : w12.cell? ⟨w6.heap.size, 9, none⟩ = some (.slice cb cs2.length cd) := by rw [cell_of_row _ _ 9 _ _ (0, 0) hv12]; rfl
        have v10 : w12.cell? ⟨w6.heap.size, 10, none⟩ = some (.bool cn2) := by rw [cell_of_row _ _ 10 _ _ (0, 0) hv12]; rfl
        have v11 : w12.cell? ⟨w6.heap.size, 11, none⟩ = some (.bool ov2) := by rw [cell_of_row _ _ 11 _ _ (0, 0) hv12]; rfl
        have hr5 := HR3.out.below b12
        have hr6 := HR4.out.below b12
        have bw12 := bnext HBW11.out b12
        clear hu12 hv12 x0 y0 x1 y1 x2 y2 x3 y3 x4 y4 x5 y5 x6 y6 x7 y7 x8 y8 x9 y9 x10 y10 x11 y11 hr1 hr2 SC HU HV HR3 HR4
        go_wp2_with fail
        refine (rsame_yes ss2 lim2 st2 nx2 bg2 ak2 tn2 fr2 js2 cs2 cn2 ov2 vg ug cg vb ub cb vh uh ch vd ud' cd _ hr5 hr6).mono ?_
        rintro _ w13 ⟨rfl, b13⟩
        have HBF := hid (bnext bw12 b13)
        clear hr5 hr6 bw12 b13 b12 z0 v0 z1 v1 z2 v2 z3 v3 z4 v4 z5 v5 z6 v6 z7 v7 z8 v8 z9 v9 z10 v10 z11 v11
        go_wp2_with fail
        go_ret
        exact ⟨rfl, HBF.out⟩
theorem stateKeeps_v (v : Value) (a : Option Addr) (c : Nat) (l : List Ev) (u : Value) (id kd tk rf sp ty : Int) (ud : Bool) (dt : List UInt8) (w : World) (hv : v = .slice a l.length c) (hs : Sl w v 8 l.length (l.flatMap evc)) (hcap : l.length ≤ c) (hfit : FitE l) (hu : u = .agg #[.int .i64 id, .int .i64 kd, .int .i64 tk, .int .i64 rf, .int .i64 sp, .int .i64 ty, .bool ud, .string ⟨dt.toArray⟩]) (hdt : dt.length ≤ 140737488351232) : Calls Try.prog 8 #[v, u] w fun e w' => e = .returned (.bool true) ∧ Below w.heap.size w w' := by
  subst hv
  subst hu
  exact stateKeeps_w a c l id kd tk rf sp ty ud dt (by omega) w hs hcap hfit
end Go.Proofs.Ytckpfcocbjfcbaa
