/- wherrylaw22.awake. THE WALK of WireApart. -/
import Derived.Test.YtelacmchofehcaaWmA
import Derived.Test.YtelacmchofehcaaWmD
import Derived.Test.YtelacmchofehcaaWmE
import Derived.Test.YtelacmchofehcaaWmF
namespace Go.Proofs.Ytelacmchofehcaa
open Go.RowKit
set_option linter.unusedVariables false

theorem Sl.shape {w : World} {v : Value} {k n : Nat} {cells : List Value} (h : Sl w v k n cells) : ∃ a c, v = .slice a n c := by
  obtain ⟨_, _, a, c, h, _⟩ := h
  exact ⟨a, c, h⟩
theorem rqV_yes {id : Int} {q : Rq} (h : RqP id q) : rqV id q = wrapL (encRq id q) ∧ rqE id q = 0 := by
  unfold rqV rqE; rw [if_pos h, if_pos h]; exact ⟨rfl, rfl⟩
theorem rpV_yes {id : Int} {x : Rp} (h : RpP id x) : rpV id x = wrapL (encRp id x) ∧ rpE id x = 0 := by
  unfold rpV rpE; rw [if_pos h, if_pos h]; exact ⟨rfl, rfl⟩
theorem fit_prog {lim : Int} {ss : List St} (h : ProgP lim ss) : Fit ss := fun x hx => by
  have hm : maxLen = 9223372036854775807 := rfl
  rcases h.2.2 x hx with ⟨-, h1, h2, -⟩ | ⟨-, h1, h2, -⟩ | ⟨-, h1, h2, -⟩
  · refine ⟨by have := h2.2.1; omega, ?_⟩
    rcases h1 with ⟨h3, -⟩ | ⟨h3, -⟩
    · rw [h3]; simp
    · have := h3.2.1; omega
  · rw [h1, h2]; simp
  · refine ⟨by have := h1.2.1; omega, ?_⟩
    rw [h2]; simp
theorem fit_rq {id : Int} {q : Rq} (h : RqP id q) : q.rq.length ≤ 140737488355328 ∧ q.wd.length ≤ 140737488355328 ∧ q.nm.length ≤ 140737488355328 ∧ Fit q.ss := by
  have h3 := h.1.2.2.1
  exact ⟨by omega, by omega, by omega, fit_prog h.2.1⟩
theorem fit_rp {id : Int} {x : Rp} (h : RpP id x) : x.tk.2.1.length ≤ 140737488355328 ∧ x.nm.length ≤ 140737488355328 := by
  refine ⟨?_, by have := h.1.2.2.2.2; omega⟩
  rcases h.2.1 with h1 | h1
  · rw [h1]; simp [tk0]
  · have := h1.2.1.2.1; omega
theorem wrapRq_inj {id id' : Int} {q q' : Rq} (h : RqP id q) (h' : RqP id' q') (e : wrapL (encRq id q) = wrapL (encRq id' q')) : id = id' ∧ q = q' :=
  encRq_inj h h' (wrap_inj (by have := encRq_len h; omega) (by have := encRq_len h'; omega) e)
theorem wrapRp_inj {id id' : Int} {x x' : Rp} (h : RpP id x) (h' : RpP id' x') (e : wrapL (encRp id x) = wrapL (encRp id' x')) : id = id' ∧ x = x' :=
  encRp_inj h h' (wrap_inj (by have := encRp_len h; omega) (by have := encRp_len h'; omega) e)
theorem wrapRq_len {id : Int} {q : Rq} (h : RqP id q) : (wrapL (encRq id q)).length ≤ 3000 := by
  have h1 := encRq_len h
  have h2 : (putL (encRq id q).length).length ≤ 10 := putL_len10 (by unfold U64; omega)
  unfold wrapL
  rw [List.length_append, List.length_append, fourL_len]; omega
theorem wrapRp_len {id : Int} {x : Rp} (h : RpP id x) : (wrapL (encRp id x)).length ≤ 1000000 := by
  have h1 := encRp_len h
  have h2 : (putL (encRp id x).length).length ≤ 10 := putL_len10 (by unfold U64; omega)
  unfold wrapL
  rw [List.length_append, List.length_append, fourL_len]; omega
def awQ : Rq := ⟨5, [], [119], [], [], 0, [], 0, 0, 0, 0, false⟩
def awX : Rp := ⟨0, 0, 3, tk0, [], []⟩
theorem aw_rq : RqP 7 awQ := by decide
theorem aw_rp : RpP 7 awX := by decide
theorem aw_no : ¬ RqA 0 rq0 := by decide
set_option maxHeartbeats 3200000 in
set_option maxRecDepth 100000 in
theorem wawake_any (w : World) : Calls Try.prog 8 #[] w fun e w' => e = .returned (.bool true) ∧ Below w.heap.size w w' := by
  have c1 := fun w => request_any 7 5 [] [119] [] (by simp) (by simp) (by simp) (.slice none 0 0) 0 [] none 0 [] 0 0 0 0 false w (Sl.none _ _) (by intro x hx; cases hx) (Sl.none _ _)
  rw [(rqV_yes aw_rq : rqV 7 ⟨5, [], [119], [], [], 0, [], 0, 0, 0, 0, false⟩ = _ ∧ _).1, (rqV_yes aw_rq : _ ∧ rqE 7 ⟨5, [], [119], [], [], 0, [], 0, 0, 0, 0, false⟩ = 0).2] at c1
  have c3 := fun w => reply_any 7 0 0 3 0 [] 0 0 [] (by simp) (by simp) (.slice none 0 0) [] w (Sl.none _ _) (by intro x hx; cases hx)
  rw [(rpV_yes aw_rp : rpV 7 ⟨0, 0, 3, (0, [], 0, 0), [], []⟩ = _ ∧ _).1, (rpV_yes aw_rp : _ ∧ rpE 7 ⟨0, 0, 3, (0, [], 0, 0), [], []⟩ = 0).2] at c3
  have c5 := fun w => request_any 0 0 [] [] [] (by simp) (by simp) (by simp) (.slice none 0 0) 0 [] none 0 [] 0 0 0 0 false w (Sl.none _ _) (by intro x hx; cases hx) (Sl.none _ _)
  rw [(rq_codes.1 aw_no : rqV 0 ⟨0, [], [], [], [], 0, [], 0, 0, 0, 0, false⟩ = _ ∧ _).1, (rq_codes.1 aw_no : _ ∧ rqE 0 ⟨0, [], [], [], [], 0, [], 0, 0, 0, 0, false⟩ = 1).2] at c5
  have hl1 : (wrapL (encRq 7 ⟨5, [], [119], [], [], 0, [], 0, 0, 0, 0, false⟩)).length ≤ 3000 := wrapRq_len aw_rq
  have hl2 : (wrapL (encRp 7 ⟨0, 0, 3, (0, [], 0, 0), [], []⟩)).length ≤ 1000000 := wrapRp_len aw_rp
  obtain ⟨L1, hL1⟩ : ∃ L, L = wrapL (encRq 7 ⟨5, [], [119], [], [], 0, [], 0, 0, 0, 0, false⟩) := ⟨_, rfl⟩
  obtain ⟨L2, hL2⟩ : ∃ L, L = wrapL (encRp 7 ⟨0, 0, 3, (0, [], 0, 0), [], []⟩) := ⟨_, rfl⟩
  rw [← hL1] at c1 hl1
  rw [← hL2] at c3 hl2
  have HL1 := hid hL1
  have HL2 := hid hL2
  clear hL1 hL2
  go_enter Try.func8, Try.ntmps8
  go_wp2_with fail
  refine (c1 _).mono ?_
  rintro _ w1 ⟨rfl, b1⟩
  go_wp2_with fail
  refine (requested_any L1 (by omega) _).mono ?_
  rintro _ w2 ⟨id, q, v, u, er, rfl, hv, hu, b2, hres⟩
  rcases hres with ⟨rfl, hP, hl⟩ | ⟨_, _, _, _, _, hno⟩
  case inr => exact absurd HL1.out (hno 7 awQ aw_rq)
  obtain ⟨rfl, rfl⟩ := wrapRq_inj aw_rq hP (HL1.out.symm.trans hl)
  obtain ⟨av, cv, rfl⟩ := hv.shape
  obtain ⟨au, cu, rfl⟩ := hu.shape
  clear hP hl hv hu
  have hb2 := bnext b1 b2
  rw [show rqVal awQ (.slice av awQ.ss.length cv) (.slice au awQ.cs.length cu) = .agg #[.int .i64 5, .string ⟨#[]⟩, .string ⟨#[119]⟩, .string ⟨#[]⟩, .slice av 0 cv, .int .i64 0, .slice au 0 cu, .int .i64 0, .int .i64 0, .int .i64 0, .int .i64 0, .bool false] from rfl]
  have g0 := H12.new w2 27 (.int .i64 5) (.string ⟨#[]⟩) (.string ⟨#[119]⟩) (.string ⟨#[]⟩) (.slice av 0 cv) (.int .i64 0) (.slice au 0 cu) (.int .i64 0) (.int .i64 0) (.int .i64 0) (.int .i64 0) (.bool false)
  obtain ⟨W, hW⟩ : ∃ W, W = w2.alloc (.cells #[.int .i64 5, .string ⟨#[]⟩, .string ⟨#[119]⟩, .string ⟨#[]⟩, .slice av 0 cv, .int .i64 0, .slice au 0 cu, .int .i64 0, .int .i64 0, .int .i64 0, .int .i64 0, .bool false] 27) := ⟨_, rfl⟩
  rw [← hW] at g0
  have HW := hid hW
  clear hW
  go_wp2_with fail
  rw [← HW.out]
  refine (c3 W).mono ?_
  rintro _ w3 ⟨rfl, b3⟩
  have g3 := g0.next b3
  go_wp2_with fail
  refine (replied_any L2 (by omega) _).mono ?_
  rintro _ w4 ⟨id, x, v, er, rfl, hv, hf, b4, hres⟩
  rcases hres with ⟨rfl, hP, hl⟩ | ⟨_, _, _, _, hno⟩
  case inr => exact absurd HL2.out (hno 7 awX aw_rp)
  obtain ⟨rfl, rfl⟩ := wrapRp_inj aw_rp hP (HL2.out.symm.trans hl)
  obtain ⟨ax, cx, rfl⟩ := hv.shape
  clear hP hl hv hf
  have g4 := g3.next b4
  rw [show rpVal awX (.slice ax awX.ev.length cx) = .agg #[.int .i64 0, .int .i64 0, .int .i64 3, .int .i64 0, .string ⟨#[]⟩, .int .i64 0, .int .i64 0, .string ⟨#[]⟩, .slice ax 0 cx] from rfl]
  have k0 := H9.new w4 33 (.int .i64 0) (.int .i64 0) (.int .i64 3) (.int .i64 0) (.string ⟨#[]⟩) (.int .i64 0) (.int .i64 0) (.string ⟨#[]⟩) (.slice ax 0 cx)
  obtain ⟨V, hV⟩ : ∃ V, V = w4.alloc (.cells #[.int .i64 0, .int .i64 0, .int .i64 3, .int .i64 0, .string ⟨#[]⟩, .int .i64 0, .int .i64 0, .string ⟨#[]⟩, .slice ax 0 cx] 33) := ⟨_, rfl⟩
  rw [← hV] at k0
  have HV := hid hV
  clear hV
  go_wp2_with fail
  rw [← HV.out]
  refine (c5 V).mono ?_
  rintro _ w5 ⟨rfl, b5⟩
  have k5 := k0.next b5
  have g5 := (g4.next k0.below).next b5
  have hbf := bnext hb2 g5.below
  have p2 := g5.c2
  have r2 := k5.c2
  clear g0 g3 g4 g5 k0 k5
  go_wp2_with fail
  go_ret
  exact ⟨rfl, hbf⟩
end Go.Proofs.Ytelacmchofehcaa
namespace Go.Proofs.Ytelacmchofehcaa
open Go.RowKit
set_option linter.unusedVariables false

set_option maxHeartbeats 3200000 in
set_option maxRecDepth 100000 in
theorem wireApart_walk (l : List UInt8) (hl : l.length ≤ 140737488351232) (w : World) : Calls Try.prog 5 #[.string ⟨l.toArray⟩] w fun e w' => e = .returned (.bool true) ∧ Below w.heap.size w w' := by
  go_enter Try.func5, Try.ntmps5
  go_wp2_with fail
  refine (wawake_any w).mono ?_
  rintro _ w1 ⟨rfl, b1⟩
  go_wp2_with fail
  refine (requested_any l (by omega) w1).mono ?_
  rintro _ w2 ⟨id, q, v, u, er, rfl, hv, hu, b2, hres⟩
  have hb2 := bnext b1 b2
  obtain ⟨av, cv, rfl⟩ := hv.shape
  obtain ⟨au, cu, rfl⟩ := hu.shape
  obtain ⟨kd, rq, wd, nm, ss, lim, cs, rf, ty, fr, sh, gd⟩ := q
  rw [show rqVal ⟨kd, rq, wd, nm, ss, lim, cs, rf, ty, fr, sh, gd⟩ (.slice av ss.length cv) (.slice au cs.length cu) = .agg #[.int .i64 kd, .string ⟨rq.toArray⟩, .string ⟨wd.toArray⟩, .string ⟨nm.toArray⟩, .slice av ss.length cv, .int .i64 lim, .slice au cs.length cu, .int .i64 rf, .int .i64 ty, .int .i64 fr, .int .i64 sh, .bool gd] from rfl]
  have g0 := H12.new w2 27 (.int .i64 kd) (.string ⟨rq.toArray⟩) (.string ⟨wd.toArray⟩) (.string ⟨nm.toArray⟩) (.slice av ss.length cv) (.int .i64 lim) (.slice au cs.length cu) (.int .i64 rf) (.int .i64 ty) (.int .i64 fr) (.int .i64 sh) (.bool gd)
  obtain ⟨W, hW⟩ : ∃ W, W = w2.alloc (.cells #[.int .i64 kd, .string ⟨rq.toArray⟩, .string ⟨wd.toArray⟩, .string ⟨nm.toArray⟩, .slice av ss.length cv, .int .i64 lim, .slice au cs.length cu, .int .i64 rf, .int .i64 ty, .int .i64 fr, .int .i64 sh, .bool gd] 27) := ⟨_, rfl⟩
  rw [← hW] at g0
  have HW := hid hW
  clear hW
  have hbW := bnext hb2 g0.below
  rcases hres with ⟨rfl, hP, hlq⟩ | ⟨rfl, -, -, -, -, -⟩
  · have hL := hid (hlq.symm)
    have hfit := fit_rq hP
    have hyes := rqV_yes hP
    have hsv := hv.below g0.below
    have hsu := hu.below g0.below
    obtain ⟨p0, p1, p2, p3, p4, p5, p6, p7, p8, p9, p10, p11, _, _⟩ := g0
    clear hP hlq
    go_wp2_with fail
    rw [← HW.out]
    refine (request_any id kd rq wd nm hfit.1 hfit.2.1 hfit.2.2.1 (.slice av ss.length cv) lim ss au cu cs rf ty fr sh gd W hsv hfit.2.2.2 hsu).mono ?_
    rintro _ w3 ⟨rfl, b3⟩
    rw [hyes.1, hyes.2, hL.out]
    have hb3 := bnext hbW b3
    clear p0 p1 p2 p3 p4 p5 p6 p7 p8 p9 p10 p11 hyes
    go_wp2_with fail
    refine (replied_any l (by omega) w3).mono ?_
    rintro _ v4 ⟨id', x, v', er', rfl, hv', hf', c4, hres'⟩
    have hd4 := bnext hb3 c4
    obtain ⟨av', cv', rfl⟩ := hv'.shape
    obtain ⟨er0, st, nx, ⟨tn, tw, tr, tt⟩, nm', ev⟩ := x
    rw [show rpVal ⟨er0, st, nx, (tn, tw, tr, tt), nm', ev⟩ (.slice av' ev.length cv') = .agg #[.int .i64 er0, .int .i64 st, .int .i64 nx, .int .i64 tn, .string ⟨tw.toArray⟩, .int .i64 tr, .int .i64 tt, .string ⟨nm'.toArray⟩, .slice av' ev.length cv'] from rfl]
    have k0 := H9.new v4 33 (.int .i64 er0) (.int .i64 st) (.int .i64 nx) (.int .i64 tn) (.string ⟨tw.toArray⟩) (.int .i64 tr) (.int .i64 tt) (.string ⟨nm'.toArray⟩) (.slice av' ev.length cv')
    obtain ⟨V, hV⟩ : ∃ V, V = v4.alloc (.cells #[.int .i64 er0, .int .i64 st, .int .i64 nx, .int .i64 tn, .string ⟨tw.toArray⟩, .int .i64 tr, .int .i64 tt, .string ⟨nm'.toArray⟩, .slice av' ev.length cv'] 33) := ⟨_, rfl⟩
    rw [← hV] at k0
    have HV := hid hV
    clear hV
    have hdV := bnext hd4 k0.below
    rcases hres' with ⟨rfl, hP', hl'⟩ | ⟨rfl, -, -, -, -⟩
    · have hl9 := hl'
      have hL' := hid (hl'.symm)
      have hfit := fit_rp hP'
      have hyes := rpV_yes hP'
      have hsv := hv'.below k0.below
      obtain ⟨p0, p1, p2, p3, p4, p5, p6, p7, p8, _, _⟩ := k0
      clear hP' hl' hl9
      go_wp2_with fail
      rw [← HV.out]
      refine (reply_any id' er0 st nx tn tw tr tt nm' hfit.1 hfit.2 (.slice av' ev.length cv') ev V hsv hf').mono ?_
      rintro _ v5 ⟨rfl, c5⟩
      rw [hyes.1, hyes.2, hL'.out]
      have hbf := bnext hdV c5
      clear p0 p1 p2 p3 p4 p5 p6 p7 p8 hyes
      go_wp2_with fail
      go_ret
      exact ⟨rfl, hbf⟩
    · have hne := erF_ne l
      obtain ⟨E, hE⟩ : ∃ E, E = erF l := ⟨_, rfl⟩
      rw [← hE] at hne ⊢
      clear hE k0
      go_wp2_with fail
      go_ret
      exact ⟨rfl, by rw [← HV.out]; exact hdV⟩
  · have hne := erF_ne l
    obtain ⟨E, hE⟩ : ∃ E, E = erF l := ⟨_, rfl⟩
    rw [← hE] at hne ⊢
    clear hE g0
    go_wp2_with fail
    rw [← HW.out]
    refine (replied_any l (by omega) W).mono ?_
    rintro _ v4 ⟨id', x, v', er', rfl, hv', hf', c4, hres'⟩
    have hd4 := bnext hbW c4
    obtain ⟨av', cv', rfl⟩ := hv'.shape
    obtain ⟨er0, st, nx, ⟨tn, tw, tr, tt⟩, nm', ev⟩ := x
    rw [show rpVal ⟨er0, st, nx, (tn, tw, tr, tt), nm', ev⟩ (.slice av' ev.length cv') = .agg #[.int .i64 er0, .int .i64 st, .int .i64 nx, .int .i64 tn, .string ⟨tw.toArray⟩, .int .i64 tr, .int .i64 tt, .string ⟨nm'.toArray⟩, .slice av' ev.length cv'] from rfl]
    have k0 := H9.new v4 33 (.int .i64 er0) (.int .i64 st) (.int .i64 nx) (.int .i64 tn) (.string ⟨tw.toArray⟩) (.int .i64 tr) (.int .i64 tt) (.string ⟨nm'.toArray⟩) (.slice av' ev.length cv')
    obtain ⟨V, hV⟩ : ∃ V, V = v4.alloc (.cells #[.int .i64 er0, .int .i64 st, .int .i64 nx, .int .i64 tn, .string ⟨tw.toArray⟩, .int .i64 tr, .int .i64 tt, .string ⟨nm'.toArray⟩, .slice av' ev.length cv'] 33) := ⟨_, rfl⟩
    rw [← hV] at k0
    have HV := hid hV
    clear hV
    have hdV := bnext hd4 k0.below
    rcases hres' with ⟨rfl, hP', hl'⟩ | ⟨rfl, -, -, -, -⟩
    · have hl9 := hl'
      have hL' := hid (hl'.symm)
      have hfit := fit_rp hP'
      have hyes := rpV_yes hP'
      have hsv := hv'.below k0.below
      obtain ⟨p0, p1, p2, p3, p4, p5, p6, p7, p8, _, _⟩ := k0
      clear hP' hl' hl9
      go_wp2_with fail
      rw [← HV.out]
      refine (reply_any id' er0 st nx tn tw tr tt nm' hfit.1 hfit.2 (.slice av' ev.length cv') ev V hsv hf').mono ?_
      rintro _ v5 ⟨rfl, c5⟩
      rw [hyes.1, hyes.2, hL'.out]
      have hbf := bnext hdV c5
      clear p0 p1 p2 p3 p4 p5 p6 p7 p8 hyes
      go_wp2_with fail
      go_ret
      exact ⟨rfl, hbf⟩
    · have hne := erF_ne l
      obtain ⟨E, hE⟩ : ∃ E, E = erF l := ⟨_, rfl⟩
      rw [← hE] at hne ⊢
      clear hE k0
      go_wp2_with fail
      go_ret
      exact ⟨rfl, by rw [← HV.out]; exact hdV⟩
end Go.Proofs.Ytelacmchofehcaa
