/- THE WALK of WireBack. -/
import Derived.Test.YtelacmchofehcaaWireIn
namespace Go.Proofs.Ytelacmchofehcaa
open Go.RowKit
set_option linter.unusedVariables false
set_option linter.unusedSimpArgs false

theorem rqE_no {id : Int} {q : Rq} (h : ¬ RqP id q) : ¬ rqE id q = 0 := by
  unfold rqE
  rw [if_neg h]
  split <;> decide
theorem rpE_no {id : Int} {x : Rp} (h : ¬ RpP id x) : ¬ rpE id x = 0 := by
  unfold rpE
  rw [if_neg h]
  split
  · rename_i h2
    have hh : ¬ HistP x.ev := fun q => h ⟨h2.1, h2.2, q⟩
    unfold hiE
    split
    · decide
    · first | decide | (rw [if_neg hh]; decide)
  · decide
set_option maxHeartbeats 6400000 in
set_option maxRecDepth 100000 in
theorem wireBack_walk (id kd : Int) (rq wd nm : List UInt8) (lrq : rq.length ≤ 140737488355328) (lwd : wd.length ≤ 140737488355328) (lnm : nm.length ≤ 140737488355328) (pa : Option Addr) (pc : Nat) (ss : List St) (lim : Int) (ua : Option Addr) (uc : Nat) (cs : List Cm) (rf ty fr sh : Int) (gd : Bool)
    (er st nx tn : Int) (tw : List UInt8) (tr tt : Int) (nx2 : List UInt8) (ltw : tw.length ≤ 140737488355328) (lnx : nx2.length ≤ 140737488355328) (xa : Option Addr) (xc : Nat) (ev : List Ev) (w : World)
    (hsp : Sl w (.slice pa ss.length pc) 6 ss.length (ss.flatMap stC)) (hfs : Fit ss) (hsu : Sl w (.slice ua cs.length uc) 3 cs.length (cs.flatMap cmc)) (hse : Sl w (.slice xa ev.length xc) 8 ev.length (ev.flatMap evc)) (hfe : FitE ev) :
    Calls Try.prog 3 #[.int .i64 id, .agg #[.int .i64 kd, .string ⟨rq.toArray⟩, .string ⟨wd.toArray⟩, .string ⟨nm.toArray⟩, .slice pa ss.length pc, .int .i64 lim, .slice ua cs.length uc, .int .i64 rf, .int .i64 ty, .int .i64 fr, .int .i64 sh, .bool gd], .agg #[.int .i64 er, .int .i64 st, .int .i64 nx, .int .i64 tn, .string ⟨tw.toArray⟩, .int .i64 tr, .int .i64 tt, .string ⟨nx2.toArray⟩, .slice xa ev.length xc]] w fun e w' => e = .returned (.bool true) ∧ Below w.heap.size w w' := by
  have g0 := (H12.new w 27 (.int .i64 kd) (.string ⟨rq.toArray⟩) (.string ⟨wd.toArray⟩) (.string ⟨nm.toArray⟩) (.slice pa ss.length pc) (.int .i64 lim) (.slice ua cs.length uc) (.int .i64 rf) (.int .i64 ty) (.int .i64 fr) (.int .i64 sh) (.bool gd)).next ((Below.refl _ _).alloc (Nat.le_refl _) (.cells #[.int .i64 er, .int .i64 st, .int .i64 nx, .int .i64 tn, .string ⟨tw.toArray⟩, .int .i64 tr, .int .i64 tt, .string ⟨nx2.toArray⟩, .slice xa ev.length xc] 33))
  have k0 := H9.new (w.alloc (.cells #[.int .i64 kd, .string ⟨rq.toArray⟩, .string ⟨wd.toArray⟩, .string ⟨nm.toArray⟩, .slice pa ss.length pc, .int .i64 lim, .slice ua cs.length uc, .int .i64 rf, .int .i64 ty, .int .i64 fr, .int .i64 sh, .bool gd] 27)) 33 (.int .i64 er) (.int .i64 st) (.int .i64 nx) (.int .i64 tn) (.string ⟨tw.toArray⟩) (.int .i64 tr) (.int .i64 tt) (.string ⟨nx2.toArray⟩) (.slice xa ev.length xc)
  rw [show (w.alloc (.cells #[.int .i64 kd, .string ⟨rq.toArray⟩, .string ⟨wd.toArray⟩, .string ⟨nm.toArray⟩, .slice pa ss.length pc, .int .i64 lim, .slice ua cs.length uc, .int .i64 rf, .int .i64 ty, .int .i64 fr, .int .i64 sh, .bool gd] 27)).heap.size = w.heap.size + 1 from Array.size_push ..] at k0
  obtain ⟨W, hW⟩ : ∃ W, W = (w.alloc (.cells #[.int .i64 kd, .string ⟨rq.toArray⟩, .string ⟨wd.toArray⟩, .string ⟨nm.toArray⟩, .slice pa ss.length pc, .int .i64 lim, .slice ua cs.length uc, .int .i64 rf, .int .i64 ty, .int .i64 fr, .int .i64 sh, .bool gd] 27)).alloc (.cells #[.int .i64 er, .int .i64 st, .int .i64 nx, .int .i64 tn, .string ⟨tw.toArray⟩, .int .i64 tr, .int .i64 tt, .string ⟨nx2.toArray⟩, .slice xa ev.length xc] 33) := ⟨_, rfl⟩
  rw [← hW] at g0 k0
  have HW := hid hW
  clear hW
  go_enter Try.func3, Try.ntmps3
  go_wp2_with fail
  rw [← HW.out]
  refine (wawake_any W).mono ?_
  rintro _ w1 ⟨rfl, b1⟩
  have g1 := g0.next b1
  have k1 := k0.next b1
  have g1' := g1
  obtain ⟨p0, p1, p2, p3, p4, p5, p6, p7, p8, p9, p10, p11, _, _⟩ := g1'
  go_wp2_with fail
  refine (request_any id kd rq wd nm lrq lwd lnm (.slice pa ss.length pc) lim ss ua uc cs rf ty fr sh gd w1 (hsp.below g1.below) hfs (hsu.below g1.below)).mono ?_
  rintro _ w2 ⟨rfl, b2⟩
  have g2 := g1.next b2
  have k2 := k1.next b2
  clear p0 p1 p2 p3 p4 p5 p6 p7 p8 p9 p10 p11
  have g2' := g2
  obtain ⟨p0, p1, p2, p3, p4, p5, p6, p7, p8, p9, p10, p11, _, _⟩ := g2'
  have k2' := k2
  obtain ⟨q0, q1, q2, q3, q4, q5, q6, q7, q8, _, _⟩ := k2'
  by_cases hP : RqP id ⟨kd, rq, wd, nm, ss, lim, cs, rf, ty, fr, sh, gd⟩
  case neg =>
    have hne := rqE_no hP
    generalize rqE id ⟨kd, rq, wd, nm, ss, lim, cs, rf, ty, fr, sh, gd⟩ = E at *
    generalize rqV id ⟨kd, rq, wd, nm, ss, lim, cs, rf, ty, fr, sh, gd⟩ = V9 at *
    go_wp2_with fail
    clear q0 q1 q2 q3 q4 q5 q6 q7 q8
    have k2' := k2
    obtain ⟨q0, q1, q2, q3, q4, q5, q6, q7, q8, _, _⟩ := k2'
    clear p0 p1 p2 p3 p4 p5 p6 p7 p8 p9 p10 p11
    refine (reply_any id er st nx tn tw tr tt nx2 ltw lnx (.slice xa ev.length xc) ev w2 (hse.below g2.below) hfe).mono ?_
    rintro _ v2 ⟨rfl, c2⟩
    have k9 := k2.next c2
    have hd2 := bnext g2.below c2
    clear q0 q1 q2 q3 q4 q5 q6 q7 q8
    have k9' := k9
    obtain ⟨q0, q1, q2, q3, q4, q5, q6, q7, q8, _, _⟩ := k9'
    by_cases hX : RpP id ⟨er, st, nx, (tn, tw, tr, tt), nx2, ev⟩
    case neg =>
      have hne := rpE_no hX
      generalize rpE id ⟨er, st, nx, (tn, tw, tr, tt), nx2, ev⟩ = E at *
      generalize rpV id ⟨er, st, nx, (tn, tw, tr, tt), nx2, ev⟩ = V9 at *
      go_wp2_with fail
      go_ret
      exact ⟨rfl, hd2⟩
    rw [(rpV_yes hX).1, (rpV_yes hX).2]
    have hll2 := wrapRp_len hX
    obtain ⟨M, hM⟩ : ∃ M, M = wrapL (encRp id ⟨er, st, nx, (tn, tw, tr, tt), nx2, ev⟩) := ⟨_, rfl⟩
    rw [← hM] at hll2 ⊢
    have HM := hid hM
    have HX := hid hX
    clear hM hX
    go_wp2_with fail
    refine (replied_any M (by omega) v2).mono ?_
    rintro _ v3 ⟨id', x, v', e', rfl, hv', hf', c3, hres'⟩
    rcases hres' with ⟨rfl, hX', hm⟩ | ⟨-, -, -, -, hno'⟩
    case inr => exact absurd HM.out (hno' id _ HX.out)
    obtain ⟨h9, h10⟩ := wrapRp_inj HX.out hX' (HM.out.symm.trans hm)
    subst h9
    subst h10
    obtain ⟨ax, cx, rfl⟩ := hv'.shape
    have hd3 := bnext hd2 c3
    have k10 := k9.next c3
    clear hX' hm q0 q1 q2 q3 q4 q5 q6 q7 q8
    rw [show rpVal ⟨er, st, nx, (tn, tw, tr, tt), nx2, ev⟩ (.slice ax ev.length cx) = .agg #[.int .i64 er, .int .i64 st, .int .i64 nx, .int .i64 tn, .string ⟨tw.toArray⟩, .int .i64 tr, .int .i64 tt, .string ⟨nx2.toArray⟩, .slice ax ev.length cx] from rfl]
    have m0 := H9.new v3 33 (.int .i64 er) (.int .i64 st) (.int .i64 nx) (.int .i64 tn) (.string ⟨tw.toArray⟩) (.int .i64 tr) (.int .i64 tt) (.string ⟨nx2.toArray⟩) (.slice ax ev.length cx)
    obtain ⟨V, hV⟩ : ∃ V, V = v3.alloc (.cells #[.int .i64 er, .int .i64 st, .int .i64 nx, .int .i64 tn, .string ⟨tw.toArray⟩, .int .i64 tr, .int .i64 tt, .string ⟨nx2.toArray⟩, .slice ax ev.length cx] 33) := ⟨_, rfl⟩
    rw [← hV] at m0
    have HV := hid hV
    have k11 := k10.next m0.below
    have hdV := bnext hd3 m0.below
    have hvV := hv'.below m0.below
    rw [hV] at m0 k11
    have k11' := k11
    obtain ⟨q0, q1, q2, q3, q4, q5, q6, q7, q8, _, _⟩ := k11'
    have m0' := m0
    obtain ⟨r0, r1, r2, r3, r4, r5, r6, r7, r8, _, _⟩ := m0'
    clear hV m0 k11
    go_wp2_with fail
    rw [← HV.out]
    clear q0 q1 q2 q3 q4 q5 q6 q7 q8 r0 r1 r2 r3 r4 r5 r6 r7 r8
    refine (xsame_any er st nx tn tw tr tt nx2 lnx xa ax xc cx ev V (hse.below hdV) hvV).mono ?_
    rintro _ v5 ⟨rfl, c5⟩
    have hbf := bnext hdV c5
    go_wp2_with fail
    go_ret
    exact ⟨rfl, hbf⟩
  rw [(rqV_yes hP).1, (rqV_yes hP).2]
  have hll := wrapRq_len hP
  obtain ⟨L, hL⟩ : ∃ L, L = wrapL (encRq id ⟨kd, rq, wd, nm, ss, lim, cs, rf, ty, fr, sh, gd⟩) := ⟨_, rfl⟩
  rw [← hL] at hll ⊢
  have HL := hid hL
  have HP := hid hP
  clear hL hP
  go_wp2_with fail
  refine (requested_any L (by omega) w2).mono ?_
  rintro _ w3 ⟨id', q, v, u, e, rfl, hv, hu, b3, hres⟩
  rcases hres with ⟨rfl, hP', hl⟩ | ⟨-, -, -, -, -, hno⟩
  case inr => exact absurd HL.out (hno id _ HP.out)
  obtain ⟨h9, h10⟩ := wrapRq_inj HP.out hP' (HL.out.symm.trans hl)
  subst h9
  subst h10
  obtain ⟨av, cv, rfl⟩ := hv.shape
  obtain ⟨au, cu, rfl⟩ := hu.shape
  have g3 := g2.next b3
  have k3 := k2.next b3
  clear hP' hl p0 p1 p2 p3 p4 p5 p6 p7 p8 p9 p10 p11 q0 q1 q2 q3 q4 q5 q6 q7 q8
  rw [show rqVal ⟨kd, rq, wd, nm, ss, lim, cs, rf, ty, fr, sh, gd⟩ (.slice av ss.length cv) (.slice au cs.length cu) = .agg #[.int .i64 kd, .string ⟨rq.toArray⟩, .string ⟨wd.toArray⟩, .string ⟨nm.toArray⟩, .slice av ss.length cv, .int .i64 lim, .slice au cs.length cu, .int .i64 rf, .int .i64 ty, .int .i64 fr, .int .i64 sh, .bool gd] from rfl]
  have m0 := H12.new w3 27 (.int .i64 kd) (.string ⟨rq.toArray⟩) (.string ⟨wd.toArray⟩) (.string ⟨nm.toArray⟩) (.slice av ss.length cv) (.int .i64 lim) (.slice au cs.length cu) (.int .i64 rf) (.int .i64 ty) (.int .i64 fr) (.int .i64 sh) (.bool gd)
  obtain ⟨V, hV⟩ : ∃ V, V = w3.alloc (.cells #[.int .i64 kd, .string ⟨rq.toArray⟩, .string ⟨wd.toArray⟩, .string ⟨nm.toArray⟩, .slice av ss.length cv, .int .i64 lim, .slice au cs.length cu, .int .i64 rf, .int .i64 ty, .int .i64 fr, .int .i64 sh, .bool gd] 27) := ⟨_, rfl⟩
  rw [← hV] at m0
  have HV := hid hV
  have g4 := g3.next m0.below
  have k4 := k3.next m0.below
  have hbV := g4.below
  have hvV := hv.below m0.below
  have huV := hu.below m0.below
  have g4r := g4
  rw [hV] at m0 g4r
  have g4r' := g4r
  obtain ⟨p0, p1, p2, p3, p4, p5, p6, p7, p8, p9, p10, p11, _, _⟩ := g4r'
  have m0' := m0
  obtain ⟨r0, r1, r2, r3, r4, r5, r6, r7, r8, r9, r10, r11, _, _⟩ := m0'
  clear hV m0 g4r
  go_wp2_with fail
  rw [← HV.out]
  clear r0 r1 r2 r3 r4 r5 r6 r7 r8 r9 r10 r11 p0 p1 p2 p3 p4 p5 p6 p7 p8 p9 p10 p11
  refine (qsame_any kd rq wd nm lrq lwd lnm (.slice pa ss.length pc) (.slice av ss.length cv) lim ss ua au uc cu cs rf ty fr sh gd V (hsp.below hbV) hvV (hsu.below hbV) huV).mono ?_
  rintro _ w5 ⟨rfl, b5⟩
  have k5 := k4.next b5
  have hb5 := bnext hbV b5
  clear HV
  have k5' := k5
  obtain ⟨q0, q1, q2, q3, q4, q5, q6, q7, q8, _, _⟩ := k5'
  go_wp2_with fail
  clear q0 q1 q2 q3 q4 q5 q6 q7 q8
  have k5' := k5
  obtain ⟨q0, q1, q2, q3, q4, q5, q6, q7, q8, _, _⟩ := k5'
  refine (reply_any id er st nx tn tw tr tt nx2 ltw lnx (.slice xa ev.length xc) ev w5 (hse.below hb5) hfe).mono ?_
  rintro _ v2 ⟨rfl, c2⟩
  have k9 := k5.next c2
  have hd2 := bnext hb5 c2
  clear q0 q1 q2 q3 q4 q5 q6 q7 q8
  have k9' := k9
  obtain ⟨q0, q1, q2, q3, q4, q5, q6, q7, q8, _, _⟩ := k9'
  by_cases hX : RpP id ⟨er, st, nx, (tn, tw, tr, tt), nx2, ev⟩
  case neg =>
    have hne := rpE_no hX
    generalize rpE id ⟨er, st, nx, (tn, tw, tr, tt), nx2, ev⟩ = E at *
    generalize rpV id ⟨er, st, nx, (tn, tw, tr, tt), nx2, ev⟩ = V9 at *
    go_wp2_with fail
    go_ret
    exact ⟨rfl, hd2⟩
  rw [(rpV_yes hX).1, (rpV_yes hX).2]
  have hll2 := wrapRp_len hX
  obtain ⟨M, hM⟩ : ∃ M, M = wrapL (encRp id ⟨er, st, nx, (tn, tw, tr, tt), nx2, ev⟩) := ⟨_, rfl⟩
  rw [← hM] at hll2 ⊢
  have HM := hid hM
  have HX := hid hX
  clear hM hX
  go_wp2_with fail
  refine (replied_any M (by omega) v2).mono ?_
  rintro _ v3 ⟨id', x, v', e', rfl, hv', hf', c3, hres'⟩
  rcases hres' with ⟨rfl, hX', hm⟩ | ⟨-, -, -, -, hno'⟩
  case inr => exact absurd HM.out (hno' id _ HX.out)
  obtain ⟨h9, h10⟩ := wrapRp_inj HX.out hX' (HM.out.symm.trans hm)
  subst h9
  subst h10
  obtain ⟨ax, cx, rfl⟩ := hv'.shape
  have hd3 := bnext hd2 c3
  have k10 := k9.next c3
  clear hX' hm q0 q1 q2 q3 q4 q5 q6 q7 q8
  rw [show rpVal ⟨er, st, nx, (tn, tw, tr, tt), nx2, ev⟩ (.slice ax ev.length cx) = .agg #[.int .i64 er, .int .i64 st, .int .i64 nx, .int .i64 tn, .string ⟨tw.toArray⟩, .int .i64 tr, .int .i64 tt, .string ⟨nx2.toArray⟩, .slice ax ev.length cx] from rfl]
  have m0 := H9.new v3 33 (.int .i64 er) (.int .i64 st) (.int .i64 nx) (.int .i64 tn) (.string ⟨tw.toArray⟩) (.int .i64 tr) (.int .i64 tt) (.string ⟨nx2.toArray⟩) (.slice ax ev.length cx)
  obtain ⟨V, hV⟩ : ∃ V, V = v3.alloc (.cells #[.int .i64 er, .int .i64 st, .int .i64 nx, .int .i64 tn, .string ⟨tw.toArray⟩, .int .i64 tr, .int .i64 tt, .string ⟨nx2.toArray⟩, .slice ax ev.length cx] 33) := ⟨_, rfl⟩
  rw [← hV] at m0
  have HV := hid hV
  have k11 := k10.next m0.below
  have hdV := bnext hd3 m0.below
  have hvV := hv'.below m0.below
  rw [hV] at m0 k11
  have k11' := k11
  obtain ⟨q0, q1, q2, q3, q4, q5, q6, q7, q8, _, _⟩ := k11'
  have m0' := m0
  obtain ⟨r0, r1, r2, r3, r4, r5, r6, r7, r8, _, _⟩ := m0'
  clear hV m0 k11
  go_wp2_with fail
  rw [← HV.out]
  clear q0 q1 q2 q3 q4 q5 q6 q7 q8 r0 r1 r2 r3 r4 r5 r6 r7 r8
  refine (xsame_any er st nx tn tw tr tt nx2 lnx xa ax xc cx ev V (hse.below hdV) hvV).mono ?_
  rintro _ v5 ⟨rfl, c5⟩
  have hbf := bnext hdV c5
  go_wp2_with fail
  go_ret
  exact ⟨rfl, hbf⟩
theorem wireBack_w (id : Int) {B : Prop} (_ : B) (v : Value) (kd : Int) (rq wd nm : List UInt8) (pa : Option Addr) (pc : Nat) (ss : List St) (lim : Int) (ua : Option Addr) (uc : Nat) (cs : List Cm) (rf ty fr sh : Int) (gd : Bool)
    (v' : Value) (er st nx tn : Int) (tw : List UInt8) (tr tt : Int) (nx2 : List UInt8) (xa : Option Addr) (xc : Nat) (ev : List Ev) (w : World)
    (e : v = .agg #[.int .i64 kd, .string ⟨rq.toArray⟩, .string ⟨wd.toArray⟩, .string ⟨nm.toArray⟩, .slice pa ss.length pc, .int .i64 lim, .slice ua cs.length uc, .int .i64 rf, .int .i64 ty, .int .i64 fr, .int .i64 sh, .bool gd]) (l : rq.length ≤ 140737488351232 ∧ wd.length ≤ 140737488351232 ∧ nm.length ≤ 140737488351232) (hsp : Sl w (.slice pa ss.length pc) 6 ss.length (ss.flatMap stC)) (hfs : Fit ss) (hsu : Sl w (.slice ua cs.length uc) 3 cs.length (cs.flatMap cmc))
    (e' : v' = .agg #[.int .i64 er, .int .i64 st, .int .i64 nx, .int .i64 tn, .string ⟨tw.toArray⟩, .int .i64 tr, .int .i64 tt, .string ⟨nx2.toArray⟩, .slice xa ev.length xc]) (l' : tw.length ≤ 140737488351232 ∧ nx2.length ≤ 140737488351232) (hse : Sl w (.slice xa ev.length xc) 8 ev.length (ev.flatMap evc)) (hfe : FitE ev) :
    Calls Try.prog 3 #[.int .i64 id, v, v'] w fun e w' => e = .returned (.bool true) ∧ Below w.heap.size w w' := by
  rw [e, e']
  exact wireBack_walk id kd rq wd nm (by omega) (by omega) (by omega) pa pc ss lim ua uc cs rf ty fr sh gd er st nx tn tw tr tt nx2 (by omega) (by omega) xa xc ev w hsp hfs hsu hse hfe
end Go.Proofs.Ytelacmchofehcaa
