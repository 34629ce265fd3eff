/- CONTRACT: Apply. WHAT IS LEFT BEHIND one of the four functions in Apply. -/
import Derived.Test.YtdoblbiodpcjdaaSmW
import Derived.Test.YtdoblbiodpcjdaaEvtCheck
namespace Go.Proofs.Ytdoblbiodpcjdaa
open Go.RowKit
set_option linter.unusedVariables false
set_option linter.unusedSimpArgs false
def SOK (s : Sta) : Prop := (s.ss.length ≤ 1000 ∧ s.jobs.length ≤ 1000 ∧ s.clocks.length ≤ 1000) ∧ (∀ j ∈ s.jobs, 0 ≤ j.2.2.2 ∧ j.2.2.2 ≤ 100) ∧ ((0 ≤ s.began ∧ s.began ≤ 1099511627776) ∧ 0 ≤ s.lim ∧ s.lim ≤ 16000) ∧ (∀ x ∈ s.ss, 0 ≤ x.2.2.2.2.2 ∧ x.2.2.2.2.2 ≤ 1000) ∧ (0 ≤ s.next ∧ s.next ≤ 1000)
def APost (B : Nat) (w : World) (r : Sta × Int) (e' : Ending) (w' : World) : Prop := Below B w w' ∧ ∃ (va ua ca : Option Addr) (vc uc cc : Nat), e' = .returned (.tuple #[staV r.1 (.slice va r.1.ss.length vc) (.slice ua r.1.jobs.length uc) (.slice ca r.1.clocks.length cc), .int .i64 r.2]) ∧ StO w' B r.1 (.slice va r.1.ss.length vc) (.slice ua r.1.jobs.length uc) (.slice ca r.1.clocks.length cc)
theorem T3.keep {B : Nat} {w0 w w' : World} {g : Nat} {X Y Z : Array Value} {t te : TypeId} (h : T3 B w0 w g X Y Z t te) (k : BK B w w') (ht : t ≠ 79 ∧ t ≠ 84 ∧ te ≠ 79 ∧ te ≠ 84) : T3 B w0 w' g X Y Z t te :=
 ⟨k.keep _ _ _ _ h.hX ht.1 ht.2.1, k.keep _ _ _ _ h.hY ht.2.2.1 ht.2.2.2, k.keep _ _ _ _ h.hZ ht.1 ht.2.1, ⟨h.hb.below.trans k.below, fun j R T f hj h1 h2 => k.keep j R T f (h.hb.keep j R T f hj h1 h2) h1 h2⟩, Nat.le_trans h.hs k.below.size⟩
theorem row12' (a0 a1 a2 a3 a4 a5 a6 a7 a8 a9 a10 a11 r0 r1 r2 r3 r4 r5 r6 r7 r8 r9 r10 r11 : Value) : ((((((((((((#[a0, a1, a2, a3, a4, a5, a6, a7, a8, a9, a10, a11].setIfInBounds 0 r0).setIfInBounds 1 r1).setIfInBounds 2 r2).setIfInBounds 3 r3).setIfInBounds 4 r4).setIfInBounds 5 r5).setIfInBounds 6 r6).setIfInBounds 7 r7).setIfInBounds 8 r8).setIfInBounds 9 r9).setIfInBounds 10 r10).setIfInBounds 11 r11) = #[r0, r1, r2, r3, r4, r5, r6, r7, r8, r9, r10, r11] := by
 kernel_rfl
theorem T3.put12 {B : Nat} {w0 w : World} {g : Nat} {Y Z : Array Value} {t te : TypeId} {a0 a1 a2 a3 a4 a5 a6 a7 a8 a9 a10 a11 : Value} (h : T3 B w0 w g #[a0, a1, a2, a3, a4, a5, a6, a7, a8, a9, a10, a11] Y Z t te) (hB : B ≤ w0.heap.size) (hg : w0.heap.size ≤ g) (r0 r1 r2 r3 r4 r5 r6 r7 r8 r9 r10 r11 : Value) : T3 B w0 ((((((((((((w.setCell ⟨g, 0, none⟩ r0).setCell ⟨g, 1, none⟩ r1).setCell ⟨g, 2, none⟩ r2).setCell ⟨g, 3, none⟩ r3).setCell ⟨g, 4, none⟩ r4).setCell ⟨g, 5, none⟩ r5).setCell ⟨g, 6, none⟩ r6).setCell ⟨g, 7, none⟩ r7).setCell ⟨g, 8, none⟩ r8).setCell ⟨g, 9, none⟩ r9).setCell ⟨g, 10, none⟩ r10).setCell ⟨g, 11, none⟩ r11) g #[r0, r1, r2, r3, r4, r5, r6, r7, r8, r9, r10, r11] Y Z t te := by
 have h12 := ((((((((((((h.set hB 0 r0 hg).set hB 1 r1 hg).set hB 2 r2 hg).set hB 3 r3 hg).set hB 4 r4 hg).set hB 5 r5 hg).set hB 6 r6 hg).set hB 7 r7 hg).set hB 8 r8 hg).set hB 9 r9 hg).set hB 10 r10 hg).set hB 11 r11 hg)
 rw [row12'] at h12
 exact h12
theorem dec_next {s t : Sta} {e : Ev} (h : decisionF s e = some t) : t.next = s.next := by
 unfold decisionF at h
 repeat' split at h
 all_goals first | (cases h; rfl) | (cases h; done)
theorem work_next {s t : Sta} {e : Ev} (h : workF s e = some t) : t.next = s.next := by
 unfold workF at h
 repeat' split at h
 all_goals first | (cases h; rfl) | (cases h; done)
theorem clock_next {s t : Sta} {e : Ev} (h : clockF s e = some t) : t.next = s.next := by
 unfold clockF at h
 repeat' split at h
 all_goals first | (cases h; rfl) | (cases h; done)
theorem told_next {s t : Sta} {e : Ev} (h : toldF s e = some t) : t.next = s.next := by
 unfold toldF endF' at h
 repeat' split at h
 all_goals first | (cases h; rfl) | (cases h; done)
theorem kind_next {s t : Sta} {e : Ev} (h : kindF s e = some t) : t.next = s.next := by
 unfold kindF at h
 split at h
 · exact dec_next h
 · split at h
   · exact work_next h
   · split at h
     · exact clock_next h
     · exact told_next h
set_option maxHeartbeats 3200000 in
set_option maxRecDepth 100000 in
theorem apply_bad (ss : List St) (lim st nx bg ak tn : Int) (fr : Bool) (js : List Jb) (cs : List Ck) (cn ov : Bool) (va ua ca : Option Addr) (vc uc cc : Nat) (id kd tk rf sp ty : Int) (ud : Bool) (dt : List UInt8) (w : World) (hr : StR w ⟨ss, lim, st, nx, bg, ak, tn, fr, js, cs, cn, ov⟩ (.slice va ss.length vc) (.slice ua js.length uc) (.slice ca cs.length cc)) (hok : SOK ⟨ss, lim, st, nx, bg, ak, tn, fr, js, cs, cn, ov⟩) (hdt : dt.length ≤ 140737488355328) (hP : ¬ EvP (id, kd, tk, rf, sp, ty, ud, dt)) :
   Calls Try.prog 22 #[.agg #[.slice va ss.length vc, .int .i64 lim, .int .i64 st, .int .i64 nx, .int .i64 bg, .int .i64 ak, .int .i64 tn, .bool fr, .slice ua js.length uc, .slice ca cs.length cc, .bool cn, .bool ov], .agg #[.int .i64 id, .int .i64 kd, .int .i64 tk, .int .i64 rf, .int .i64 sp, .int .i64 ty, .bool ud, .string ⟨dt.toArray⟩]] w fun e' w' => APost w.heap.size w (applyF ⟨ss, lim, st, nx, bg, ak, tn, fr, js, cs, cn, ov⟩ (id, kd, tk, rf, sp, ty, ud, dt)) e' w' := by
 have hEV := hid (show evV (id, kd, tk, rf, sp, ty, ud, dt) = 120 by unfold evV; rw [if_neg hP])
 rw [show applyF ⟨ss, lim, st, nx, bg, ak, tn, fr, js, cs, cn, ov⟩ (id, kd, tk, rf, sp, ty, ud, dt) = (s0, 120) from by unfold applyF; rw [if_pos hP]]
 clear hP
 obtain ⟨W, hW, hS, hE, hR, bW, sW⟩ := lay3 w #[.slice va ss.length vc, .int .i64 lim, .int .i64 st, .int .i64 nx, .int .i64 bg, .int .i64 ak, .int .i64 tn, .bool fr, .slice ua js.length uc, .slice ca cs.length cc, .bool cn, .bool ov] #[.int .i64 id, .int .i64 kd, .int .i64 tk, .int .i64 rf, .int .i64 sp, .int .i64 ty, .bool ud, .string ⟨dt.toArray⟩] #[.slice none 0 0, .int .i64 0, .int .i64 0, .int .i64 0, .int .i64 0, .int .i64 0, .int .i64 0, .bool false, .slice none 0 0, .slice none 0 0, .bool false, .bool false] 36 23 36
 have ht : T3 w.heap.size w W w.heap.size #[.slice va ss.length vc, .int .i64 lim, .int .i64 st, .int .i64 nx, .int .i64 bg, .int .i64 ak, .int .i64 tn, .bool fr, .slice ua js.length uc, .slice ca cs.length cc, .bool cn, .bool ov] #[.int .i64 id, .int .i64 kd, .int .i64 tk, .int .i64 rf, .int .i64 sp, .int .i64 ty, .bool ud, .string ⟨dt.toArray⟩] #[.slice none 0 0, .int .i64 0, .int .i64 0, .int .i64 0, .int .i64 0, .int .i64 0, .int .i64 0, .bool false, .slice none 0 0, .slice none 0 0, .bool false, .bool false] 36 23 := ⟨hS, hE, hR, BK.of (Nat.le_refl _) bW, by omega⟩
 have HW := hid hW
 clear hW hS hE hR sW bW
 go_enter Try.func22, Try.ntmps22
 go_wp2_with fail
 rw [← HW.out]
 clear HW
 refine (echeck_any id kd tk rf sp ty ud dt hdt W).mono ?_
 rintro _ w1 ⟨rfl, b1⟩
 rw [hEV.out]
 have ht1 := ht.below b1
 clear ht b1
 have z0 : w1.cell? ⟨w.heap.size + 1 + 1, 0, none⟩ = some (.slice none 0 0) := (ht1).z rfl
 have zf0 := (ht1).fz 0
 have z1 : w1.cell? ⟨w.heap.size + 1 + 1, 1, none⟩ = some (.int .i64 0) := (ht1).z rfl
 have zf1 := (ht1).fz 1
 have z2 : w1.cell? ⟨w.heap.size + 1 + 1, 2, none⟩ = some (.int .i64 0) := (ht1).z rfl
 have zf2 := (ht1).fz 2
 have z3 : w1.cell? ⟨w.heap.size + 1 + 1, 3, none⟩ = some (.int .i64 0) := (ht1).z rfl
 have zf3 := (ht1).fz 3
 have z4 : w1.cell? ⟨w.heap.size + 1 + 1, 4, none⟩ = some (.int .i64 0) := (ht1).z rfl
 have zf4 := (ht1).fz 4
 have z5 : w1.cell? ⟨w.heap.size + 1 + 1, 5, none⟩ = some (.int .i64 0) := (ht1).z rfl
 have zf5 := (ht1).fz 5
 have z6 : w1.cell? ⟨w.heap.size + 1 + 1, 6, none⟩ = some (.int .i64 0) := (ht1).z rfl
 have zf6 := (ht1).fz 6
 have z7 : w1.cell? ⟨w.heap.size + 1 + 1, 7, none⟩ = some (.bool false) := (ht1).z rfl
 have zf7 := (ht1).fz 7
 have z8 : w1.cell? ⟨w.heap.size + 1 + 1, 8, none⟩ = some (.slice none 0 0) := (ht1).z rfl
 have zf8 := (ht1).fz 8
 have z9 : w1.cell? ⟨w.heap.size + 1 + 1, 9, none⟩ = some (.slice none 0 0) := (ht1).z rfl
 have zf9 := (ht1).fz 9
 have z10 : w1.cell? ⟨w.heap.size + 1 + 1, 10, none⟩ = some (.bool false) := (ht1).z rfl
 have zf10 := (ht1).fz 10
 have z11 : w1.cell? ⟨w.heap.size + 1 + 1, 11, none⟩ = some (.bool false) := (ht1).z rfl
 have zf11 := (ht1).fz 11
 have HB := hid ((ht1).hb.at (((((((((((((At.refl (w.heap.size + 1 + 1) w1).set 0 (.slice none 0 0)).set 1 (.int .i64 0)).set 2 (.int .i64 0)).set 3 (.int .i64 0)).set 4 (.int .i64 0)).set 5 (.int .i64 0)).set 6 (.int .i64 0)).set 7 (.bool false)).set 8 (.slice none 0 0)).set 9 (.slice none 0 0)).set 10 (.bool false)).set 11 (.bool false)) (ht1).hs (Nat.le_refl _) (by omega)).below
 go_wp2_with fail
 refine bodyPost_ret (v := .tuple #[.agg #[.slice none 0 0, .int .i64 0, .int .i64 0, .int .i64 0, .int .i64 0, .int .i64 0, .int .i64 0, .bool false, .slice none 0 0, .slice none 0 0, .bool false, .bool false], .int .i64 120]) ?_ rfl ⟨HB.out, none, none, none, 0, 0, 0, rfl, StO.none _ _ s0 rfl rfl rfl⟩
 rw [results_cell_tmp rfl]
 go_simp
set_option maxHeartbeats 3200000 in
set_option maxRecDepth 100000 in
theorem apply_zero (ss : List St) (lim st nx bg ak tn : Int) (fr : Bool) (js : List Jb) (cs : List Ck) (cn ov : Bool) (va ua ca : Option Addr) (vc uc cc : Nat) (id kd tk rf sp ty : Int) (ud : Bool) (dt : List UInt8) (w : World) (hr : StR w ⟨ss, lim, st, nx, bg, ak, tn, fr, js, cs, cn, ov⟩ (.slice va ss.length vc) (.slice ua js.length uc) (.slice ca cs.length cc)) (hok : SOK ⟨ss, lim, st, nx, bg, ak, tn, fr, js, cs, cn, ov⟩) (hdt : dt.length ≤ 140737488355328) (hP : EvP (id, kd, tk, rf, sp, ty, ud, dt)) (hn : nx = 0) :
   Calls Try.prog 22 #[.agg #[.slice va ss.length vc, .int .i64 lim, .int .i64 st, .int .i64 nx, .int .i64 bg, .int .i64 ak, .int .i64 tn, .bool fr, .slice ua js.length uc, .slice ca cs.length cc, .bool cn, .bool ov], .agg #[.int .i64 id, .int .i64 kd, .int .i64 tk, .int .i64 rf, .int .i64 sp, .int .i64 ty, .bool ud, .string ⟨dt.toArray⟩]] w fun e' w' => APost w.heap.size w (applyF ⟨ss, lim, st, nx, bg, ak, tn, fr, js, cs, cn, ov⟩ (id, kd, tk, rf, sp, ty, ud, dt)) e' w' := by
 subst hn
 have hEV := hid (show evV (id, kd, tk, rf, sp, ty, ud, dt) = 0 by unfold evV; rw [if_pos hP])
 by_cases h1 : kd = 1
 case neg =>
   have hq : (kd == 1) = false := by simpa using h1
   rw [show applyF ⟨ss, lim, st, 0, bg, ak, tn, fr, js, cs, cn, ov⟩ (id, kd, tk, rf, sp, ty, ud, dt) = (s0, 120) from by unfold applyF; rw [if_neg (not_not_intro hP), if_pos rfl, if_neg (fun q => h1 q.1)]]
   obtain ⟨W, hW, hS, hE, hR, bW, sW⟩ := lay3 w #[.slice va ss.length vc, .int .i64 lim, .int .i64 st, .int .i64 0, .int .i64 bg, .int .i64 ak, .int .i64 tn, .bool fr, .slice ua js.length uc, .slice ca cs.length cc, .bool cn, .bool ov] #[.int .i64 id, .int .i64 kd, .int .i64 tk, .int .i64 rf, .int .i64 sp, .int .i64 ty, .bool ud, .string ⟨dt.toArray⟩] #[.slice none 0 0, .int .i64 0, .int .i64 0, .int .i64 0, .int .i64 0, .int .i64 0, .int .i64 0, .bool false, .slice none 0 0, .slice none 0 0, .bool false, .bool false] 36 23 36
   have ht : T3 w.heap.size w W w.heap.size #[.slice va ss.length vc, .int .i64 lim, .int .i64 st, .int .i64 0, .int .i64 bg, .int .i64 ak, .int .i64 tn, .bool fr, .slice ua js.length uc, .slice ca cs.length cc, .bool cn, .bool ov] #[.int .i64 id, .int .i64 kd, .int .i64 tk, .int .i64 rf, .int .i64 sp, .int .i64 ty, .bool ud, .string ⟨dt.toArray⟩] #[.slice none 0 0, .int .i64 0, .int .i64 0, .int .i64 0, .int .i64 0, .int .i64 0, .int .i64 0, .bool false, .slice none 0 0, .slice none 0 0, .bool false, .bool false] 36 23 := ⟨hS, hE, hR, BK.of (Nat.le_refl _) bW, by omega⟩
   have HW := hid hW
   clear hW hS hE hR sW bW
   go_enter Try.func22, Try.ntmps22
   go_wp2_with fail
   rw [← HW.out]
   clear HW
   refine (echeck_any id kd tk rf sp ty ud dt hdt W).mono ?_
   rintro _ w1 ⟨rfl, b1⟩
   rw [hEV.out]
   have ht1 := ht.below b1
   clear ht b1
   have x3 : w1.cell? ⟨w.heap.size, 3, none⟩ = some (.int .i64 0) := (ht1).x rfl
   have y0 : w1.cell? ⟨w.heap.size + 1, 0, none⟩ = some (.int .i64 id) := (ht1).y rfl
   have y1 : w1.cell? ⟨w.heap.size + 1, 1, none⟩ = some (.int .i64 kd) := (ht1).y rfl
   have z0 : w1.cell? ⟨w.heap.size + 1 + 1, 0, none⟩ = some (.slice none 0 0) := (ht1).z rfl
   have zf0 := (ht1).fz 0
   have z1 : w1.cell? ⟨w.heap.size + 1 + 1, 1, none⟩ = some (.int .i64 0) := (ht1).z rfl
   have zf1 := (ht1).fz 1
   have z2 : w1.cell? ⟨w.heap.size + 1 + 1, 2, none⟩ = some (.int .i64 0) := (ht1).z rfl
   have zf2 := (ht1).fz 2
   have z3 : w1.cell? ⟨w.heap.size + 1 + 1, 3, none⟩ = some (.int .i64 0) := (ht1).z rfl
   have zf3 := (ht1).fz 3
   have z4 : w1.cell? ⟨w.heap.size + 1 + 1, 4, none⟩ = some (.int .i64 0) := (ht1).z rfl
   have zf4 := (ht1).fz 4
   have z5 : w1.cell? ⟨w.heap.size + 1 + 1, 5, none⟩ = some (.int .i64 0) := (ht1).z rfl
   have zf5 := (ht1).fz 5
   have z6 : w1.cell? ⟨w.heap.size + 1 + 1, 6, none⟩ = some (.int .i64 0) := (ht1).z rfl
   have zf6 := (ht1).fz 6
   have z7 : w1.cell? ⟨w.heap.size + 1 + 1, 7, none⟩ = some (.bool false) := (ht1).z rfl
   have zf7 := (ht1).fz 7
   have z8 : w1.cell? ⟨w.heap.size + 1 + 1, 8, none⟩ = some (.slice none 0 0) := (ht1).z rfl
   have zf8 := (ht1).fz 8
   have z9 : w1.cell? ⟨w.heap.size + 1 + 1, 9, none⟩ = some (.slice none 0 0) := (ht1).z rfl
   have zf9 := (ht1).fz 9
   have z10 : w1.cell? ⟨w.heap.size + 1 + 1, 10, none⟩ = some (.bool false) := (ht1).z rfl
   have zf10 := (ht1).fz 10
   have z11 : w1.cell? ⟨w.heap.size + 1 + 1, 11, none⟩ = some (.bool false) := (ht1).z rfl
   have zf11 := (ht1).fz 11
   have HB := hid ((ht1).hb.at (((((((((((((At.refl (w.heap.size + 1 + 1) w1).set 0 (.slice none 0 0)).set 1 (.int .i64 0)).set 2 (.int .i64 0)).set 3 (.int .i64 0)).set 4 (.int .i64 0)).set 5 (.int .i64 0)).set 6 (.int .i64 0)).set 7 (.bool false)).set 8 (.slice none 0 0)).set 9 (.slice none 0 0)).set 10 (.bool false)).set 11 (.bool false)) (ht1).hs (Nat.le_refl _) (by omega)).below
   go_wp2_with fail
   refine bodyPost_ret (v := .tuple #[.agg #[.slice none 0 0, .int .i64 0, .int .i64 0, .int .i64 0, .int .i64 0, .int .i64 0, .int .i64 0, .bool false, .slice none 0 0, .slice none 0 0, .bool false, .bool false], .int .i64 120]) ?_ rfl ⟨HB.out, none, none, none, 0, 0, 0, rfl, StO.none _ _ s0 rfl rfl rfl⟩
   rw [results_cell_tmp rfl]
   go_simp
 by_cases h2 : id = 1
 case neg =>
   have hq9 : (kd == 1) = true := by simpa using h1
   have hq8 : (kd != 1) = false := by simp [h1]
   clear h1
   have hq : (id == 1) = false := by simpa using h2
   rw [show applyF ⟨ss, lim, st, 0, bg, ak, tn, fr, js, cs, cn, ov⟩ (id, kd, tk, rf, sp, ty, ud, dt) = (s0, 120) from by unfold applyF; rw [if_neg (not_not_intro hP), if_pos rfl, if_neg (fun q => h2 q.2)]]
   obtain ⟨W, hW, hS, hE, hR, bW, sW⟩ := lay3 w #[.slice va ss.length vc, .int .i64 lim, .int .i64 st, .int .i64 0, .int .i64 bg, .int .i64 ak, .int .i64 tn, .bool fr, .slice ua js.length uc, .slice ca cs.length cc, .bool cn, .bool ov] #[.int .i64 id, .int .i64 kd, .int .i64 tk, .int .i64 rf, .int .i64 sp, .int .i64 ty, .bool ud, .string ⟨dt.toArray⟩] #[.slice none 0 0, .int .i64 0, .int .i64 0, .int .i64 0, .int .i64 0, .int .i64 0, .int .i64 0, .bool false, .slice none 0 0, .slice none 0 0, .bool false, .bool false] 36 23 36
   have ht : T3 w.heap.size w W w.heap.size #[.slice va ss.length vc, .int .i64 lim, .int .i64 st, .int .i64 0, .int .i64 bg, .int .i64 ak, .int .i64 tn, .bool fr, .slice ua js.length uc, .slice ca cs.length cc, .bool cn, .bool ov] #[.int .i64 id, .int .i64 kd, .int .i64 tk, .int .i64 rf, .int .i64 sp, .int .i64 ty, .bool ud, .string ⟨dt.toArray⟩] #[.slice none 0 0, .int .i64 0, .int .i64 0, .int .i64 0, .int .i64 0, .int .i64 0, .int .i64 0, .bool false, .slice none 0 0, .slice none 0 0, .bool false, .bool false] 36 23 := ⟨hS, hE, hR, BK.of (Nat.le_refl _) bW, by omega⟩
   have HW := hid hW
   clear hW hS hE hR sW bW
   go_enter Try.func22, Try.ntmps22
   go_wp2_with fail
   rw [← HW.out]
   clear HW
   refine (echeck_any id kd tk rf sp ty ud dt hdt W).mono ?_
   rintro _ w1 ⟨rfl, b1⟩
   rw [hEV.out]
   have ht1 := ht.below b1
   clear ht b1
   have x3 : w1.cell? ⟨w.heap.size, 3, none⟩ = some (.int .i64 0) := (ht1).x rfl
   have y0 : w1.cell? ⟨w.heap.size + 1, 0, none⟩ = some (.int .i64 id) := (ht1).y rfl
   have y1 : w1.cell? ⟨w.heap.size + 1, 1, none⟩ = some (.int .i64 kd) := (ht1).y rfl
   have z0 : w1.cell? ⟨w.heap.size + 1 + 1, 0, none⟩ = some (.slice none 0 0) := (ht1).z rfl
   have zf0 := (ht1).fz 0
   have z1 : w1.cell? ⟨w.heap.size + 1 + 1, 1, none⟩ = some (.int .i64 0) := (ht1).z rfl
   have zf1 := (ht1).fz 1
   have z2 : w1.cell? ⟨w.heap.size + 1 + 1, 2, none⟩ = some (.int .i64 0) := (ht1).z rfl
   have zf2 := (ht1).fz 2
   have z3 : w1.cell? ⟨w.heap.size + 1 + 1, 3, none⟩ = some (.int .i64 0) := (ht1).z rfl
   have zf3 := (ht1).fz 3
   have z4 : w1.cell? ⟨w.heap.size + 1 + 1, 4, none⟩ = some (.int .i64 0) := (ht1).z rfl
   have zf4 := (ht1).fz 4
   have z5 : w1.cell? ⟨w.heap.size + 1 + 1, 5, none⟩ = some (.int .i64 0) := (ht1).z rfl
   have zf5 := (ht1).fz 5
   have z6 : w1.cell? ⟨w.heap.size + 1 + 1, 6, none⟩ = some (.int .i64 0) := (ht1).z rfl
   have zf6 := (ht1).fz 6
   have z7 : w1.cell? ⟨w.heap.size + 1 + 1, 7, none⟩ = some (.bool false) := (ht1).z rfl
   have zf7 := (ht1).fz 7
   have z8 : w1.cell? ⟨w.heap.size + 1 + 1, 8, none⟩ = some (.slice none 0 0) := (ht1).z rfl
   have zf8 := (ht1).fz 8
   have z9 : w1.cell? ⟨w.heap.size + 1 + 1, 9, none⟩ = some (.slice none 0 0) := (ht1).z rfl
   have zf9 := (ht1).fz 9
   have z10 : w1.cell? ⟨w.heap.size + 1 + 1, 10, none⟩ = some (.bool false) := (ht1).z rfl
   have zf10 := (ht1).fz 10
   have z11 : w1.cell? ⟨w.heap.size + 1 + 1, 11, none⟩ = some (.bool false) := (ht1).z rfl
   have zf11 := (ht1).fz 11
   have HB := hid ((ht1).hb.at (((((((((((((At.refl (w.heap.size + 1 + 1) w1).set 0 (.slice none 0 0)).set 1 (.int .i64 0)).set 2 (.int .i64 0)).set 3 (.int .i64 0)).set 4 (.int .i64 0)).set 5 (.int .i64 0)).set 6 (.int .i64 0)).set 7 (.bool false)).set 8 (.slice none 0 0)).set 9 (.slice none 0 0)).set 10 (.bool false)).set 11 (.bool false)) (ht1).hs (Nat.le_refl _) (by omega)).below
   go_wp2_with fail
   refine bodyPost_ret (v := .tuple #[.agg #[.slice none 0 0, .int .i64 0, .int .i64 0, .int .i64 0, .int .i64 0, .int .i64 0, .int .i64 0, .bool false, .slice none 0 0, .slice none 0 0, .bool false, .bool false], .int .i64 120]) ?_ rfl ⟨HB.out, none, none, none, 0, 0, 0, rfl, StO.none _ _ s0 rfl rfl rfl⟩
   rw [results_cell_tmp rfl]
   go_simp
 subst h1
 subst h2
 obtain ⟨lim', ss', hp⟩ : ∃ lim ss, progF dt = some (lim, ss) := hP.2.2.2.2.2.2.2.1 rfl
 rw [show applyF ⟨ss, lim, st, 0, bg, ak, tn, fr, js, cs, cn, ov⟩ (1, 1, tk, rf, sp, ty, ud, dt) = (⟨ss', lim', 0, 2, tk, 0, 0, true, [], [], false, false⟩, 0) from by
   unfold applyF
   rw [if_neg (not_not_intro hP), if_pos rfl, if_pos ⟨rfl, rfl⟩]
   unfold begunS prgF
   simp only [Ev.dt, Ev.tk]
   rw [hp]; rfl]
 have HP := hid hp
 clear hp hP
 obtain ⟨W, hW, hS, hE, hR, bW, sW⟩ := lay3 w #[.slice va ss.length vc, .int .i64 lim, .int .i64 st, .int .i64 0, .int .i64 bg, .int .i64 ak, .int .i64 tn, .bool fr, .slice ua js.length uc, .slice ca cs.length cc, .bool cn, .bool ov] #[.int .i64 1, .int .i64 1, .int .i64 tk, .int .i64 rf, .int .i64 sp, .int .i64 ty, .bool ud, .string ⟨dt.toArray⟩] #[.slice none 0 0, .int .i64 0, .int .i64 0, .int .i64 0, .int .i64 0, .int .i64 0, .int .i64 0, .bool false, .slice none 0 0, .slice none 0 0, .bool false, .bool false] 36 23 36
 have ht : T3 w.heap.size w W w.heap.size #[.slice va ss.length vc, .int .i64 lim, .int .i64 st, .int .i64 0, .int .i64 bg, .int .i64 ak, .int .i64 tn, .bool fr, .slice ua js.length uc, .slice ca cs.length cc, .bool cn, .bool ov] #[.int .i64 1, .int .i64 1, .int .i64 tk, .int .i64 rf, .int .i64 sp, .int .i64 ty, .bool ud, .string ⟨dt.toArray⟩] #[.slice none 0 0, .int .i64 0, .int .i64 0, .int .i64 0, .int .i64 0, .int .i64 0, .int .i64 0, .bool false, .slice none 0 0, .slice none 0 0, .bool false, .bool false] 36 23 := ⟨hS, hE, hR, BK.of (Nat.le_refl _) bW, by omega⟩
 have HW := hid hW
 clear hW hS hE hR sW bW
 go_enter Try.func22, Try.ntmps22
 go_wp2_with fail
 rw [← HW.out]
 clear HW
 refine (echeck_any 1 1 tk rf sp ty ud dt hdt W).mono ?_
 rintro _ w1 ⟨rfl, b1⟩
 rw [hEV.out]
 have ht1 := ht.below b1
 clear ht b1
 have x3 : w1.cell? ⟨w.heap.size, 3, none⟩ = some (.int .i64 0) := (ht1).x rfl
 have y0 : w1.cell? ⟨w.heap.size + 1, 0, none⟩ = some (.int .i64 1) := (ht1).y rfl
 have y1 : w1.cell? ⟨w.heap.size + 1, 1, none⟩ = some (.int .i64 1) := (ht1).y rfl
 have y7 : w1.cell? ⟨w.heap.size + 1, 7, none⟩ = some (.string ⟨dt.toArray⟩) := (ht1).y rfl
 go_wp2_with fail
 refine (decode_own dt hdt w1).mono ?_
 rintro _ w2 ⟨v, lim2, ss2, er, rfl, ho, b2, hres⟩
 rcases hres with ⟨hpp, rfl⟩ | ⟨hpp, -⟩
 case inr => rw [HP.out] at hpp; cases hpp
 rw [HP.out] at hpp
 injection hpp with hpp
 rw [Prod.mk.injEq] at hpp
 obtain ⟨rfl, rfl⟩ := hpp
 obtain ⟨a, c, rfl⟩ := ownsRow_slice ho
 have ho2 := own_mono ho ht1.hs
 have ht2 := ht1.below b2
 have b3 : Below w2.heap.size w2 (w2.alloc (.cells #[.slice a ss'.length c, .int .i64 lim'] 32)) := (Below.refl _ _).alloc (Nat.le_refl _) _
 have ht3 := ht2.below b3
 have ho3 := own_new ho2 b3
 clear ho b2 ht1 x3 y0 y1 y7
 have y2 : (w2.alloc (.cells #[.slice a ss'.length c, .int .i64 lim'] 32)).cell? ⟨w.heap.size + 1, 2, none⟩ = some (.int .i64 tk) := (ht3).y rfl
 have z0 : (w2.alloc (.cells #[.slice a ss'.length c, .int .i64 lim'] 32)).cell? ⟨w.heap.size + 1 + 1, 0, none⟩ = some (.slice none 0 0) := (ht3).z rfl
 have zf0 := (ht3).fz 0
 have z1 : (w2.alloc (.cells #[.slice a ss'.length c, .int .i64 lim'] 32)).cell? ⟨w.heap.size + 1 + 1, 1, none⟩ = some (.int .i64 0) := (ht3).z rfl
 have zf1 := (ht3).fz 1
 have z2 : (w2.alloc (.cells #[.slice a ss'.length c, .int .i64 lim'] 32)).cell? ⟨w.heap.size + 1 + 1, 2, none⟩ = some (.int .i64 0) := (ht3).z rfl
 have zf2 := (ht3).fz 2
 have z3 : (w2.alloc (.cells #[.slice a ss'.length c, .int .i64 lim'] 32)).cell? ⟨w.heap.size + 1 + 1, 3, none⟩ = some (.int .i64 0) := (ht3).z rfl
 have zf3 := (ht3).fz 3
 have z4 : (w2.alloc (.cells #[.slice a ss'.length c, .int .i64 lim'] 32)).cell? ⟨w.heap.size + 1 + 1, 4, none⟩ = some (.int .i64 0) := (ht3).z rfl
 have zf4 := (ht3).fz 4
 have z5 : (w2.alloc (.cells #[.slice a ss'.length c, .int .i64 lim'] 32)).cell? ⟨w.heap.size + 1 + 1, 5, none⟩ = some (.int .i64 0) := (ht3).z rfl
 have zf5 := (ht3).fz 5
 have z6 : (w2.alloc (.cells #[.slice a ss'.length c, .int .i64 lim'] 32)).cell? ⟨w.heap.size + 1 + 1, 6, none⟩ = some (.int .i64 0) := (ht3).z rfl
 have zf6 := (ht3).fz 6
 have z7 : (w2.alloc (.cells #[.slice a ss'.length c, .int .i64 lim'] 32)).cell? ⟨w.heap.size + 1 + 1, 7, none⟩ = some (.bool false) := (ht3).z rfl
 have zf7 := (ht3).fz 7
 have z8 : (w2.alloc (.cells #[.slice a ss'.length c, .int .i64 lim'] 32)).cell? ⟨w.heap.size + 1 + 1, 8, none⟩ = some (.slice none 0 0) := (ht3).z rfl
 have zf8 := (ht3).fz 8
 have z9 : (w2.alloc (.cells #[.slice a ss'.length c, .int .i64 lim'] 32)).cell? ⟨w.heap.size + 1 + 1, 9, none⟩ = some (.slice none 0 0) := (ht3).z rfl
 have zf9 := (ht3).fz 9
 have z10 : (w2.alloc (.cells #[.slice a ss'.length c, .int .i64 lim'] 32)).cell? ⟨w.heap.size + 1 + 1, 10, none⟩ = some (.bool false) := (ht3).z rfl
 have zf10 := (ht3).fz 10
 have z11 : (w2.alloc (.cells #[.slice a ss'.length c, .int .i64 lim'] 32)).cell? ⟨w.heap.size + 1 + 1, 11, none⟩ = some (.bool false) := (ht3).z rfl
 have zf11 := (ht3).fz 11
 have HB := hid (ht3.hb.at (((((((((((((At.refl (w.heap.size + 1 + 1) (w2.alloc (.cells #[.slice a ss'.length c, .int .i64 lim'] 32))).set 0 (.slice a ss'.length c)).set 1 (.int .i64 lim')).set 2 (.int .i64 0)).set 3 (.int .i64 2)).set 4 (.int .i64 tk)).set 5 (.int .i64 0)).set 6 (.int .i64 0)).set 7 (.bool true)).set 8 (.slice none 0 0)).set 9 (.slice none 0 0)).set 10 (.bool false)).set 11 (.bool false)) ht3.hs (Nat.le_refl _) (by omega)).below
 have HO := hid (own_at_row ho3 ht3.hZ (by decide) (((((((((((((At.refl (w.heap.size + 1 + 1) (w2.alloc (.cells #[.slice a ss'.length c, .int .i64 lim'] 32))).set 0 (.slice a ss'.length c)).set 1 (.int .i64 lim')).set 2 (.int .i64 0)).set 3 (.int .i64 2)).set 4 (.int .i64 tk)).set 5 (.int .i64 0)).set 6 (.int .i64 0)).set 7 (.bool true)).set 8 (.slice none 0 0)).set 9 (.slice none 0 0)).set 10 (.bool false)).set 11 (.bool false)))
 clear ht2 ht3 ho2 ho3 b3
 go_wp2_with fail
 refine bodyPost_ret (v := .tuple #[.agg #[.slice a ss'.length c, .int .i64 lim', .int .i64 0, .int .i64 2, .int .i64 tk, .int .i64 0, .int .i64 0, .bool true, .slice none 0 0, .slice none 0 0, .bool false, .bool false], .int .i64 0]) ?_ rfl ⟨HB.out, a, none, none, c, 0, 0, rfl, HO.out, World.ownsRow_nil _ _ _ _, World.ownsRow_nil _ _ _ _⟩
 rw [results_cell_tmp rfl]
 go_simp
set_option maxHeartbeats 3200000 in
set_option maxRecDepth 100000 in
theorem apply_closed (ss : List St) (lim st nx bg ak tn : Int) (fr : Bool) (js : List Jb) (cs : List Ck) (cn ov : Bool) (va ua ca : Option Addr) (vc uc cc : Nat) (id kd tk rf sp ty : Int) (ud : Bool) (dt : List UInt8) (w : World) (hr : StR w ⟨ss, lim, st, nx, bg, ak, tn, fr, js, cs, cn, ov⟩ (.slice va ss.length vc) (.slice ua js.length uc) (.slice ca cs.length cc)) (hok : SOK ⟨ss, lim, st, nx, bg, ak, tn, fr, js, cs, cn, ov⟩) (hdt : dt.length ≤ 140737488355328) (hP : EvP (id, kd, tk, rf, sp, ty, ud, dt)) (hn : ¬ nx = 0) (hs : ¬ st = 0) :
   Calls Try.prog 22 #[.agg #[.slice va ss.length vc, .int .i64 lim, .int .i64 st, .int .i64 nx, .int .i64 bg, .int .i64 ak, .int .i64 tn, .bool fr, .slice ua js.length uc, .slice ca cs.length cc, .bool cn, .bool ov], .agg #[.int .i64 id, .int .i64 kd, .int .i64 tk, .int .i64 rf, .int .i64 sp, .int .i64 ty, .bool ud, .string ⟨dt.toArray⟩]] w fun e' w' => APost w.heap.size w (applyF ⟨ss, lim, st, nx, bg, ak, tn, fr, js, cs, cn, ov⟩ (id, kd, tk, rf, sp, ty, ud, dt)) e' w' := by
 have hEV := hid (show evV (id, kd, tk, rf, sp, ty, ud, dt) = 0 by unfold evV; rw [if_pos hP])
 have hqs : (st == 0) = false := by simpa using hs
 have hqn : (nx == 0) = false := by simpa using hn
 rw [show applyF ⟨ss, lim, st, nx, bg, ak, tn, fr, js, cs, cn, ov⟩ (id, kd, tk, rf, sp, ty, ud, dt) = (s0, 182) from by unfold applyF; rw [if_neg (not_not_intro hP), if_neg (show ¬ (⟨ss, lim, st, nx, bg, ak, tn, fr, js, cs, cn, ov⟩ : Sta).next = 0 from hn), if_pos (show (⟨ss, lim, st, nx, bg, ak, tn, fr, js, cs, cn, ov⟩ : Sta).status ≠ 0 from hs)]]
 clear hP hn hs
 obtain ⟨W, hW, hS, hE, hR, bW, sW⟩ := lay3 w #[.slice va ss.length vc, .int .i64 lim, .int .i64 st, .int .i64 nx, .int .i64 bg, .int .i64 ak, .int .i64 tn, .bool fr, .slice ua js.length uc, .slice ca cs.length cc, .bool cn, .bool ov] #[.int .i64 id, .int .i64 kd, .int .i64 tk, .int .i64 rf, .int .i64 sp, .int .i64 ty, .bool ud, .string ⟨dt.toArray⟩] #[.slice none 0 0, .int .i64 0, .int .i64 0, .int .i64 0, .int .i64 0, .int .i64 0, .int .i64 0, .bool false, .slice none 0 0, .slice none 0 0, .bool false, .bool false] 36 23 36
 have ht : T3 w.heap.size w W w.heap.size #[.slice va ss.length vc, .int .i64 lim, .int .i64 st, .int .i64 nx, .int .i64 bg, .int .i64 ak, .int .i64 tn, .bool fr, .slice ua js.length uc, .slice ca cs.length cc, .bool cn, .bool ov] #[.int .i64 id, .int .i64 kd, .int .i64 tk, .int .i64 rf, .int .i64 sp, .int .i64 ty, .bool ud, .string ⟨dt.toArray⟩] #[.slice none 0 0, .int .i64 0, .int .i64 0, .int .i64 0, .int .i64 0, .int .i64 0, .int .i64 0, .bool false, .slice none 0 0, .slice none 0 0, .bool false, .bool false] 36 23 := ⟨hS, hE, hR, BK.of (Nat.le_refl _) bW, by omega⟩
 have HW := hid hW
 clear hW hS hE hR sW bW
 go_enter Try.func22, Try.ntmps22
 go_wp2_with fail
 rw [← HW.out]
 clear HW
 refine (echeck_any id kd tk rf sp ty ud dt hdt W).mono ?_
 rintro _ w1 ⟨rfl, b1⟩
 rw [hEV.out]
 have ht1 := ht.below b1
 clear ht b1
 have x2 : w1.cell? ⟨w.heap.size, 2, none⟩ = some (.int .i64 st) := (ht1).x rfl
 have x3 : w1.cell? ⟨w.heap.size, 3, none⟩ = some (.int .i64 nx) := (ht1).x rfl
 have z0 : w1.cell? ⟨w.heap.size + 1 + 1, 0, none⟩ = some (.slice none 0 0) := (ht1).z rfl
 have zf0 := (ht1).fz 0
 have z1 : w1.cell? ⟨w.heap.size + 1 + 1, 1, none⟩ = some (.int .i64 0) := (ht1).z rfl
 have zf1 := (ht1).fz 1
 have z2 : w1.cell? ⟨w.heap.size + 1 + 1, 2, none⟩ = some (.int .i64 0) := (ht1).z rfl
 have zf2 := (ht1).fz 2
 have z3 : w1.cell? ⟨w.heap.size + 1 + 1, 3, none⟩ = some (.int .i64 0) := (ht1).z rfl
 have zf3 := (ht1).fz 3
 have z4 : w1.cell? ⟨w.heap.size + 1 + 1, 4, none⟩ = some (.int .i64 0) := (ht1).z rfl
 have zf4 := (ht1).fz 4
 have z5 : w1.cell? ⟨w.heap.size + 1 + 1, 5, none⟩ = some (.int .i64 0) := (ht1).z rfl
 have zf5 := (ht1).fz 5
 have z6 : w1.cell? ⟨w.heap.size + 1 + 1, 6, none⟩ = some (.int .i64 0) := (ht1).z rfl
 have zf6 := (ht1).fz 6
 have z7 : w1.cell? ⟨w.heap.size + 1 + 1, 7, none⟩ = some (.bool false) := (ht1).z rfl
 have zf7 := (ht1).fz 7
 have z8 : w1.cell? ⟨w.heap.size + 1 + 1, 8, none⟩ = some (.slice none 0 0) := (ht1).z rfl
 have zf8 := (ht1).fz 8
 have z9 : w1.cell? ⟨w.heap.size + 1 + 1, 9, none⟩ = some (.slice none 0 0) := (ht1).z rfl
 have zf9 := (ht1).fz 9
 have z10 : w1.cell? ⟨w.heap.size + 1 + 1, 10, none⟩ = some (.bool false) := (ht1).z rfl
 have zf10 := (ht1).fz 10
 have z11 : w1.cell? ⟨w.heap.size + 1 + 1, 11, none⟩ = some (.bool false) := (ht1).z rfl
 have zf11 := (ht1).fz 11
 have HB := hid ((ht1).hb.at (((((((((((((At.refl (w.heap.size + 1 + 1) w1).set 0 (.slice none 0 0)).set 1 (.int .i64 0)).set 2 (.int .i64 0)).set 3 (.int .i64 0)).set 4 (.int .i64 0)).set 5 (.int .i64 0)).set 6 (.int .i64 0)).set 7 (.bool false)).set 8 (.slice none 0 0)).set 9 (.slice none 0 0)).set 10 (.bool false)).set 11 (.bool false)) (ht1).hs (Nat.le_refl _) (by omega)).below
 go_wp2_with fail
 refine bodyPost_ret (v := .tuple #[.agg #[.slice none 0 0, .int .i64 0, .int .i64 0, .int .i64 0, .int .i64 0, .int .i64 0, .int .i64 0, .bool false, .slice none 0 0, .slice none 0 0, .bool false, .bool false], .int .i64 182]) ?_ rfl ⟨HB.out, none, none, none, 0, 0, 0, rfl, StO.none _ _ s0 rfl rfl rfl⟩
 rw [results_cell_tmp rfl]
 go_simp
set_option maxHeartbeats 3200000 in
set_option maxRecDepth 100000 in
theorem apply_id (ss : List St) (lim st nx bg ak tn : Int) (fr : Bool) (js : List Jb) (cs : List Ck) (cn ov : Bool) (va ua ca : Option Addr) (vc uc cc : Nat) (id kd tk rf sp ty : Int) (ud : Bool) (dt : List UInt8) (w : World) (hr : StR w ⟨ss, lim, st, nx, bg, ak, tn, fr, js, cs, cn, ov⟩ (.slice va ss.length vc) (.slice ua js.length uc) (.slice ca cs.length cc)) (hok : SOK ⟨ss, lim, st, nx, bg, ak, tn, fr, js, cs, cn, ov⟩) (hdt : dt.length ≤ 140737488355328) (hP : EvP (id, kd, tk, rf, sp, ty, ud, dt)) (hn : ¬ nx = 0) (hs : st = 0) (hi : ¬ id = nx) :
   Calls Try.prog 22 #[.agg #[.slice va ss.length vc, .int .i64 lim, .int .i64 st, .int .i64 nx, .int .i64 bg, .int .i64 ak, .int .i64 tn, .bool fr, .slice ua js.length uc, .slice ca cs.length cc, .bool cn, .bool ov], .agg #[.int .i64 id, .int .i64 kd, .int .i64 tk, .int .i64 rf, .int .i64 sp, .int .i64 ty, .bool ud, .string ⟨dt.toArray⟩]] w fun e' w' => APost w.heap.size w (applyF ⟨ss, lim, st, nx, bg, ak, tn, fr, js, cs, cn, ov⟩ (id, kd, tk, rf, sp, ty, ud, dt)) e' w' := by
 have hEV := hid (show evV (id, kd, tk, rf, sp, ty, ud, dt) = 0 by unfold evV; rw [if_pos hP])
 have hqs : (st == 0) = true := by simpa using hs
 have hqi : (id == nx) = false := by simpa using hi
 have hqn : (nx == 0) = false := by simpa using hn
 rw [show applyF ⟨ss, lim, st, nx, bg, ak, tn, fr, js, cs, cn, ov⟩ (id, kd, tk, rf, sp, ty, ud, dt) = (s0, 120) from by unfold applyF; rw [if_neg (not_not_intro hP), if_neg (show ¬ (⟨ss, lim, st, nx, bg, ak, tn, fr, js, cs, cn, ov⟩ : Sta).next = 0 from hn), if_neg (not_not_intro (show (⟨ss, lim, st, nx, bg, ak, tn, fr, js, cs, cn, ov⟩ : Sta).status = 0 from hs)), if_pos (show Ev.id (id, kd, tk, rf, sp, ty, ud, dt) ≠ (⟨ss, lim, st, nx, bg, ak, tn, fr, js, cs, cn, ov⟩ : Sta).next from hi)]]
 clear hP hn hs
 obtain ⟨W, hW, hS, hE, hR, bW, sW⟩ := lay3 w #[.slice va ss.length vc, .int .i64 lim, .int .i64 st, .int .i64 nx, .int .i64 bg, .int .i64 ak, .int .i64 tn, .bool fr, .slice ua js.length uc, .slice ca cs.length cc, .bool cn, .bool ov] #[.int .i64 id, .int .i64 kd, .int .i64 tk, .int .i64 rf, .int .i64 sp, .int .i64 ty, .bool ud, .string ⟨dt.toArray⟩] #[.slice none 0 0, .int .i64 0, .int .i64 0, .int .i64 0, .int .i64 0, .int .i64 0, .int .i64 0, .bool false, .slice none 0 0, .slice none 0 0, .bool false, .bool false] 36 23 36
 have ht : T3 w.heap.size w W w.heap.size #[.slice va ss.length vc, .int .i64 lim, .int .i64 st, .int .i64 nx, .int .i64 bg, .int .i64 ak, .int .i64 tn, .bool fr, .slice ua js.length uc, .slice ca cs.length cc, .bool cn, .bool ov] #[.int .i64 id, .int .i64 kd, .int .i64 tk, .int .i64 rf, .int .i64 sp, .int .i64 ty, .bool ud, .string ⟨dt.toArray⟩] #[.slice none 0 0, .int .i64 0, .int .i64 0, .int .i64 0, .int .i64 0, .int .i64 0, .int .i64 0, .bool false, .slice none 0 0, .slice none 0 0, .bool false, .bool false] 36 23 := ⟨hS, hE, hR, BK.of (Nat.le_refl _) bW, by omega⟩
 have HW := hid hW
 clear hW hS hE hR sW bW
 go_enter Try.func22, Try.ntmps22
 go_wp2_with fail
 rw [← HW.out]
 clear HW
 refine (echeck_any id kd tk rf sp ty ud dt hdt W).mono ?_
 rintro _ w1 ⟨rfl, b1⟩
 rw [hEV.out]
 have ht1 := ht.below b1
 clear ht b1
 have x2 : w1.cell? ⟨w.heap.size, 2, none⟩ = some (.int .i64 st) := (ht1).x rfl
 have x3 : w1.cell? ⟨w.heap.size, 3, none⟩ = some (.int .i64 nx) := (ht1).x rfl
 have y0 : w1.cell? ⟨w.heap.size + 1, 0, none⟩ = some (.int .i64 id) := (ht1).y rfl
 have z0 : w1.cell? ⟨w.heap.size + 1 + 1, 0, none⟩ = some (.slice none 0 0) := (ht1).z rfl
 have zf0 := (ht1).fz 0
 have z1 : w1.cell? ⟨w.heap.size + 1 + 1, 1, none⟩ = some (.int .i64 0) := (ht1).z rfl
 have zf1 := (ht1).fz 1
 have z2 : w1.cell? ⟨w.heap.size + 1 + 1, 2, none⟩ = some (.int .i64 0) := (ht1).z rfl
 have zf2 := (ht1).fz 2
 have z3 : w1.cell? ⟨w.heap.size + 1 + 1, 3, none⟩ = some (.int .i64 0) := (ht1).z rfl
 have zf3 := (ht1).fz 3
 have z4 : w1.cell? ⟨w.heap.size + 1 + 1, 4, none⟩ = some (.int .i64 0) := (ht1).z rfl
 have zf4 := (ht1).fz 4
 have z5 : w1.cell? ⟨w.heap.size + 1 + 1, 5, none⟩ = some (.int .i64 0) := (ht1).z rfl
 have zf5 := (ht1).fz 5
 have z6 : w1.cell? ⟨w.heap.size + 1 + 1, 6, none⟩ = some (.int .i64 0) := (ht1).z rfl
 have zf6 := (ht1).fz 6
 have z7 : w1.cell? ⟨w.heap.size + 1 + 1, 7, none⟩ = some (.bool false) := (ht1).z rfl
 have zf7 := (ht1).fz 7
 have z8 : w1.cell? ⟨w.heap.size + 1 + 1, 8, none⟩ = some (.slice none 0 0) := (ht1).z rfl
 have zf8 := (ht1).fz 8
 have z9 : w1.cell? ⟨w.heap.size + 1 + 1, 9, none⟩ = some (.slice none 0 0) := (ht1).z rfl
 have zf9 := (ht1).fz 9
 have z10 : w1.cell? ⟨w.heap.size + 1 + 1, 10, none⟩ = some (.bool false) := (ht1).z rfl
 have zf10 := (ht1).fz 10
 have z11 : w1.cell? ⟨w.heap.size + 1 + 1, 11, none⟩ = some (.bool false) := (ht1).z rfl
 have zf11 := (ht1).fz 11
 have HB := hid ((ht1).hb.at (((((((((((((At.refl (w.heap.size + 1 + 1) w1).set 0 (.slice none 0 0)).set 1 (.int .i64 0)).set 2 (.int .i64 0)).set 3 (.int .i64 0)).set 4 (.int .i64 0)).set 5 (.int .i64 0)).set 6 (.int .i64 0)).set 7 (.bool false)).set 8 (.slice none 0 0)).set 9 (.slice none 0 0)).set 10 (.bool false)).set 11 (.bool false)) (ht1).hs (Nat.le_refl _) (by omega)).below
 go_wp2_with fail
 refine bodyPost_ret (v := .tuple #[.agg #[.slice none 0 0, .int .i64 0, .int .i64 0, .int .i64 0, .int .i64 0, .int .i64 0, .int .i64 0, .bool false, .slice none 0 0, .slice none 0 0, .bool false, .bool false], .int .i64 120]) ?_ rfl ⟨HB.out, none, none, none, 0, 0, 0, rfl, StO.none _ _ s0 rfl rfl rfl⟩
 rw [results_cell_tmp rfl]
 go_simp
def AftP (w : World) (s : Sta) (e : Ev) (Y : Array Value) (s8 : Value) (wx : World) : Prop :=
 (kindF s e = none ∧ s8 = .bool false ∧ ∃ X', T3 w.heap.size w wx w.heap.size X' Y #[.slice none 0 0, .int .i64 0, .int .i64 0, .int .i64 0, .int .i64 0, .int .i64 0, .int .i64 0, .bool false, .slice none 0 0, .slice none 0 0, .bool false, .bool false] 36 23) ∨ (∃ (t : Sta) (ta tb td : Option Addr) (tc1 tc2 tc3 : Nat), kindF s e = some t ∧ s8 = .bool true ∧ T3 w.heap.size w wx w.heap.size #[.slice ta t.ss.length tc1, .int .i64 t.lim, .int .i64 t.status, .int .i64 t.next, .int .i64 t.began, .int .i64 t.asked, .int .i64 t.taken, .bool t.fresh, .slice tb t.jobs.length tc2, .slice td t.clocks.length tc3, .bool t.cancel, .bool t.overdue] Y #[.slice none 0 0, .int .i64 0, .int .i64 0, .int .i64 0, .int .i64 0, .int .i64 0, .int .i64 0, .bool false, .slice none 0 0, .slice none 0 0, .bool false, .bool false] 36 23 ∧ StO wx w.heap.size t (.slice ta t.ss.length tc1) (.slice tb t.jobs.length tc2) (.slice td t.clocks.length tc3))
theorem AftP.no {w wx : World} {s : Sta} {e : Ev} {X' Y : Array Value} (h : kindF s e = none) (ht : T3 w.heap.size w wx w.heap.size X' Y #[.slice none 0 0, .int .i64 0, .int .i64 0, .int .i64 0, .int .i64 0, .int .i64 0, .int .i64 0, .bool false, .slice none 0 0, .slice none 0 0, .bool false, .bool false] 36 23) : AftP w s e Y (.bool false) wx := .inl ⟨h, rfl, _, ht⟩
theorem AftP.yes {w wx : World} {s t : Sta} {e : Ev} {Y : Array Value} {ta tb td : Option Addr} {tc1 tc2 tc3 : Nat} (h : kindF s e = some t) (ht : T3 w.heap.size w wx w.heap.size #[.slice ta t.ss.length tc1, .int .i64 t.lim, .int .i64 t.status, .int .i64 t.next, .int .i64 t.began, .int .i64 t.asked, .int .i64 t.taken, .bool t.fresh, .slice tb t.jobs.length tc2, .slice td t.clocks.length tc3, .bool t.cancel, .bool t.overdue] Y #[.slice none 0 0, .int .i64 0, .int .i64 0, .int .i64 0, .int .i64 0, .int .i64 0, .int .i64 0, .bool false, .slice none 0 0, .slice none 0 0, .bool false, .bool false] 36 23) (ho : StO wx w.heap.size t (.slice ta t.ss.length tc1) (.slice tb t.jobs.length tc2) (.slice td t.clocks.length tc3)) : AftP w s e Y (.bool true) wx := .inr ⟨t, ta, tb, td, tc1, tc2, tc3, h, rfl, ht, ho⟩
end Go.Proofs.Ytdoblbiodpcjdaa
