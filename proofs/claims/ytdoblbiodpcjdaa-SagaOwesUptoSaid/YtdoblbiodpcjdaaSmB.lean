/- CONTRACT: Apply, of an event that is the next: of the kinds [2, 3, 4, 5]. CONTRACT: Apply, of an event that is the next: of the kinds [6, 7]. CONTRACT: Apply, of an event that is the next: of the kinds [8, 9]. -/
import Derived.Test.YtdoblbiodpcjdaaSmA
import Derived.Deep.RegionLaw
import Derived.Deep.CutBlock
namespace Go.Proofs.Ytdoblbiodpcjdaa
open Go.RowKit
set_option linter.unusedVariables false
set_option linter.unusedSimpArgs false
set_option maxHeartbeats 64000000 in
set_option maxRecDepth 100000 in
theorem apply_g1 (ss : List St) (lim st nx bg ak tn : Int) (fr : Bool) (js : List Jb) (cs : List Ck) (cn ov : Bool) (va ua ca : Option Addr) (vc uc cc : Nat) (id kd tk rf sp ty : Int) (ud : Bool) (dt : List UInt8) (w : World) (hr : StR w ⟨ss, lim, st, nx, bg, ak, tn, fr, js, cs, cn, ov⟩ (.slice va ss.length vc) (.slice ua js.length uc) (.slice ca cs.length cc)) (hok : SOK ⟨ss, lim, st, nx, bg, ak, tn, fr, js, cs, cn, ov⟩) (hdt : dt.length ≤ 140737488355328) (hkk : 2 ≤ kd ∧ kd ≤ 5) (hP : EvP (id, kd, tk, rf, sp, ty, ud, dt)) (hn : ¬ nx = 0) (hs : st = 0) (hi : id = nx) :
   Calls Try.prog 22 #[.agg #[.slice va ss.length vc, .int .i64 lim, .int .i64 st, .int .i64 nx, .int .i64 bg, .int .i64 ak, .int .i64 tn, .bool fr, .slice ua js.length uc, .slice ca cs.length cc, .bool cn, .bool ov], .agg #[.int .i64 id, .int .i64 kd, .int .i64 tk, .int .i64 rf, .int .i64 sp, .int .i64 ty, .bool ud, .string ⟨dt.toArray⟩]] w fun e' w' => APost w.heap.size w (applyF ⟨ss, lim, st, nx, bg, ak, tn, fr, js, cs, cn, ov⟩ (id, kd, tk, rf, sp, ty, ud, dt)) e' w' := by
 obtain ⟨⟨hl1, hl2, hl3⟩, hj9, ⟨hbg, hlm⟩, hwt, hnx⟩ := hok
 simp only at hl1 hl2 hl3 hj9 hbg hlm hwt hnx
 have htk : 0 ≤ tk ∧ tk ≤ 1099511627776 := hP.2.2.1
 have hkd : 1 ≤ kd ∧ kd ≤ 18 := hP.1
 have hEV := hid (show evV (id, kd, tk, rf, sp, ty, ud, dt) = 0 by unfold evV; rw [if_pos hP])
 have hqn : (nx == 0) = false := by simpa using hn
 have hA1 := hid (fun (hk : kindF ⟨ss, lim, st, nx, bg, ak, tn, fr, js, cs, cn, ov⟩ (id, kd, tk, rf, sp, ty, ud, dt) = none) => (show applyF ⟨ss, lim, st, nx, bg, ak, tn, fr, js, cs, cn, ov⟩ (id, kd, tk, rf, sp, ty, ud, dt) = (s0, 120) by
   unfold applyF
   rw [if_neg (not_not_intro hP), if_neg (show ¬ (⟨ss, lim, st, nx, bg, ak, tn, fr, js, cs, cn, ov⟩ : Sta).next = 0 from hn), if_neg (not_not_intro (show (⟨ss, lim, st, nx, bg, ak, tn, fr, js, cs, cn, ov⟩ : Sta).status = 0 from hs)), if_neg (not_not_intro (show Ev.id (id, kd, tk, rf, sp, ty, ud, dt) = (⟨ss, lim, st, nx, bg, ak, tn, fr, js, cs, cn, ov⟩ : Sta).next from hi)), hk]))
 have hA2 := hid (fun (t : Sta) (hk : kindF ⟨ss, lim, st, nx, bg, ak, tn, fr, js, cs, cn, ov⟩ (id, kd, tk, rf, sp, ty, ud, dt) = some t) => (show applyF ⟨ss, lim, st, nx, bg, ak, tn, fr, js, cs, cn, ov⟩ (id, kd, tk, rf, sp, ty, ud, dt) = ({ t with next := nx + 1 }, 0) by
   unfold applyF
   rw [if_neg (not_not_intro hP), if_neg (show ¬ (⟨ss, lim, st, nx, bg, ak, tn, fr, js, cs, cn, ov⟩ : Sta).next = 0 from hn), if_neg (not_not_intro (show (⟨ss, lim, st, nx, bg, ak, tn, fr, js, cs, cn, ov⟩ : Sta).status = 0 from hs)), if_neg (not_not_intro (show Ev.id (id, kd, tk, rf, sp, ty, ud, dt) = (⟨ss, lim, st, nx, bg, ak, tn, fr, js, cs, cn, ov⟩ : Sta).next from hi)), hk]))
 clear hP hn
 subst hs
 subst hi
 obtain ⟨W, hW, hS, hE, hR, bW, sW⟩ := lay3 w #[.slice va ss.length vc, .int .i64 lim, .int .i64 0, .int .i64 id, .int .i64 bg, .int .i64 ak, .int .i64 tn, .bool fr, .slice ua js.length uc, .slice ca cs.length cc, .bool cn, .bool ov] #[.int .i64 id, .int .i64 kd, .int .i64 tk, .int .i64 rf, .int .i64 sp, .int .i64 ty, .bool ud, .string ⟨dt.toArray⟩] #[.slice none 0 0, .int .i64 0, .int .i64 0, .int .i64 0, .int .i64 0, .int .i64 0, .int .i64 0, .bool false, .slice none 0 0, .slice none 0 0, .bool false, .bool false] 36 23 36
 have ht : T3 w.heap.size w W w.heap.size #[.slice va ss.length vc, .int .i64 lim, .int .i64 0, .int .i64 id, .int .i64 bg, .int .i64 ak, .int .i64 tn, .bool fr, .slice ua js.length uc, .slice ca cs.length cc, .bool cn, .bool ov] #[.int .i64 id, .int .i64 kd, .int .i64 tk, .int .i64 rf, .int .i64 sp, .int .i64 ty, .bool ud, .string ⟨dt.toArray⟩] #[.slice none 0 0, .int .i64 0, .int .i64 0, .int .i64 0, .int .i64 0, .int .i64 0, .int .i64 0, .bool false, .slice none 0 0, .slice none 0 0, .bool false, .bool false] 36 23 := ⟨hS, hE, hR, BK.of (Nat.le_refl _) bW, by omega⟩
 have HW := hid hW
 clear hW hS hE hR sW bW
 go_enter Try.func22, Try.ntmps22
 go_wp2_with fail
 rw [← HW.out]
 clear HW
 refine (echeck_any id kd tk rf sp ty ud dt hdt W).mono ?_
 rintro _ w1 ⟨rfl, b1⟩
 rw [hEV.out]
 have ht1 := ht.below b1
 clear ht b1
 have x2 : w1.cell? ⟨w.heap.size, 2, none⟩ = some (.int .i64 0) := (ht1).x rfl
 have x3 : w1.cell? ⟨w.heap.size, 3, none⟩ = some (.int .i64 id) := (ht1).x rfl
 have x8 : w1.cell? ⟨w.heap.size, 8, none⟩ = some (.slice ua js.length uc) := (ht1).x rfl
 have x9 : w1.cell? ⟨w.heap.size, 9, none⟩ = some (.slice ca cs.length cc) := (ht1).x rfl
 have xz8 := (ht1).fx 8
 have xz9 := (ht1).fx 9
 have y0 : w1.cell? ⟨w.heap.size + 1, 0, none⟩ = some (.int .i64 id) := (ht1).y rfl
 have hr0 := hr
 have hr1 := hr.below (ht1.hb.below)
 have hbs := ht1.hs
 have hX1 := ht1.hX
 clear hr
 go_upto_region 12 with (fail)
 go_cut [2, 3, 4, 5] (fun s2 s3 s4 s5 wx => s2 = .pointer (some ⟨w.heap.size, 0, none⟩) ∧ s3 = .pointer (some ⟨w.heap.size + 1, 0, none⟩) ∧ s4 = .pointer (some ⟨w.heap.size + 1 + 1, 0, none⟩) ∧ s5 = .int .i64 0 ∧ ∃ (a1 a2 : Option Addr) (c1 c2 : Nat), T3 w.heap.size w wx w.heap.size #[.slice va ss.length vc, .int .i64 lim, .int .i64 0, .int .i64 id, .int .i64 bg, .int .i64 ak, .int .i64 tn, .bool fr, .slice a1 js.length c1, .slice a2 cs.length c2, .bool cn, .bool ov] #[.int .i64 id, .int .i64 kd, .int .i64 tk, .int .i64 rf, .int .i64 sp, .int .i64 ty, .bool ud, .string ⟨dt.toArray⟩] #[.slice none 0 0, .int .i64 0, .int .i64 0, .int .i64 0, .int .i64 0, .int .i64 0, .int .i64 0, .bool false, .slice none 0 0, .slice none 0 0, .bool false, .bool false] 36 23 ∧ wx.ownsRow w.heap.size 79 4 (.slice a1 js.length c1) js.length (js.flatMap jbC) ∧ wx.ownsRow w.heap.size 84 3 (.slice a2 cs.length c2) cs.length (cs.flatMap ckC))
 case first =>
   go_region_law (first
     | (go_simp; go_at_call 45; refine (cloneJ_any ua uc js hl2 _ (by first | exact StR.hj (by assumption) | exact Sl.below (StR.hj (by assumption)) (below_drewN _ _ 1))).mono ?_; rintro _ wz ⟨q1, q2, rfl, own0, bz0⟩; have htz := T3.below (by assumption) (by first | exact bz0 | exact below_of_drewN (n := 1) bz0); have hrz := StR.below (by assumption) (by first | exact bz0 | exact below_of_drewN (n := 1) bz0); have hoj := own_mono own0 (by first | exact hbs | exact T3.hs (by assumption)); (try (have hoc := own_new hoc (by first | exact bz0 | exact below_of_drewN (n := 1) bz0))); have x8 : wz.cell? ⟨w.heap.size, 8, none⟩ = some (.slice ua js.length uc) := (htz).x rfl; have xz8 := (htz).fx 8; have x9 : wz.cell? ⟨w.heap.size, 9, none⟩ = some (.slice ca cs.length cc) := (htz).x rfl; have xz9 := (htz).fx 9)
     | (go_simp; go_at_call 46; refine (cloneC_any ca cc cs hl3 _ (by first | exact StR.hc (by assumption) | exact Sl.below (StR.hc (by assumption)) (below_drewN _ _ 1))).mono ?_; rintro _ wz ⟨q1, q2, rfl, own0, bz0⟩; have htz := T3.below (by assumption) (by first | exact bz0 | exact below_of_drewN (n := 1) bz0); have hrz := StR.below (by assumption) (by first | exact bz0 | exact below_of_drewN (n := 1) bz0); have hoc := own_mono own0 (by first | exact hbs | exact T3.hs (by assumption)); (try (have hoj := own_new hoj (by first | exact bz0 | exact below_of_drewN (n := 1) bz0))); have x8 : wz.cell? ⟨w.heap.size, 8, none⟩ = some (.slice ua js.length uc) := (htz).x rfl; have xz8 := (htz).fx 8; have x9 : wz.cell? ⟨w.heap.size, 9, none⟩ = some (.slice ca cs.length cc) := (htz).x rfl; have xz9 := (htz).fx 9))
   all_goals first
     | (go_wp2_with fail; go_meet; exact ⟨rfl, rfl, rfl, rfl, _, _, _, _, T3.set (T3.set (by assumption) (Nat.le_refl _) 8 _) (Nat.le_refl _) 9 _, own_at_row hoj (T3.hX (by assumption)) (by decide) (((At.refl _ _).set 8 _).set 9 _), own_at_row hoc (T3.hX (by assumption)) (by decide) (((At.refl _ _).set 8 _).set 9 _)⟩)
     | (go_wp2_with fail; go_meet; exact ⟨rfl, rfl, rfl, rfl, _, _, _, _, T3.set (T3.set (by assumption) (Nat.le_refl _) 9 _) (Nat.le_refl _) 8 _, own_at_row hoj (T3.hX (by assumption)) (by decide) (((At.refl _ _).set 9 _).set 8 _), own_at_row hoc (T3.hX (by assumption)) (by decide) (((At.refl _ _).set 9 _).set 8 _)⟩)
 case rest =>
   obtain ⟨rfl, rfl, rfl, rfl, a1, a2, c1, c2, ht2, hoj, hoc⟩ := hcut
   clear x2 x3 x8 x9 xz8 xz9 y0 ht1 hX1
   have hrs := hr0.hs.below ht2.hb.below
   have x0 : wc.cell? ⟨w.heap.size, 0, none⟩ = some (.slice va ss.length vc) := (ht2).x rfl
   go_wp2_with fail
   refine (cloneS_any va vc ss hl1 wc hrs).mono ?_
   rintro _ w3 ⟨a3, c3, rfl, hos, b3⟩
   have hos3 := own_mono hos ht2.hs
   have ht3 := ht2.below b3
   have hoj3 := own_new hoj b3
   have hoc3 := own_new hoc b3
   clear hos ht2 hoj hoc b3 x0 hrs
   have x0 : w3.cell? ⟨w.heap.size, 0, none⟩ = some (.slice va ss.length vc) := (ht3).x rfl
   have xz0 := (ht3).fx 0
   have ht4 := ht3.set (Nat.le_refl _) 0 (.slice a3 ss.length c3)
   have aw : At w.heap.size w3 (w3.setCell ⟨w.heap.size, 0, none⟩ (.slice a3 ss.length c3)) := (At.refl _ w3).set 0 _
   have hO4 : StO (w3.setCell ⟨w.heap.size, 0, none⟩ (.slice a3 ss.length c3)) w.heap.size ⟨ss, lim, 0, id, bg, ak, tn, fr, js, cs, cn, ov⟩ (.slice a3 ss.length c3) (.slice a1 js.length c1) (.slice a2 cs.length c2) := ⟨own_at_row hos3 ht3.hX (by decide) aw, own_at_row hoj3 ht3.hX (by decide) aw, own_at_row hoc3 ht3.hX (by decide) aw⟩
   go_upto_region 14 with (fail)
   obtain ⟨w4, hw4⟩ : ∃ x, x = w3.setCell ⟨w.heap.size, 0, none⟩ (.slice a3 ss.length c3) := ⟨_, rfl⟩
   rw [← hw4] at ht4 hO4 ⊢
   clear hw4 aw hos3 hoj3 hoc3 ht3 x0 xz0
   have y1 : w4.cell? ⟨w.heap.size + 1, 1, none⟩ = some (.int .i64 kd) := (ht4).y rfl
   go_upto_block 0 with (fail)
   go_cut [2, 3, 4, 5, 8] (fun s2 s3 s4 s5 s8 wx => s2 = .pointer (some ⟨w.heap.size, 0, none⟩) ∧ s3 = .pointer (some ⟨w.heap.size + 1, 0, none⟩) ∧ s4 = .pointer (some ⟨w.heap.size + 1 + 1, 0, none⟩) ∧ s5 = .int .i64 0 ∧ AftP w ⟨ss, lim, 0, id, bg, ak, tn, fr, js, cs, cn, ov⟩ (id, kd, tk, rf, sp, ty, ud, dt) #[.int .i64 id, .int .i64 kd, .int .i64 tk, .int .i64 rf, .int .i64 sp, .int .i64 ty, .bool ud, .string ⟨dt.toArray⟩] s8 wx)
   case first =>
     have x0 : w4.cell? ⟨w.heap.size, 0, none⟩ = some (.slice a3 ss.length c3) := (ht4).x rfl
     have x1 : w4.cell? ⟨w.heap.size, 1, none⟩ = some (.int .i64 lim) := (ht4).x rfl
     have x2 : w4.cell? ⟨w.heap.size, 2, none⟩ = some (.int .i64 0) := (ht4).x rfl
     have x3 : w4.cell? ⟨w.heap.size, 3, none⟩ = some (.int .i64 id) := (ht4).x rfl
     have x4 : w4.cell? ⟨w.heap.size, 4, none⟩ = some (.int .i64 bg) := (ht4).x rfl
     have x5 : w4.cell? ⟨w.heap.size, 5, none⟩ = some (.int .i64 ak) := (ht4).x rfl
     have x6 : w4.cell? ⟨w.heap.size, 6, none⟩ = some (.int .i64 tn) := (ht4).x rfl
     have x7 : w4.cell? ⟨w.heap.size, 7, none⟩ = some (.bool fr) := (ht4).x rfl
     have x8 : w4.cell? ⟨w.heap.size, 8, none⟩ = some (.slice a1 js.length c1) := (ht4).x rfl
     have x9 : w4.cell? ⟨w.heap.size, 9, none⟩ = some (.slice a2 cs.length c2) := (ht4).x rfl
     have x10 : w4.cell? ⟨w.heap.size, 10, none⟩ = some (.bool cn) := (ht4).x rfl
     have x11 : w4.cell? ⟨w.heap.size, 11, none⟩ = some (.bool ov) := (ht4).x rfl
     have y0 : w4.cell? ⟨w.heap.size + 1, 0, none⟩ = some (.int .i64 id) := (ht4).y rfl
     have y2 : w4.cell? ⟨w.heap.size + 1, 2, none⟩ = some (.int .i64 tk) := (ht4).y rfl
     have y3 : w4.cell? ⟨w.heap.size + 1, 3, none⟩ = some (.int .i64 rf) := (ht4).y rfl
     have y4 : w4.cell? ⟨w.heap.size + 1, 4, none⟩ = some (.int .i64 sp) := (ht4).y rfl
     have y5 : w4.cell? ⟨w.heap.size + 1, 5, none⟩ = some (.int .i64 ty) := (ht4).y rfl
     have y6 : w4.cell? ⟨w.heap.size + 1, 6, none⟩ = some (.bool ud) := (ht4).y rfl
     have y7 : w4.cell? ⟨w.heap.size + 1, 7, none⟩ = some (.string ⟨dt.toArray⟩) := (ht4).y rfl
     rcases (by omega : kd = 2 ∨ kd = 3 ∨ kd = 4 ∨ kd = 5) with hk | hk | hk | hk
     ·
         have hk9 : kindF ⟨ss, lim, 0, id, bg, ak, tn, fr, js, cs, cn, ov⟩ (id, kd, tk, rf, sp, ty, ud, dt) = decisionF ⟨ss, lim, 0, id, bg, ak, tn, fr, js, cs, cn, ov⟩ (id, kd, tk, rf, sp, ty, ud, dt) := by unfold kindF; simp only [Ev.kd]; rw [if_pos (by omega)]
         have q2 : (kd == 2) = true := by rw [hk]; rfl
         have q3 : (kd == 3) = false := by rw [hk]; rfl
         have q4 : (kd == 4) = false := by rw [hk]; rfl
         have q5 : (kd == 5) = false := by rw [hk]; rfl
         have q6 : (kd == 6) = false := by rw [hk]; rfl
         have q7 : (kd == 7) = false := by rw [hk]; rfl
         have q8 : (kd == 8) = false := by rw [hk]; rfl
         have q9 : (kd == 9) = false := by rw [hk]; rfl
         have q10 : (kd == 10) = false := by rw [hk]; rfl
         have q11 : (kd == 11) = false := by rw [hk]; rfl
         have HKD := hid hk
         clear hk
         have HK9 := hid hk9
         clear hk9
         go_wp2_with fail
         refine (decision_any ss lim 0 id bg ak tn fr js cs cn ov a3 a1 a2 c3 c1 c2 id kd tk rf sp ty ud dt w.heap.size w4 ht4.hs hO4 (by have := HKD.out; omega)).mono ?_
         rintro e' w5 ⟨hbk, hm⟩
         rw [← HK9.out] at hm
         clear HK9
         cases hR : kindF ⟨ss, lim, 0, id, bg, ak, tn, fr, js, cs, cn, ov⟩ (id, kd, tk, rf, sp, ty, ud, dt) with
         | none =>
           rw [hR] at hm
           simp only at hm
           have HR := hid hR
           clear hR hO4
           obtain ⟨s9, vv, uu, cc9, n1, n2, n3, k1, k2, k3, rfl⟩ := hm
           rw [show staV s9 (.slice vv n1 k1) (.slice uu n2 k2) (.slice cc9 n3 k3) = .agg #[.slice vv n1 k1, .int .i64 s9.lim, .int .i64 s9.status, .int .i64 s9.next, .int .i64 s9.began, .int .i64 s9.asked, .int .i64 s9.taken, .bool s9.fresh, .slice uu n2 k2, .slice cc9 n3 k3, .bool s9.cancel, .bool s9.overdue] from rfl]
           have ht5 := ht4.keep hbk (by decide)
           clear x0 x1 x2 x3 x4 x5 x6 x7 x8 x9 x10 x11 y0 y1 y2 y3 y4 y5 y6 y7
           have x0 : w5.cell? ⟨w.heap.size, 0, none⟩ = some (.slice a3 ss.length c3) := (ht5).x rfl
           have x1 : w5.cell? ⟨w.heap.size, 1, none⟩ = some (.int .i64 lim) := (ht5).x rfl
           have x2 : w5.cell? ⟨w.heap.size, 2, none⟩ = some (.int .i64 0) := (ht5).x rfl
           have x3 : w5.cell? ⟨w.heap.size, 3, none⟩ = some (.int .i64 id) := (ht5).x rfl
           have x4 : w5.cell? ⟨w.heap.size, 4, none⟩ = some (.int .i64 bg) := (ht5).x rfl
           have x5 : w5.cell? ⟨w.heap.size, 5, none⟩ = some (.int .i64 ak) := (ht5).x rfl
           have x6 : w5.cell? ⟨w.heap.size, 6, none⟩ = some (.int .i64 tn) := (ht5).x rfl
           have x7 : w5.cell? ⟨w.heap.size, 7, none⟩ = some (.bool fr) := (ht5).x rfl
           have x8 : w5.cell? ⟨w.heap.size, 8, none⟩ = some (.slice a1 js.length c1) := (ht5).x rfl
           have x9 : w5.cell? ⟨w.heap.size, 9, none⟩ = some (.slice a2 cs.length c2) := (ht5).x rfl
           have x10 : w5.cell? ⟨w.heap.size, 10, none⟩ = some (.bool cn) := (ht5).x rfl
           have x11 : w5.cell? ⟨w.heap.size, 11, none⟩ = some (.bool ov) := (ht5).x rfl
           have xz0 := (ht5).fx 0
           have xz1 := (ht5).fx 1
           have xz2 := (ht5).fx 2
           have xz3 := (ht5).fx 3
           have xz4 := (ht5).fx 4
           have xz5 := (ht5).fx 5
           have xz6 := (ht5).fx 6
           have xz7 := (ht5).fx 7
           have xz8 := (ht5).fx 8
           have xz9 := (ht5).fx 9
           have xz10 := (ht5).fx 10
           have xz11 := (ht5).fx 11
           have HP12 := hid (ht5.put12 (Nat.le_refl _) (Nat.le_refl _) (.slice vv n1 k1) (.int .i64 s9.lim) (.int .i64 s9.status) (.int .i64 s9.next) (.int .i64 s9.began) (.int .i64 s9.asked) (.int .i64 s9.taken) (.bool s9.fresh) (.slice uu n2 k2) (.slice cc9 n3 k3) (.bool s9.cancel) (.bool s9.overdue))
           clear ht4 ht5 hbk
           go_wp2_with fail
           go_meet
           exact ⟨rfl, rfl, rfl, rfl, .no HR.out HP12.out⟩
         | some t =>
           rw [hR] at hm
           simp only at hm
           have HR := hid hR
           clear hR hO4
           obtain ⟨vv, uu, cc9, k1, k2, k3, rfl, hO5⟩ := hm
           rw [show staV t (.slice vv t.ss.length k1) (.slice uu t.jobs.length k2) (.slice cc9 t.clocks.length k3) = .agg #[.slice vv t.ss.length k1, .int .i64 t.lim, .int .i64 t.status, .int .i64 t.next, .int .i64 t.began, .int .i64 t.asked, .int .i64 t.taken, .bool t.fresh, .slice uu t.jobs.length k2, .slice cc9 t.clocks.length k3, .bool t.cancel, .bool t.overdue] from rfl]
           have ht5 := ht4.keep hbk (by decide)
           clear x0 x1 x2 x3 x4 x5 x6 x7 x8 x9 x10 x11 y0 y1 y2 y3 y4 y5 y6 y7
           have x0 : w5.cell? ⟨w.heap.size, 0, none⟩ = some (.slice a3 ss.length c3) := (ht5).x rfl
           have x1 : w5.cell? ⟨w.heap.size, 1, none⟩ = some (.int .i64 lim) := (ht5).x rfl
           have x2 : w5.cell? ⟨w.heap.size, 2, none⟩ = some (.int .i64 0) := (ht5).x rfl
           have x3 : w5.cell? ⟨w.heap.size, 3, none⟩ = some (.int .i64 id) := (ht5).x rfl
           have x4 : w5.cell? ⟨w.heap.size, 4, none⟩ = some (.int .i64 bg) := (ht5).x rfl
           have x5 : w5.cell? ⟨w.heap.size, 5, none⟩ = some (.int .i64 ak) := (ht5).x rfl
           have x6 : w5.cell? ⟨w.heap.size, 6, none⟩ = some (.int .i64 tn) := (ht5).x rfl
           have x7 : w5.cell? ⟨w.heap.size, 7, none⟩ = some (.bool fr) := (ht5).x rfl
           have x8 : w5.cell? ⟨w.heap.size, 8, none⟩ = some (.slice a1 js.length c1) := (ht5).x rfl
           have x9 : w5.cell? ⟨w.heap.size, 9, none⟩ = some (.slice a2 cs.length c2) := (ht5).x rfl
           have x10 : w5.cell? ⟨w.heap.size, 10, none⟩ = some (.bool cn) := (ht5).x rfl
           have x11 : w5.cell? ⟨w.heap.size, 11, none⟩ = some (.bool ov) := (ht5).x rfl
           have xz0 := (ht5).fx 0
           have xz1 := (ht5).fx 1
           have xz2 := (ht5).fx 2
           have xz3 := (ht5).fx 3
           have xz4 := (ht5).fx 4
           have xz5 := (ht5).fx 5
           have xz6 := (ht5).fx 6
           have xz7 := (ht5).fx 7
           have xz8 := (ht5).fx 8
           have xz9 := (ht5).fx 9
           have xz10 := (ht5).fx 10
           have xz11 := (ht5).fx 11
           have HP12 := hid (ht5.put12 (Nat.le_refl _) (Nat.le_refl _) (.slice vv t.ss.length k1) (.int .i64 t.lim) (.int .i64 t.status) (.int .i64 t.next) (.int .i64 t.began) (.int .i64 t.asked) (.int .i64 t.taken) (.bool t.fresh) (.slice uu t.jobs.length k2) (.slice cc9 t.clocks.length k3) (.bool t.cancel) (.bool t.overdue))
           have HO5 := hid (hO5.at ht5.hX (by decide) (((((((((((((At.refl w.heap.size w5).set 0 (.slice vv t.ss.length k1)).set 1 (.int .i64 t.lim)).set 2 (.int .i64 t.status)).set 3 (.int .i64 t.next)).set 4 (.int .i64 t.began)).set 5 (.int .i64 t.asked)).set 6 (.int .i64 t.taken)).set 7 (.bool t.fresh)).set 8 (.slice uu t.jobs.length k2)).set 9 (.slice cc9 t.clocks.length k3)).set 10 (.bool t.cancel)).set 11 (.bool t.overdue)))
           clear ht4 ht5 hbk hO5
           go_wp2_with fail
           go_meet
           exact ⟨rfl, rfl, rfl, rfl, .yes HR.out HP12.out HO5.out⟩
     ·
         have hk9 : kindF ⟨ss, lim, 0, id, bg, ak, tn, fr, js, cs, cn, ov⟩ (id, kd, tk, rf, sp, ty, ud, dt) = decisionF ⟨ss, lim, 0, id, bg, ak, tn, fr, js, cs, cn, ov⟩ (id, kd, tk, rf, sp, ty, ud, dt) := by unfold kindF; simp only [Ev.kd]; rw [if_pos (by omega)]
         have q2 : (kd == 2) = false := by rw [hk]; rfl
         have q3 : (kd == 3) = true := by rw [hk]; rfl
         have q4 : (kd == 4) = false := by rw [hk]; rfl
         have q5 : (kd == 5) = false := by rw [hk]; rfl
         have q6 : (kd == 6) = false := by rw [hk]; rfl
         have q7 : (kd == 7) = false := by rw [hk]; rfl
         have q8 : (kd == 8) = false := by rw [hk]; rfl
         have q9 : (kd == 9) = false := by rw [hk]; rfl
         have q10 : (kd == 10) = false := by rw [hk]; rfl
         have q11 : (kd == 11) = false := by rw [hk]; rfl
         have HKD := hid hk
         clear hk
         have HK9 := hid hk9
         clear hk9
         go_wp2_with fail
         refine (decision_any ss lim 0 id bg ak tn fr js cs cn ov a3 a1 a2 c3 c1 c2 id kd tk rf sp ty ud dt w.heap.size w4 ht4.hs hO4 (by have := HKD.out; omega)).mono ?_
         rintro e' w5 ⟨hbk, hm⟩
         rw [← HK9.out] at hm
         clear HK9
         cases hR : kindF ⟨ss, lim, 0, id, bg, ak, tn, fr, js, cs, cn, ov⟩ (id, kd, tk, rf, sp, ty, ud, dt) with
         | none =>
           rw [hR] at hm
           simp only at hm
           have HR := hid hR
           clear hR hO4
           obtain ⟨s9, vv, uu, cc9, n1, n2, n3, k1, k2, k3, rfl⟩ := hm
           rw [show staV s9 (.slice vv n1 k1) (.slice uu n2 k2) (.slice cc9 n3 k3) = .agg #[.slice vv n1 k1, .int .i64 s9.lim, .int .i64 s9.status, .int .i64 s9.next, .int .i64 s9.began, .int .i64 s9.asked, .int .i64 s9.taken, .bool s9.fresh, .slice uu n2 k2, .slice cc9 n3 k3, .bool s9.cancel, .bool s9.overdue] from rfl]
           have ht5 := ht4.keep hbk (by decide)
           clear x0 x1 x2 x3 x4 x5 x6 x7 x8 x9 x10 x11 y0 y1 y2 y3 y4 y5 y6 y7
           have x0 : w5.cell? ⟨w.heap.size, 0, none⟩ = some (.slice a3 ss.length c3) := (ht5).x rfl
           have x1 : w5.cell? ⟨w.heap.size, 1, none⟩ = some (.int .i64 lim) := (ht5).x rfl
           have x2 : w5.cell? ⟨w.heap.size, 2, none⟩ = some (.int .i64 0) := (ht5).x rfl
           have x3 : w5.cell? ⟨w.heap.size, 3, none⟩ = some (.int .i64 id) := (ht5).x rfl
           have x4 : w5.cell? ⟨w.heap.size, 4, none⟩ = some (.int .i64 bg) := (ht5).x rfl
           have x5 : w5.cell? ⟨w.heap.size, 5, none⟩ = some (.int .i64 ak) := (ht5).x rfl
           have x6 : w5.cell? ⟨w.heap.size, 6, none⟩ = some (.int .i64 tn) := (ht5).x rfl
           have x7 : w5.cell? ⟨w.heap.size, 7, none⟩ = some (.bool fr) := (ht5).x rfl
           have x8 : w5.cell? ⟨w.heap.size, 8, none⟩ = some (.slice a1 js.length c1) := (ht5).x rfl
           have x9 : w5.cell? ⟨w.heap.size, 9, none⟩ = some (.slice a2 cs.length c2) := (ht5).x rfl
           have x10 : w5.cell? ⟨w.heap.size, 10, none⟩ = some (.bool cn) := (ht5).x rfl
           have x11 : w5.cell? ⟨w.heap.size, 11, none⟩ = some (.bool ov) := (ht5).x rfl
           have xz0 := (ht5).fx 0
           have xz1 := (ht5).fx 1
           have xz2 := (ht5).fx 2
           have xz3 := (ht5).fx 3
           have xz4 := (ht5).fx 4
           have xz5 := (ht5).fx 5
           have xz6 := (ht5).fx 6
           have xz7 := (ht5).fx 7
           have xz8 := (ht5).fx 8
           have xz9 := (ht5).fx 9
           have xz10 := (ht5).fx 10
           have xz11 := (ht5).fx 11
           have HP12 := hid (ht5.put12 (Nat.le_refl _) (Nat.le_refl _) (.slice vv n1 k1) (.int .i64 s9.lim) (.int .i64 s9.status) (.int .i64 s9.next) (.int .i64 s9.began) (.int .i64 s9.asked) (.int .i64 s9.taken) (.bool s9.fresh) (.slice uu n2 k2) (.slice cc9 n3 k3) (.bool s9.cancel) (.bool s9.overdue))
           clear ht4 ht5 hbk
           go_wp2_with fail
           go_meet
           exact ⟨rfl, rfl, rfl, rfl, .no HR.out HP12.out⟩
         | some t =>
           rw [hR] at hm
           simp only at hm
           have HR := hid hR
           clear hR hO4
           obtain ⟨vv, uu, cc9, k1, k2, k3, rfl, hO5⟩ := hm
           rw [show staV t (.slice vv t.ss.length k1) (.slice uu t.jobs.length k2) (.slice cc9 t.clocks.length k3) = .agg #[.slice vv t.ss.length k1, .int .i64 t.lim, .int .i64 t.status, .int .i64 t.next, .int .i64 t.began, .int .i64 t.asked, .int .i64 t.taken, .bool t.fresh, .slice uu t.jobs.length k2, .slice cc9 t.clocks.length k3, .bool t.cancel, .bool t.overdue] from rfl]
           have ht5 := ht4.keep hbk (by decide)
           clear x0 x1 x2 x3 x4 x5 x6 x7 x8 x9 x10 x11 y0 y1 y2 y3 y4 y5 y6 y7
           have x0 : w5.cell? ⟨w.heap.size, 0, none⟩ = some (.slice a3 ss.length c3) := (ht5).x rfl
           have x1 : w5.cell? ⟨w.heap.size, 1, none⟩ = some (.int .i64 lim) := (ht5).x rfl
           have x2 : w5.cell? ⟨w.heap.size, 2, none⟩ = some (.int .i64 0) := (ht5).x rfl
           have x3 : w5.cell? ⟨w.heap.size, 3, none⟩ = some (.int .i64 id) := (ht5).x rfl
           have x4 : w5.cell? ⟨w.heap.size, 4, none⟩ = some (.int .i64 bg) := (ht5).x rfl
           have x5 : w5.cell? ⟨w.heap.size, 5, none⟩ = some (.int .i64 ak) := (ht5).x rfl
           have x6 : w5.cell? ⟨w.heap.size, 6, none⟩ = some (.int .i64 tn) := (ht5).x rfl
           have x7 : w5.cell? ⟨w.heap.size, 7, none⟩ = some (.bool fr) := (ht5).x rfl
           have x8 : w5.cell? ⟨w.heap.size, 8, none⟩ = some (.slice a1 js.length c1) := (ht5).x rfl
           have x9 : w5.cell? ⟨w.heap.size, 9, none⟩ = some (.slice a2 cs.length c2) := (ht5).x rfl
           have x10 : w5.cell? ⟨w.heap.size, 10, none⟩ = some (.bool cn) := (ht5).x rfl
           have x11 : w5.cell? ⟨w.heap.size, 11, none⟩ = some (.bool ov) := (ht5).x rfl
           have xz0 := (ht5).fx 0
           have xz1 := (ht5).fx 1
           have xz2 := (ht5).fx 2
           have xz3 := (ht5).fx 3
           have xz4 := (ht5).fx 4
           have xz5 := (ht5).fx 5
           have xz6 := (ht5).fx 6
           have xz7 := (ht5).fx 7
           have xz8 := (ht5).fx 8
           have xz9 := (ht5).fx 9
           have xz10 := (ht5).fx 10
           have xz11 := (ht5).fx 11
           have HP12 := hid (ht5.put12 (Nat.le_refl _) (Nat.le_refl _) (.slice vv t.ss.length k1) (.int .i64 t.lim) (.int .i64 t.status) (.int .i64 t.next) (.int .i64 t.began) (.int .i64 t.asked) (.int .i64 t.taken) (.bool t.fresh) (.slice uu t.jobs.length k2) (.slice cc9 t.clocks.length k3) (.bool t.cancel) (.bool t.overdue))
           have HO5 := hid (hO5.at ht5.hX (by decide) (((((((((((((At.refl w.heap.size w5).set 0 (.slice vv t.ss.length k1)).set 1 (.int .i64 t.lim)).set 2 (.int .i64 t.status)).set 3 (.int .i64 t.next)).set 4 (.int .i64 t.began)).set 5 (.int .i64 t.asked)).set 6 (.int .i64 t.taken)).set 7 (.bool t.fresh)).set 8 (.slice uu t.jobs.length k2)).set 9 (.slice cc9 t.clocks.length k3)).set 10 (.bool t.cancel)).set 11 (.bool t.overdue)))
           clear ht4 ht5 hbk hO5
           go_wp2_with fail
           go_meet
           exact ⟨rfl, rfl, rfl, rfl, .yes HR.out HP12.out HO5.out⟩
     ·
         have hk9 : kindF ⟨ss, lim, 0, id, bg, ak, tn, fr, js, cs, cn, ov⟩ (id, kd, tk, rf, sp, ty, ud, dt) = decisionF ⟨ss, lim, 0, id, bg, ak, tn, fr, js, cs, cn, ov⟩ (id, kd, tk, rf, sp, ty, ud, dt) := by unfold kindF; simp only [Ev.kd]; rw [if_pos (by omega)]
         have q2 : (kd == 2) = false := by rw [hk]; rfl
         have q3 : (kd == 3) = false := by rw [hk]; rfl
         have q4 : (kd == 4) = true := by rw [hk]; rfl
         have q5 : (kd == 5) = false := by rw [hk]; rfl
         have q6 : (kd == 6) = false := by rw [hk]; rfl
         have q7 : (kd == 7) = false := by rw [hk]; rfl
         have q8 : (kd == 8) = false := by rw [hk]; rfl
         have q9 : (kd == 9) = false := by rw [hk]; rfl
         have q10 : (kd == 10) = false := by rw [hk]; rfl
         have q11 : (kd == 11) = false := by rw [hk]; rfl
         have HKD := hid hk
         clear hk
         have HK9 := hid hk9
         clear hk9
         go_wp2_with fail
         refine (decision_any ss lim 0 id bg ak tn fr js cs cn ov a3 a1 a2 c3 c1 c2 id kd tk rf sp ty ud dt w.heap.size w4 ht4.hs hO4 (by have := HKD.out; omega)).mono ?_
         rintro e' w5 ⟨hbk, hm⟩
         rw [← HK9.out] at hm
         clear HK9
         cases hR : kindF ⟨ss, lim, 0, id, bg, ak, tn, fr, js, cs, cn, ov⟩ (id, kd, tk, rf, sp, ty, ud, dt) with
         | none =>
           rw [hR] at hm
           simp only at hm
           have HR := hid hR
           clear hR hO4
           obtain ⟨s9, vv, uu, cc9, n1, n2, n3, k1, k2, k3, rfl⟩ := hm
           rw [show staV s9 (.slice vv n1 k1) (.slice uu n2 k2) (.slice cc9 n3 k3) = .agg #[.slice vv n1 k1, .int .i64 s9.lim, .int .i64 s9.status, .int .i64 s9.next, .int .i64 s9.began, .int .i64 s9.asked, .int .i64 s9.taken, .bool s9.fresh, .slice uu n2 k2, .slice cc9 n3 k3, .bool s9.cancel, .bool s9.overdue] from rfl]
           have ht5 := ht4.keep hbk (by decide)
           clear x0 x1 x2 x3 x4 x5 x6 x7 x8 x9 x10 x11 y0 y1 y2 y3 y4 y5 y6 y7
           have x0 : w5.cell? ⟨w.heap.size, 0, none⟩ = some (.slice a3 ss.length c3) := (ht5).x rfl
           have x1 : w5.cell? ⟨w.heap.size, 1, none⟩ = some (.int .i64 lim) := (ht5).x rfl
           have x2 : w5.cell? ⟨w.heap.size, 2, none⟩ = some (.int .i64 0) := (ht5).x rfl
           have x3 : w5.cell? ⟨w.heap.size, 3, none⟩ = some (.int .i64 id) := (ht5).x rfl
           have x4 : w5.cell? ⟨w.heap.size, 4, none⟩ = some (.int .i64 bg) := (ht5).x rfl
           have x5 : w5.cell? ⟨w.heap.size, 5, none⟩ = some (.int .i64 ak) := (ht5).x rfl
           have x6 : w5.cell? ⟨w.heap.size, 6, none⟩ = some (.int .i64 tn) := (ht5).x rfl
           have x7 : w5.cell? ⟨w.heap.size, 7, none⟩ = some (.bool fr) := (ht5).x rfl
           have x8 : w5.cell? ⟨w.heap.size, 8, none⟩ = some (.slice a1 js.length c1) := (ht5).x rfl
           have x9 : w5.cell? ⟨w.heap.size, 9, none⟩ = some (.slice a2 cs.length c2) := (ht5).x rfl
           have x10 : w5.cell? ⟨w.heap.size, 10, none⟩ = some (.bool cn) := (ht5).x rfl
           have x11 : w5.cell? ⟨w.heap.size, 11, none⟩ = some (.bool ov) := (ht5).x rfl
           have xz0 := (ht5).fx 0
           have xz1 := (ht5).fx 1
           have xz2 := (ht5).fx 2
           have xz3 := (ht5).fx 3
           have xz4 := (ht5).fx 4
           have xz5 := (ht5).fx 5
           have xz6 := (ht5).fx 6
           have xz7 := (ht5).fx 7
           have xz8 := (ht5).fx 8
           have xz9 := (ht5).fx 9
           have xz10 := (ht5).fx 10
           have xz11 := (ht5).fx 11
           have HP12 := hid (ht5.put12 (Nat.le_refl _) (Nat.le_refl _) (.slice vv n1 k1) (.int .i64 s9.lim) (.int .i64 s9.status) (.int .i64 s9.next) (.int .i64 s9.began) (.int .i64 s9.asked) (.int .i64 s9.taken) (.bool s9.fresh) (.slice uu n2 k2) (.slice cc9 n3 k3) (.bool s9.cancel) (.bool s9.overdue))
           clear ht4 ht5 hbk
           go_wp2_with fail
           go_meet
           exact ⟨rfl, rfl, rfl, rfl, .no HR.out HP12.out⟩
         | some t =>
           rw [hR] at hm
           simp only at hm
           have HR := hid hR
           clear hR hO4
           obtain ⟨vv, uu, cc9, k1, k2, k3, rfl, hO5⟩ := hm
           rw [show staV t (.slice vv t.ss.length k1) (.slice uu t.jobs.length k2) (.slice cc9 t.clocks.length k3) = .agg #[.slice vv t.ss.length k1, .int .i64 t.lim, .int .i64 t.status, .int .i64 t.next, .int .i64 t.began, .int .i64 t.asked, .int .i64 t.taken, .bool t.fresh, .slice uu t.jobs.length k2, .slice cc9 t.clocks.length k3, .bool t.cancel, .bool t.overdue] from rfl]
           have ht5 := ht4.keep hbk (by decide)
           clear x0 x1 x2 x3 x4 x5 x6 x7 x8 x9 x10 x11 y0 y1 y2 y3 y4 y5 y6 y7
           have x0 : w5.cell? ⟨w.heap.size, 0, none⟩ = some (.slice a3 ss.length c3) := (ht5).x rfl
           have x1 : w5.cell? ⟨w.heap.size, 1, none⟩ = some (.int .i64 lim) := (ht5).x rfl
           have x2 : w5.cell? ⟨w.heap.size, 2, none⟩ = some (.int .i64 0) := (ht5).x rfl
           have x3 : w5.cell? ⟨w.heap.size, 3, none⟩ = some (.int .i64 id) := (ht5).x rfl
           have x4 : w5.cell? ⟨w.heap.size, 4, none⟩ = some (.int .i64 bg) := (ht5).x rfl
           have x5 : w5.cell? ⟨w.heap.size, 5, none⟩ = some (.int .i64 ak) := (ht5).x rfl
           have x6 : w5.cell? ⟨w.heap.size, 6, none⟩ = some (.int .i64 tn) := (ht5).x rfl
           have x7 : w5.cell? ⟨w.heap.size, 7, none⟩ = some (.bool fr) := (ht5).x rfl
           have x8 : w5.cell? ⟨w.heap.size, 8, none⟩ = some (.slice a1 js.length c1) := (ht5).x rfl
           have x9 : w5.cell? ⟨w.heap.size, 9, none⟩ = some (.slice a2 cs.length c2) := (ht5).x rfl
           have x10 : w5.cell? ⟨w.heap.size, 10, none⟩ = some (.bool cn) := (ht5).x rfl
           have x11 : w5.cell? ⟨w.heap.size, 11, none⟩ = some (.bool ov) := (ht5).x rfl
           have xz0 := (ht5).fx 0
           have xz1 := (ht5).fx 1
           have xz2 := (ht5).fx 2
           have xz3 := (ht5).fx 3
           have xz4 := (ht5).fx 4
           have xz5 := (ht5).fx 5
           have xz6 := (ht5).fx 6
           have xz7 := (ht5).fx 7
           have xz8 := (ht5).fx 8
           have xz9 := (ht5).fx 9
           have xz10 := (ht5).fx 10
           have xz11 := (ht5).fx 11
           have HP12 := hid (ht5.put12 (Nat.le_refl _) (Nat.le_refl _) (.slice vv t.ss.length k1) (.int .i64 t.lim) (.int .i64 t.status) (.int .i64 t.next) (.int .i64 t.began) (.int .i64 t.asked) (.int .i64 t.taken) (.bool t.fresh) (.slice uu t.jobs.length k2) (.slice cc9 t.clocks.length k3) (.bool t.cancel) (.bool t.overdue))
           have HO5 := hid (hO5.at ht5.hX (by decide) (((((((((((((At.refl w.heap.size w5).set 0 (.slice vv t.ss.length k1)).set 1 (.int .i64 t.lim)).set 2 (.int .i64 t.status)).set 3 (.int .i64 t.next)).set 4 (.int .i64 t.began)).set 5 (.int .i64 t.asked)).set 6 (.int .i64 t.taken)).set 7 (.bool t.fresh)).set 8 (.slice uu t.jobs.length k2)).set 9 (.slice cc9 t.clocks.length k3)).set 10 (.bool t.cancel)).set 11 (.bool t.overdue)))
           clear ht4 ht5 hbk hO5
           go_wp2_with fail
           go_meet
           exact ⟨rfl, rfl, rfl, rfl, .yes HR.out HP12.out HO5.out⟩
     ·
         have hk9 : kindF ⟨ss, lim, 0, id, bg, ak, tn, fr, js, cs, cn, ov⟩ (id, kd, tk, rf, sp, ty, ud, dt) = decisionF ⟨ss, lim, 0, id, bg, ak, tn, fr, js, cs, cn, ov⟩ (id, kd, tk, rf, sp, ty, ud, dt) := by unfold kindF; simp only [Ev.kd]; rw [if_pos (by omega)]
         have q2 : (kd == 2) = false := by rw [hk]; rfl
         have q3 : (kd == 3) = false := by rw [hk]; rfl
         have q4 : (kd == 4) = false := by rw [hk]; rfl
         have q5 : (kd == 5) = true := by rw [hk]; rfl
         have q6 : (kd == 6) = false := by rw [hk]; rfl
         have q7 : (kd == 7) = false := by rw [hk]; rfl
         have q8 : (kd == 8) = false := by rw [hk]; rfl
         have q9 : (kd == 9) = false := by rw [hk]; rfl
         have q10 : (kd == 10) = false := by rw [hk]; rfl
         have q11 : (kd == 11) = false := by rw [hk]; rfl
         have HKD := hid hk
         clear hk
         have HK9 := hid hk9
         clear hk9
         go_wp2_with fail
         refine (decision_any ss lim 0 id bg ak tn fr js cs cn ov a3 a1 a2 c3 c1 c2 id kd tk rf sp ty ud dt w.heap.size w4 ht4.hs hO4 (by have := HKD.out; omega)).mono ?_
         rintro e' w5 ⟨hbk, hm⟩
         rw [← HK9.out] at hm
         clear HK9
         cases hR : kindF ⟨ss, lim, 0, id, bg, ak, tn, fr, js, cs, cn, ov⟩ (id, kd, tk, rf, sp, ty, ud, dt) with
         | none =>
           rw [hR] at hm
           simp only at hm
           have HR := hid hR
           clear hR hO4
           obtain ⟨s9, vv, uu, cc9, n1, n2, n3, k1, k2, k3, rfl⟩ := hm
           rw [show staV s9 (.slice vv n1 k1) (.slice uu n2 k2) (.slice cc9 n3 k3) = .agg #[.slice vv n1 k1, .int .i64 s9.lim, .int .i64 s9.status, .int .i64 s9.next, .int .i64 s9.began, .int .i64 s9.asked, .int .i64 s9.taken, .bool s9.fresh, .slice uu n2 k2, .slice cc9 n3 k3, .bool s9.cancel, .bool s9.overdue] from rfl]
           have ht5 := ht4.keep hbk (by decide)
           clear x0 x1 x2 x3 x4 x5 x6 x7 x8 x9 x10 x11 y0 y1 y2 y3 y4 y5 y6 y7
           have x0 : w5.cell? ⟨w.heap.size, 0, none⟩ = some (.slice a3 ss.length c3) := (ht5).x rfl
           have x1 : w5.cell? ⟨w.heap.size, 1, none⟩ = some (.int .i64 lim) := (ht5).x rfl
           have x2 : w5.cell? ⟨w.heap.size, 2, none⟩ = some (.int .i64 0) := (ht5).x rfl
           have x3 : w5.cell? ⟨w.heap.size, 3, none⟩ = some (.int .i64 id) := (ht5).x rfl
           have x4 : w5.cell? ⟨w.heap.size, 4, none⟩ = some (.int .i64 bg) := (ht5).x rfl
           have x5 : w5.cell? ⟨w.heap.size, 5, none⟩ = some (.int .i64 ak) := (ht5).x rfl
           have x6 : w5.cell? ⟨w.heap.size, 6, none⟩ = some (.int .i64 tn) := (ht5).x rfl
           have x7 : w5.cell? ⟨w.heap.size, 7, none⟩ = some (.bool fr) := (ht5).x rfl
           have x8 : w5.cell? ⟨w.heap.size, 8, none⟩ = some (.slice a1 js.length c1) := (ht5).x rfl
           have x9 : w5.cell? ⟨w.heap.size, 9, none⟩ = some (.slice a2 cs.length c2) := (ht5).x rfl
           have x10 : w5.cell? ⟨w.heap.size, 10, none⟩ = some (.bool cn) := (ht5).x rfl
           have x11 : w5.cell? ⟨w.heap.size, 11, none⟩ = some (.bool ov) := (ht5).x rfl
           have xz0 := (ht5).fx 0
           have xz1 := (ht5).fx 1
           have xz2 := (ht5).fx 2
           have xz3 := (ht5).fx 3
           have xz4 := (ht5).fx 4
           have xz5 := (ht5).fx 5
           have xz6 := (ht5).fx 6
           have xz7 := (ht5).fx 7
           have xz8 := (ht5).fx 8
           have xz9 := (ht5).fx 9
           have xz10 := (ht5).fx 10
           have xz11 := (ht5).fx 11
           have HP12 := hid (ht5.put12 (Nat.le_refl _) (Nat.le_refl _) (.slice vv n1 k1) (.int .i64 s9.lim) (.int .i64 s9.status) (.int .i64 s9.next) (.int .i64 s9.began) (.int .i64 s9.asked) (.int .i64 s9.taken) (.bool s9.fresh) (.slice uu n2 k2) (.slice cc9 n3 k3) (.bool s9.cancel) (.bool s9.overdue))
           clear ht4 ht5 hbk
           go_wp2_with fail
           go_meet
           exact ⟨rfl, rfl, rfl, rfl, .no HR.out HP12.out⟩
         | some t =>
           rw [hR] at hm
           simp only at hm
           have HR := hid hR
           clear hR hO4
           obtain ⟨vv, uu, cc9, k1, k2, k3, rfl, hO5⟩ := hm
           rw [show staV t (.slice vv t.ss.length k1) (.slice uu t.jobs.length k2) (.slice cc9 t.clocks.length k3) = .agg #[.slice vv t.ss.length k1, .int .i64 t.lim, .int .i64 t.status, .int .i64 t.next, .int .i64 t.began, .int .i64 t.asked, .int .i64 t.taken, .bool t.fresh, .slice uu t.jobs.length k2, .slice cc9 t.clocks.length k3, .bool t.cancel, .bool t.overdue] from rfl]
           have ht5 := ht4.keep hbk (by decide)
           clear x0 x1 x2 x3 x4 x5 x6 x7 x8 x9 x10 x11 y0 y1 y2 y3 y4 y5 y6 y7
           have x0 : w5.cell? ⟨w.heap.size, 0, none⟩ = some (.slice a3 ss.length c3) := (ht5).x rfl
           have x1 : w5.cell? ⟨w.heap.size, 1, none⟩ = some (.int .i64 lim) := (ht5).x rfl
           have x2 : w5.cell? ⟨w.heap.size, 2, none⟩ = some (.int .i64 0) := (ht5).x rfl
           have x3 : w5.cell? ⟨w.heap.size, 3, none⟩ = some (.int .i64 id) := (ht5).x rfl
           have x4 : w5.cell? ⟨w.heap.size, 4, none⟩ = some (.int .i64 bg) := (ht5).x rfl
           have x5 : w5.cell? ⟨w.heap.size, 5, none⟩ = some (.int .i64 ak) := (ht5).x rfl
           have x6 : w5.cell? ⟨w.heap.size, 6, none⟩ = some (.int .i64 tn) := (ht5).x rfl
           have x7 : w5.cell? ⟨w.heap.size, 7, none⟩ = some (.bool fr) := (ht5).x rfl
           have x8 : w5.cell? ⟨w.heap.size, 8, none⟩ = some (.slice a1 js.length c1) := (ht5).x rfl
           have x9 : w5.cell? ⟨w.heap.size, 9, none⟩ = some (.slice a2 cs.length c2) := (ht5).x rfl
           have x10 : w5.cell? ⟨w.heap.size, 10, none⟩ = some (.bool cn) := (ht5).x rfl
           have x11 : w5.cell? ⟨w.heap.size, 11, none⟩ = some (.bool ov) := (ht5).x rfl
           have xz0 := (ht5).fx 0
           have xz1 := (ht5).fx 1
           have xz2 := (ht5).fx 2
           have xz3 := (ht5).fx 3
           have xz4 := (ht5).fx 4
           have xz5 := (ht5).fx 5
           have xz6 := (ht5).fx 6
           have xz7 := (ht5).fx 7
           have xz8 := (ht5).fx 8
           have xz9 := (ht5).fx 9
           have xz10 := (ht5).fx 10
           have xz11 := (ht5).fx 11
           have HP12 := hid (ht5.put12 (Nat.le_refl _) (Nat.le_refl _) (.slice vv t.ss.length k1) (.int .i64 t.lim) (.int .i64 t.status) (.int .i64 t.next) (.int .i64 t.began) (.int .i64 t.asked) (.int .i64 t.taken) (.bool t.fresh) (.slice uu t.jobs.length k2) (.slice cc9 t.clocks.length k3) (.bool t.cancel) (.bool t.overdue))
           have HO5 := hid (hO5.at ht5.hX (by decide) (((((((((((((At.refl w.heap.size w5).set 0 (.slice vv t.ss.length k1)).set 1 (.int .i64 t.lim)).set 2 (.int .i64 t.status)).set 3 (.int .i64 t.next)).set 4 (.int .i64 t.began)).set 5 (.int .i64 t.asked)).set 6 (.int .i64 t.taken)).set 7 (.bool t.fresh)).set 8 (.slice uu t.jobs.length k2)).set 9 (.slice cc9 t.clocks.length k3)).set 10 (.bool t.cancel)).set 11 (.bool t.overdue)))
           clear ht4 ht5 hbk hO5
           go_wp2_with fail
           go_meet
           exact ⟨rfl, rfl, rfl, rfl, .yes HR.out HP12.out HO5.out⟩
   case rest =>
     obtain ⟨rfl, rfl, rfl, rfl, hcut⟩ := hcut
     rcases hcut with ⟨hR, rfl, X', ht5⟩ | ⟨t, vv, uu, cc9, k1, k2, k3, hR, rfl, ht5, hO5⟩
     · have HA := hid (hA1.out hR)
       clear hR hA1 hA2 y1
       have z0 : wc.cell? ⟨w.heap.size + 1 + 1, 0, none⟩ = some (.slice none 0 0) := (ht5).z rfl
       have zf0 := (ht5).fz 0
       have z1 : wc.cell? ⟨w.heap.size + 1 + 1, 1, none⟩ = some (.int .i64 0) := (ht5).z rfl
       have zf1 := (ht5).fz 1
       have z2 : wc.cell? ⟨w.heap.size + 1 + 1, 2, none⟩ = some (.int .i64 0) := (ht5).z rfl
       have zf2 := (ht5).fz 2
       have z3 : wc.cell? ⟨w.heap.size + 1 + 1, 3, none⟩ = some (.int .i64 0) := (ht5).z rfl
       have zf3 := (ht5).fz 3
       have z4 : wc.cell? ⟨w.heap.size + 1 + 1, 4, none⟩ = some (.int .i64 0) := (ht5).z rfl
       have zf4 := (ht5).fz 4
       have z5 : wc.cell? ⟨w.heap.size + 1 + 1, 5, none⟩ = some (.int .i64 0) := (ht5).z rfl
       have zf5 := (ht5).fz 5
       have z6 : wc.cell? ⟨w.heap.size + 1 + 1, 6, none⟩ = some (.int .i64 0) := (ht5).z rfl
       have zf6 := (ht5).fz 6
       have z7 : wc.cell? ⟨w.heap.size + 1 + 1, 7, none⟩ = some (.bool false) := (ht5).z rfl
       have zf7 := (ht5).fz 7
       have z8 : wc.cell? ⟨w.heap.size + 1 + 1, 8, none⟩ = some (.slice none 0 0) := (ht5).z rfl
       have zf8 := (ht5).fz 8
       have z9 : wc.cell? ⟨w.heap.size + 1 + 1, 9, none⟩ = some (.slice none 0 0) := (ht5).z rfl
       have zf9 := (ht5).fz 9
       have z10 : wc.cell? ⟨w.heap.size + 1 + 1, 10, none⟩ = some (.bool false) := (ht5).z rfl
       have zf10 := (ht5).fz 10
       have z11 : wc.cell? ⟨w.heap.size + 1 + 1, 11, none⟩ = some (.bool false) := (ht5).z rfl
       have zf11 := (ht5).fz 11
       have HB := hid ((ht5).hb.at (((((((((((((At.refl (w.heap.size + 1 + 1) wc).set 0 (.slice none 0 0)).set 1 (.int .i64 0)).set 2 (.int .i64 0)).set 3 (.int .i64 0)).set 4 (.int .i64 0)).set 5 (.int .i64 0)).set 6 (.int .i64 0)).set 7 (.bool false)).set 8 (.slice none 0 0)).set 9 (.slice none 0 0)).set 10 (.bool false)).set 11 (.bool false)) (ht5).hs (Nat.le_refl _) (by omega)).below
       go_wp2_with fail
       refine bodyPost_ret (v := .tuple #[.agg #[.slice none 0 0, .int .i64 0, .int .i64 0, .int .i64 0, .int .i64 0, .int .i64 0, .int .i64 0, .bool false, .slice none 0 0, .slice none 0 0, .bool false, .bool false], .int .i64 120]) ?_ rfl (by rw [HA.out]; exact ⟨HB.out, none, none, none, 0, 0, 0, rfl, StO.none _ _ s0 rfl rfl rfl⟩)
       rw [results_cell_tmp rfl]
       go_simp
     · clear y1
       have hnext : t.next = id := kind_next hR
       have HA := hid (hA2.out t hR)
       have x3 : wc.cell? ⟨w.heap.size, 3, none⟩ = some (.int .i64 id) := by
         have := ht5.x (j := 3) (v := .int .i64 t.next) rfl
         rw [hnext] at this
         exact this
       have xz3 := (ht5).fx 3
       have a6 : At w.heap.size wc (wc.setCell ⟨w.heap.size, 3, none⟩ (.int .i64 (id + 1))) := (At.refl _ wc).set 3 _
       have hO6 := hO5.at ht5.hX (by decide) a6
       have ht6 : T3 w.heap.size w (wc.setCell ⟨w.heap.size, 3, none⟩ (.int .i64 (id + 1))) w.heap.size #[.slice vv t.ss.length k1, .int .i64 t.lim, .int .i64 t.status, .int .i64 (id + 1), .int .i64 t.began, .int .i64 t.asked, .int .i64 t.taken, .bool t.fresh, .slice uu t.jobs.length k2, .slice cc9 t.clocks.length k3, .bool t.cancel, .bool t.overdue] #[.int .i64 id, .int .i64 kd, .int .i64 tk, .int .i64 rf, .int .i64 sp, .int .i64 ty, .bool ud, .string ⟨dt.toArray⟩] #[.slice none 0 0, .int .i64 0, .int .i64 0, .int .i64 0, .int .i64 0, .int .i64 0, .int .i64 0, .bool false, .slice none 0 0, .slice none 0 0, .bool false, .bool false] 36 23 := (ht5.set (Nat.le_refl _) 3 (.int .i64 (id + 1))).row (by kernel_rfl)
       clear hR hnext hA1 hA2
       have w0x : (wc.setCell ⟨w.heap.size, 3, none⟩ (.int .i64 (id + 1))).cell? ⟨w.heap.size, 0, none⟩ = some (.slice vv t.ss.length k1) := (ht6).x rfl
       have w1x : (wc.setCell ⟨w.heap.size, 3, none⟩ (.int .i64 (id + 1))).cell? ⟨w.heap.size, 1, none⟩ = some (.int .i64 t.lim) := (ht6).x rfl
       have w2x : (wc.setCell ⟨w.heap.size, 3, none⟩ (.int .i64 (id + 1))).cell? ⟨w.heap.size, 2, none⟩ = some (.int .i64 t.status) := (ht6).x rfl
       have w3x : (wc.setCell ⟨w.heap.size, 3, none⟩ (.int .i64 (id + 1))).cell? ⟨w.heap.size, 3, none⟩ = some (.int .i64 (id + 1)) := (ht6).x rfl
       have w4x : (wc.setCell ⟨w.heap.size, 3, none⟩ (.int .i64 (id + 1))).cell? ⟨w.heap.size, 4, none⟩ = some (.int .i64 t.began) := (ht6).x rfl
       have w5x : (wc.setCell ⟨w.heap.size, 3, none⟩ (.int .i64 (id + 1))).cell? ⟨w.heap.size, 5, none⟩ = some (.int .i64 t.asked) := (ht6).x rfl
       have w6x : (wc.setCell ⟨w.heap.size, 3, none⟩ (.int .i64 (id + 1))).cell? ⟨w.heap.size, 6, none⟩ = some (.int .i64 t.taken) := (ht6).x rfl
       have w7x : (wc.setCell ⟨w.heap.size, 3, none⟩ (.int .i64 (id + 1))).cell? ⟨w.heap.size, 7, none⟩ = some (.bool t.fresh) := (ht6).x rfl
       have w8x : (wc.setCell ⟨w.heap.size, 3, none⟩ (.int .i64 (id + 1))).cell? ⟨w.heap.size, 8, none⟩ = some (.slice uu t.jobs.length k2) := (ht6).x rfl
       have w9x : (wc.setCell ⟨w.heap.size, 3, none⟩ (.int .i64 (id + 1))).cell? ⟨w.heap.size, 9, none⟩ = some (.slice cc9 t.clocks.length k3) := (ht6).x rfl
       have w10x : (wc.setCell ⟨w.heap.size, 3, none⟩ (.int .i64 (id + 1))).cell? ⟨w.heap.size, 10, none⟩ = some (.bool t.cancel) := (ht6).x rfl
       have w11x : (wc.setCell ⟨w.heap.size, 3, none⟩ (.int .i64 (id + 1))).cell? ⟨w.heap.size, 11, none⟩ = some (.bool t.overdue) := (ht6).x rfl
       have z0 : (wc.setCell ⟨w.heap.size, 3, none⟩ (.int .i64 (id + 1))).cell? ⟨w.heap.size + 1 + 1, 0, none⟩ = some (.slice none 0 0) := (ht6).z rfl
       have zf0 := (ht6).fz 0
       have z1 : (wc.setCell ⟨w.heap.size, 3, none⟩ (.int .i64 (id + 1))).cell? ⟨w.heap.size + 1 + 1, 1, none⟩ = some (.int .i64 0) := (ht6).z rfl
       have zf1 := (ht6).fz 1
       have z2 : (wc.setCell ⟨w.heap.size, 3, none⟩ (.int .i64 (id + 1))).cell? ⟨w.heap.size + 1 + 1, 2, none⟩ = some (.int .i64 0) := (ht6).z rfl
       have zf2 := (ht6).fz 2
       have z3 : (wc.setCell ⟨w.heap.size, 3, none⟩ (.int .i64 (id + 1))).cell? ⟨w.heap.size + 1 + 1, 3, none⟩ = some (.int .i64 0) := (ht6).z rfl
       have zf3 := (ht6).fz 3
       have z4 : (wc.setCell ⟨w.heap.size, 3, none⟩ (.int .i64 (id + 1))).cell? ⟨w.heap.size + 1 + 1, 4, none⟩ = some (.int .i64 0) := (ht6).z rfl
       have zf4 := (ht6).fz 4
       have z5 : (wc.setCell ⟨w.heap.size, 3, none⟩ (.int .i64 (id + 1))).cell? ⟨w.heap.size + 1 + 1, 5, none⟩ = some (.int .i64 0) := (ht6).z rfl
       have zf5 := (ht6).fz 5
       have z6 : (wc.setCell ⟨w.heap.size, 3, none⟩ (.int .i64 (id + 1))).cell? ⟨w.heap.size + 1 + 1, 6, none⟩ = some (.int .i64 0) := (ht6).z rfl
       have zf6 := (ht6).fz 6
       have z7 : (wc.setCell ⟨w.heap.size, 3, none⟩ (.int .i64 (id + 1))).cell? ⟨w.heap.size + 1 + 1, 7, none⟩ = some (.bool false) := (ht6).z rfl
       have zf7 := (ht6).fz 7
       have z8 : (wc.setCell ⟨w.heap.size, 3, none⟩ (.int .i64 (id + 1))).cell? ⟨w.heap.size + 1 + 1, 8, none⟩ = some (.slice none 0 0) := (ht6).z rfl
       have zf8 := (ht6).fz 8
       have z9 : (wc.setCell ⟨w.heap.size, 3, none⟩ (.int .i64 (id + 1))).cell? ⟨w.heap.size + 1 + 1, 9, none⟩ = some (.slice none 0 0) := (ht6).z rfl
       have zf9 := (ht6).fz 9
       have z10 : (wc.setCell ⟨w.heap.size, 3, none⟩ (.int .i64 (id + 1))).cell? ⟨w.heap.size + 1 + 1, 10, none⟩ = some (.bool false) := (ht6).z rfl
       have zf10 := (ht6).fz 10
       have z11 : (wc.setCell ⟨w.heap.size, 3, none⟩ (.int .i64 (id + 1))).cell? ⟨w.heap.size + 1 + 1, 11, none⟩ = some (.bool false) := (ht6).z rfl
       have zf11 := (ht6).fz 11
       have HB := hid (ht6.hb.at (((((((((((((At.refl (w.heap.size + 1 + 1) (wc.setCell ⟨w.heap.size, 3, none⟩ (.int .i64 (id + 1)))).set 0 (.slice vv t.ss.length k1)).set 1 (.int .i64 t.lim)).set 2 (.int .i64 t.status)).set 3 (.int .i64 (id + 1))).set 4 (.int .i64 t.began)).set 5 (.int .i64 t.asked)).set 6 (.int .i64 t.taken)).set 7 (.bool t.fresh)).set 8 (.slice uu t.jobs.length k2)).set 9 (.slice cc9 t.clocks.length k3)).set 10 (.bool t.cancel)).set 11 (.bool t.overdue)) ht6.hs (Nat.le_refl _) (by omega)).below
       have HO := hid ((hO6.at ht6.hZ (by decide) (((((((((((((At.refl (w.heap.size + 1 + 1) (wc.setCell ⟨w.heap.size, 3, none⟩ (.int .i64 (id + 1)))).set 0 (.slice vv t.ss.length k1)).set 1 (.int .i64 t.lim)).set 2 (.int .i64 t.status)).set 3 (.int .i64 (id + 1))).set 4 (.int .i64 t.began)).set 5 (.int .i64 t.asked)).set 6 (.int .i64 t.taken)).set 7 (.bool t.fresh)).set 8 (.slice uu t.jobs.length k2)).set 9 (.slice cc9 t.clocks.length k3)).set 10 (.bool t.cancel)).set 11 (.bool t.overdue))).like (s' := { t with next := id + 1 }) rfl rfl rfl)
       clear ht5 ht6 hO5 hO6 a6
       go_wp2_with fail
       refine bodyPost_ret (v := .tuple #[.agg #[.slice vv t.ss.length k1, .int .i64 t.lim, .int .i64 t.status, .int .i64 (id + 1), .int .i64 t.began, .int .i64 t.asked, .int .i64 t.taken, .bool t.fresh, .slice uu t.jobs.length k2, .slice cc9 t.clocks.length k3, .bool t.cancel, .bool t.overdue], .int .i64 0]) ?_ rfl (by rw [HA.out]; exact ⟨HB.out, vv, uu, cc9, k1, k2, k3, rfl, HO.out⟩)
       rw [results_cell_tmp rfl]
       go_simp
set_option maxHeartbeats 64000000 in
set_option maxRecDepth 100000 in
theorem apply_g2 (ss : List St) (lim st nx bg ak tn : Int) (fr : Bool) (js : List Jb) (cs : List Ck) (cn ov : Bool) (va ua ca : Option Addr) (vc uc cc : Nat) (id kd tk rf sp ty : Int) (ud : Bool) (dt : List UInt8) (w : World) (hr : StR w ⟨ss, lim, st, nx, bg, ak, tn, fr, js, cs, cn, ov⟩ (.slice va ss.length vc) (.slice ua js.length uc) (.slice ca cs.length cc)) (hok : SOK ⟨ss, lim, st, nx, bg, ak, tn, fr, js, cs, cn, ov⟩) (hdt : dt.length ≤ 140737488355328) (hkk : 6 ≤ kd ∧ kd ≤ 7) (hP : EvP (id, kd, tk, rf, sp, ty, ud, dt)) (hn : ¬ nx = 0) (hs : st = 0) (hi : id = nx) :
   Calls Try.prog 22 #[.agg #[.slice va ss.length vc, .int .i64 lim, .int .i64 st, .int .i64 nx, .int .i64 bg, .int .i64 ak, .int .i64 tn, .bool fr, .slice ua js.length uc, .slice ca cs.length cc, .bool cn, .bool ov], .agg #[.int .i64 id, .int .i64 kd, .int .i64 tk, .int .i64 rf, .int .i64 sp, .int .i64 ty, .bool ud, .string ⟨dt.toArray⟩]] w fun e' w' => APost w.heap.size w (applyF ⟨ss, lim, st, nx, bg, ak, tn, fr, js, cs, cn, ov⟩ (id, kd, tk, rf, sp, ty, ud, dt)) e' w' := by
 obtain ⟨⟨hl1, hl2, hl3⟩, hj9, ⟨hbg, hlm⟩, hwt, hnx⟩ := hok
 simp only at hl1 hl2 hl3 hj9 hbg hlm hwt hnx
 have htk : 0 ≤ tk ∧ tk ≤ 1099511627776 := hP.2.2.1
 have hkd : 1 ≤ kd ∧ kd ≤ 18 := hP.1
 have hEV := hid (show evV (id, kd, tk, rf, sp, ty, ud, dt) = 0 by unfold evV; rw [if_pos hP])
 have hqn : (nx == 0) = false := by simpa using hn
 have hA1 := hid (fun (hk : kindF ⟨ss, lim, st, nx, bg, ak, tn, fr, js, cs, cn, ov⟩ (id, kd, tk, rf, sp, ty, ud, dt) = none) => (show applyF ⟨ss, lim, st, nx, bg, ak, tn, fr, js, cs, cn, ov⟩ (id, kd, tk, rf, sp, ty, ud, dt) = (s0, 120) by
   unfold applyF
   rw [if_neg (not_not_intro hP), if_neg (show ¬ (⟨ss, lim, st, nx, bg, ak, tn, fr, js, cs, cn, ov⟩ : Sta).next = 0 from hn), if_neg (not_not_intro (show (⟨ss, lim, st, nx, bg, ak, tn, fr, js, cs, cn, ov⟩ : Sta).status = 0 from hs)), if_neg (not_not_intro (show Ev.id (id, kd, tk, rf, sp, ty, ud, dt) = (⟨ss, lim, st, nx, bg, ak, tn, fr, js, cs, cn, ov⟩ : Sta).next from hi)), hk]))
 have hA2 := hid (fun (t : Sta) (hk : kindF ⟨ss, lim, st, nx, bg, ak, tn, fr, js, cs, cn, ov⟩ (id, kd, tk, rf, sp, ty, ud, dt) = some t) => (show applyF ⟨ss, lim, st, nx, bg, ak, tn, fr, js, cs, cn, ov⟩ (id, kd, tk, rf, sp, ty, ud, dt) = ({ t with next := nx + 1 }, 0) by
   unfold applyF
   rw [if_neg (not_not_intro hP), if_neg (show ¬ (⟨ss, lim, st, nx, bg, ak, tn, fr, js, cs, cn, ov⟩ : Sta).next = 0 from hn), if_neg (not_not_intro (show (⟨ss, lim, st, nx, bg, ak, tn, fr, js, cs, cn, ov⟩ : Sta).status = 0 from hs)), if_neg (not_not_intro (show Ev.id (id, kd, tk, rf, sp, ty, ud, dt) = (⟨ss, lim, st, nx, bg, ak, tn, fr, js, cs, cn, ov⟩ : Sta).next from hi)), hk]))
 clear hP hn
 subst hs
 subst hi
 obtain ⟨W, hW, hS, hE, hR, bW, sW⟩ := lay3 w #[.slice va ss.length vc, .int .i64 lim, .int .i64 0, .int .i64 id, .int .i64 bg, .int .i64 ak, .int .i64 tn, .bool fr, .slice ua js.length uc, .slice ca cs.length cc, .bool cn, .bool ov] #[.int .i64 id, .int .i64 kd, .int .i64 tk, .int .i64 rf, .int .i64 sp, .int .i64 ty, .bool ud, .string ⟨dt.toArray⟩] #[.slice none 0 0, .int .i64 0, .int .i64 0, .int .i64 0, .int .i64 0, .int .i64 0, .int .i64 0, .bool false, .slice none 0 0, .slice none 0 0, .bool false, .bool false] 36 23 36
 have ht : T3 w.heap.size w W w.heap.size #[.slice va ss.length vc, .int .i64 lim, .int .i64 0, .int .i64 id, .int .i64 bg, .int .i64 ak, .int .i64 tn, .bool fr, .slice ua js.length uc, .slice ca cs.length cc, .bool cn, .bool ov] #[.int .i64 id, .int .i64 kd, .int .i64 tk, .int .i64 rf, .int .i64 sp, .int .i64 ty, .bool ud, .string ⟨dt.toArray⟩] #[.slice none 0 0, .int .i64 0, .int .i64 0, .int .i64 0, .int .i64 0, .int .i64 0, .int .i64 0, .bool false, .slice none 0 0, .slice none 0 0, .bool false, .bool false] 36 23 := ⟨hS, hE, hR, BK.of (Nat.le_refl _) bW, by omega⟩
 have HW := hid hW
 clear hW hS hE hR sW bW
 go_enter Try.func22, Try.ntmps22
 go_wp2_with fail
 rw [← HW.out]
 clear HW
 refine (echeck_any id kd tk rf sp ty ud dt hdt W).mono ?_
 rintro _ w1 ⟨rfl, b1⟩
 rw [hEV.out]
 have ht1 := ht.below b1
 clear ht b1
 have x2 : w1.cell? ⟨w.heap.size, 2, none⟩ = some (.int .i64 0) := (ht1).x rfl
 have x3 : w1.cell? ⟨w.heap.size, 3, none⟩ = some (.int .i64 id) := (ht1).x rfl
 have x8 : w1.cell? ⟨w.heap.size, 8, none⟩ = some (.slice ua js.length uc) := (ht1).x rfl
 have x9 : w1.cell? ⟨w.heap.size, 9, none⟩ = some (.slice ca cs.length cc) := (ht1).x rfl
 have xz8 := (ht1).fx 8
 have xz9 := (ht1).fx 9
 have y0 : w1.cell? ⟨w.heap.size + 1, 0, none⟩ = some (.int .i64 id) := (ht1).y rfl
 have hr0 := hr
 have hr1 := hr.below (ht1.hb.below)
 have hbs := ht1.hs
 have hX1 := ht1.hX
 clear hr
 go_upto_region 12 with (fail)
 go_cut [2, 3, 4, 5] (fun s2 s3 s4 s5 wx => s2 = .pointer (some ⟨w.heap.size, 0, none⟩) ∧ s3 = .pointer (some ⟨w.heap.size + 1, 0, none⟩) ∧ s4 = .pointer (some ⟨w.heap.size + 1 + 1, 0, none⟩) ∧ s5 = .int .i64 0 ∧ ∃ (a1 a2 : Option Addr) (c1 c2 : Nat), T3 w.heap.size w wx w.heap.size #[.slice va ss.length vc, .int .i64 lim, .int .i64 0, .int .i64 id, .int .i64 bg, .int .i64 ak, .int .i64 tn, .bool fr, .slice a1 js.length c1, .slice a2 cs.length c2, .bool cn, .bool ov] #[.int .i64 id, .int .i64 kd, .int .i64 tk, .int .i64 rf, .int .i64 sp, .int .i64 ty, .bool ud, .string ⟨dt.toArray⟩] #[.slice none 0 0, .int .i64 0, .int .i64 0, .int .i64 0, .int .i64 0, .int .i64 0, .int .i64 0, .bool false, .slice none 0 0, .slice none 0 0, .bool false, .bool false] 36 23 ∧ wx.ownsRow w.heap.size 79 4 (.slice a1 js.length c1) js.length (js.flatMap jbC) ∧ wx.ownsRow w.heap.size 84 3 (.slice a2 cs.length c2) cs.length (cs.flatMap ckC))
 case first =>
   go_region_law (first
     | (go_simp; go_at_call 45; refine (cloneJ_any ua uc js hl2 _ (by first | exact StR.hj (by assumption) | exact Sl.below (StR.hj (by assumption)) (below_drewN _ _ 1))).mono ?_; rintro _ wz ⟨q1, q2, rfl, own0, bz0⟩; have htz := T3.below (by assumption) (by first | exact bz0 | exact below_of_drewN (n := 1) bz0); have hrz := StR.below (by assumption) (by first | exact bz0 | exact below_of_drewN (n := 1) bz0); have hoj := own_mono own0 (by first | exact hbs | exact T3.hs (by assumption)); (try (have hoc := own_new hoc (by first | exact bz0 | exact below_of_drewN (n := 1) bz0))); have x8 : wz.cell? ⟨w.heap.size, 8, none⟩ = some (.slice ua js.length uc) := (htz).x rfl; have xz8 := (htz).fx 8; have x9 : wz.cell? ⟨w.heap.size, 9, none⟩ = some (.slice ca cs.length cc) := (htz).x rfl; have xz9 := (htz).fx 9)
     | (go_simp; go_at_call 46; refine (cloneC_any ca cc cs hl3 _ (by first | exact StR.hc (by assumption) | exact Sl.below (StR.hc (by assumption)) (below_drewN _ _ 1))).mono ?_; rintro _ wz ⟨q1, q2, rfl, own0, bz0⟩; have htz := T3.below (by assumption) (by first | exact bz0 | exact below_of_drewN (n := 1) bz0); have hrz := StR.below (by assumption) (by first | exact bz0 | exact below_of_drewN (n := 1) bz0); have hoc := own_mono own0 (by first | exact hbs | exact T3.hs (by assumption)); (try (have hoj := own_new hoj (by first | exact bz0 | exact below_of_drewN (n := 1) bz0))); have x8 : wz.cell? ⟨w.heap.size, 8, none⟩ = some (.slice ua js.length uc) := (htz).x rfl; have xz8 := (htz).fx 8; have x9 : wz.cell? ⟨w.heap.size, 9, none⟩ = some (.slice ca cs.length cc) := (htz).x rfl; have xz9 := (htz).fx 9))
   all_goals first
     | (go_wp2_with fail; go_meet; exact ⟨rfl, rfl, rfl, rfl, _, _, _, _, T3.set (T3.set (by assumption) (Nat.le_refl _) 8 _) (Nat.le_refl _) 9 _, own_at_row hoj (T3.hX (by assumption)) (by decide) (((At.refl _ _).set 8 _).set 9 _), own_at_row hoc (T3.hX (by assumption)) (by decide) (((At.refl _ _).set 8 _).set 9 _)⟩)
     | (go_wp2_with fail; go_meet; exact ⟨rfl, rfl, rfl, rfl, _, _, _, _, T3.set (T3.set (by assumption) (Nat.le_refl _) 9 _) (Nat.le_refl _) 8 _, own_at_row hoj (T3.hX (by assumption)) (by decide) (((At.refl _ _).set 9 _).set 8 _), own_at_row hoc (T3.hX (by assumption)) (by decide) (((At.refl _ _).set 9 _).set 8 _)⟩)
 case rest =>
   obtain ⟨rfl, rfl, rfl, rfl, a1, a2, c1, c2, ht2, hoj, hoc⟩ := hcut
   clear x2 x3 x8 x9 xz8 xz9 y0 ht1 hX1
   have hrs := hr0.hs.below ht2.hb.below
   have x0 : wc.cell? ⟨w.heap.size, 0, none⟩ = some (.slice va ss.length vc) := (ht2).x rfl
   go_wp2_with fail
   refine (cloneS_any va vc ss hl1 wc hrs).mono ?_
   rintro _ w3 ⟨a3, c3, rfl, hos, b3⟩
   have hos3 := own_mono hos ht2.hs
   have ht3 := ht2.below b3
   have hoj3 := own_new hoj b3
   have hoc3 := own_new hoc b3
   clear hos ht2 hoj hoc b3 x0 hrs
   have x0 : w3.cell? ⟨w.heap.size, 0, none⟩ = some (.slice va ss.length vc) := (ht3).x rfl
   have xz0 := (ht3).fx 0
   have ht4 := ht3.set (Nat.le_refl _) 0 (.slice a3 ss.length c3)
   have aw : At w.heap.size w3 (w3.setCell ⟨w.heap.size, 0, none⟩ (.slice a3 ss.length c3)) := (At.refl _ w3).set 0 _
   have hO4 : StO (w3.setCell ⟨w.heap.size, 0, none⟩ (.slice a3 ss.length c3)) w.heap.size ⟨ss, lim, 0, id, bg, ak, tn, fr, js, cs, cn, ov⟩ (.slice a3 ss.length c3) (.slice a1 js.length c1) (.slice a2 cs.length c2) := ⟨own_at_row hos3 ht3.hX (by decide) aw, own_at_row hoj3 ht3.hX (by decide) aw, own_at_row hoc3 ht3.hX (by decide) aw⟩
   go_upto_region 14 with (fail)
   obtain ⟨w4, hw4⟩ : ∃ x, x = w3.setCell ⟨w.heap.size, 0, none⟩ (.slice a3 ss.length c3) := ⟨_, rfl⟩
   rw [← hw4] at ht4 hO4 ⊢
   clear hw4 aw hos3 hoj3 hoc3 ht3 x0 xz0
   have y1 : w4.cell? ⟨w.heap.size + 1, 1, none⟩ = some (.int .i64 kd) := (ht4).y rfl
   go_upto_block 0 with (fail)
   go_cut [2, 3, 4, 5, 8] (fun s2 s3 s4 s5 s8 wx => s2 = .pointer (some ⟨w.heap.size, 0, none⟩) ∧ s3 = .pointer (some ⟨w.heap.size + 1, 0, none⟩) ∧ s4 = .pointer (some ⟨w.heap.size + 1 + 1, 0, none⟩) ∧ s5 = .int .i64 0 ∧ AftP w ⟨ss, lim, 0, id, bg, ak, tn, fr, js, cs, cn, ov⟩ (id, kd, tk, rf, sp, ty, ud, dt) #[.int .i64 id, .int .i64 kd, .int .i64 tk, .int .i64 rf, .int .i64 sp, .int .i64 ty, .bool ud, .string ⟨dt.toArray⟩] s8 wx)
   case first =>
     have x0 : w4.cell? ⟨w.heap.size, 0, none⟩ = some (.slice a3 ss.length c3) := (ht4).x rfl
     have x1 : w4.cell? ⟨w.heap.size, 1, none⟩ = some (.int .i64 lim) := (ht4).x rfl
     have x2 : w4.cell? ⟨w.heap.size, 2, none⟩ = some (.int .i64 0) := (ht4).x rfl
     have x3 : w4.cell? ⟨w.heap.size, 3, none⟩ = some (.int .i64 id) := (ht4).x rfl
     have x4 : w4.cell? ⟨w.heap.size, 4, none⟩ = some (.int .i64 bg) := (ht4).x rfl
     have x5 : w4.cell? ⟨w.heap.size, 5, none⟩ = some (.int .i64 ak) := (ht4).x rfl
     have x6 : w4.cell? ⟨w.heap.size, 6, none⟩ = some (.int .i64 tn) := (ht4).x rfl
     have x7 : w4.cell? ⟨w.heap.size, 7, none⟩ = some (.bool fr) := (ht4).x rfl
     have x8 : w4.cell? ⟨w.heap.size, 8, none⟩ = some (.slice a1 js.length c1) := (ht4).x rfl
     have x9 : w4.cell? ⟨w.heap.size, 9, none⟩ = some (.slice a2 cs.length c2) := (ht4).x rfl
     have x10 : w4.cell? ⟨w.heap.size, 10, none⟩ = some (.bool cn) := (ht4).x rfl
     have x11 : w4.cell? ⟨w.heap.size, 11, none⟩ = some (.bool ov) := (ht4).x rfl
     have y0 : w4.cell? ⟨w.heap.size + 1, 0, none⟩ = some (.int .i64 id) := (ht4).y rfl
     have y2 : w4.cell? ⟨w.heap.size + 1, 2, none⟩ = some (.int .i64 tk) := (ht4).y rfl
     have y3 : w4.cell? ⟨w.heap.size + 1, 3, none⟩ = some (.int .i64 rf) := (ht4).y rfl
     have y4 : w4.cell? ⟨w.heap.size + 1, 4, none⟩ = some (.int .i64 sp) := (ht4).y rfl
     have y5 : w4.cell? ⟨w.heap.size + 1, 5, none⟩ = some (.int .i64 ty) := (ht4).y rfl
     have y6 : w4.cell? ⟨w.heap.size + 1, 6, none⟩ = some (.bool ud) := (ht4).y rfl
     have y7 : w4.cell? ⟨w.heap.size + 1, 7, none⟩ = some (.string ⟨dt.toArray⟩) := (ht4).y rfl
     rcases (by omega : kd = 6 ∨ kd = 7) with hk | hk
     ·
         have hk9 : kindF ⟨ss, lim, 0, id, bg, ak, tn, fr, js, cs, cn, ov⟩ (id, kd, tk, rf, sp, ty, ud, dt) = workF ⟨ss, lim, 0, id, bg, ak, tn, fr, js, cs, cn, ov⟩ (id, kd, tk, rf, sp, ty, ud, dt) := by unfold kindF; simp only [Ev.kd]; rw [if_neg (by omega), if_pos (by omega)]
         have q2 : (kd == 2) = false := by rw [hk]; rfl
         have q3 : (kd == 3) = false := by rw [hk]; rfl
         have q4 : (kd == 4) = false := by rw [hk]; rfl
         have q5 : (kd == 5) = false := by rw [hk]; rfl
         have q6 : (kd == 6) = true := by rw [hk]; rfl
         have q7 : (kd == 7) = false := by rw [hk]; rfl
         have q8 : (kd == 8) = false := by rw [hk]; rfl
         have q9 : (kd == 9) = false := by rw [hk]; rfl
         have q10 : (kd == 10) = false := by rw [hk]; rfl
         have q11 : (kd == 11) = false := by rw [hk]; rfl
         have HKD := hid hk
         clear hk
         have HK9 := hid hk9
         clear hk9
         go_wp2_with fail
         refine (work6_any ss lim 0 id bg ak tn fr js cs cn ov a3 a1 a2 c3 c1 c2 id kd tk rf sp ty ud dt w.heap.size w4 ht4.hs hO4 hj9 hl2 HKD.out).mono ?_
         rintro e' w5 ⟨hbk, hm⟩
         rw [← HK9.out] at hm
         clear HK9
         cases hR : kindF ⟨ss, lim, 0, id, bg, ak, tn, fr, js, cs, cn, ov⟩ (id, kd, tk, rf, sp, ty, ud, dt) with
         | none =>
           rw [hR] at hm
           simp only at hm
           have HR := hid hR
           clear hR hO4
           obtain ⟨s9, vv, uu, cc9, n1, n2, n3, k1, k2, k3, rfl⟩ := hm
           rw [show staV s9 (.slice vv n1 k1) (.slice uu n2 k2) (.slice cc9 n3 k3) = .agg #[.slice vv n1 k1, .int .i64 s9.lim, .int .i64 s9.status, .int .i64 s9.next, .int .i64 s9.began, .int .i64 s9.asked, .int .i64 s9.taken, .bool s9.fresh, .slice uu n2 k2, .slice cc9 n3 k3, .bool s9.cancel, .bool s9.overdue] from rfl]
           have ht5 := ht4.keep hbk (by decide)
           clear x0 x1 x2 x3 x4 x5 x6 x7 x8 x9 x10 x11 y0 y1 y2 y3 y4 y5 y6 y7
           have x0 : w5.cell? ⟨w.heap.size, 0, none⟩ = some (.slice a3 ss.length c3) := (ht5).x rfl
           have x1 : w5.cell? ⟨w.heap.size, 1, none⟩ = some (.int .i64 lim) := (ht5).x rfl
           have x2 : w5.cell? ⟨w.heap.size, 2, none⟩ = some (.int .i64 0) := (ht5).x rfl
           have x3 : w5.cell? ⟨w.heap.size, 3, none⟩ = some (.int .i64 id) := (ht5).x rfl
           have x4 : w5.cell? ⟨w.heap.size, 4, none⟩ = some (.int .i64 bg) := (ht5).x rfl
           have x5 : w5.cell? ⟨w.heap.size, 5, none⟩ = some (.int .i64 ak) := (ht5).x rfl
           have x6 : w5.cell? ⟨w.heap.size, 6, none⟩ = some (.int .i64 tn) := (ht5).x rfl
           have x7 : w5.cell? ⟨w.heap.size, 7, none⟩ = some (.bool fr) := (ht5).x rfl
           have x8 : w5.cell? ⟨w.heap.size, 8, none⟩ = some (.slice a1 js.length c1) := (ht5).x rfl
           have x9 : w5.cell? ⟨w.heap.size, 9, none⟩ = some (.slice a2 cs.length c2) := (ht5).x rfl
           have x10 : w5.cell? ⟨w.heap.size, 10, none⟩ = some (.bool cn) := (ht5).x rfl
           have x11 : w5.cell? ⟨w.heap.size, 11, none⟩ = some (.bool ov) := (ht5).x rfl
           have xz0 := (ht5).fx 0
           have xz1 := (ht5).fx 1
           have xz2 := (ht5).fx 2
           have xz3 := (ht5).fx 3
           have xz4 := (ht5).fx 4
           have xz5 := (ht5).fx 5
           have xz6 := (ht5).fx 6
           have xz7 := (ht5).fx 7
           have xz8 := (ht5).fx 8
           have xz9 := (ht5).fx 9
           have xz10 := (ht5).fx 10
           have xz11 := (ht5).fx 11
           have HP12 := hid (ht5.put12 (Nat.le_refl _) (Nat.le_refl _) (.slice vv n1 k1) (.int .i64 s9.lim) (.int .i64 s9.status) (.int .i64 s9.next) (.int .i64 s9.began) (.int .i64 s9.asked) (.int .i64 s9.taken) (.bool s9.fresh) (.slice uu n2 k2) (.slice cc9 n3 k3) (.bool s9.cancel) (.bool s9.overdue))
           clear ht4 ht5 hbk
           go_wp2_with fail
           go_meet
           exact ⟨rfl, rfl, rfl, rfl, .no HR.out HP12.out⟩
         | some t =>
           rw [hR] at hm
           simp only at hm
           have HR := hid hR
           clear hR hO4
           obtain ⟨vv, uu, cc9, k1, k2, k3, rfl, hO5⟩ := hm
           rw [show staV t (.slice vv t.ss.length k1) (.slice uu t.jobs.length k2) (.slice cc9 t.clocks.length k3) = .agg #[.slice vv t.ss.length k1, .int .i64 t.lim, .int .i64 t.status, .int .i64 t.next, .int .i64 t.began, .int .i64 t.asked, .int .i64 t.taken, .bool t.fresh, .slice uu t.jobs.length k2, .slice cc9 t.clocks.length k3, .bool t.cancel, .bool t.overdue] from rfl]
           have ht5 := ht4.keep hbk (by decide)
           clear x0 x1 x2 x3 x4 x5 x6 x7 x8 x9 x10 x11 y0 y1 y2 y3 y4 y5 y6 y7
           have x0 : w5.cell? ⟨w.heap.size, 0, none⟩ = some (.slice a3 ss.length c3) := (ht5).x rfl
           have x1 : w5.cell? ⟨w.heap.size, 1, none⟩ = some (.int .i64 lim) := (ht5).x rfl
           have x2 : w5.cell? ⟨w.heap.size, 2, none⟩ = some (.int .i64 0) := (ht5).x rfl
           have x3 : w5.cell? ⟨w.heap.size, 3, none⟩ = some (.int .i64 id) := (ht5).x rfl
           have x4 : w5.cell? ⟨w.heap.size, 4, none⟩ = some (.int .i64 bg) := (ht5).x rfl
           have x5 : w5.cell? ⟨w.heap.size, 5, none⟩ = some (.int .i64 ak) := (ht5).x rfl
           have x6 : w5.cell? ⟨w.heap.size, 6, none⟩ = some (.int .i64 tn) := (ht5).x rfl
           have x7 : w5.cell? ⟨w.heap.size, 7, none⟩ = some (.bool fr) := (ht5).x rfl
           have x8 : w5.cell? ⟨w.heap.size, 8, none⟩ = some (.slice a1 js.length c1) := (ht5).x rfl
           have x9 : w5.cell? ⟨w.heap.size, 9, none⟩ = some (.slice a2 cs.length c2) := (ht5).x rfl
           have x10 : w5.cell? ⟨w.heap.size, 10, none⟩ = some (.bool cn) := (ht5).x rfl
           have x11 : w5.cell? ⟨w.heap.size, 11, none⟩ = some (.bool ov) := (ht5).x rfl
           have xz0 := (ht5).fx 0
           have xz1 := (ht5).fx 1
           have xz2 := (ht5).fx 2
           have xz3 := (ht5).fx 3
           have xz4 := (ht5).fx 4
           have xz5 := (ht5).fx 5
           have xz6 := (ht5).fx 6
           have xz7 := (ht5).fx 7
           have xz8 := (ht5).fx 8
           have xz9 := (ht5).fx 9
           have xz10 := (ht5).fx 10
           have xz11 := (ht5).fx 11
           have HP12 := hid (ht5.put12 (Nat.le_refl _) (Nat.le_refl _) (.slice vv t.ss.length k1) (.int .i64 t.lim) (.int .i64 t.status) (.int .i64 t.next) (.int .i64 t.began) (.int .i64 t.asked) (.int .i64 t.taken) (.bool t.fresh) (.slice uu t.jobs.length k2) (.slice cc9 t.clocks.length k3) (.bool t.cancel) (.bool t.overdue))
           have HO5 := hid (hO5.at ht5.hX (by decide) (((((((((((((At.refl w.heap.size w5).set 0 (.slice vv t.ss.length k1)).set 1 (.int .i64 t.lim)).set 2 (.int .i64 t.status)).set 3 (.int .i64 t.next)).set 4 (.int .i64 t.began)).set 5 (.int .i64 t.asked)).set 6 (.int .i64 t.taken)).set 7 (.bool t.fresh)).set 8 (.slice uu t.jobs.length k2)).set 9 (.slice cc9 t.clocks.length k3)).set 10 (.bool t.cancel)).set 11 (.bool t.overdue)))
           clear ht4 ht5 hbk hO5
           go_wp2_with fail
           go_meet
           exact ⟨rfl, rfl, rfl, rfl, .yes HR.out HP12.out HO5.out⟩
     ·
         have hk9 : kindF ⟨ss, lim, 0, id, bg, ak, tn, fr, js, cs, cn, ov⟩ (id, kd, tk, rf, sp, ty, ud, dt) = workF ⟨ss, lim, 0, id, bg, ak, tn, fr, js, cs, cn, ov⟩ (id, kd, tk, rf, sp, ty, ud, dt) := by unfold kindF; simp only [Ev.kd]; rw [if_neg (by omega), if_pos (by omega)]
         have q2 : (kd == 2) = false := by rw [hk]; rfl
         have q3 : (kd == 3) = false := by rw [hk]; rfl
         have q4 : (kd == 4) = false := by rw [hk]; rfl
         have q5 : (kd == 5) = false := by rw [hk]; rfl
         have q6 : (kd == 6) = false := by rw [hk]; rfl
         have q7 : (kd == 7) = true := by rw [hk]; rfl
         have q8 : (kd == 8) = false := by rw [hk]; rfl
         have q9 : (kd == 9) = false := by rw [hk]; rfl
         have q10 : (kd == 10) = false := by rw [hk]; rfl
         have q11 : (kd == 11) = false := by rw [hk]; rfl
         have HKD := hid hk
         clear hk
         have HK9 := hid hk9
         clear hk9
         go_wp2_with fail
         refine (work7_any ss lim 0 id bg ak tn fr js cs cn ov a3 a1 a2 c3 c1 c2 id kd tk rf sp ty ud dt w.heap.size w4 ht4.hs hO4 hj9 hl2 HKD.out).mono ?_
         rintro e' w5 ⟨hbk, hm⟩
         rw [← HK9.out] at hm
         clear HK9
         cases hR : kindF ⟨ss, lim, 0, id, bg, ak, tn, fr, js, cs, cn, ov⟩ (id, kd, tk, rf, sp, ty, ud, dt) with
         | none =>
           rw [hR] at hm
           simp only at hm
           have HR := hid hR
           clear hR hO4
           obtain ⟨s9, vv, uu, cc9, n1, n2, n3, k1, k2, k3, rfl⟩ := hm
           rw [show staV s9 (.slice vv n1 k1) (.slice uu n2 k2) (.slice cc9 n3 k3) = .agg #[.slice vv n1 k1, .int .i64 s9.lim, .int .i64 s9.status, .int .i64 s9.next, .int .i64 s9.began, .int .i64 s9.asked, .int .i64 s9.taken, .bool s9.fresh, .slice uu n2 k2, .slice cc9 n3 k3, .bool s9.cancel, .bool s9.overdue] from rfl]
           have ht5 := ht4.keep hbk (by decide)
           clear x0 x1 x2 x3 x4 x5 x6 x7 x8 x9 x10 x11 y0 y1 y2 y3 y4 y5 y6 y7
           have x0 : w5.cell? ⟨w.heap.size, 0, none⟩ = some (.slice a3 ss.length c3) := (ht5).x rfl
           have x1 : w5.cell? ⟨w.heap.size, 1, none⟩ = some (.int .i64 lim) := (ht5).x rfl
           have x2 : w5.cell? ⟨w.heap.size, 2, none⟩ = some (.int .i64 0) := (ht5).x rfl
           have x3 : w5.cell? ⟨w.heap.size, 3, none⟩ = some (.int .i64 id) := (ht5).x rfl
           have x4 : w5.cell? ⟨w.heap.size, 4, none⟩ = some (.int .i64 bg) := (ht5).x rfl
           have x5 : w5.cell? ⟨w.heap.size, 5, none⟩ = some (.int .i64 ak) := (ht5).x rfl
           have x6 : w5.cell? ⟨w.heap.size, 6, none⟩ = some (.int .i64 tn) := (ht5).x rfl
           have x7 : w5.cell? ⟨w.heap.size, 7, none⟩ = some (.bool fr) := (ht5).x rfl
           have x8 : w5.cell? ⟨w.heap.size, 8, none⟩ = some (.slice a1 js.length c1) := (ht5).x rfl
           have x9 : w5.cell? ⟨w.heap.size, 9, none⟩ = some (.slice a2 cs.length c2) := (ht5).x rfl
           have x10 : w5.cell? ⟨w.heap.size, 10, none⟩ = some (.bool cn) := (ht5).x rfl
           have x11 : w5.cell? ⟨w.heap.size, 11, none⟩ = some (.bool ov) := (ht5).x rfl
           have xz0 := (ht5).fx 0
           have xz1 := (ht5).fx 1
           have xz2 := (ht5).fx 2
           have xz3 := (ht5).fx 3
           have xz4 := (ht5).fx 4
           have xz5 := (ht5).fx 5
           have xz6 := (ht5).fx 6
           have xz7 := (ht5).fx 7
           have xz8 := (ht5).fx 8
           have xz9 := (ht5).fx 9
           have xz10 := (ht5).fx 10
           have xz11 := (ht5).fx 11
           have HP12 := hid (ht5.put12 (Nat.le_refl _) (Nat.le_refl _) (.slice vv n1 k1) (.int .i64 s9.lim) (.int .i64 s9.status) (.int .i64 s9.next) (.int .i64 s9.began) (.int .i64 s9.asked) (.int .i64 s9.taken) (.bool s9.fresh) (.slice uu n2 k2) (.slice cc9 n3 k3) (.bool s9.cancel) (.bool s9.overdue))
           clear ht4 ht5 hbk
           go_wp2_with fail
           go_meet
           exact ⟨rfl, rfl, rfl, rfl, .no HR.out HP12.out⟩
         | some t =>
           rw [hR] at hm
           simp only at hm
           have HR := hid hR
           clear hR hO4
           obtain ⟨vv, uu, cc9, k1, k2, k3, rfl, hO5⟩ := hm
           rw [show staV t (.slice vv t.ss.length k1) (.slice uu t.jobs.length k2) (.slice cc9 t.clocks.length k3) = .agg #[.slice vv t.ss.length k1, .int .i64 t.lim, .int .i64 t.status, .int .i64 t.next, .int .i64 t.began, .int .i64 t.asked, .int .i64 t.taken, .bool t.fresh, .slice uu t.jobs.length k2, .slice cc9 t.clocks.length k3, .bool t.cancel, .bool t.overdue] from rfl]
           have ht5 := ht4.keep hbk (by decide)
           clear x0 x1 x2 x3 x4 x5 x6 x7 x8 x9 x10 x11 y0 y1 y2 y3 y4 y5 y6 y7
           have x0 : w5.cell? ⟨w.heap.size, 0, none⟩ = some (.slice a3 ss.length c3) := (ht5).x rfl
           have x1 : w5.cell? ⟨w.heap.size, 1, none⟩ = some (.int .i64 lim) := (ht5).x rfl
           have x2 : w5.cell? ⟨w.heap.size, 2, none⟩ = some (.int .i64 0) := (ht5).x rfl
           have x3 : w5.cell? ⟨w.heap.size, 3, none⟩ = some (.int .i64 id) := (ht5).x rfl
           have x4 : w5.cell? ⟨w.heap.size, 4, none⟩ = some (.int .i64 bg) := (ht5).x rfl
           have x5 : w5.cell? ⟨w.heap.size, 5, none⟩ = some (.int .i64 ak) := (ht5).x rfl
           have x6 : w5.cell? ⟨w.heap.size, 6, none⟩ = some (.int .i64 tn) := (ht5).x rfl
           have x7 : w5.cell? ⟨w.heap.size, 7, none⟩ = some (.bool fr) := (ht5).x rfl
           have x8 : w5.cell? ⟨w.heap.size, 8, none⟩ = some (.slice a1 js.length c1) := (ht5).x rfl
           have x9 : w5.cell? ⟨w.heap.size, 9, none⟩ = some (.slice a2 cs.length c2) := (ht5).x rfl
           have x10 : w5.cell? ⟨w.heap.size, 10, none⟩ = some (.bool cn) := (ht5).x rfl
           have x11 : w5.cell? ⟨w.heap.size, 11, none⟩ = some (.bool ov) := (ht5).x rfl
           have xz0 := (ht5).fx 0
           have xz1 := (ht5).fx 1
           have xz2 := (ht5).fx 2
           have xz3 := (ht5).fx 3
           have xz4 := (ht5).fx 4
           have xz5 := (ht5).fx 5
           have xz6 := (ht5).fx 6
           have xz7 := (ht5).fx 7
           have xz8 := (ht5).fx 8
           have xz9 := (ht5).fx 9
           have xz10 := (ht5).fx 10
           have xz11 := (ht5).fx 11
           have HP12 := hid (ht5.put12 (Nat.le_refl _) (Nat.le_refl _) (.slice vv t.ss.length k1) (.int .i64 t.lim) (.int .i64 t.status) (.int .i64 t.next) (.int .i64 t.began) (.int .i64 t.asked) (.int .i64 t.taken) (.bool t.fresh) (.slice uu t.jobs.length k2) (.slice cc9 t.clocks.length k3) (.bool t.cancel) (.bool t.overdue))
           have HO5 := hid (hO5.at ht5.hX (by decide) (((((((((((((At.refl w.heap.size w5).set 0 (.slice vv t.ss.length k1)).set 1 (.int .i64 t.lim)).set 2 (.int .i64 t.status)).set 3 (.int .i64 t.next)).set 4 (.int .i64 t.began)).set 5 (.int .i64 t.asked)).set 6 (.int .i64 t.taken)).set 7 (.bool t.fresh)).set 8 (.slice uu t.jobs.length k2)).set 9 (.slice cc9 t.clocks.length k3)).set 10 (.bool t.cancel)).set 11 (.bool t.overdue)))
           clear ht4 ht5 hbk hO5
           go_wp2_with fail
           go_meet
           exact ⟨rfl, rfl, rfl, rfl, .yes HR.out HP12.out HO5.out⟩
   case rest =>
     obtain ⟨rfl, rfl, rfl, rfl, hcut⟩ := hcut
     rcases hcut with ⟨hR, rfl, X', ht5⟩ | ⟨t, vv, uu, cc9, k1, k2, k3, hR, rfl, ht5, hO5⟩
     · have HA := hid (hA1.out hR)
       clear hR hA1 hA2 y1
       have z0 : wc.cell? ⟨w.heap.size + 1 + 1, 0, none⟩ = some (.slice none 0 0) := (ht5).z rfl
       have zf0 := (ht5).fz 0
       have z1 : wc.cell? ⟨w.heap.size + 1 + 1, 1, none⟩ = some (.int .i64 0) := (ht5).z rfl
       have zf1 := (ht5).fz 1
       have z2 : wc.cell? ⟨w.heap.size + 1 + 1, 2, none⟩ = some (.int .i64 0) := (ht5).z rfl
       have zf2 := (ht5).fz 2
       have z3 : wc.cell? ⟨w.heap.size + 1 + 1, 3, none⟩ = some (.int .i64 0) := (ht5).z rfl
       have zf3 := (ht5).fz 3
       have z4 : wc.cell? ⟨w.heap.size + 1 + 1, 4, none⟩ = some (.int .i64 0) := (ht5).z rfl
       have zf4 := (ht5).fz 4
       have z5 : wc.cell? ⟨w.heap.size + 1 + 1, 5, none⟩ = some (.int .i64 0) := (ht5).z rfl
       have zf5 := (ht5).fz 5
       have z6 : wc.cell? ⟨w.heap.size + 1 + 1, 6, none⟩ = some (.int .i64 0) := (ht5).z rfl
       have zf6 := (ht5).fz 6
       have z7 : wc.cell? ⟨w.heap.size + 1 + 1, 7, none⟩ = some (.bool false) := (ht5).z rfl
       have zf7 := (ht5).fz 7
       have z8 : wc.cell? ⟨w.heap.size + 1 + 1, 8, none⟩ = some (.slice none 0 0) := (ht5).z rfl
       have zf8 := (ht5).fz 8
       have z9 : wc.cell? ⟨w.heap.size + 1 + 1, 9, none⟩ = some (.slice none 0 0) := (ht5).z rfl
       have zf9 := (ht5).fz 9
       have z10 : wc.cell? ⟨w.heap.size + 1 + 1, 10, none⟩ = some (.bool false) := (ht5).z rfl
       have zf10 := (ht5).fz 10
       have z11 : wc.cell? ⟨w.heap.size + 1 + 1, 11, none⟩ = some (.bool false) := (ht5).z rfl
       have zf11 := (ht5).fz 11
       have HB := hid ((ht5).hb.at (((((((((((((At.refl (w.heap.size + 1 + 1) wc).set 0 (.slice none 0 0)).set 1 (.int .i64 0)).set 2 (.int .i64 0)).set 3 (.int .i64 0)).set 4 (.int .i64 0)).set 5 (.int .i64 0)).set 6 (.int .i64 0)).set 7 (.bool false)).set 8 (.slice none 0 0)).set 9 (.slice none 0 0)).set 10 (.bool false)).set 11 (.bool false)) (ht5).hs (Nat.le_refl _) (by omega)).below
       go_wp2_with fail
       refine bodyPost_ret (v := .tuple #[.agg #[.slice none 0 0, .int .i64 0, .int .i64 0, .int .i64 0, .int .i64 0, .int .i64 0, .int .i64 0, .bool false, .slice none 0 0, .slice none 0 0, .bool false, .bool false], .int .i64 120]) ?_ rfl (by rw [HA.out]; exact ⟨HB.out, none, none, none, 0, 0, 0, rfl, StO.none _ _ s0 rfl rfl rfl⟩)
       rw [results_cell_tmp rfl]
       go_simp
     · clear y1
       have hnext : t.next = id := kind_next hR
       have HA := hid (hA2.out t hR)
       have x3 : wc.cell? ⟨w.heap.size, 3, none⟩ = some (.int .i64 id) := by
         have := ht5.x (j := 3) (v := .int .i64 t.next) rfl
         rw [hnext] at this
         exact this
       have xz3 := (ht5).fx 3
       have a6 : At w.heap.size wc (wc.setCell ⟨w.heap.size, 3, none⟩ (.int .i64 (id + 1))) := (At.refl _ wc).set 3 _
       have hO6 := hO5.at ht5.hX (by decide) a6
       have ht6 : T3 w.heap.size w (wc.setCell ⟨w.heap.size, 3, none⟩ (.int .i64 (id + 1))) w.heap.size #[.slice vv t.ss.length k1, .int .i64 t.lim, .int .i64 t.status, .int .i64 (id + 1), .int .i64 t.began, .int .i64 t.asked, .int .i64 t.taken, .bool t.fresh, .slice uu t.jobs.length k2, .slice cc9 t.clocks.length k3, .bool t.cancel, .bool t.overdue] #[.int .i64 id, .int .i64 kd, .int .i64 tk, .int .i64 rf, .int .i64 sp, .int .i64 ty, .bool ud, .string ⟨dt.toArray⟩] #[.slice none 0 0, .int .i64 0, .int .i64 0, .int .i64 0, .int .i64 0, .int .i64 0, .int .i64 0, .bool false, .slice none 0 0, .slice none 0 0, .bool false, .bool false] 36 23 := (ht5.set (Nat.le_refl _) 3 (.int .i64 (id + 1))).row (by kernel_rfl)
       clear hR hnext hA1 hA2
       have w0x : (wc.setCell ⟨w.heap.size, 3, none⟩ (.int .i64 (id + 1))).cell? ⟨w.heap.size, 0, none⟩ = some (.slice vv t.ss.length k1) := (ht6).x rfl
       have w1x : (wc.setCell ⟨w.heap.size, 3, none⟩ (.int .i64 (id + 1))).cell? ⟨w.heap.size, 1, none⟩ = some (.int .i64 t.lim) := (ht6).x rfl
       have w2x : (wc.setCell ⟨w.heap.size, 3, none⟩ (.int .i64 (id + 1))).cell? ⟨w.heap.size, 2, none⟩ = some (.int .i64 t.status) := (ht6).x rfl
       have w3x : (wc.setCell ⟨w.heap.size, 3, none⟩ (.int .i64 (id + 1))).cell? ⟨w.heap.size, 3, none⟩ = some (.int .i64 (id + 1)) := (ht6).x rfl
       have w4x : (wc.setCell ⟨w.heap.size, 3, none⟩ (.int .i64 (id + 1))).cell? ⟨w.heap.size, 4, none⟩ = some (.int .i64 t.began) := (ht6).x rfl
       have w5x : (wc.setCell ⟨w.heap.size, 3, none⟩ (.int .i64 (id + 1))).cell? ⟨w.heap.size, 5, none⟩ = some (.int .i64 t.asked) := (ht6).x rfl
       have w6x : (wc.setCell ⟨w.heap.size, 3, none⟩ (.int .i64 (id + 1))).cell? ⟨w.heap.size, 6, none⟩ = some (.int .i64 t.taken) := (ht6).x rfl
       have w7x : (wc.setCell ⟨w.heap.size, 3, none⟩ (.int .i64 (id + 1))).cell? ⟨w.heap.size, 7, none⟩ = some (.bool t.fresh) := (ht6).x rfl
       have w8x : (wc.setCell ⟨w.heap.size, 3, none⟩ (.int .i64 (id + 1))).cell? ⟨w.heap.size, 8, none⟩ = some (.slice uu t.jobs.length k2) := (ht6).x rfl
       have w9x : (wc.setCell ⟨w.heap.size, 3, none⟩ (.int .i64 (id + 1))).cell? ⟨w.heap.size, 9, none⟩ = some (.slice cc9 t.clocks.length k3) := (ht6).x rfl
       have w10x : (wc.setCell ⟨w.heap.size, 3, none⟩ (.int .i64 (id + 1))).cell? ⟨w.heap.size, 10, none⟩ = some (.bool t.cancel) := (ht6).x rfl
       have w11x : (wc.setCell ⟨w.heap.size, 3, none⟩ (.int .i64 (id + 1))).cell? ⟨w.heap.size, 11, none⟩ = some (.bool t.overdue) := (ht6).x rfl
       have z0 : (wc.setCell ⟨w.heap.size, 3, none⟩ (.int .i64 (id + 1))).cell? ⟨w.heap.size + 1 + 1, 0, none⟩ = some (.slice none 0 0) := (ht6).z rfl
       have zf0 := (ht6).fz 0
       have z1 : (wc.setCell ⟨w.heap.size, 3, none⟩ (.int .i64 (id + 1))).cell? ⟨w.heap.size + 1 + 1, 1, none⟩ = some (.int .i64 0) := (ht6).z rfl
       have zf1 := (ht6).fz 1
       have z2 : (wc.setCell ⟨w.heap.size, 3, none⟩ (.int .i64 (id + 1))).cell? ⟨w.heap.size + 1 + 1, 2, none⟩ = some (.int .i64 0) := (ht6).z rfl
       have zf2 := (ht6).fz 2
       have z3 : (wc.setCell ⟨w.heap.size, 3, none⟩ (.int .i64 (id + 1))).cell? ⟨w.heap.size + 1 + 1, 3, none⟩ = some (.int .i64 0) := (ht6).z rfl
       have zf3 := (ht6).fz 3
       have z4 : (wc.setCell ⟨w.heap.size, 3, none⟩ (.int .i64 (id + 1))).cell? ⟨w.heap.size + 1 + 1, 4, none⟩ = some (.int .i64 0) := (ht6).z rfl
       have zf4 := (ht6).fz 4
       have z5 : (wc.setCell ⟨w.heap.size, 3, none⟩ (.int .i64 (id + 1))).cell? ⟨w.heap.size + 1 + 1, 5, none⟩ = some (.int .i64 0) := (ht6).z rfl
       have zf5 := (ht6).fz 5
       have z6 : (wc.setCell ⟨w.heap.size, 3, none⟩ (.int .i64 (id + 1))).cell? ⟨w.heap.size + 1 + 1, 6, none⟩ = some (.int .i64 0) := (ht6).z rfl
       have zf6 := (ht6).fz 6
       have z7 : (wc.setCell ⟨w.heap.size, 3, none⟩ (.int .i64 (id + 1))).cell? ⟨w.heap.size + 1 + 1, 7, none⟩ = some (.bool false) := (ht6).z rfl
       have zf7 := (ht6).fz 7
       have z8 : (wc.setCell ⟨w.heap.size, 3, none⟩ (.int .i64 (id + 1))).cell? ⟨w.heap.size + 1 + 1, 8, none⟩ = some (.slice none 0 0) := (ht6).z rfl
       have zf8 := (ht6).fz 8
       have z9 : (wc.setCell ⟨w.heap.size, 3, none⟩ (.int .i64 (id + 1))).cell? ⟨w.heap.size + 1 + 1, 9, none⟩ = some (.slice none 0 0) := (ht6).z rfl
       have zf9 := (ht6).fz 9
       have z10 : (wc.setCell ⟨w.heap.size, 3, none⟩ (.int .i64 (id + 1))).cell? ⟨w.heap.size + 1 + 1, 10, none⟩ = some (.bool false) := (ht6).z rfl
       have zf10 := (ht6).fz 10
       have z11 : (wc.setCell ⟨w.heap.size, 3, none⟩ (.int .i64 (id + 1))).cell? ⟨w.heap.size + 1 + 1, 11, none⟩ = some (.bool false) := (ht6).z rfl
       have zf11 := (ht6).fz 11
       have HB := hid (ht6.hb.at (((((((((((((At.refl (w.heap.size + 1 + 1) (wc.setCell ⟨w.heap.size, 3, none⟩ (.int .i64 (id + 1)))).set 0 (.slice vv t.ss.length k1)).set 1 (.int .i64 t.lim)).set 2 (.int .i64 t.status)).set 3 (.int .i64 (id + 1))).set 4 (.int .i64 t.began)).set 5 (.int .i64 t.asked)).set 6 (.int .i64 t.taken)).set 7 (.bool t.fresh)).set 8 (.slice uu t.jobs.length k2)).set 9 (.slice cc9 t.clocks.length k3)).set 10 (.bool t.cancel)).set 11 (.bool t.overdue)) ht6.hs (Nat.le_refl _) (by omega)).below
       have HO := hid ((hO6.at ht6.hZ (by decide) (((((((((((((At.refl (w.heap.size + 1 + 1) (wc.setCell ⟨w.heap.size, 3, none⟩ (.int .i64 (id + 1)))).set 0 (.slice vv t.ss.length k1)).set 1 (.int .i64 t.lim)).set 2 (.int .i64 t.status)).set 3 (.int .i64 (id + 1))).set 4 (.int .i64 t.began)).set 5 (.int .i64 t.asked)).set 6 (.int .i64 t.taken)).set 7 (.bool t.fresh)).set 8 (.slice uu t.jobs.length k2)).set 9 (.slice cc9 t.clocks.length k3)).set 10 (.bool t.cancel)).set 11 (.bool t.overdue))).like (s' := { t with next := id + 1 }) rfl rfl rfl)
       clear ht5 ht6 hO5 hO6 a6
       go_wp2_with fail
       refine bodyPost_ret (v := .tuple #[.agg #[.slice vv t.ss.length k1, .int .i64 t.lim, .int .i64 t.status, .int .i64 (id + 1), .int .i64 t.began, .int .i64 t.asked, .int .i64 t.taken, .bool t.fresh, .slice uu t.jobs.length k2, .slice cc9 t.clocks.length k3, .bool t.cancel, .bool t.overdue], .int .i64 0]) ?_ rfl (by rw [HA.out]; exact ⟨HB.out, vv, uu, cc9, k1, k2, k3, rfl, HO.out⟩)
       rw [results_cell_tmp rfl]
       go_simp
set_option maxHeartbeats 64000000 in
set_option maxRecDepth 100000 in
theorem apply_g3 (ss : List St) (lim st nx bg ak tn : Int) (fr : Bool) (js : List Jb) (cs : List Ck) (cn ov : Bool) (va ua ca : Option Addr) (vc uc cc : Nat) (id kd tk rf sp ty : Int) (ud : Bool) (dt : List UInt8) (w : World) (hr : StR w ⟨ss, lim, st, nx, bg, ak, tn, fr, js, cs, cn, ov⟩ (.slice va ss.length vc) (.slice ua js.length uc) (.slice ca cs.length cc)) (hok : SOK ⟨ss, lim, st, nx, bg, ak, tn, fr, js, cs, cn, ov⟩) (hdt : dt.length ≤ 140737488355328) (hkk : 8 ≤ kd ∧ kd ≤ 9) (hP : EvP (id, kd, tk, rf, sp, ty, ud, dt)) (hn : ¬ nx = 0) (hs : st = 0) (hi : id = nx) :
   Calls Try.prog 22 #[.agg #[.slice va ss.length vc, .int .i64 lim, .int .i64 st, .int .i64 nx, .int .i64 bg, .int .i64 ak, .int .i64 tn, .bool fr, .slice ua js.length uc, .slice ca cs.length cc, .bool cn, .bool ov], .agg #[.int .i64 id, .int .i64 kd, .int .i64 tk, .int .i64 rf, .int .i64 sp, .int .i64 ty, .bool ud, .string ⟨dt.toArray⟩]] w fun e' w' => APost w.heap.size w (applyF ⟨ss, lim, st, nx, bg, ak, tn, fr, js, cs, cn, ov⟩ (id, kd, tk, rf, sp, ty, ud, dt)) e' w' := by
 obtain ⟨⟨hl1, hl2, hl3⟩, hj9, ⟨hbg, hlm⟩, hwt, hnx⟩ := hok
 simp only at hl1 hl2 hl3 hj9 hbg hlm hwt hnx
 have htk : 0 ≤ tk ∧ tk ≤ 1099511627776 := hP.2.2.1
 have hkd : 1 ≤ kd ∧ kd ≤ 18 := hP.1
 have hEV := hid (show evV (id, kd, tk, rf, sp, ty, ud, dt) = 0 by unfold evV; rw [if_pos hP])
 have hqn : (nx == 0) = false := by simpa using hn
 have hA1 := hid (fun (hk : kindF ⟨ss, lim, st, nx, bg, ak, tn, fr, js, cs, cn, ov⟩ (id, kd, tk, rf, sp, ty, ud, dt) = none) => (show applyF ⟨ss, lim, st, nx, bg, ak, tn, fr, js, cs, cn, ov⟩ (id, kd, tk, rf, sp, ty, ud, dt) = (s0, 120) by
   unfold applyF
   rw [if_neg (not_not_intro hP), if_neg (show ¬ (⟨ss, lim, st, nx, bg, ak, tn, fr, js, cs, cn, ov⟩ : Sta).next = 0 from hn), if_neg (not_not_intro (show (⟨ss, lim, st, nx, bg, ak, tn, fr, js, cs, cn, ov⟩ : Sta).status = 0 from hs)), if_neg (not_not_intro (show Ev.id (id, kd, tk, rf, sp, ty, ud, dt) = (⟨ss, lim, st, nx, bg, ak, tn, fr, js, cs, cn, ov⟩ : Sta).next from hi)), hk]))
 have hA2 := hid (fun (t : Sta) (hk : kindF ⟨ss, lim, st, nx, bg, ak, tn, fr, js, cs, cn, ov⟩ (id, kd, tk, rf, sp, ty, ud, dt) = some t) => (show applyF ⟨ss, lim, st, nx, bg, ak, tn, fr, js, cs, cn, ov⟩ (id, kd, tk, rf, sp, ty, ud, dt) = ({ t with next := nx + 1 }, 0) by
   unfold applyF
   rw [if_neg (not_not_intro hP), if_neg (show ¬ (⟨ss, lim, st, nx, bg, ak, tn, fr, js, cs, cn, ov⟩ : Sta).next = 0 from hn), if_neg (not_not_intro (show (⟨ss, lim, st, nx, bg, ak, tn, fr, js, cs, cn, ov⟩ : Sta).status = 0 from hs)), if_neg (not_not_intro (show Ev.id (id, kd, tk, rf, sp, ty, ud, dt) = (⟨ss, lim, st, nx, bg, ak, tn, fr, js, cs, cn, ov⟩ : Sta).next from hi)), hk]))
 clear hP hn
 subst hs
 subst hi
 obtain ⟨W, hW, hS, hE, hR, bW, sW⟩ := lay3 w #[.slice va ss.length vc, .int .i64 lim, .int .i64 0, .int .i64 id, .int .i64 bg, .int .i64 ak, .int .i64 tn, .bool fr, .slice ua js.length uc, .slice ca cs.length cc, .bool cn, .bool ov] #[.int .i64 id, .int .i64 kd, .int .i64 tk, .int .i64 rf, .int .i64 sp, .int .i64 ty, .bool ud, .string ⟨dt.toArray⟩] #[.slice none 0 0, .int .i64 0, .int .i64 0, .int .i64 0, .int .i64 0, .int .i64 0, .int .i64 0, .bool false, .slice none 0 0, .slice none 0 0, .bool false, .bool false] 36 23 36
 have ht : T3 w.heap.size w W w.heap.size #[.slice va ss.length vc, .int .i64 lim, .int .i64 0, .int .i64 id, .int .i64 bg, .int .i64 ak, .int .i64 tn, .bool fr, .slice ua js.length uc, .slice ca cs.length cc, .bool cn, .bool ov] #[.int .i64 id, .int .i64 kd, .int .i64 tk, .int .i64 rf, .int .i64 sp, .int .i64 ty, .bool ud, .string ⟨dt.toArray⟩] #[.slice none 0 0, .int .i64 0, .int .i64 0, .int .i64 0, .int .i64 0, .int .i64 0, .int .i64 0, .bool false, .slice none 0 0, .slice none 0 0, .bool false, .bool false] 36 23 := ⟨hS, hE, hR, BK.of (Nat.le_refl _) bW, by omega⟩
 have HW := hid hW
 clear hW hS hE hR sW bW
 go_enter Try.func22, Try.ntmps22
 go_wp2_with fail
 rw [← HW.out]
 clear HW
 refine (echeck_any id kd tk rf sp ty ud dt hdt W).mono ?_
 rintro _ w1 ⟨rfl, b1⟩
 rw [hEV.out]
 have ht1 := ht.below b1
 clear ht b1
 have x2 : w1.cell? ⟨w.heap.size, 2, none⟩ = some (.int .i64 0) := (ht1).x rfl
 have x3 : w1.cell? ⟨w.heap.size, 3, none⟩ = some (.int .i64 id) := (ht1).x rfl
 have x8 : w1.cell? ⟨w.heap.size, 8, none⟩ = some (.slice ua js.length uc) := (ht1).x rfl
 have x9 : w1.cell? ⟨w.heap.size, 9, none⟩ = some (.slice ca cs.length cc) := (ht1).x rfl
 have xz8 := (ht1).fx 8
 have xz9 := (ht1).fx 9
 have y0 : w1.cell? ⟨w.heap.size + 1, 0, none⟩ = some (.int .i64 id) := (ht1).y rfl
 have hr0 := hr
 have hr1 := hr.below (ht1.hb.below)
 have hbs := ht1.hs
 have hX1 := ht1.hX
 clear hr
 go_upto_region 12 with (fail)
 go_cut [2, 3, 4, 5] (fun s2 s3 s4 s5 wx => s2 = .pointer (some ⟨w.heap.size, 0, none⟩) ∧ s3 = .pointer (some ⟨w.heap.size + 1, 0, none⟩) ∧ s4 = .pointer (some ⟨w.heap.size + 1 + 1, 0, none⟩) ∧ s5 = .int .i64 0 ∧ ∃ (a1 a2 : Option Addr) (c1 c2 : Nat), T3 w.heap.size w wx w.heap.size #[.slice va ss.length vc, .int .i64 lim, .int .i64 0, .int .i64 id, .int .i64 bg, .int .i64 ak, .int .i64 tn, .bool fr, .slice a1 js.length c1, .slice a2 cs.length c2, .bool cn, .bool ov] #[.int .i64 id, .int .i64 kd, .int .i64 tk, .int .i64 rf, .int .i64 sp, .int .i64 ty, .bool ud, .string ⟨dt.toArray⟩] #[.slice none 0 0, .int .i64 0, .int .i64 0, .int .i64 0, .int .i64 0, .int .i64 0, .int .i64 0, .bool false, .slice none 0 0, .slice none 0 0, .bool false, .bool false] 36 23 ∧ wx.ownsRow w.heap.size 79 4 (.slice a1 js.length c1) js.length (js.flatMap jbC) ∧ wx.ownsRow w.heap.size 84 3 (.slice a2 cs.length c2) cs.length (cs.flatMap ckC))
 case first =>
   go_region_law (first
     | (go_simp; go_at_call 45; refine (cloneJ_any ua uc js hl2 _ (by first | exact StR.hj (by assumption) | exact Sl.below (StR.hj (by assumption)) (below_drewN _ _ 1))).mono ?_; rintro _ wz ⟨q1, q2, rfl, own0, bz0⟩; have htz := T3.below (by assumption) (by first | exact bz0 | exact below_of_drewN (n := 1) bz0); have hrz := StR.below (by assumption) (by first | exact bz0 | exact below_of_drewN (n := 1) bz0); have hoj := own_mono own0 (by first | exact hbs | exact T3.hs (by assumption)); (try (have hoc := own_new hoc (by first | exact bz0 | exact below_of_drewN (n := 1) bz0))); have x8 : wz.cell? ⟨w.heap.size, 8, none⟩ = some (.slice ua js.length uc) := (htz).x rfl; have xz8 := (htz).fx 8; have x9 : wz.cell? ⟨w.heap.size, 9, none⟩ = some (.slice ca cs.length cc) := (htz).x rfl; have xz9 := (htz).fx 9)
     | (go_simp; go_at_call 46; refine (cloneC_any ca cc cs hl3 _ (by first | exact StR.hc (by assumption) | exact Sl.below (StR.hc (by assumption)) (below_drewN _ _ 1))).mono ?_; rintro _ wz ⟨q1, q2, rfl, own0, bz0⟩; have htz := T3.below (by assumption) (by first | exact bz0 | exact below_of_drewN (n := 1) bz0); have hrz := StR.below (by assumption) (by first | exact bz0 | exact below_of_drewN (n := 1) bz0); have hoc := own_mono own0 (by first | exact hbs | exact T3.hs (by assumption)); (try (have hoj := own_new hoj (by first | exact bz0 | exact below_of_drewN (n := 1) bz0))); have x8 : wz.cell? ⟨w.heap.size, 8, none⟩ = some (.slice ua js.length uc) := (htz).x rfl; have xz8 := (htz).fx 8; have x9 : wz.cell? ⟨w.heap.size, 9, none⟩ = some (.slice ca cs.length cc) := (htz).x rfl; have xz9 := (htz).fx 9))
   all_goals first
     | (go_wp2_with fail; go_meet; exact ⟨rfl, rfl, rfl, rfl, _, _, _, _, T3.set (T3.set (by assumption) (Nat.le_refl _) 8 _) (Nat.le_refl _) 9 _, own_at_row hoj (T3.hX (by assumption)) (by decide) (((At.refl _ _).set 8 _).set 9 _), own_at_row hoc (T3.hX (by assumption)) (by decide) (((At.refl _ _).set 8 _).set 9 _)⟩)
     | (go_wp2_with fail; go_meet; exact ⟨rfl, rfl, rfl, rfl, _, _, _, _, T3.set (T3.set (by assumption) (Nat.le_refl _) 9 _) (Nat.le_refl _) 8 _, own_at_row hoj (T3.hX (by assumption)) (by decide) (((At.refl _ _).set 9 _).set 8 _), own_at_row hoc (T3.hX (by assumption)) (by decide) (((At.refl _ _).set 9 _).set 8 _)⟩)
 case rest =>
   obtain ⟨rfl, rfl, rfl, rfl, a1, a2, c1, c2, ht2, hoj, hoc⟩ := hcut
   clear x2 x3 x8 x9 xz8 xz9 y0 ht1 hX1
   have hrs := hr0.hs.below ht2.hb.below
   have x0 : wc.cell? ⟨w.heap.size, 0, none⟩ = some (.slice va ss.length vc) := (ht2).x rfl
   go_wp2_with fail
   refine (cloneS_any va vc ss hl1 wc hrs).mono ?_
   rintro _ w3 ⟨a3, c3, rfl, hos, b3⟩
   have hos3 := own_mono hos ht2.hs
   have ht3 := ht2.below b3
   have hoj3 := own_new hoj b3
   have hoc3 := own_new hoc b3
   clear hos ht2 hoj hoc b3 x0 hrs
   have x0 : w3.cell? ⟨w.heap.size, 0, none⟩ = some (.slice va ss.length vc) := (ht3).x rfl
   have xz0 := (ht3).fx 0
   have ht4 := ht3.set (Nat.le_refl _) 0 (.slice a3 ss.length c3)
   have aw : At w.heap.size w3 (w3.setCell ⟨w.heap.size, 0, none⟩ (.slice a3 ss.length c3)) := (At.refl _ w3).set 0 _
   have hO4 : StO (w3.setCell ⟨w.heap.size, 0, none⟩ (.slice a3 ss.length c3)) w.heap.size ⟨ss, lim, 0, id, bg, ak, tn, fr, js, cs, cn, ov⟩ (.slice a3 ss.length c3) (.slice a1 js.length c1) (.slice a2 cs.length c2) := ⟨own_at_row hos3 ht3.hX (by decide) aw, own_at_row hoj3 ht3.hX (by decide) aw, own_at_row hoc3 ht3.hX (by decide) aw⟩
   go_upto_region 14 with (fail)
   obtain ⟨w4, hw4⟩ : ∃ x, x = w3.setCell ⟨w.heap.size, 0, none⟩ (.slice a3 ss.length c3) := ⟨_, rfl⟩
   rw [← hw4] at ht4 hO4 ⊢
   clear hw4 aw hos3 hoj3 hoc3 ht3 x0 xz0
   have y1 : w4.cell? ⟨w.heap.size + 1, 1, none⟩ = some (.int .i64 kd) := (ht4).y rfl
   go_upto_block 0 with (fail)
   go_cut [2, 3, 4, 5, 8] (fun s2 s3 s4 s5 s8 wx => s2 = .pointer (some ⟨w.heap.size, 0, none⟩) ∧ s3 = .pointer (some ⟨w.heap.size + 1, 0, none⟩) ∧ s4 = .pointer (some ⟨w.heap.size + 1 + 1, 0, none⟩) ∧ s5 = .int .i64 0 ∧ AftP w ⟨ss, lim, 0, id, bg, ak, tn, fr, js, cs, cn, ov⟩ (id, kd, tk, rf, sp, ty, ud, dt) #[.int .i64 id, .int .i64 kd, .int .i64 tk, .int .i64 rf, .int .i64 sp, .int .i64 ty, .bool ud, .string ⟨dt.toArray⟩] s8 wx)
   case first =>
     have x0 : w4.cell? ⟨w.heap.size, 0, none⟩ = some (.slice a3 ss.length c3) := (ht4).x rfl
     have x1 : w4.cell? ⟨w.heap.size, 1, none⟩ = some (.int .i64 lim) := (ht4).x rfl
     have x2 : w4.cell? ⟨w.heap.size, 2, none⟩ = some (.int .i64 0) := (ht4).x rfl
     have x3 : w4.cell? ⟨w.heap.size, 3, none⟩ = some (.int .i64 id) := (ht4).x rfl
     have x4 : w4.cell? ⟨w.heap.size, 4, none⟩ = some (.int .i64 bg) := (ht4).x rfl
     have x5 : w4.cell? ⟨w.heap.size, 5, none⟩ = some (.int .i64 ak) := (ht4).x rfl
     have x6 : w4.cell? ⟨w.heap.size, 6, none⟩ = some (.int .i64 tn) := (ht4).x rfl
     have x7 : w4.cell? ⟨w.heap.size, 7, none⟩ = some (.bool fr) := (ht4).x rfl
     have x8 : w4.cell? ⟨w.heap.size, 8, none⟩ = some (.slice a1 js.length c1) := (ht4).x rfl
     have x9 : w4.cell? ⟨w.heap.size, 9, none⟩ = some (.slice a2 cs.length c2) := (ht4).x rfl
     have x10 : w4.cell? ⟨w.heap.size, 10, none⟩ = some (.bool cn) := (ht4).x rfl
     have x11 : w4.cell? ⟨w.heap.size, 11, none⟩ = some (.bool ov) := (ht4).x rfl
     have y0 : w4.cell? ⟨w.heap.size + 1, 0, none⟩ = some (.int .i64 id) := (ht4).y rfl
     have y2 : w4.cell? ⟨w.heap.size + 1, 2, none⟩ = some (.int .i64 tk) := (ht4).y rfl
     have y3 : w4.cell? ⟨w.heap.size + 1, 3, none⟩ = some (.int .i64 rf) := (ht4).y rfl
     have y4 : w4.cell? ⟨w.heap.size + 1, 4, none⟩ = some (.int .i64 sp) := (ht4).y rfl
     have y5 : w4.cell? ⟨w.heap.size + 1, 5, none⟩ = some (.int .i64 ty) := (ht4).y rfl
     have y6 : w4.cell? ⟨w.heap.size + 1, 6, none⟩ = some (.bool ud) := (ht4).y rfl
     have y7 : w4.cell? ⟨w.heap.size + 1, 7, none⟩ = some (.string ⟨dt.toArray⟩) := (ht4).y rfl
     rcases (by omega : kd = 8 ∨ kd = 9) with hk | hk
     ·
         have hk9 : kindF ⟨ss, lim, 0, id, bg, ak, tn, fr, js, cs, cn, ov⟩ (id, kd, tk, rf, sp, ty, ud, dt) = workF ⟨ss, lim, 0, id, bg, ak, tn, fr, js, cs, cn, ov⟩ (id, kd, tk, rf, sp, ty, ud, dt) := by unfold kindF; simp only [Ev.kd]; rw [if_neg (by omega), if_pos (by omega)]
         have q2 : (kd == 2) = false := by rw [hk]; rfl
         have q3 : (kd == 3) = false := by rw [hk]; rfl
         have q4 : (kd == 4) = false := by rw [hk]; rfl
         have q5 : (kd == 5) = false := by rw [hk]; rfl
         have q6 : (kd == 6) = false := by rw [hk]; rfl
         have q7 : (kd == 7) = false := by rw [hk]; rfl
         have q8 : (kd == 8) = true := by rw [hk]; rfl
         have q9 : (kd == 9) = false := by rw [hk]; rfl
         have q10 : (kd == 10) = false := by rw [hk]; rfl
         have q11 : (kd == 11) = false := by rw [hk]; rfl
         have HKD := hid hk
         clear hk
         have HK9 := hid hk9
         clear hk9
         go_wp2_with fail
         refine (work8_any ss lim 0 id bg ak tn fr js cs cn ov a3 a1 a2 c3 c1 c2 id kd tk rf sp ty ud dt w.heap.size w4 ht4.hs hO4 hj9 hl2 HKD.out).mono ?_
         rintro e' w5 ⟨hbk, hm⟩
         rw [← HK9.out] at hm
         clear HK9
         cases hR : kindF ⟨ss, lim, 0, id, bg, ak, tn, fr, js, cs, cn, ov⟩ (id, kd, tk, rf, sp, ty, ud, dt) with
         | none =>
           rw [hR] at hm
           simp only at hm
           have HR := hid hR
           clear hR hO4
           obtain ⟨s9, vv, uu, cc9, n1, n2, n3, k1, k2, k3, rfl⟩ := hm
           rw [show staV s9 (.slice vv n1 k1) (.slice uu n2 k2) (.slice cc9 n3 k3) = .agg #[.slice vv n1 k1, .int .i64 s9.lim, .int .i64 s9.status, .int .i64 s9.next, .int .i64 s9.began, .int .i64 s9.asked, .int .i64 s9.taken, .bool s9.fresh, .slice uu n2 k2, .slice cc9 n3 k3, .bool s9.cancel, .bool s9.overdue] from rfl]
           have ht5 := ht4.keep hbk (by decide)
           clear x0 x1 x2 x3 x4 x5 x6 x7 x8 x9 x10 x11 y0 y1 y2 y3 y4 y5 y6 y7
           have x0 : w5.cell? ⟨w.heap.size, 0, none⟩ = some (.slice a3 ss.length c3) := (ht5).x rfl
           have x1 : w5.cell? ⟨w.heap.size, 1, none⟩ = some (.int .i64 lim) := (ht5).x rfl
           have x2 : w5.cell? ⟨w.heap.size, 2, none⟩ = some (.int .i64 0) := (ht5).x rfl
           have x3 : w5.cell? ⟨w.heap.size, 3, none⟩ = some (.int .i64 id) := (ht5).x rfl
           have x4 : w5.cell? ⟨w.heap.size, 4, none⟩ = some (.int .i64 bg) := (ht5).x rfl
           have x5 : w5.cell? ⟨w.heap.size, 5, none⟩ = some (.int .i64 ak) := (ht5).x rfl
           have x6 : w5.cell? ⟨w.heap.size, 6, none⟩ = some (.int .i64 tn) := (ht5).x rfl
           have x7 : w5.cell? ⟨w.heap.size, 7, none⟩ = some (.bool fr) := (ht5).x rfl
           have x8 : w5.cell? ⟨w.heap.size, 8, none⟩ = some (.slice a1 js.length c1) := (ht5).x rfl
           have x9 : w5.cell? ⟨w.heap.size, 9, none⟩ = some (.slice a2 cs.length c2) := (ht5).x rfl
           have x10 : w5.cell? ⟨w.heap.size, 10, none⟩ = some (.bool cn) := (ht5).x rfl
           have x11 : w5.cell? ⟨w.heap.size, 11, none⟩ = some (.bool ov) := (ht5).x rfl
           have xz0 := (ht5).fx 0
           have xz1 := (ht5).fx 1
           have xz2 := (ht5).fx 2
           have xz3 := (ht5).fx 3
           have xz4 := (ht5).fx 4
           have xz5 := (ht5).fx 5
           have xz6 := (ht5).fx 6
           have xz7 := (ht5).fx 7
           have xz8 := (ht5).fx 8
           have xz9 := (ht5).fx 9
           have xz10 := (ht5).fx 10
           have xz11 := (ht5).fx 11
           have HP12 := hid (ht5.put12 (Nat.le_refl _) (Nat.le_refl _) (.slice vv n1 k1) (.int .i64 s9.lim) (.int .i64 s9.status) (.int .i64 s9.next) (.int .i64 s9.began) (.int .i64 s9.asked) (.int .i64 s9.taken) (.bool s9.fresh) (.slice uu n2 k2) (.slice cc9 n3 k3) (.bool s9.cancel) (.bool s9.overdue))
           clear ht4 ht5 hbk
           go_wp2_with fail
           go_meet
           exact ⟨rfl, rfl, rfl, rfl, .no HR.out HP12.out⟩
         | some t =>
           rw [hR] at hm
           simp only at hm
           have HR := hid hR
           clear hR hO4
           obtain ⟨vv, uu, cc9, k1, k2, k3, rfl, hO5⟩ := hm
           rw [show staV t (.slice vv t.ss.length k1) (.slice uu t.jobs.length k2) (.slice cc9 t.clocks.length k3) = .agg #[.slice vv t.ss.length k1, .int .i64 t.lim, .int .i64 t.status, .int .i64 t.next, .int .i64 t.began, .int .i64 t.asked, .int .i64 t.taken, .bool t.fresh, .slice uu t.jobs.length k2, .slice cc9 t.clocks.length k3, .bool t.cancel, .bool t.overdue] from rfl]
           have ht5 := ht4.keep hbk (by decide)
           clear x0 x1 x2 x3 x4 x5 x6 x7 x8 x9 x10 x11 y0 y1 y2 y3 y4 y5 y6 y7
           have x0 : w5.cell? ⟨w.heap.size, 0, none⟩ = some (.slice a3 ss.length c3) := (ht5).x rfl
           have x1 : w5.cell? ⟨w.heap.size, 1, none⟩ = some (.int .i64 lim) := (ht5).x rfl
           have x2 : w5.cell? ⟨w.heap.size, 2, none⟩ = some (.int .i64 0) := (ht5).x rfl
           have x3 : w5.cell? ⟨w.heap.size, 3, none⟩ = some (.int .i64 id) := (ht5).x rfl
           have x4 : w5.cell? ⟨w.heap.size, 4, none⟩ = some (.int .i64 bg) := (ht5).x rfl
           have x5 : w5.cell? ⟨w.heap.size, 5, none⟩ = some (.int .i64 ak) := (ht5).x rfl
           have x6 : w5.cell? ⟨w.heap.size, 6, none⟩ = some (.int .i64 tn) := (ht5).x rfl
           have x7 : w5.cell? ⟨w.heap.size, 7, none⟩ = some (.bool fr) := (ht5).x rfl
           have x8 : w5.cell? ⟨w.heap.size, 8, none⟩ = some (.slice a1 js.length c1) := (ht5).x rfl
           have x9 : w5.cell? ⟨w.heap.size, 9, none⟩ = some (.slice a2 cs.length c2) := (ht5).x rfl
           have x10 : w5.cell? ⟨w.heap.size, 10, none⟩ = some (.bool cn) := (ht5).x rfl
           have x11 : w5.cell? ⟨w.heap.size, 11, none⟩ = some (.bool ov) := (ht5).x rfl
           have xz0 := (ht5).fx 0
           have xz1 := (ht5).fx 1
           have xz2 := (ht5).fx 2
           have xz3 := (ht5).fx 3
           have xz4 := (ht5).fx 4
           have xz5 := (ht5).fx 5
           have xz6 := (ht5).fx 6
           have xz7 := (ht5).fx 7
           have xz8 := (ht5).fx 8
           have xz9 := (ht5).fx 9
           have xz10 := (ht5).fx 10
           have xz11 := (ht5).fx 11
           have HP12 := hid (ht5.put12 (Nat.le_refl _) (Nat.le_refl _) (.slice vv t.ss.length k1) (.int .i64 t.lim) (.int .i64 t.status) (.int .i64 t.next) (.int .i64 t.began) (.int .i64 t.asked) (.int .i64 t.taken) (.bool t.fresh) (.slice uu t.jobs.length k2) (.slice cc9 t.clocks.length k3) (.bool t.cancel) (.bool t.overdue))
           have HO5 := hid (hO5.at ht5.hX (by decide) (((((((((((((At.refl w.heap.size w5).set 0 (.slice vv t.ss.length k1)).set 1 (.int .i64 t.lim)).set 2 (.int .i64 t.status)).set 3 (.int .i64 t.next)).set 4 (.int .i64 t.began)).set 5 (.int .i64 t.asked)).set 6 (.int .i64 t.taken)).set 7 (.bool t.fresh)).set 8 (.slice uu t.jobs.length k2)).set 9 (.slice cc9 t.clocks.length k3)).set 10 (.bool t.cancel)).set 11 (.bool t.overdue)))
           clear ht4 ht5 hbk hO5
           go_wp2_with fail
           go_meet
           exact ⟨rfl, rfl, rfl, rfl, .yes HR.out HP12.out HO5.out⟩
     ·
         have hk9 : kindF ⟨ss, lim, 0, id, bg, ak, tn, fr, js, cs, cn, ov⟩ (id, kd, tk, rf, sp, ty, ud, dt) = workF ⟨ss, lim, 0, id, bg, ak, tn, fr, js, cs, cn, ov⟩ (id, kd, tk, rf, sp, ty, ud, dt) := by unfold kindF; simp only [Ev.kd]; rw [if_neg (by omega), if_pos (by omega)]
         have q2 : (kd == 2) = false := by rw [hk]; rfl
         have q3 : (kd == 3) = false := by rw [hk]; rfl
         have q4 : (kd == 4) = false := by rw [hk]; rfl
         have q5 : (kd == 5) = false := by rw [hk]; rfl
         have q6 : (kd == 6) = false := by rw [hk]; rfl
         have q7 : (kd == 7) = false := by rw [hk]; rfl
         have q8 : (kd == 8) = false := by rw [hk]; rfl
         have q9 : (kd == 9) = true := by rw [hk]; rfl
         have q10 : (kd == 10) = false := by rw [hk]; rfl
         have q11 : (kd == 11) = false := by rw [hk]; rfl
         have HKD := hid hk
         clear hk
         have HK9 := hid hk9
         clear hk9
         go_wp2_with fail
         refine (work9_any ss lim 0 id bg ak tn fr js cs cn ov a3 a1 a2 c3 c1 c2 id kd tk rf sp ty ud dt w.heap.size w4 ht4.hs hO4 hj9 hl2 HKD.out).mono ?_
         rintro e' w5 ⟨hbk, hm⟩
         rw [← HK9.out] at hm
         clear HK9
         cases hR : kindF ⟨ss, lim, 0, id, bg, ak, tn, fr, js, cs, cn, ov⟩ (id, kd, tk, rf, sp, ty, ud, dt) with
         | none =>
           rw [hR] at hm
           simp only at hm
           have HR := hid hR
           clear hR hO4
           obtain ⟨s9, vv, uu, cc9, n1, n2, n3, k1, k2, k3, rfl⟩ := hm
           rw [show staV s9 (.slice vv n1 k1) (.slice uu n2 k2) (.slice cc9 n3 k3) = .agg #[.slice vv n1 k1, .int .i64 s9.lim, .int .i64 s9.status, .int .i64 s9.next, .int .i64 s9.began, .int .i64 s9.asked, .int .i64 s9.taken, .bool s9.fresh, .slice uu n2 k2, .slice cc9 n3 k3, .bool s9.cancel, .bool s9.overdue] from rfl]
           have ht5 := ht4.keep hbk (by decide)
           clear x0 x1 x2 x3 x4 x5 x6 x7 x8 x9 x10 x11 y0 y1 y2 y3 y4 y5 y6 y7
           have x0 : w5.cell? ⟨w.heap.size, 0, none⟩ = some (.slice a3 ss.length c3) := (ht5).x rfl
           have x1 : w5.cell? ⟨w.heap.size, 1, none⟩ = some (.int .i64 lim) := (ht5).x rfl
           have x2 : w5.cell? ⟨w.heap.size, 2, none⟩ = some (.int .i64 0) := (ht5).x rfl
           have x3 : w5.cell? ⟨w.heap.size, 3, none⟩ = some (.int .i64 id) := (ht5).x rfl
           have x4 : w5.cell? ⟨w.heap.size, 4, none⟩ = some (.int .i64 bg) := (ht5).x rfl
           have x5 : w5.cell? ⟨w.heap.size, 5, none⟩ = some (.int .i64 ak) := (ht5).x rfl
           have x6 : w5.cell? ⟨w.heap.size, 6, none⟩ = some (.int .i64 tn) := (ht5).x rfl
           have x7 : w5.cell? ⟨w.heap.size, 7, none⟩ = some (.bool fr) := (ht5).x rfl
           have x8 : w5.cell? ⟨w.heap.size, 8, none⟩ = some (.slice a1 js.length c1) := (ht5).x rfl
           have x9 : w5.cell? ⟨w.heap.size, 9, none⟩ = some (.slice a2 cs.length c2) := (ht5).x rfl
           have x10 : w5.cell? ⟨w.heap.size, 10, none⟩ = some (.bool cn) := (ht5).x rfl
           have x11 : w5.cell? ⟨w.heap.size, 11, none⟩ = some (.bool ov) := (ht5).x rfl
           have xz0 := (ht5).fx 0
           have xz1 := (ht5).fx 1
           have xz2 := (ht5).fx 2
           have xz3 := (ht5).fx 3
           have xz4 := (ht5).fx 4
           have xz5 := (ht5).fx 5
           have xz6 := (ht5).fx 6
           have xz7 := (ht5).fx 7
           have xz8 := (ht5).fx 8
           have xz9 := (ht5).fx 9
           have xz10 := (ht5).fx 10
           have xz11 := (ht5).fx 11
           have HP12 := hid (ht5.put12 (Nat.le_refl _) (Nat.le_refl _) (.slice vv n1 k1) (.int .i64 s9.lim) (.int .i64 s9.status) (.int .i64 s9.next) (.int .i64 s9.began) (.int .i64 s9.asked) (.int .i64 s9.taken) (.bool s9.fresh) (.slice uu n2 k2) (.slice cc9 n3 k3) (.bool s9.cancel) (.bool s9.overdue))
           clear ht4 ht5 hbk
           go_wp2_with fail
           go_meet
           exact ⟨rfl, rfl, rfl, rfl, .no HR.out HP12.out⟩
         | some t =>
           rw [hR] at hm
           simp only at hm
           have HR := hid hR
           clear hR hO4
           obtain ⟨vv, uu, cc9, k1, k2, k3, rfl, hO5⟩ := hm
           rw [show staV t (.slice vv t.ss.length k1) (.slice uu t.jobs.length k2) (.slice cc9 t.clocks.length k3) = .agg #[.slice vv t.ss.length k1, .int .i64 t.lim, .int .i64 t.status, .int .i64 t.next, .int .i64 t.began, .int .i64 t.asked, .int .i64 t.taken, .bool t.fresh, .slice uu t.jobs.length k2, .slice cc9 t.clocks.length k3, .bool t.cancel, .bool t.overdue] from rfl]
           have ht5 := ht4.keep hbk (by decide)
           clear x0 x1 x2 x3 x4 x5 x6 x7 x8 x9 x10 x11 y0 y1 y2 y3 y4 y5 y6 y7
           have x0 : w5.cell? ⟨w.heap.size, 0, none⟩ = some (.slice a3 ss.length c3) := (ht5).x rfl
           have x1 : w5.cell? ⟨w.heap.size, 1, none⟩ = some (.int .i64 lim) := (ht5).x rfl
           have x2 : w5.cell? ⟨w.heap.size, 2, none⟩ = some (.int .i64 0) := (ht5).x rfl
           have x3 : w5.cell? ⟨w.heap.size, 3, none⟩ = some (.int .i64 id) := (ht5).x rfl
           have x4 : w5.cell? ⟨w.heap.size, 4, none⟩ = some (.int .i64 bg) := (ht5).x rfl
           have x5 : w5.cell? ⟨w.heap.size, 5, none⟩ = some (.int .i64 ak) := (ht5).x rfl
           have x6 : w5.cell? ⟨w.heap.size, 6, none⟩ = some (.int .i64 tn) := (ht5).x rfl
           have x7 : w5.cell? ⟨w.heap.size, 7, none⟩ = some (.bool fr) := (ht5).x rfl
           have x8 : w5.cell? ⟨w.heap.size, 8, none⟩ = some (.slice a1 js.length c1) := (ht5).x rfl
           have x9 : w5.cell? ⟨w.heap.size, 9, none⟩ = some (.slice a2 cs.length c2) := (ht5).x rfl
           have x10 : w5.cell? ⟨w.heap.size, 10, none⟩ = some (.bool cn) := (ht5).x rfl
           have x11 : w5.cell? ⟨w.heap.size, 11, none⟩ = some (.bool ov) := (ht5).x rfl
           have xz0 := (ht5).fx 0
           have xz1 := (ht5).fx 1
           have xz2 := (ht5).fx 2
           have xz3 := (ht5).fx 3
           have xz4 := (ht5).fx 4
           have xz5 := (ht5).fx 5
           have xz6 := (ht5).fx 6
           have xz7 := (ht5).fx 7
           have xz8 := (ht5).fx 8
           have xz9 := (ht5).fx 9
           have xz10 := (ht5).fx 10
           have xz11 := (ht5).fx 11
           have HP12 := hid (ht5.put12 (Nat.le_refl _) (Nat.le_refl _) (.slice vv t.ss.length k1) (.int .i64 t.lim) (.int .i64 t.status) (.int .i64 t.next) (.int .i64 t.began) (.int .i64 t.asked) (.int .i64 t.taken) (.bool t.fresh) (.slice uu t.jobs.length k2) (.slice cc9 t.clocks.length k3) (.bool t.cancel) (.bool t.overdue))
           have HO5 := hid (hO5.at ht5.hX (by decide) (((((((((((((At.refl w.heap.size w5).set 0 (.slice vv t.ss.length k1)).set 1 (.int .i64 t.lim)).set 2 (.int .i64 t.status)).set 3 (.int .i64 t.next)).set 4 (.int .i64 t.began)).set 5 (.int .i64 t.asked)).set 6 (.int .i64 t.taken)).set 7 (.bool t.fresh)).set 8 (.slice uu t.jobs.length k2)).set 9 (.slice cc9 t.clocks.length k3)).set 10 (.bool t.cancel)).set 11 (.bool t.overdue)))
           clear ht4 ht5 hbk hO5
           go_wp2_with fail
           go_meet
           exact ⟨rfl, rfl, rfl, rfl, .yes HR.out HP12.out HO5.out⟩
   case rest =>
     obtain ⟨rfl, rfl, rfl, rfl, hcut⟩ := hcut
     rcases hcut with ⟨hR, rfl, X', ht5⟩ | ⟨t, vv, uu, cc9, k1, k2, k3, hR, rfl, ht5, hO5⟩
     · have HA := hid (hA1.out hR)
       clear hR hA1 hA2 y1
       have z0 : wc.cell? ⟨w.heap.size + 1 + 1, 0, none⟩ = some (.slice none 0 0) := (ht5).z rfl
       have zf0 := (ht5).fz 0
       have z1 : wc.cell? ⟨w.heap.size + 1 + 1, 1, none⟩ = some (.int .i64 0) := (ht5).z rfl
       have zf1 := (ht5).fz 1
       have z2 : wc.cell? ⟨w.heap.size + 1 + 1, 2, none⟩ = some (.int .i64 0) := (ht5).z rfl
       have zf2 := (ht5).fz 2
       have z3 : wc.cell? ⟨w.heap.size + 1 + 1, 3, none⟩ = some (.int .i64 0) := (ht5).z rfl
       have zf3 := (ht5).fz 3
       have z4 : wc.cell? ⟨w.heap.size + 1 + 1, 4, none⟩ = some (.int .i64 0) := (ht5).z rfl
       have zf4 := (ht5).fz 4
       have z5 : wc.cell? ⟨w.heap.size + 1 + 1, 5, none⟩ = some (.int .i64 0) := (ht5).z rfl
       have zf5 := (ht5).fz 5
       have z6 : wc.cell? ⟨w.heap.size + 1 + 1, 6, none⟩ = some (.int .i64 0) := (ht5).z rfl
       have zf6 := (ht5).fz 6
       have z7 : wc.cell? ⟨w.heap.size + 1 + 1, 7, none⟩ = some (.bool false) := (ht5).z rfl
       have zf7 := (ht5).fz 7
       have z8 : wc.cell? ⟨w.heap.size + 1 + 1, 8, none⟩ = some (.slice none 0 0) := (ht5).z rfl
       have zf8 := (ht5).fz 8
       have z9 : wc.cell? ⟨w.heap.size + 1 + 1, 9, none⟩ = some (.slice none 0 0) := (ht5).z rfl
       have zf9 := (ht5).fz 9
       have z10 : wc.cell? ⟨w.heap.size + 1 + 1, 10, none⟩ = some (.bool false) := (ht5).z rfl
       have zf10 := (ht5).fz 10
       have z11 : wc.cell? ⟨w.heap.size + 1 + 1, 11, none⟩ = some (.bool false) := (ht5).z rfl
       have zf11 := (ht5).fz 11
       have HB := hid ((ht5).hb.at (((((((((((((At.refl (w.heap.size + 1 + 1) wc).set 0 (.slice none 0 0)).set 1 (.int .i64 0)).set 2 (.int .i64 0)).set 3 (.int .i64 0)).set 4 (.int .i64 0)).set 5 (.int .i64 0)).set 6 (.int .i64 0)).set 7 (.bool false)).set 8 (.slice none 0 0)).set 9 (.slice none 0 0)).set 10 (.bool false)).set 11 (.bool false)) (ht5).hs (Nat.le_refl _) (by omega)).below
       go_wp2_with fail
       refine bodyPost_ret (v := .tuple #[.agg #[.slice none 0 0, .int .i64 0, .int .i64 0, .int .i64 0, .int .i64 0, .int .i64 0, .int .i64 0, .bool false, .slice none 0 0, .slice none 0 0, .bool false, .bool false], .int .i64 120]) ?_ rfl (by rw [HA.out]; exact ⟨HB.out, none, none, none, 0, 0, 0, rfl, StO.none _ _ s0 rfl rfl rfl⟩)
       rw [results_cell_tmp rfl]
       go_simp
     · clear y1
       have hnext : t.next = id := kind_next hR
       have HA := hid (hA2.out t hR)
       have x3 : wc.cell? ⟨w.heap.size, 3, none⟩ = some (.int .i64 id) := by
         have := ht5.x (j := 3) (v := .int .i64 t.next) rfl
         rw [hnext] at this
         exact this
       have xz3 := (ht5).fx 3
       have a6 : At w.heap.size wc (wc.setCell ⟨w.heap.size, 3, none⟩ (.int .i64 (id + 1))) := (At.refl _ wc).set 3 _
       have hO6 := hO5.at ht5.hX (by decide) a6
       have ht6 : T3 w.heap.size w (wc.setCell ⟨w.heap.size, 3, none⟩ (.int .i64 (id + 1))) w.heap.size #[.slice vv t.ss.length k1, .int .i64 t.lim, .int .i64 t.status, .int .i64 (id + 1), .int .i64 t.began, .int .i64 t.asked, .int .i64 t.taken, .bool t.fresh, .slice uu t.jobs.length k2, .slice cc9 t.clocks.length k3, .bool t.cancel, .bool t.overdue] #[.int .i64 id, .int .i64 kd, .int .i64 tk, .int .i64 rf, .int .i64 sp, .int .i64 ty, .bool ud, .string ⟨dt.toArray⟩] #[.slice none 0 0, .int .i64 0, .int .i64 0, .int .i64 0, .int .i64 0, .int .i64 0, .int .i64 0, .bool false, .slice none 0 0, .slice none 0 0, .bool false, .bool false] 36 23 := (ht5.set (Nat.le_refl _) 3 (.int .i64 (id + 1))).row (by kernel_rfl)
       clear hR hnext hA1 hA2
       have w0x : (wc.setCell ⟨w.heap.size, 3, none⟩ (.int .i64 (id + 1))).cell? ⟨w.heap.size, 0, none⟩ = some (.slice vv t.ss.length k1) := (ht6).x rfl
       have w1x : (wc.setCell ⟨w.heap.size, 3, none⟩ (.int .i64 (id + 1))).cell? ⟨w.heap.size, 1, none⟩ = some (.int .i64 t.lim) := (ht6).x rfl
       have w2x : (wc.setCell ⟨w.heap.size, 3, none⟩ (.int .i64 (id + 1))).cell? ⟨w.heap.size, 2, none⟩ = some (.int .i64 t.status) := (ht6).x rfl
       have w3x : (wc.setCell ⟨w.heap.size, 3, none⟩ (.int .i64 (id + 1))).cell? ⟨w.heap.size, 3, none⟩ = some (.int .i64 (id + 1)) := (ht6).x rfl
       have w4x : (wc.setCell ⟨w.heap.size, 3, none⟩ (.int .i64 (id + 1))).cell? ⟨w.heap.size, 4, none⟩ = some (.int .i64 t.began) := (ht6).x rfl
       have w5x : (wc.setCell ⟨w.heap.size, 3, none⟩ (.int .i64 (id + 1))).cell? ⟨w.heap.size, 5, none⟩ = some (.int .i64 t.asked) := (ht6).x rfl
       have w6x : (wc.setCell ⟨w.heap.size, 3, none⟩ (.int .i64 (id + 1))).cell? ⟨w.heap.size, 6, none⟩ = some (.int .i64 t.taken) := (ht6).x rfl
       have w7x : (wc.setCell ⟨w.heap.size, 3, none⟩ (.int .i64 (id + 1))).cell? ⟨w.heap.size, 7, none⟩ = some (.bool t.fresh) := (ht6).x rfl
       have w8x : (wc.setCell ⟨w.heap.size, 3, none⟩ (.int .i64 (id + 1))).cell? ⟨w.heap.size, 8, none⟩ = some (.slice uu t.jobs.length k2) := (ht6).x rfl
       have w9x : (wc.setCell ⟨w.heap.size, 3, none⟩ (.int .i64 (id + 1))).cell? ⟨w.heap.size, 9, none⟩ = some (.slice cc9 t.clocks.length k3) := (ht6).x rfl
       have w10x : (wc.setCell ⟨w.heap.size, 3, none⟩ (.int .i64 (id + 1))).cell? ⟨w.heap.size, 10, none⟩ = some (.bool t.cancel) := (ht6).x rfl
       have w11x : (wc.setCell ⟨w.heap.size, 3, none⟩ (.int .i64 (id + 1))).cell? ⟨w.heap.size, 11, none⟩ = some (.bool t.overdue) := (ht6).x rfl
       have z0 : (wc.setCell ⟨w.heap.size, 3, none⟩ (.int .i64 (id + 1))).cell? ⟨w.heap.size + 1 + 1, 0, none⟩ = some (.slice none 0 0) := (ht6).z rfl
       have zf0 := (ht6).fz 0
       have z1 : (wc.setCell ⟨w.heap.size, 3, none⟩ (.int .i64 (id + 1))).cell? ⟨w.heap.size + 1 + 1, 1, none⟩ = some (.int .i64 0) := (ht6).z rfl
       have zf1 := (ht6).fz 1
       have z2 : (wc.setCell ⟨w.heap.size, 3, none⟩ (.int .i64 (id + 1))).cell? ⟨w.heap.size + 1 + 1, 2, none⟩ = some (.int .i64 0) := (ht6).z rfl
       have zf2 := (ht6).fz 2
       have z3 : (wc.setCell ⟨w.heap.size, 3, none⟩ (.int .i64 (id + 1))).cell? ⟨w.heap.size + 1 + 1, 3, none⟩ = some (.int .i64 0) := (ht6).z rfl
       have zf3 := (ht6).fz 3
       have z4 : (wc.setCell ⟨w.heap.size, 3, none⟩ (.int .i64 (id + 1))).cell? ⟨w.heap.size + 1 + 1, 4, none⟩ = some (.int .i64 0) := (ht6).z rfl
       have zf4 := (ht6).fz 4
       have z5 : (wc.setCell ⟨w.heap.size, 3, none⟩ (.int .i64 (id + 1))).cell? ⟨w.heap.size + 1 + 1, 5, none⟩ = some (.int .i64 0) := (ht6).z rfl
       have zf5 := (ht6).fz 5
       have z6 : (wc.setCell ⟨w.heap.size, 3, none⟩ (.int .i64 (id + 1))).cell? ⟨w.heap.size + 1 + 1, 6, none⟩ = some (.int .i64 0) := (ht6).z rfl
       have zf6 := (ht6).fz 6
       have z7 : (wc.setCell ⟨w.heap.size, 3, none⟩ (.int .i64 (id + 1))).cell? ⟨w.heap.size + 1 + 1, 7, none⟩ = some (.bool false) := (ht6).z rfl
       have zf7 := (ht6).fz 7
       have z8 : (wc.setCell ⟨w.heap.size, 3, none⟩ (.int .i64 (id + 1))).cell? ⟨w.heap.size + 1 + 1, 8, none⟩ = some (.slice none 0 0) := (ht6).z rfl
       have zf8 := (ht6).fz 8
       have z9 : (wc.setCell ⟨w.heap.size, 3, none⟩ (.int .i64 (id + 1))).cell? ⟨w.heap.size + 1 + 1, 9, none⟩ = some (.slice none 0 0) := (ht6).z rfl
       have zf9 := (ht6).fz 9
       have z10 : (wc.setCell ⟨w.heap.size, 3, none⟩ (.int .i64 (id + 1))).cell? ⟨w.heap.size + 1 + 1, 10, none⟩ = some (.bool false) := (ht6).z rfl
       have zf10 := (ht6).fz 10
       have z11 : (wc.setCell ⟨w.heap.size, 3, none⟩ (.int .i64 (id + 1))).cell? ⟨w.heap.size + 1 + 1, 11, none⟩ = some (.bool false) := (ht6).z rfl
       have zf11 := (ht6).fz 11
       have HB := hid (ht6.hb.at (((((((((((((At.refl (w.heap.size + 1 + 1) (wc.setCell ⟨w.heap.size, 3, none⟩ (.int .i64 (id + 1)))).set 0 (.slice vv t.ss.length k1)).set 1 (.int .i64 t.lim)).set 2 (.int .i64 t.status)).set 3 (.int .i64 (id + 1))).set 4 (.int .i64 t.began)).set 5 (.int .i64 t.asked)).set 6 (.int .i64 t.taken)).set 7 (.bool t.fresh)).set 8 (.slice uu t.jobs.length k2)).set 9 (.slice cc9 t.clocks.length k3)).set 10 (.bool t.cancel)).set 11 (.bool t.overdue)) ht6.hs (Nat.le_refl _) (by omega)).below
       have HO := hid ((hO6.at ht6.hZ (by decide) (((((((((((((At.refl (w.heap.size + 1 + 1) (wc.setCell ⟨w.heap.size, 3, none⟩ (.int .i64 (id + 1)))).set 0 (.slice vv t.ss.length k1)).set 1 (.int .i64 t.lim)).set 2 (.int .i64 t.status)).set 3 (.int .i64 (id + 1))).set 4 (.int .i64 t.began)).set 5 (.int .i64 t.asked)).set 6 (.int .i64 t.taken)).set 7 (.bool t.fresh)).set 8 (.slice uu t.jobs.length k2)).set 9 (.slice cc9 t.clocks.length k3)).set 10 (.bool t.cancel)).set 11 (.bool t.overdue))).like (s' := { t with next := id + 1 }) rfl rfl rfl)
       clear ht5 ht6 hO5 hO6 a6
       go_wp2_with fail
       refine bodyPost_ret (v := .tuple #[.agg #[.slice vv t.ss.length k1, .int .i64 t.lim, .int .i64 t.status, .int .i64 (id + 1), .int .i64 t.began, .int .i64 t.asked, .int .i64 t.taken, .bool t.fresh, .slice uu t.jobs.length k2, .slice cc9 t.clocks.length k3, .bool t.cancel, .bool t.overdue], .int .i64 0]) ?_ rfl (by rw [HA.out]; exact ⟨HB.out, vv, uu, cc9, k1, k2, k3, rfl, HO.out⟩)
       rw [results_cell_tmp rfl]
       go_simp
end Go.Proofs.Ytdoblbiodpcjdaa
