/- WALK of SagaKept. -/
import Derived.Test.YtdoblbiodpcjdaaSnT
import Derived.Test.YtdoblbiodpcjdaaSnR
namespace Go.Proofs.Ytdoblbiodpcjdaa
open Go.RowKit
set_option linter.unusedVariables false
set_option linter.unusedSimpArgs false
set_option maxHeartbeats 64000000 in
set_option maxRecDepth 100000 in
theorem sagaKept_b (a : Option Addr) (c : Nat) (l : List Ev) (w : World) (hs : Sl w (.slice a l.length c) 8 l.length (l.flatMap evc)) (hcap : l.length ≤ c) (hfit : FitE l) :
   Calls Try.prog 8 #[.slice a l.length c] w fun e w' => e = .returned (.bool true) ∧ Below w.heap.size w w' := by
 have hm : l.length ≤ 9223372036854775807 := hs.2.1.1
 go_enter Try.func8, Try.ntmps8
 go_wp2_with fail
 refine (sawake_any w).mono ?_
 rintro _ w1 ⟨rfl, b1⟩
 have hs1 := hs.below b1
 have HB1 := hid b1
 by_cases h300 : 300 < l.length
 · have hq : (300 : Int) < (l.length : Int) := by omega
   clear h300 hs hs1 b1
   go_wp2_with fail
   go_ret
   exact ⟨rfl, HB1.out⟩
 have hq : (l.length : Int) ≤ 300 := by omega
 have HC := hid (tell_any a c l w1 hs1 hfit hcap)
 have HS := hid hs1
 clear hs hs1 b1 h300
 go_wp2_with fail
 refine HC.out.mono ?_
 rintro _ w2 ⟨vd, vu, rfl, hod, hou, b2⟩
 have b02 := HB1.out.trans (b2.mono HB1.out.size)
 have hs2 := HS.out.below b2
 clear HC
 by_cases hc0 : (checkF l).2 = 0
 case neg =>
   obtain ⟨da, dc, rfl⟩ := own_shape hod
   obtain ⟨ua, uc, rfl⟩ := own_shape hou
   have hq0 : ((checkF l).2 == 0) = false := by simpa using hc0
   have hq1 : ((checkF l).2 != 0) = true := by simpa using hc0
   have HF := hid (fun (r : Array Value) => b02.trans (((Below.refl _ _).alloc (Nat.le_refl _) (.cells r 56)).mono b02.size))
   clear hc0 b2 b02 hs2 HS hod hou HB1
   generalize (checkF l).2 = e9 at *
   generalize (tellF l).1 = t1 at *
   generalize (tellF l).2.1 = t2 at *
   generalize (tellF l).2.2.1 = t3 at *
   generalize (tellF l).2.2.2.1 = t4 at *
   generalize (tellF l).2.2.2.2.1 = t5 at *
   generalize (tellF l).2.2.2.2.2 = t6 at *
   go_wp2_with fail
   go_ret
   exact ⟨rfl, HF.out _⟩
 have hT : tellF l = (statusF l, (crsF l).done, (crsF l).und, (crsF l).fl, (crsF l).sk, (crsF l).stop) := by unfold tellF; rw [if_neg (not_not_intro hc0)]
 rw [hc0]
 rw [hT] at hod hou ⊢
 simp only at hod hou ⊢
 obtain ⟨hl, hcf⟩ := check_ok.1 hc0
 have hH := hcf.hs
 have hK := kept_ok hcf hl
 have h16 := (hH.prog hl).1
 obtain ⟨hks, hkp, hkc⟩ := keptF_cases hK
 have hdl : (crsF l).done.length ≤ 17592186043904 := by
   have := hkp.length_le
   have h2 := actsK_len (prgL l).2 (prgL l).2.length
   unfold actsF at this
   unfold actsK at h2
   omega
 have hol := owedF_len (prgL l).2 (crsF l).done
 have hul : (crsF l).und.length ≤ 17592186043904 := by
   rcases hkc with ⟨_, _, q, _, _⟩ | ⟨_, _, _, q⟩ | ⟨_, _, _, _, q⟩ | ⟨_, _, _, q⟩
   · rw [q]; decide
   · rw [q]; omega
   · omega
   · have := q.length_le; omega
 have HBU := hid (fun (w' : World) (q : Below w2.heap.size w2 w') => build_any a c l w' (hs2.below q) hfit)
 obtain ⟨S, hS⟩ : ∃ s, s = stOf l := ⟨_, rfl⟩
 have hS2 := hS.trans (stOf_ne hl)
 have hrb : rbuildF l = (S, 0, 0) := by unfold rbuildF; rw [hs_iff.2 hH, hS]
 obtain ⟨ss, lim, st0, nx, bg, ak, tn, fr, js, cs, cn, ov⟩ := S
 rw [Sta.mk.injEq] at hS2
 obtain ⟨e1, -, e3, -⟩ := hS2
 rw [← e1] at hK h16
 rw [← e3] at hK ⊢
 clear hT hc0 hl hcf hH hks hkp hkc hol e1 e3 hS HS
 generalize (crsF l).done = dn at *
 generalize (crsF l).und = un at *
 generalize (crsF l).fl = fl at *
 generalize (crsF l).sk = sk at *
 generalize (crsF l).stop = sp at *
 obtain ⟨da, dc, rfl⟩ := own_shape hod
 obtain ⟨ua, uc, rfl⟩ := own_shape hou
 have hsd := own_ints hod hdl
 have hsu := own_ints hou hul
 obtain ⟨w3, hw3⟩ : ∃ x, x = (w2.alloc (.cells #[.int .i64 st0, .slice da dn.length dc, .slice ua un.length uc, .bool fl, .bool sk, .bool sp] 56)) := ⟨_, rfl⟩
 have b3 : Below w2.heap.size w2 w3 := by rw [hw3]; exact (Below.refl _ _).alloc (Nat.le_refl _) _
 have hx3 : w3.heap[w2.heap.size]? = some (.cells #[.int .i64 st0, .slice da dn.length dc, .slice ua un.length uc, .bool fl, .bool sk, .bool sp] 56 (0, 0)) := by rw [hw3]; exact heap_alloc_new w2 _
 have HB3 := hid (HBU.out w3 b3)
 have HX3 := hid hx3
 have HW3 := hid hw3
 have HB23 := hid b3
 have HSD := hid hsd
 have HSU := hid hsu
 have HB02 := hid b02
 have HK := hid hK
 have H16 := hid h16
 have HDL := hid hdl
 clear hw3 b3 hx3 hsd hsu b02 hod hou HBU hK h16 hdl hul b2 hs2 HB1
 go_wp2_with fail
 rw [← HW3.out]
 go_wp2_with fail
 refine HB3.out.mono ?_
 rintro _ w4 ⟨va, ja, ka, vc, jc, kc, rfl, hst, b4⟩
 rw [hrb]
 simp only
 rw [hrb] at hst
 rw [show staV ⟨ss, lim, st0, nx, bg, ak, tn, fr, js, cs, cn, ov⟩ (.slice va (⟨ss, lim, st0, nx, bg, ak, tn, fr, js, cs, cn, ov⟩ : Sta).ss.length vc) (.slice ja (⟨ss, lim, st0, nx, bg, ak, tn, fr, js, cs, cn, ov⟩ : Sta).jobs.length jc) (.slice ka (⟨ss, lim, st0, nx, bg, ak, tn, fr, js, cs, cn, ov⟩ : Sta).clocks.length kc) = .agg #[.slice va ss.length vc, .int .i64 lim, .int .i64 st0, .int .i64 nx, .int .i64 bg, .int .i64 ak, .int .i64 tn, .bool fr, .slice ja js.length jc, .slice ka cs.length kc, .bool cn, .bool ov] from rfl]
 obtain ⟨w5, hw5⟩ : ∃ x, x = (w4.alloc (.cells #[.slice va ss.length vc, .int .i64 lim, .int .i64 st0, .int .i64 nx, .int .i64 bg, .int .i64 ak, .int .i64 tn, .bool fr, .slice ja js.length jc, .slice ka cs.length kc, .bool cn, .bool ov] 36)) := ⟨_, rfl⟩
 have b5 : Below w4.heap.size w4 w5 := by rw [hw5]; exact (Below.refl _ _).alloc (Nat.le_refl _) _
 have hx5 : w5.heap[w4.heap.size]? = some (.cells #[.slice va ss.length vc, .int .i64 lim, .int .i64 st0, .int .i64 nx, .int .i64 bg, .int .i64 ak, .int .i64 tn, .bool fr, .slice ja js.length jc, .slice ka cs.length kc, .bool cn, .bool ov] 36 (0, 0)) := by rw [hw5]; exact heap_alloc_new w4 _
 have b45 := bnext b4 b5
 have hx35 := (b45.block _ (gL HX3.out)).trans HX3.out
 have r0 : w5.cell? ⟨w2.heap.size, 0, none⟩ = some (.int .i64 st0) := cR hx35 rfl
 have r1 : w5.cell? ⟨w2.heap.size, 1, none⟩ = some (.slice da dn.length dc) := cR hx35 rfl
 have r2 : w5.cell? ⟨w2.heap.size, 2, none⟩ = some (.slice ua un.length uc) := cR hx35 rfl
 have r3 : w5.cell? ⟨w2.heap.size, 3, none⟩ = some (.bool fl) := cR hx35 rfl
 have r4 : w5.cell? ⟨w2.heap.size, 4, none⟩ = some (.bool sk) := cR hx35 rfl
 have r5 : w5.cell? ⟨w2.heap.size, 5, none⟩ = some (.bool sp) := cR hx35 rfl
 have s0 : w5.cell? ⟨w4.heap.size, 0, none⟩ = some (.slice va ss.length vc) := cR hx5 rfl
 have s1 : w5.cell? ⟨w4.heap.size, 1, none⟩ = some (.int .i64 lim) := cR hx5 rfl
 have s2 : w5.cell? ⟨w4.heap.size, 2, none⟩ = some (.int .i64 st0) := cR hx5 rfl
 have s3 : w5.cell? ⟨w4.heap.size, 3, none⟩ = some (.int .i64 nx) := cR hx5 rfl
 have s4 : w5.cell? ⟨w4.heap.size, 4, none⟩ = some (.int .i64 bg) := cR hx5 rfl
 have s5 : w5.cell? ⟨w4.heap.size, 5, none⟩ = some (.int .i64 ak) := cR hx5 rfl
 have s6 : w5.cell? ⟨w4.heap.size, 6, none⟩ = some (.int .i64 tn) := cR hx5 rfl
 have s7 : w5.cell? ⟨w4.heap.size, 7, none⟩ = some (.bool fr) := cR hx5 rfl
 have s8 : w5.cell? ⟨w4.heap.size, 8, none⟩ = some (.slice ja js.length jc) := cR hx5 rfl
 have s9 : w5.cell? ⟨w4.heap.size, 9, none⟩ = some (.slice ka cs.length kc) := cR hx5 rfl
 have s10 : w5.cell? ⟨w4.heap.size, 10, none⟩ = some (.bool cn) := cR hx5 rfl
 have s11 : w5.cell? ⟨w4.heap.size, 11, none⟩ = some (.bool ov) := cR hx5 rfl
 have hp5 := hst.read.hs.below b5
 have HKW := hid (kept16 ss lim st0 va vc dn un fl sk sp da ua dc uc w5 hp5 (by have := H16.out; omega) ((HSD.out.below HB23.out).below b45) HDL.out ((HSU.out.below HB23.out).below b45) HK.out)
 have HB5 := hid (HB02.out.trans ((bnext HB23.out b45).mono HB02.out.size))
 have HW5 := hid hw5
 clear hw5 b5 hx5 b45 hx35 hp5 hst b4 HX3 hrb
 go_upto_region 9 with (fail)
 rw [← HW5.out]
 go_wp2_with fail
 refine HKW.out.mono ?_
 rintro _ w6 ⟨rfl, b6⟩
 have HB6 := hid (HB5.out.trans (b6.mono HB5.out.size))
 clear b6
 go_wp2_with fail
 go_ret
 exact ⟨rfl, HB6.out⟩
theorem sagaKept_v (v : Value) (a : Option Addr) (c : Nat) (l : List Ev) (w : World) (hv : v = .slice a l.length c) (hs : Sl w v 8 l.length (l.flatMap evc)) (hcap : l.length ≤ c) (hfit : FitE l) :
   Calls Try.prog 8 #[v] w fun e w' => e = .returned (.bool true) ∧ Below w.heap.size w w' := by
 subst hv; exact sagaKept_b a c l w hs hcap hfit
end Go.Proofs.Ytdoblbiodpcjdaa
