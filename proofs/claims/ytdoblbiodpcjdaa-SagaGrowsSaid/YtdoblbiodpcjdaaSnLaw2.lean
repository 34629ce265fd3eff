/- WALK of SagaGrows. -/
import Derived.Test.YtdoblbiodpcjdaaSnT
import Derived.Test.YtdoblbiodpcjdaaSnR
import Derived.IntWalk
namespace Go.Proofs.Ytdoblbiodpcjdaa
open Go.RowKit
set_option linter.unusedVariables false
set_option linter.unusedSimpArgs false
theorem tmodS_at (n : Int) (m : Nat) (hm : 0 < m) : ∃ K : Nat, K < m ∧ (n.tmod (m : Int) + (m : Int)).tmod (m : Int) = (K : Int) ∧ -(m : Int) ≤ n.tmod (m : Int) ∧ n.tmod (m : Int) ≤ (m : Int) := by
 have h1 : (n.tmod (m : Int)) < (m : Int) := Int.tmod_lt_of_pos n (by omega)
 have h2 : -(m : Int) < n.tmod (m : Int) := by
   have := Int.tmod_lt_of_pos (-n) (b := (m : Int)) (by omega)
   rw [Int.neg_tmod] at this
   omega
 have h3 : 0 ≤ (n.tmod (m : Int) + (m : Int)).tmod (m : Int) := Int.tmod_nonneg _ (by omega)
 have h4 : (n.tmod (m : Int) + (m : Int)).tmod (m : Int) < (m : Int) := Int.tmod_lt_of_pos _ (by omega)
 exact ⟨((n.tmod (m : Int) + (m : Int)).tmod (m : Int)).toNat, by omega, by omega, by omega, by omega⟩
theorem done_len {l : List Ev} (hcf : Cf l []) (hl : l ≠ []) : (crsF l).done.length ≤ 17592186043904 ∧ (crsF l).und.length ≤ 17592186043904 := by
 have hK := kept_ok hcf hl
 have h16 := (hcf.hs.prog hl).1
 obtain ⟨hks, hkp, hkc⟩ := keptF_cases hK
 have hdl : (crsF l).done.length ≤ 17592186043904 := by
   have := hkp.length_le
   have h2 := actsK_len (prgL l).2 (prgL l).2.length
   unfold actsF at this
   unfold actsK at h2
   omega
 have hol := owedF_len (prgL l).2 (crsF l).done
 refine ⟨hdl, ?_⟩
 rcases hkc with ⟨_, _, q, _, _⟩ | ⟨_, _, _, q⟩ | ⟨_, _, _, _, q⟩ | ⟨_, _, _, q⟩
 · rw [q]; decide
 · rw [q]; omega
 · omega
 · have := q.length_le; omega
set_option maxHeartbeats 64000000 in
set_option maxRecDepth 100000 in
theorem sagaGrows_b (a : Option Addr) (c : Nat) (l : List Ev) (n : Int) (hn : -9223372036854775808 ≤ n ∧ n ≤ 9223372036854775807) (w : World) (hs : Sl w (.slice a l.length c) 8 l.length (l.flatMap evc)) (hcap : l.length ≤ c) (hfit : FitE l) :
   Calls Try.prog 9 #[.slice a l.length c, .int .i64 n] w fun e w' => e = .returned (.bool true) ∧ Below w.heap.size w w' := by
 have hm : l.length ≤ 9223372036854775807 := hs.2.1.1
 go_enter Try.func9, Try.ntmps9
 go_wp2_with fail
 refine (sawake_any w).mono ?_
 rintro _ w1 ⟨rfl, b1⟩
 have hs1 := hs.below b1
 have HB1 := hid b1
 have HC := hid (tell_any a c l w1 hs1 hfit hcap)
 have HS := hid hs1
 clear hs hs1 b1
 go_wp2_with fail
 refine HC.out.mono ?_
 rintro _ w2 ⟨vd, vu, rfl, hod, hou, b2⟩
 have b02 := HB1.out.trans (b2.mono HB1.out.size)
 have hs2 := HS.out.below b2
 clear HC
 have HF := hid (fun (r : Array Value) => b02.trans (((Below.refl _ _).alloc (Nat.le_refl _) (.cells r 56)).mono b02.size))
 by_cases hc0 : (checkF l).2 = 0
 case neg =>
   obtain ⟨da, dc, rfl⟩ := own_shape hod
   obtain ⟨ua, uc, rfl⟩ := own_shape hou
   have hq0 : ((checkF l).2 == 0) = false := by simpa using hc0
   have hq1 : ((checkF l).2 != 0) = true := by simpa using hc0
   clear hc0 b2 b02 hs2 HS hod hou HB1
   generalize (checkF l).2 = e9 at *
   generalize (tellF l).1 = t1 at *
   generalize (tellF l).2.1 = t2 at *
   generalize (tellF l).2.2.1 = t3 at *
   generalize (tellF l).2.2.2.1 = t4 at *
   generalize (tellF l).2.2.2.2.1 = t5 at *
   generalize (tellF l).2.2.2.2.2 = t6 at *
   go_wp2_with fail
   go_ret
   exact ⟨rfl, HF.out _⟩
 have hT : tellF l = (statusF l, (crsF l).done, (crsF l).und, (crsF l).fl, (crsF l).sk, (crsF l).stop) := by unfold tellF; rw [if_neg (not_not_intro hc0)]
 rw [hc0]
 rw [hT] at hod hou ⊢
 simp only at hod hou ⊢
 obtain ⟨hl, hcf⟩ := check_ok.1 hc0
 obtain ⟨hdl, hul⟩ := done_len hcf hl
 have HCF := hid hcf
 by_cases h300 : 300 < l.length
 · obtain ⟨da, dc, rfl⟩ := own_shape hod
   obtain ⟨ua, uc, rfl⟩ := own_shape hou
   have hq : (300 : Int) < (l.length : Int) := by omega
   clear h300 hc0 b2 b02 hs2 HS hod hou HB1 hl hcf hT HCF hdl hul
   generalize (crsF l).done = dn at *
   generalize (crsF l).und = un at *
   generalize (crsF l).fl = fl at *
   generalize (crsF l).sk = sk at *
   generalize (crsF l).stop = sp at *
   generalize statusF l = st at *
   go_wp2_with fail
   go_ret
   exact ⟨rfl, HF.out _⟩
 have hq : (l.length : Int) ≤ 300 := by omega
 have hl0 : 0 < l.length := by
   rcases Nat.eq_zero_or_pos l.length with q | q
   · exact absurd (List.eq_nil_of_length_eq_zero q) hl
   · exact q
 obtain ⟨K, hK, hz1, hz2, hz3⟩ := tmodS_at n l.length hl0
 have hK1 : K + 1 ≤ l.length := by omega
 have hlk : (l.take (K + 1)).length = K + 1 := by rw [List.length_take, Nat.min_eq_left hK1]
 have hG := tell_grow (l := l) (n := K + 1) (Nat.succ_pos K)
 have hCU := check_cut hcf (Nat.succ_le_succ (Nat.zero_le K)) hK1
 have hT2 := hcf.hs.take (K + 1)
 obtain ⟨_, _, a', cap, hv, hcc⟩ := hs2
 have hs2 : Sl w2 (.slice a l.length c) 8 l.length (l.flatMap evc) := HS.out.below b2
 rw [Value.slice.injEq] at hv
 obtain ⟨rfl, -, rfl⟩ := hv
 obtain ⟨b, off, rfl, hblt, hcc⟩ := hcc.resolve_left (by omega)
 have c1 : w2.cell? ⟨b, off + K * 8 + 1, none⟩ = some (.int .i64 (l[K]).2.1) := ev_cell hcc K 1 (by decide) hK _ rfl
 have HTK := hid (fun (w' : World) (q : Below w2.heap.size w2 w') => show Calls Try.prog 24 #[.slice (some ⟨b, off, none⟩) (K + 1) c] w' (TellPost (l.take (K + 1)) w') from by
   have := tell_any (some ⟨b, off, none⟩) c (l.take (K + 1)) w' (by rw [hlk]; exact (hs2.below q).take hK1) hT2.fit (by omega)
   rw [hlk] at this
   exact this)
 have HT2 := hid (fun (q : (checkF (l.take (K + 1))).2 = 0) => (show tellF (l.take (K + 1)) = (statusF (l.take (K + 1)), (crsF (l.take (K + 1))).done, (crsF (l.take (K + 1))).und, (crsF (l.take (K + 1))).fl, (crsF (l.take (K + 1))).sk, (crsF (l.take (K + 1))).stop) by unfold tellF; rw [if_neg (not_not_intro q)]))
 have HL2 := hid (fun (q : (checkF (l.take (K + 1))).2 = 0) => done_len (check_ok.1 q).2 (check_ok.1 q).1)
 have HZ := hid (And.intro hz1 (And.intro hz2 hz3))
 have HG := hid hG
 have HCU := hid hCU
 clear hG hCU hT2 hcc hl hcf hc0 hT hs2 HS hlk HCF HB1 h300 hz1 hz2 hz3
 generalize hq1 : (crsF l).done = dn at *
 generalize hq2 : (crsF l).und = un at *
 generalize hq3 : (crsF l).fl = fl at *
 generalize hq4 : (crsF l).sk = sk at *
 generalize hq5 : (crsF l).stop = sp at *
 clear hq1 hq2 hq3 hq4 hq5
 generalize statusF l = st at *
 obtain ⟨da, dc, rfl⟩ := own_shape hod
 obtain ⟨ua, uc, rfl⟩ := own_shape hou
 have hsd := own_ints hod hdl
 have hsu := own_ints hou hul
 obtain ⟨w3, hw3⟩ : ∃ x, x = (w2.alloc (.cells #[.int .i64 st, .slice da dn.length dc, .slice ua un.length uc, .bool fl, .bool sk, .bool sp] 56)) := ⟨_, rfl⟩
 have b3 : Below w2.heap.size w2 w3 := by rw [hw3]; exact (Below.refl _ _).alloc (Nat.le_refl _) _
 have hx3 : w3.heap[w2.heap.size]? = some (.cells #[.int .i64 st, .slice da dn.length dc, .slice ua un.length uc, .bool fl, .bool sk, .bool sp] 56 (0, 0)) := by rw [hw3]; exact heap_alloc_new w2 _
 have HX3 := hid hx3
 have HW3 := hid hw3
 have HB3 := hid b3
 have HSD := hid (fun (w' : World) (q : Below w2.heap.size w2 w') => hsd.below q)
 have HSU := hid (fun (w' : World) (q : Below w2.heap.size w2 w') => hsu.below q)
 have HC1 := hid (fun (w' : World) (q : Below w2.heap.size w2 w') => (q.cell (p := ⟨b, off + K * 8 + 1, none⟩) hblt).trans c1)
 have HCAP := hid (And.intro (own_cap hod) (own_cap hou))
 have HB02 := hid b02
 clear hw3 b3 hx3 hsd hsu b02 hod hou c1 b2 HF hdl hul
 have hlp : (0 : Int) < (l.length : Int) := by omega
 have hd0 : ¬ ((l.length : Int) = 0) := by omega
 have hKI : (K : Int) < (l.length : Int) := by omega
 have hKp : (0 : Int) ≤ (K : Int) := by omega
 have hK5 : (K : Int) ≤ 300 := by omega
 obtain ⟨hz1, hz2, hz3⟩ := HZ.out
 have hw2 : wrap64 (n.tmod (l.length : Int) + (l.length : Int)) = n.tmod (l.length : Int) + (l.length : Int) := IntWalk.wrap64_in _ (by omega)
 have hw3 : wrap64 ((K : Int) + 1) = (K : Int) + 1 := IntWalk.wrap64_in _ (by omega)
 clear hz2 hz3 hn hm
 have HCP := hid hcap
 clear hcap
 go_upto_region 7 with (fail)
 rw [← HW3.out]
 clear hz1 hw2 hw3 HZ HW3
 have hcap := HCP.out
 have hcut : ∀ wx : World, (Instr.sliceAt 29 (.slice (some ⟨b, off, none⟩) l.length c) none (some (.int .i64 ((K : Int) + 1))) none).run Try.prog wx = .ok (.slice (some ⟨b, off, none⟩) (K + 1) c) wx := fun wx => by
   have h1 : (K : Int) + 1 ≤ (c : Int) := by omega
   have h2 : ¬ ((K : Int) + 1 < 0) := by omega
   go_simp
 have HC3 := hid (HTK.out w3 HB3.out)
 go_wp2_with fail
 refine HC3.out.mono ?_
 rintro _ w4 ⟨ve, vx, rfl, hoe, hox, b4⟩
 have b24 := bnext HB3.out b4
 have hc4 := HC1.out _ b24
 have HF := hid (fun (r : Array Value) => (HB02.out.trans ((bnext b24 ((Below.refl w4.heap.size w4).alloc (Nat.le_refl _) (.cells r 56))).mono HB02.out.size)))
 rcases HCU.out with q | ⟨q, qk⟩
 · have hT2 := HT2.out q
   obtain ⟨hdl2, hul2⟩ := HL2.out q
   rw [q]
   rw [hT2] at hoe hox ⊢
   simp only at hoe hox ⊢
   have hG := HG.out
   clear HCU HT2 HL2 HG q hT2 HTK HC3 hc4 HC1 hcut
   generalize statusF (List.take (K + 1) l) = st2 at *
   generalize hq1 : (crsF (List.take (K + 1) l)).done = en at *
   generalize hq2 : (crsF (List.take (K + 1) l)).und = xn at *
   generalize hq3 : (crsF (List.take (K + 1) l)).fl = gl at *
   generalize hq4 : (crsF (List.take (K + 1) l)).sk = gk at *
   generalize hq5 : (crsF (List.take (K + 1) l)).stop = gp at *
   clear hq1 hq2 hq3 hq4 hq5
   generalize (checkF (List.take (K + 1) l)).1 = i8 at *
   obtain ⟨ea, ec, rfl⟩ := own_shape hoe
   obtain ⟨xa, xc, rfl⟩ := own_shape hox
   obtain ⟨w5, hw5⟩ : ∃ x, x = (w4.alloc (.cells #[.int .i64 st2, .slice ea en.length ec, .slice xa xn.length xc, .bool gl, .bool gk, .bool gp] 56)) := ⟨_, rfl⟩
   have b5 : Below w4.heap.size w4 w5 := by rw [hw5]; exact (Below.refl _ _).alloc (Nat.le_refl _) _
   have hx5 : w5.heap[w4.heap.size]? = some (.cells #[.int .i64 st2, .slice ea en.length ec, .slice xa xn.length xc, .bool gl, .bool gk, .bool gp] 56 (0, 0)) := by rw [hw5]; exact heap_alloc_new w4 _
   have hx35 := ((bnext b4 b5).block _ (gL HX3.out)).trans HX3.out
   have r0 : w5.cell? ⟨w2.heap.size, 0, none⟩ = some (.int .i64 st) := cR hx35 rfl
   have r1 : w5.cell? ⟨w2.heap.size, 1, none⟩ = some (.slice da dn.length dc) := cR hx35 rfl
   have r2 : w5.cell? ⟨w2.heap.size, 2, none⟩ = some (.slice ua un.length uc) := cR hx35 rfl
   have r3 : w5.cell? ⟨w2.heap.size, 3, none⟩ = some (.bool fl) := cR hx35 rfl
   have r4 : w5.cell? ⟨w2.heap.size, 4, none⟩ = some (.bool sk) := cR hx35 rfl
   have r5 : w5.cell? ⟨w2.heap.size, 5, none⟩ = some (.bool sp) := cR hx35 rfl
   have q0 : w5.cell? ⟨w4.heap.size, 0, none⟩ = some (.int .i64 st2) := cR hx5 rfl
   have q1 : w5.cell? ⟨w4.heap.size, 1, none⟩ = some (.slice ea en.length ec) := cR hx5 rfl
   have q2 : w5.cell? ⟨w4.heap.size, 2, none⟩ = some (.slice xa xn.length xc) := cR hx5 rfl
   have q3 : w5.cell? ⟨w4.heap.size, 3, none⟩ = some (.bool gl) := cR hx5 rfl
   have q4 : w5.cell? ⟨w4.heap.size, 4, none⟩ = some (.bool gk) := cR hx5 rfl
   have q5 : w5.cell? ⟨w4.heap.size, 5, none⟩ = some (.bool gp) := cR hx5 rfl
   have b25 := bnext b24 b5
   have hse := (own_ints hoe hdl2).below b5
   have hsx := (own_ints hox hul2).below b5
   have HS1 := hid (rstarts en dn ea da ec dc w5 hse (HSD.out _ b25) HCAP.out.1 hG.1)
   have HS2 := hid (fun (w' : World) (q : Below w5.heap.size w5 w') => rstarts xn un xa ua xc uc w' (hsx.below q) (HSU.out _ (bnext b25 q)) HCAP.out.2 hG.2.1)
   have HR5 := hid hx35
   have HQ5 := hid hx5
   have HB5 := hid (HB02.out.trans (b25.mono HB02.out.size))
   have HFL := hid hG.2.2
   have HW5 := hid hw5
   clear hw5 b5 hx5 hx35 hse hsx b25 b24 b4 hoe hox hG hdl2 hul2 HF
   go_upto_region 10 with (fail)
   rw [← HW5.out]
   go_wp2_with fail
   refine HS1.out.mono ?_
   rintro _ w6 ⟨rfl, b6⟩
   have hx36 := (b6.block _ (gL HR5.out)).trans HR5.out
   have hx6 := (b6.block _ (gL HQ5.out)).trans HQ5.out
   clear r0 r1 r2 r3 r4 r5 q0 q1 q2 q3 q4 q5
   have r0 : w6.cell? ⟨w2.heap.size, 0, none⟩ = some (.int .i64 st) := cR hx36 rfl
   have r1 : w6.cell? ⟨w2.heap.size, 1, none⟩ = some (.slice da dn.length dc) := cR hx36 rfl
   have r2 : w6.cell? ⟨w2.heap.size, 2, none⟩ = some (.slice ua un.length uc) := cR hx36 rfl
   have r3 : w6.cell? ⟨w2.heap.size, 3, none⟩ = some (.bool fl) := cR hx36 rfl
   have r4 : w6.cell? ⟨w2.heap.size, 4, none⟩ = some (.bool sk) := cR hx36 rfl
   have r5 : w6.cell? ⟨w2.heap.size, 5, none⟩ = some (.bool sp) := cR hx36 rfl
   have q0 : w6.cell? ⟨w4.heap.size, 0, none⟩ = some (.int .i64 st2) := cR hx6 rfl
   have q1 : w6.cell? ⟨w4.heap.size, 1, none⟩ = some (.slice ea en.length ec) := cR hx6 rfl
   have q2 : w6.cell? ⟨w4.heap.size, 2, none⟩ = some (.slice xa xn.length xc) := cR hx6 rfl
   have q3 : w6.cell? ⟨w4.heap.size, 3, none⟩ = some (.bool gl) := cR hx6 rfl
   have q4 : w6.cell? ⟨w4.heap.size, 4, none⟩ = some (.bool gk) := cR hx6 rfl
   have q5 : w6.cell? ⟨w4.heap.size, 5, none⟩ = some (.bool gp) := cR hx6 rfl
   have HR6 := hid hx36
   have HQ6 := hid hx6
   have HS3 := hid (HS2.out w6 b6)
   have HB6 := hid (HB5.out.trans (b6.mono HB5.out.size))
   clear hx36 hx6 b6
   go_wp2_with fail
   refine HS3.out.mono ?_
   rintro _ w7 ⟨rfl, b7⟩
   have hx37 := (b7.block _ (gL HR6.out)).trans HR6.out
   have hx7 := (b7.block _ (gL HQ6.out)).trans HQ6.out
   clear r0 r1 r2 r3 r4 r5 q0 q1 q2 q3 q4 q5
   have r0 : w7.cell? ⟨w2.heap.size, 0, none⟩ = some (.int .i64 st) := cR hx37 rfl
   have r1 : w7.cell? ⟨w2.heap.size, 1, none⟩ = some (.slice da dn.length dc) := cR hx37 rfl
   have r2 : w7.cell? ⟨w2.heap.size, 2, none⟩ = some (.slice ua un.length uc) := cR hx37 rfl
   have r3 : w7.cell? ⟨w2.heap.size, 3, none⟩ = some (.bool fl) := cR hx37 rfl
   have r4 : w7.cell? ⟨w2.heap.size, 4, none⟩ = some (.bool sk) := cR hx37 rfl
   have r5 : w7.cell? ⟨w2.heap.size, 5, none⟩ = some (.bool sp) := cR hx37 rfl
   have q0 : w7.cell? ⟨w4.heap.size, 0, none⟩ = some (.int .i64 st2) := cR hx7 rfl
   have q1 : w7.cell? ⟨w4.heap.size, 1, none⟩ = some (.slice ea en.length ec) := cR hx7 rfl
   have q2 : w7.cell? ⟨w4.heap.size, 2, none⟩ = some (.slice xa xn.length xc) := cR hx7 rfl
   have q3 : w7.cell? ⟨w4.heap.size, 3, none⟩ = some (.bool gl) := cR hx7 rfl
   have q4 : w7.cell? ⟨w4.heap.size, 4, none⟩ = some (.bool gk) := cR hx7 rfl
   have q5 : w7.cell? ⟨w4.heap.size, 5, none⟩ = some (.bool gp) := cR hx7 rfl
   have HB7 := hid (HB6.out.trans (b7.mono HB6.out.size))
   obtain ⟨f1, f2, f3⟩ := HFL.out
   clear hx37 hx7 b7 HFL
   rcases Bool.eq_false_or_eq_true gl with rfl | rfl
   all_goals first
     | (have f1 := f1 rfl; subst f1)
     | clear f1
   all_goals (rcases Bool.eq_false_or_eq_true gk with rfl | rfl)
   all_goals first
     | (have f2 := f2 rfl; subst f2)
     | clear f2
   all_goals (rcases Bool.eq_false_or_eq_true gp with rfl | rfl)
   all_goals first
     | (have f3 := f3 rfl; subst f3)
     | clear f3
   all_goals
     go_wp2_with fail
     go_ret
     exact ⟨rfl, HB7.out⟩
 · rw [q]
   have qk' : (l[K]).2.1 = 4 := qk
   rw [qk'] at hc4
   obtain ⟨ea, ec, rfl⟩ := own_shape hoe
   obtain ⟨xa, xc, rfl⟩ := own_shape hox
   have hc5 := fun (r : Array Value) => (((Below.refl w4.heap.size w4).alloc (Nat.le_refl _) (.cells r 56)).cell (p := ⟨b, off + K * 8 + 1, none⟩) (cell_lt hc4)).trans hc4
   clear HCU q qk qk' HT2 HL2 HG HTK HC3 hoe hox b4 b24 HC1 hcut
   generalize (tellF (List.take (K + 1) l)).1 = t1 at *
   generalize (tellF (List.take (K + 1) l)).2.1 = t2 at *
   generalize (tellF (List.take (K + 1) l)).2.2.1 = t3 at *
   generalize (tellF (List.take (K + 1) l)).2.2.2.1 = t4 at *
   generalize (tellF (List.take (K + 1) l)).2.2.2.2.1 = t5 at *
   generalize (tellF (List.take (K + 1) l)).2.2.2.2.2 = t6 at *
   generalize (checkF (List.take (K + 1) l)).1 = i8 at *
   go_wp2_with fail
   go_ret
   exact ⟨rfl, HF.out _⟩
theorem sagaGrows_v (v : Value) (a : Option Addr) (c : Nat) (l : List Ev) (n : Int) (hn : -9223372036854775808 ≤ n ∧ n ≤ 9223372036854775807) (w : World) (hv : v = .slice a l.length c) (hs : Sl w v 8 l.length (l.flatMap evc)) (hcap : l.length ≤ c) (hfit : FitE l) :
   Calls Try.prog 9 #[v, .int .i64 n] w fun e w' => e = .returned (.bool true) ∧ Below w.heap.size w w' := by
 subst hv; exact sagaGrows_b a c l n hn w hs hcap hfit
end Go.Proofs.Ytdoblbiodpcjdaa
