/- WALK of SagaOnce. -/
import Derived.Test.YtdoblbiodpcjdaaSnT
import Derived.Test.YtdoblbiodpcjdaaSnP
namespace Go.Proofs.Ytdoblbiodpcjdaa
open Go.RowKit Go.Maps
set_option linter.unusedVariables false
set_option linter.unusedSimpArgs false
def SetOk (f : Ent) (l : List Int) : Prop := ∀ x, i64B x → (f (.int .i64 x)).getD (.bool false) = .bool (decide (x ∈ l))
theorem SetOk.none : SetOk Ent.none [] := fun x _ => by simp [Ent.none]
theorem SetOk.put {f : Ent} {l : List Int} (h : SetOk f l) (x : Int) : SetOk (f.put (.int .i64 x) (.bool true)) (l ++ [x]) := fun y hy => by
 unfold Ent.put
 by_cases e : y = x
 · subst e
   rw [sameKey_self (show WideAt.IsKeyLit (.int .i64 y) from trivial)]
   simp
 · rw [Maps.sameKey_ne (fun z => by injection z with _ z; exact e z)]
   have := h y hy
   simp [this, e]
structure OM (w : World) (dm um N : Nat) (dn un : List Int) : Prop where
 d : ∃ f, MapV Try.prog w 3 dm N f ∧ SetOk f dn
 u : ∃ f, MapV Try.prog w 3 um N f ∧ SetOk f un
 ne : dm ≠ um
 z : un = [] → w.heap[um]? = some (.map #[] 0)
theorem OM.below {w w' : World} {dm um N : Nat} {dn un : List Int} (h : OM w dm um N dn un) (b : Below w.heap.size w w') : OM w' dm um N dn un := by
 obtain ⟨f, hf, hf'⟩ := h.d
 obtain ⟨g, hg, hg'⟩ := h.u
 exact ⟨⟨f, hf.below b, hf'⟩, ⟨g, hg.below b, hg'⟩, h.ne, fun q => (b.block _ hg.lt).trans (h.z q)⟩
theorem OM.up {w : World} {dm um N : Nat} {dn un : List Int} (h : OM w dm um N dn un) : OM w dm um (N + 1) dn un := by
 obtain ⟨f, hf, hf'⟩ := h.d
 obtain ⟨g, hg, hg'⟩ := h.u
 exact ⟨⟨f, hf.mono (Nat.le_succ N), hf'⟩, ⟨g, hg.mono (Nat.le_succ N), hg'⟩, h.ne, h.z⟩
theorem OM.putD {w w' : World} {dm um N : Nat} {dn un : List Int} (h : OM w dm um N dn un) {f : Ent} (hf' : SetOk f dn) {x : Int} (hg : w.grownBy w' (some dm)) (hm : MapV Try.prog w' 3 dm (N + 1) (f.put (.int .i64 x) (.bool true))) : OM w' dm um (N + 1) (dn ++ [x]) un := by
 obtain ⟨g, hu, hu'⟩ := h.up.u
 exact ⟨⟨_, hm, hf'.put x⟩, ⟨g, hu.kept hg (by simpa using Ne.symm h.ne), hu'⟩, h.ne, fun q => (hg.block _ hu.lt (by simpa using Ne.symm h.ne)).trans (h.z q)⟩
theorem OM.putU {w w' : World} {dm um N : Nat} {dn un : List Int} (h : OM w dm um N dn un) {f : Ent} (hf' : SetOk f un) {x : Int} (hg : w.grownBy w' (some um)) (hm : MapV Try.prog w' 3 um (N + 1) (f.put (.int .i64 x) (.bool true))) : OM w' dm um (N + 1) dn (un ++ [x]) := by
 obtain ⟨g, hd, hd'⟩ := h.up.d
 exact ⟨⟨g, hd.kept hg (by simpa using h.ne), hd'⟩, ⟨_, hm, hf'.put x⟩, h.ne, fun q => absurd q (by simp)⟩
theorem zeroBool (w : World) : (zeroValue 4).run Try.prog w = .ok (.bool false) w := by kernel_rfl
theorem len_empty {P : Program} {w : World} {t ty : TypeId} {b : Nat} {k e : TypeId} (ht : P.underlying t = some (.map k e)) (h : w.heap[b]? = some (.map #[] 0)) : (Builtin.len_ #[t] ty #[.map (some b)]).run P w = .ok (.int .i64 0) w := by
 have h2 : (getObj b).run P w = .ok (.map #[] 0) w := by simp [getObj, Sem.run, h]
 simp [Builtin.len_, run_underlying ht, h2, goInt]
theorem wpList_lookG {P : Program} (w : World) {ops : Array Oper} {rest : List Oper} {o : Oper} {a : Act} {Q : Exit → Act → World → Prop} (hg : Region.wanted o (yielded ops a.tmps) = true) (m x : Operand) (t : TypeId) (hop : o.op = Op.lookup t m x false)
   (k e : TypeId) (K : Keyed P k) (ht : P.underlying t = some (.map k e)) {z : Value} (hz : (zeroValue e).run P w = .ok z w) (b n : Nat) (f : Ent)
   (hm : a.eval m = .map (some b)) (hown : MapV P w k b n f) (key : Value) (kl : Lit) (hx : a.eval x = key) (hkey : keyOf P k key = some kl) (u : Value) (hu : (f kl).getD z = u)
   (hK : wpList P ops Q rest (a.put o.dst u) w) : wpList P ops Q (o :: rest) a w := by
 refine BigFrame.wpList_want hg fun K' hK' => ?_
 have hrun := hown.look K ht hz hkey
 rw [hu] at hrun
 unfold Oper.wp
 simp [execOp, hop, hm, hx, hrun, Result.andThen]
 exact hK' _ _ hK
set_option maxHeartbeats 64000000 in
set_option maxRecDepth 100000 in
theorem sagaOnce_b (a : Option Addr) (c : Nat) (l : List Ev) (w : World) (hs : Sl w (.slice a l.length c) 8 l.length (l.flatMap evc)) (hcap : l.length ≤ c) (hfit : FitE l) :
   Calls Try.prog 10 #[.slice a l.length c] w fun e w' => e = .returned (.bool true) ∧ Below w.heap.size w w' := by
 have hm : l.length ≤ 9223372036854775807 := hs.2.1.1
 go_enter Try.func10, Try.ntmps10
 go_wp2_with fail
 refine (sawake_any w).mono ?_
 rintro _ w1 ⟨rfl, b1⟩
 have hs1 := hs.below b1
 have HC := hid (plcheck_any a c l w1 hs1 hfit hcap)
 go_wp2_with fail
 refine HC.out.mono ?_
 rintro _ w2 ⟨rfl, b2⟩
 have b02 := bnext b1 b2
 have hs2 := hs1.below b2
 obtain ⟨hi0, hi1⟩ := check_range l
 by_cases hc0 : (checkF l).2 = 0
 case neg =>
   have hq : ((checkF l).2 == 0) = false := by simpa using hc0
   have hq' : ((checkF l).2 != 0) = true := by simpa using hc0
   have HB := hid b02
   clear hc0 hs hs1 hs2 b1 b2 b02 HC
   generalize (checkF l).2 = e9 at *
   generalize (checkF l).1 = i9 at *
   go_wp2_with fail
   go_ret
   exact ⟨rfl, HB.out⟩
 rw [hc0]
 obtain ⟨hl, hcf⟩ := check_ok.1 hc0
 by_cases h300 : 300 < l.length
 · have hq : (300 : Int) < (l.length : Int) := by omega
   have HB := hid b02
   clear hc0 hs hs1 hs2 b1 b2 b02 HC
   generalize (checkF l).1 = i9 at *
   go_wp2_with fail
   go_ret
   exact ⟨rfl, HB.out⟩
 have hq : (l.length : Int) ≤ 300 := by omega
 have hq3 : l.length ≤ 300 := by omega
 have HCF := hid hcf
 have HB02 := hid b02
 have HS := hid hs2
 have hmm := @run_makeMap Try.prog
 obtain ⟨w3, hw3⟩ : ∃ x, x = w2.alloc (.map #[] 0) := ⟨_, rfl⟩
 have b3 : Below w2.heap.size w2 w3 := by rw [hw3]; exact (Below.refl _ _).alloc (Nat.le_refl _) _
 obtain ⟨w4, hw4⟩ : ∃ x, x = w3.alloc (.map #[] 0) := ⟨_, rfl⟩
 have b4 : Below w3.heap.size w3 w4 := by rw [hw4]; exact (Below.refl _ _).alloc (Nat.le_refl _) _
 have e3 : w3.heap.size = w2.heap.size + 1 := by rw [hw3, World.size_alloc]
 have hom : OM w4 w2.heap.size (w2.heap.size + 1) 0 [] [] :=
   ⟨⟨Ent.none, by rw [hw3] at b4; exact (MapV.made w2 Try.prog 3).below (by rw [← hw3]; rw [← hw3] at b4; exact b4), SetOk.none⟩, ⟨Ent.none, by rw [hw4, ← e3]; exact MapV.made w3 Try.prog 3, SetOk.none⟩, by omega, fun _ => by rw [hw4, ← e3]; exact (MapKept.heap_alloc w3 _).1⟩
 have HOM := hid hom
 have HW3 := hid hw3
 have HW4 := hid hw4
 have HB4 := hid (bnext b3 b4)
 clear hc0 hs hs1 hs2 b1 b2 b02 HC hl hcf hi0 hi1 h300 hw3 hw4 b3 b4 e3 hom
 generalize (checkF l).1 = i9 at *
 go_wp2_with fail
 rw [← HW3.out]
 go_wp2_with fail
 rw [← HW4.out]
 clear hmm
 go_wp2_with fail
 go_loopw [28] (fun n0 wr => ∃ k : Nat, k ≤ l.length ∧ n0 = .int .i64 (k : Int) ∧ OM wr w2.heap.size (w2.heap.size + 1) k (rdF (prgL l).2 (l.take k)).done (rdF (prgL l).2 (l.take k)).und ∧ Below w2.heap.size w2 wr) (fun n0 _ => l.length - (intOf n0).toNat)
 case atStart => exact ⟨0, Nat.zero_le _, rfl, HOM.out, HB4.out⟩
 case round =>
   clear HOM HB4
   obtain ⟨k, hk, rfl, hom, hb⟩ := hrel
   by_cases hlt : k < l.length
   case neg =>
     have HB := hid (HB02.out.trans (hb.mono HB02.out.size))
     obtain rfl : k = l.length := by omega
     clear hom hb
     go_wp2_with fail
     go_ret
     exact ⟨rfl, HB.out⟩
   have hnx := rd_take hlt (prgL l).2
   have hat : (l[k]).kd = 7 → _ := once_at HCF.out hlt
   have hrest : (l[k]).kd ≠ 7 → _ := fun q => crs_rest (prgL l).2 (rdF (prgL l).2 (l.take k)) l[k] q (tell_11 HCF.out hlt)
   rw [← hnx] at hrest
   have hsr := HS.out.below hb
   have hsr2 := hsr
   obtain ⟨_, _, a', cap, hv, hc⟩ := hsr
   rw [Value.slice.injEq] at hv
   obtain ⟨rfl, -, rfl⟩ := hv
   obtain ⟨b, off, rfl, hblt, hc⟩ := hc.resolve_left (by omega)
   obtain ⟨L, hL⟩ : ∃ L, L = l := ⟨_, rfl⟩
   have c0 : wr.cell? ⟨b, off + k * 8, none⟩ = some (.int .i64 (l[k]).1) := ev_cell hc k 0 (by decide) hlt _ rfl
   have c1 : wr.cell? ⟨b, off + k * 8 + 1, none⟩ = some (.int .i64 (l[k]).2.1) := ev_cell hc k 1 (by decide) hlt _ rfl
   have c2 : wr.cell? ⟨b, off + k * 8 + 2, none⟩ = some (.int .i64 (l[k]).2.2.1) := ev_cell hc k 2 (by decide) hlt _ rfl
   have c3 : wr.cell? ⟨b, off + k * 8 + 3, none⟩ = some (.int .i64 (l[k]).2.2.2.1) := ev_cell hc k 3 (by decide) hlt _ rfl
   have c4 : wr.cell? ⟨b, off + k * 8 + 4, none⟩ = some (.int .i64 (l[k]).2.2.2.2.1) := ev_cell hc k 4 (by decide) hlt _ rfl
   have c5 : wr.cell? ⟨b, off + k * 8 + 5, none⟩ = some (.int .i64 (l[k]).2.2.2.2.2.1) := ev_cell hc k 5 (by decide) hlt _ rfl
   have c6 : wr.cell? ⟨b, off + k * 8 + 6, none⟩ = some (.bool (l[k]).2.2.2.2.2.2.1) := ev_cell hc k 6 (by decide) hlt _ rfl
   have c7 : wr.cell? ⟨b, off + k * 8 + 7, none⟩ = some (.string ⟨(l[k]).2.2.2.2.2.2.2.toArray⟩) := ev_cell hc k 7 (by decide) hlt _ rfl
   clear hc hL L hsr2
   obtain ⟨X, hX⟩ : ∃ X, X = l[k] := ⟨_, rfl⟩
   rw [← hX] at hat hrest c0 c1 c2 c3 c4 c5 c6 c7
   clear hX hnx
   obtain ⟨id, kd, tk, rf, sp, ty, ud, dt⟩ := X
   simp only [Ev.kd, Ev.rf] at hat hrest
   simp only at c0 c1 c2 c3 c4 c5 c6 c7
   have hkI : (k : Int) < (l.length : Int) := by omega
   have hkp : (0 : Int) ≤ (k : Int) := by omega
   have hk5 : (k : Int) ≤ 300 := by omega
   have be : Below wr.heap.size wr (wr.alloc (.cells #[.int .i64 id, .int .i64 kd, .int .i64 tk, .int .i64 rf, .int .i64 sp, .int .i64 ty, .bool ud, .string ⟨dt.toArray⟩] 23)) := (Below.refl _ _).alloc (Nat.le_refl _) _
   have hbe := hb.trans (be.mono hb.size)
   by_cases k7 : kd = 7
   case neg =>
     have e7 : (kd == 7) = false := by simpa using k7
     have e7' : (kd != 7) = true := by simpa using k7
     have hr := hrest k7
     have HF := hid (show OM (wr.alloc (.cells #[.int .i64 id, .int .i64 kd, .int .i64 tk, .int .i64 rf, .int .i64 sp, .int .i64 ty, .bool ud, .string ⟨dt.toArray⟩] 23)) w2.heap.size (w2.heap.size + 1) (k + 1) (rdF (prgL l).2 (l.take (k + 1))).done (rdF (prgL l).2 (l.take (k + 1))).und ∧ Below w2.heap.size w2 (wr.alloc (.cells #[.int .i64 id, .int .i64 kd, .int .i64 tk, .int .i64 rf, .int .i64 sp, .int .i64 ty, .bool ud, .string ⟨dt.toArray⟩] 23)) from ⟨by rw [hr.1, hr.2]; exact (hom.below be).up, hbe⟩)
     clear hat hrest k7 hr hom hb be hbe
     go_wp2_with fail
     go_roundw
     case rel => first
       | exact ⟨k + 1, by omega, by go_num, HF.out.1, HF.out.2⟩
       | ((repeat apply Exists.intro); exact ⟨⟨k + 1, by omega, by go_num, HF.out.1, HF.out.2⟩, rfl⟩)
     case measure => simp [intOf]; omega
   subst k7
   obtain ⟨i, x, n, hik, hxi, hrf, hxs, hn16, hyes, hno⟩ := hat rfl
   clear hat hrest
   have hrf2 : rf = (i : Int) + 1 := by rw [hrf]; omega
   subst hrf2
   clear hrf
   have hil : i < l.length := by omega
   obtain ⟨_, rfl⟩ := List.getElem?_eq_some_iff.1 hxi
   obtain ⟨_, _, a', cap, hv, hc⟩ := HS.out.below hbe
   rw [Value.slice.injEq] at hv
   obtain ⟨hv1, -, rfl⟩ := hv
   obtain ⟨b9, off9, hb9, -, hc⟩ := hc.resolve_left (by omega)
   rw [hb9, Option.some.injEq, Addr.mk.injEq] at hv1
   obtain ⟨rfl, rfl, -⟩ := hv1
   have x0 : (wr.alloc (.cells #[.int .i64 id, .int .i64 7, .int .i64 tk, .int .i64 ((i : Int) + 1), .int .i64 sp, .int .i64 ty, .bool ud, .string ⟨dt.toArray⟩] 23)).cell? ⟨b, off + i * 8, none⟩ = some (.int .i64 (l[i]).1) := ev_cell hc i 0 (by decide) hil _ rfl
   have x1 : (wr.alloc (.cells #[.int .i64 id, .int .i64 7, .int .i64 tk, .int .i64 ((i : Int) + 1), .int .i64 sp, .int .i64 ty, .bool ud, .string ⟨dt.toArray⟩] 23)).cell? ⟨b, off + i * 8 + 1, none⟩ = some (.int .i64 (l[i]).2.1) := ev_cell hc i 1 (by decide) hil _ rfl
   have x2 : (wr.alloc (.cells #[.int .i64 id, .int .i64 7, .int .i64 tk, .int .i64 ((i : Int) + 1), .int .i64 sp, .int .i64 ty, .bool ud, .string ⟨dt.toArray⟩] 23)).cell? ⟨b, off + i * 8 + 2, none⟩ = some (.int .i64 (l[i]).2.2.1) := ev_cell hc i 2 (by decide) hil _ rfl
   have x3 : (wr.alloc (.cells #[.int .i64 id, .int .i64 7, .int .i64 tk, .int .i64 ((i : Int) + 1), .int .i64 sp, .int .i64 ty, .bool ud, .string ⟨dt.toArray⟩] 23)).cell? ⟨b, off + i * 8 + 3, none⟩ = some (.int .i64 (l[i]).2.2.2.1) := ev_cell hc i 3 (by decide) hil _ rfl
   have x4 : (wr.alloc (.cells #[.int .i64 id, .int .i64 7, .int .i64 tk, .int .i64 ((i : Int) + 1), .int .i64 sp, .int .i64 ty, .bool ud, .string ⟨dt.toArray⟩] 23)).cell? ⟨b, off + i * 8 + 4, none⟩ = some (.int .i64 (l[i]).2.2.2.2.1) := ev_cell hc i 4 (by decide) hil _ rfl
   have x5 : (wr.alloc (.cells #[.int .i64 id, .int .i64 7, .int .i64 tk, .int .i64 ((i : Int) + 1), .int .i64 sp, .int .i64 ty, .bool ud, .string ⟨dt.toArray⟩] 23)).cell? ⟨b, off + i * 8 + 5, none⟩ = some (.int .i64 (l[i]).2.2.2.2.2.1) := ev_cell hc i 5 (by decide) hil _ rfl
   have x6 : (wr.alloc (.cells #[.int .i64 id, .int .i64 7, .int .i64 tk, .int .i64 ((i : Int) + 1), .int .i64 sp, .int .i64 ty, .bool ud, .string ⟨dt.toArray⟩] 23)).cell? ⟨b, off + i * 8 + 6, none⟩ = some (.bool (l[i]).2.2.2.2.2.2.1) := ev_cell hc i 6 (by decide) hil _ rfl
   have x7 : (wr.alloc (.cells #[.int .i64 id, .int .i64 7, .int .i64 tk, .int .i64 ((i : Int) + 1), .int .i64 sp, .int .i64 ty, .bool ud, .string ⟨dt.toArray⟩] 23)).cell? ⟨b, off + i * 8 + 7, none⟩ = some (.string ⟨(l[i]).2.2.2.2.2.2.2.toArray⟩) := ev_cell hc i 7 (by decide) hil _ rfl
   have hnk : (n : Int) = (l[i]).2.2.2.2.1 := hxs.symm
   rw [← hnk] at x4
   obtain ⟨Y, hY⟩ : ∃ Y, Y = l[i] := ⟨_, rfl⟩
   rw [← hY] at hyes hno x0 x1 x2 x3 x5 x6 x7
   clear hc hY hxi hnk hxs
   obtain ⟨xi, xk, xt, xr, xs, xy, xu, xd⟩ := Y
   simp only [Ev.ud] at hyes hno
   simp only at x0 x1 x2 x3 x5 x6 x7
   have hn64 : i64B (n : Int) := by unfold i64B; omega
   have hkey := hid (keyI hn64)
   have hi0 : (0 : Int) ≤ (i : Int) := by omega
   have hi1 : (i : Int) < (l.length : Int) := by omega
   have hi2 : (i : Int) + 1 ≤ 300 := by omega
   cases xu with
   | true =>
     have b7 : Below (wr.alloc (.cells #[.int .i64 id, .int .i64 7, .int .i64 tk, .int .i64 ((i : Int) + 1), .int .i64 sp, .int .i64 ty, .bool ud, .string ⟨dt.toArray⟩] 23)).heap.size (wr.alloc (.cells #[.int .i64 id, .int .i64 7, .int .i64 tk, .int .i64 ((i : Int) + 1), .int .i64 sp, .int .i64 ty, .bool ud, .string ⟨dt.toArray⟩] 23)) ((wr.alloc (.cells #[.int .i64 id, .int .i64 7, .int .i64 tk, .int .i64 ((i : Int) + 1), .int .i64 sp, .int .i64 ty, .bool ud, .string ⟨dt.toArray⟩] 23)).alloc (.cells #[.int .i64 xi, .int .i64 xk, .int .i64 xt, .int .i64 xr, .int .i64 (n : Int), .int .i64 xy, .bool true, .string ⟨xd.toArray⟩] 23)) := (Below.refl _ _).alloc (Nat.le_refl _) _
     have hom7 := (hom.below be).below b7
     have hb7 := hbe.trans (b7.mono hbe.size)
     have HO7 := hid hom7
     have HB7 := hid hb7
     obtain ⟨f1, hf1, hs1⟩ := hom7.d
     obtain ⟨f2, hf2, hs2⟩ := hom7.u
     obtain ⟨g1, g2, g3, g4⟩ := hyes rfl
     have hu1 : (f1 (.int .i64 (n : Int))).getD (.bool false) = .bool true := by rw [hs1 _ hn64]; simp [g2]
     have hu2 : (f2 (.int .i64 (n : Int))).getD (.bool false) = .bool false := by rw [hs2 _ hn64]; simp [g1]
     have HG3 := hid g3
     have HG4 := hid g4
     have HS1 := hid hs1
     have HS2 := hid hs2
     clear hom7 hb7 b7 hom hb be hbe hyes hno g1 g2 g3 g4 hs1 hs2
     go_wp2_with (first | (at_lookup; refine wpList_look _ rfl _ _ 62 rfl 3 4 kInt Try.underlying62 (zeroBool _) (w2.heap.size + 1) k f2 rfl hf2 _ (.int .i64 (n : Int)) rfl hkey.out (.bool false) hu2 ?_) | (at_lookup; refine wpList_lookG _ (by rfl) _ _ 62 rfl 3 4 kInt Try.underlying62 (zeroBool _) (w2.heap.size) k f1 rfl hf1 _ (.int .i64 (n : Int)) rfl hkey.out (.bool true) hu1 ?_) | (at_mapUpdate; go_must (refine wpList_store _ rfl _ _ _ 62 rfl 3 4 kInt Try.underlying62 (w2.heap.size + 1) k f2 rfl hf2 (by unfold maxLen; omega) _ (.bool true) (.int .i64 (n : Int)) rfl rfl hkey.out ?_)))
     intro w8 hm8 hg8
     have h8 := HO7.out.putU HS2.out hg8 hm8
     have hb8 := HB7.out.trans (below_grownB hg8 (Nat.le_succ _) HB7.out.size)
     have HF := hid (show OM w8 w2.heap.size (w2.heap.size + 1) (k + 1) (rdF (prgL l).2 (l.take (k + 1))).done (rdF (prgL l).2 (l.take (k + 1))).und ∧ Below w2.heap.size w2 w8 from ⟨by rw [HG3.out, HG4.out]; exact h8, hb8⟩)
     clear h8 hb8 hm8 hg8 hf1 hf2 hu1
     go_wp2_with fail
     go_roundw
     case rel => first
       | exact ⟨k + 1, by omega, by go_num, HF.out.1, HF.out.2⟩
       | ((repeat apply Exists.intro); exact ⟨⟨k + 1, by omega, by go_num, HF.out.1, HF.out.2⟩, rfl⟩)
     case measure => simp [intOf]; omega
   | false =>
     have b7 : Below (wr.alloc (.cells #[.int .i64 id, .int .i64 7, .int .i64 tk, .int .i64 ((i : Int) + 1), .int .i64 sp, .int .i64 ty, .bool ud, .string ⟨dt.toArray⟩] 23)).heap.size (wr.alloc (.cells #[.int .i64 id, .int .i64 7, .int .i64 tk, .int .i64 ((i : Int) + 1), .int .i64 sp, .int .i64 ty, .bool ud, .string ⟨dt.toArray⟩] 23)) ((wr.alloc (.cells #[.int .i64 id, .int .i64 7, .int .i64 tk, .int .i64 ((i : Int) + 1), .int .i64 sp, .int .i64 ty, .bool ud, .string ⟨dt.toArray⟩] 23)).alloc (.cells #[.int .i64 xi, .int .i64 xk, .int .i64 xt, .int .i64 xr, .int .i64 (n : Int), .int .i64 xy, .bool false, .string ⟨xd.toArray⟩] 23)) := (Below.refl _ _).alloc (Nat.le_refl _) _
     have hom7 := (hom.below be).below b7
     have hb7 := hbe.trans (b7.mono hbe.size)
     have HO7 := hid hom7
     have HB7 := hid hb7
     obtain ⟨f1, hf1, hs1⟩ := hom7.d
     obtain ⟨f2, hf2, hs2⟩ := hom7.u
     obtain ⟨g1, g2, g3, g4⟩ := hno rfl
     have hu1 : (f1 (.int .i64 (n : Int))).getD (.bool false) = .bool false := by rw [hs1 _ hn64]; simp [g1]
     have hlen := len_empty (t := 62) (ty := 3) Try.underlying62 (hom7.z g2)
     have HG3 := hid g3
     have HG4 := hid g4
     have HS1 := hid hs1
     have HS2 := hid hs2
     clear hom7 hb7 b7 hom hb be hbe hyes hno g1 g2 g3 g4 hs1 hs2
     go_wp2_with (first | (at_lookup; refine wpList_look _ rfl _ _ 62 rfl 3 4 kInt Try.underlying62 (zeroBool _) (w2.heap.size) k f1 rfl hf1 _ (.int .i64 (n : Int)) rfl hkey.out (.bool false) hu1 ?_) | (at_mapUpdate; go_must (refine wpList_store _ rfl _ _ _ 62 rfl 3 4 kInt Try.underlying62 (w2.heap.size) k f1 rfl hf1 (by unfold maxLen; omega) _ (.bool true) (.int .i64 (n : Int)) rfl rfl hkey.out ?_)))
     intro w8 hm8 hg8
     have h8 := HO7.out.putD HS1.out hg8 hm8
     have hb8 := HB7.out.trans (below_grownB hg8 (Nat.le_refl _) HB7.out.size)
     have HF := hid (show OM w8 w2.heap.size (w2.heap.size + 1) (k + 1) (rdF (prgL l).2 (l.take (k + 1))).done (rdF (prgL l).2 (l.take (k + 1))).und ∧ Below w2.heap.size w2 w8 from ⟨by rw [HG3.out, HG4.out]; exact h8, hb8⟩)
     clear h8 hb8 hm8 hg8 hf1 hf2 hu1
     go_wp2_with fail
     go_roundw
     case rel => first
       | exact ⟨k + 1, by omega, by go_num, HF.out.1, HF.out.2⟩
       | ((repeat apply Exists.intro); exact ⟨⟨k + 1, by omega, by go_num, HF.out.1, HF.out.2⟩, rfl⟩)
     case measure => simp [intOf]; omega
theorem sagaOnce_v (v : Value) (a : Option Addr) (c : Nat) (l : List Ev) (w : World) (hv : v = .slice a l.length c) (hs : Sl w v 8 l.length (l.flatMap evc)) (hcap : l.length ≤ c) (hfit : FitE l) :
   Calls Try.prog 10 #[v] w fun e w' => e = .returned (.bool true) ∧ Below w.heap.size w w' := by
 subst hv; exact sagaOnce_b a c l w hs hcap hfit
end Go.Proofs.Ytdoblbiodpcjdaa
