/- WHAT COMES IN: a program, a slice of numbers. WALK of SagaOwes. -/
import Derived.Test.YtdoblbiodpcjdaaPgmPlain
import Derived.Test.YtdoblbiodpcjdaaRows
import Derived.Test.YtdoblbiodpcjdaaSlices
import Derived.Test.YtdoblbiodpcjdaaPmM
import Derived.ProofKit
import Derived.OpenShut
import Derived.ShutString
import Derived.SliceStrings
import Derived.Deep.Fields
import Derived.SizedLaws
import Derived.Test.YtdoblbiodpcjdaaBulk
import Derived.Test.YtdoblbiodpcjdaaSnT
import Derived.Deep.RegionHeld3
import Derived.WalkSpells
namespace Go.Proofs.Ytdoblbiodpcjdaa
open Go.ChangeShapes Go.WideShapes Go.ChangeAt Go.RowKit Go.Deep
set_option linter.unusedVariables false
theorem sumBy_one9 {α : Type} (l : List α) : sumBy (fun _ => 1) l = l.length := by
 induction l with
 | nil => rfl
 | cons a r ih => simp only [sumBy, ih, List.length_cons]; omega
theorem sum_one9 {α : Type} (l : List α) : (l.map (fun _ => 1)).sum = l.length := by
 induction l with
 | nil => rfl
 | cons a r ih => simp only [List.map_cons, List.sum_cons, ih, List.length_cons]; omega
set_option maxRecDepth 100000 in
theorem open_progS {H : Type} {enc : TypeId × Value → H} {W : World} {base : Nat} {v : Value} {d : DataW H} {p : List MemPlace} (hv : Value.okWide Try.prog W .any base 32 v)
   (h : DataW.Trod enc Try.prog W 0 (fun _ => true) true 32 v d p) : ∃ (v0 : Value) (lim : Int) (ss : List St), v = .agg #[v0, .int .i64 lim] ∧ Sl W v0 6 ss.length (ss.flatMap stC) ∧ Fit ss := by
 obtain ⟨cs, rfl, hsz⟩ := okWide_struct Try.underlying32 hv
 obtain ⟨fuel, hf⟩ := h
 obtain ⟨ys, n, _, _, hcl, hg⟩ := trod_fields Try.underlying32 (by kernel_rfl) (by kernel_rfl) hf
 obtain ⟨c0, y0, e0, _, t0⟩ := hg 0 _ rfl
 obtain ⟨c1, y1, e1, _, t1⟩ := hg 1 _ rfl
 obtain ⟨ss, g1, g2, _⟩ := trod_sl (P := Try.prog) Try.underlying30 6 (by kernel_rfl) (by omega) stC stC_len (fun a => a.nm.length ≤ maxLen ∧ a.un.length ≤ maxLen) (fun _ => 0) (fun _ => 0) (fun n cs x hx => by
   obtain ⟨ys, m, _, _, hcl, hf⟩ := trod_fields Try.underlying66 (by kernel_rfl) (by kernel_rfl) hx
   obtain ⟨c0, y0, e0, _, t0⟩ := hf 0 _ rfl
   obtain ⟨c1, y1, e1, _, t1⟩ := hf 1 _ rfl
   obtain ⟨c2, y2, e2, _, t2⟩ := hf 2 _ rfl
   obtain ⟨c3, y3, e3, _, t3⟩ := hf 3 _ rfl
   obtain ⟨c4, y4, e4, _, t4⟩ := hf 4 _ rfl
   obtain ⟨c5, y5, e5, _, t5⟩ := hf 5 _ rfl
   obtain ⟨K, k0, _, _⟩ := DataW.trod_int Try.underlying3 t0
   obtain ⟨s1, k1, _, w1⟩ := DataW.trod_string Try.underlying9 t1
   obtain ⟨s2, k2, _, w2⟩ := DataW.trod_string Try.underlying9 t2
   obtain ⟨T, k3, _, _⟩ := DataW.trod_int Try.underlying3 t3
   obtain ⟨U, k4, _, _⟩ := DataW.trod_int Try.underlying3 t4
   obtain ⟨V, k5, _, _⟩ := DataW.trod_int Try.underlying3 t5
   simp only [List.cons.injEq, and_true] at k0 k1 k2 k3 k4 k5
   subst k0; subst k1; subst k2; subst k3; subst k4; subst k5
   match cs, hcl with
   | [d0, d1, d2, d3, d4, d5], _ =>
     simp at e0 e1 e2 e3 e4 e5
     subst e0; subst e1; subst e2; subst e3; subst e4; subst e5
     refine ⟨(K, s1.data.toList, s2.data.toList, T, U, V), ?_, ⟨by rw [← Lib.size_eq]; exact w1, by rw [← Lib.size_eq]; exact w2⟩, Nat.zero_le _⟩
     unfold stC
     simp only [St.kd, St.nm, St.un, St.tr, St.ut, St.wt]) t0
 obtain ⟨N, k1, _, wn⟩ := DataW.trod_int Try.underlying3 t1
 simp only [List.cons.injEq, and_true] at k1
 subst k1
 obtain ⟨l⟩ := cs
 simp only [Value.cells] at hcl e0 e1
 match l, hcl with
 | [d0, d1], _ =>
   simp at e0 e1
   subst e0; subst e1
   exact ⟨d0, N, ss, rfl, g1, g2⟩
set_option maxRecDepth 100000 in
theorem open_progT {H : Type} {enc : TypeId × Value → H} {W : World} {base : Nat} {v : Value} {d : DataW H} {p : List MemPlace} (hv : Value.okWide Try.prog W .any base 32 v)
   (h : DataW.Trod enc Try.prog W 0 (fun _ => true) true 32 v d p) : ∃ (va : Option Addr) (vc : Nat) (lim : Int) (ss : List St), v = .agg #[.slice va ss.length vc, .int .i64 lim] ∧ Sl W (.slice va ss.length vc) 6 ss.length (ss.flatMap stC) := by
 obtain ⟨v0, lim, ss, e, hs, -⟩ := open_progS hv h
 have hs2 := hs
 obtain ⟨_, _, a, c, e2, _⟩ := hs2
 subst e2
 exact ⟨a, c, lim, ss, e, hs⟩
theorem flat_iv (l : List Int) : l.flatMap (fun n => [iv n]) = l.map iv := by
 induction l with
 | nil => rfl
 | cons x r ih => rw [List.flatMap_cons, ih]; rfl
set_option maxRecDepth 100000 in
theorem open_ints {H : Type} {enc : TypeId × Value → H} {W : World} {base : Nat} {ts : List TypeId} {ds : List (DataW H)} {j : Nat} {v : Value} {d : DataW H} {p : List MemPlace}
   (hsz : (DataW.weightsEach Try.prog ts ds).all (· ≤ reachBytes) = true) (ht : ts[j]? = some 54) (hd : ds[j]? = some d) (hv : Value.okWide Try.prog W .any base 54 v)
   (h : DataW.Trod enc Try.prog W 0 (fun _ => true) true 54 v d p) : ∃ (zs : List Int) (a : Option Addr) (c : Nat), v = .slice a zs.length c ∧ Sl W v 1 zs.length (zs.map iv) ∧ zs.length * 8 ≤ 140737488351232 ∧ zs.length + 1 ≤ Rows.uptoBulk d := by
 obtain ⟨a0, len0, cap0, rfl⟩ := okWide_slice Try.underlying54 hv
 obtain ⟨fuel, hf⟩ := h
 obtain ⟨zs, g1, _, g3⟩ := trod_sl (P := Try.prog) Try.underlying54 1 (by kernel_rfl) (by omega) (fun n : Int => [iv n]) (fun _ => rfl) (fun _ => True) (fun d : DataW H => Rows.uptoBulk d) (fun _ => 1) (fun n cs x hx => by
   obtain ⟨K, k0, k1, _⟩ := DataW.trod_int Try.underlying3 hx
   exact ⟨K, k0, trivial, by rw [k1]; simp [Rows.uptoBulk]⟩) (by simpa [Value.cells] using hf)
 obtain ⟨zs2, q1, _, q3⟩ := trod_sl (P := Try.prog) Try.underlying54 1 (by kernel_rfl) (by omega) (fun n : Int => [iv n]) (fun _ => rfl) (fun _ => True) (fun _ : DataW H => 1) (fun _ => 1) (fun n cs x hx => by
   obtain ⟨K, k0, k1, _⟩ := DataW.trod_int Try.underlying3 hx
   exact ⟨K, k0, trivial, Nat.le_refl _⟩) (by simpa [Value.cells] using hf)
 rw [flat_iv] at g1
 obtain ⟨_, _, a, c, e1, _⟩ := id g1
 obtain ⟨_, _, a', c', e2, _⟩ := q1
 rw [Value.slice.injEq] at e1 e2
 have hlen : zs2.length = zs.length := by rw [← e2.2.1, e1.2.1]
 refine ⟨zs, a0, cap0, by rw [e1.2.1], g1, ?_, ?_⟩
 · rcases q3 with ⟨_, hz⟩ | ⟨es, rest, he, hs⟩
   · rw [hz] at hlen
     simp at hlen
     rw [← hlen]; simp
   · rw [sumBy_one9, sum_one9] at hs
     have hw := sized_slice hsz ht (by rw [hd]; exact congrArg some he) Try.underlying54
     have hb : Try.prog.bytesOf 3 = 8 := by kernel_rfl
     rw [hb] at hw
     have hr : reachBytes = 140737488351232 := by decide
     omega
 · refine bulk_sl (g3.imp (fun ⟨x, y⟩ => ⟨x, by rw [y]; rfl⟩) (fun ⟨es, rest, he, hs⟩ => ⟨es, rest, he, by rw [sumBy_one9] at hs; exact hs⟩))
open Go.RowKit
set_option linter.unusedSimpArgs false
theorem owedF_append (ss : List St) (a b : List Int) : owedF ss (a ++ b) = owedF ss b ++ owedF ss a := by
 unfold owedF; rw [List.reverse_append, List.filter_append]
theorem owedR_cases (ss : List St) (l : List Int) : (owedR ss l = none ∧ ¬ ∀ x ∈ l, OwOk ss x) ∨ (owedR ss l = some (owedF ss l) ∧ ∀ x ∈ l, OwOk ss x) := by
 by_cases h : ∀ x ∈ l, OwOk ss x
 · exact .inr ⟨owedR_all h, h⟩
 · refine .inl ⟨?_, h⟩
   obtain ⟨x, hx, hn⟩ : ∃ x, x ∈ l ∧ ¬ OwOk ss x := by
     refine Classical.byContradiction fun q => h fun x hx => ?_
     exact Classical.byContradiction fun r => q ⟨x, hx, r⟩
   exact owedR_no hx hn
theorem owedR_none {ss : List St} {l : List Int} (h : ¬ ∀ x ∈ l, OwOk ss x) : owedR ss l = none := by
 rcases owedR_cases ss l with ⟨q, -⟩ | ⟨-, q⟩
 · exact q
 · exact absurd q h
theorem step_append_slS {P : Program} (w : World) {ops : Array Oper} {o : Oper} {a : Act} {K : Act → World → Prop} {Q : Exit → Act → World → Prop} {E : Prop} (hgd : o.guard = none) (s x : Operand) (t : TypeId)
   (ho : o.op = .call { callee := .builtin .append, args := #[s, x], argTypes := #[t, t] })
   (B : Nat) (e : TypeId) (z : Value) (k bytes : Nat) (ht : P.underlying t = some (.slice e)) (hi : (P.info? e).map (fun i => (i.zero, i.size, i.bytes)) = some (some z, k, bytes)) (hzs : z.cells.size = k) (hk0 : 0 < k)
   (v : Value) (n : Nat) (xs : List Value) (hs : a.eval s = v) (hown : w.ownsRow B e k v n xs)
   (xv : Value) (m : Nat) (cells : List Value) (hx : a.eval x = xv) (hsl : Sl w xv k m cells) (h1 : ∀ u ∈ cells, u.oneCell' = true)
   (hlen : n + m ≤ maxLen) (hbytes : (n + m) * bytes ≤ 140737488355328) (w0 : World) (hB : B ≤ w.heap.size) (hb : Below B w0 w)
   (h : ∀ a' c' w', w'.ownsRow B e k (.slice a' (n + m) c') (n + m) (xs ++ cells) → Below B w0 w' → K (a.put o.dst (.slice a' (n + m) c')) w') :
   if Region.wanted o (yielded ops a.tmps) = true then Oper.wp P o a w K Q else E := by
 have hw : Region.wanted o (yielded ops a.tmps) = true := by simp [Region.wanted, hgd]
 rw [if_pos hw]
 obtain ⟨i0, hi0, hz0, hz1, hz2⟩ := info_parts hi
 obtain ⟨hl, ⟨_, hnil⟩, ad, cap, rfl, hc⟩ := hsl
 cases ad with
 | none =>
   have hc0 := hnil m cap rfl
   have hm : m = 0 := by
     rcases hc with h0 | ⟨b, off, h', _⟩
     · exact h0
     · cases h'
   subst hm; subst hc0
   have hce : cells = [] := List.eq_nil_of_length_eq_zero (by simpa using hl)
   subst hce
   have hrun := run_append_owned_none (P := P) (w := w) B t o.type e i0 k ht hi0 v n xs hown
   obtain ⟨a', c', rfl⟩ := ownsRow_slice hown
   unfold Oper.wp
   simp [execOp, ho, resolve, invoke, builtin, hs, hx, hrun, Result.andThen]
   exact h a' c' w (by simpa using hown) hb
 | some ad =>
   have hy : ∀ j u, cells[j]? = some u → w.cell? (ad.add j) = some u := by
     intro j u hj
     obtain ⟨hjl, rfl⟩ := List.getElem?_eq_some_iff.1 hj
     rcases hc with h0 | ⟨b, off, h', _, hcell⟩
     · subst h0; simp at hl; subst hl; simp at hjl
     · cases h'
       rw [Addr.add_lit]; exact hcell j hjl
   obtain ⟨v', w', hrun, r1, r2, _⟩ := run_append_own (P := P) w B t o.type e i0 z k bytes ht hi0 hz0 hz1 hz2 hzs hk0 v n xs hown ad m cap cells hl hy h1 hlen hbytes hB
   obtain ⟨a', c', rfl⟩ := ownsRow_slice r1
   unfold Oper.wp
   simp [execOp, ho, resolve, invoke, builtin, hs, hx, hrun, Result.andThen]
   exact h a' c' w' r1 (hb.grown r2 hB (fun j hj => (World.ownsRow.lt hown j hj).1))
set_option maxHeartbeats 64000000 in
set_option maxRecDepth 100000 in
theorem sagaOwes_b (ss : List St) (lim : Int) (va : Option Addr) (vc : Nat) (A B : List Int) (aa ba : Option Addr) (ac bc : Nat) (hA : A.length ≤ 1048576) (hB : B.length ≤ 1048576) (w : World) (hp : Sl w (.slice va ss.length vc) 6 ss.length (ss.flatMap stC)) (ha : Sl w (.slice aa A.length ac) 1 A.length (A.map iv)) (hb : Sl w (.slice ba B.length bc) 1 B.length (B.map iv)) :
   Calls Try.prog 11 #[.agg #[.slice va ss.length vc, .int .i64 lim], .slice aa A.length ac, .slice ba B.length bc] w fun e w' => e = .returned (.bool true) ∧ Below w.heap.size w w' := by
 have hsl : ss.length ≤ 9223372036854775807 := hp.2.1.1
 have hinfo : (Try.prog.info? 3).map (fun i => (i.zero, i.size, i.bytes)) = some (some (.int .i64 0), 1, 8) := by kernel_rfl
 have hmx : maxLen = 9223372036854775807 := rfl
 have one : ∀ l : List Int, ∀ u ∈ l.map iv, u.oneCell' = true := fun l u hu => by
   obtain ⟨y, -, rfl⟩ := List.mem_map.1 hu; rfl
 obtain ⟨w0, hw0⟩ : ∃ x, x = w.alloc (.cells #[.slice va ss.length vc, .int .i64 lim] 32) := ⟨_, rfl⟩
 have b0 : Below w.heap.size w w0 := by rw [hw0]; exact (Below.refl _ _).alloc (Nat.le_refl _) _
 have hr0 : w0.heap[w.heap.size]? = some (.cells #[.slice va ss.length vc, .int .i64 lim] 32 (0, 0)) := by rw [hw0]; exact heap_alloc_new w _
 have SC := hid (fun (w' : World) (q : Below w0.heap.size w0 w') => by
   have hx := (q.block _ (gL hr0)).trans hr0
   have p0 : w'.cell? ⟨w.heap.size, 0, none⟩ = some (.slice va ss.length vc) := cR hx rfl
   have p1 : w'.cell? ⟨w.heap.size, 1, none⟩ = some (.int .i64 lim) := cR hx rfl
   exact (⟨q, p0, p1⟩ : Below w0.heap.size w0 w' ∧ w'.cell? ⟨w.heap.size, 0, none⟩ = some (.slice va ss.length vc) ∧ w'.cell? ⟨w.heap.size, 1, none⟩ = some (.int .i64 lim)))
 have HP := hid (fun (w' : World) (q : Below w0.heap.size w0 w') => (hp.below b0).below q)
 have HSA := hid (fun (w' : World) (q : Below w0.heap.size w0 w') => (ha.below b0).below q)
 have HSB := hid (fun (w' : World) (q : Below w0.heap.size w0 w') => (hb.below b0).below q)
 have HOW := hid (fun (zs : List Int) (za : Option Addr) (zc : Nat) (hl : zs.length ≤ 2097152) (w' : World) (q : Below w0.heap.size w0 w') (hz : Sl w' (.slice za zs.length zc) 1 zs.length (zs.map iv)) => owed_any ss lim va vc zs za zc (by omega) w' (HP.out w' q) hz)
 have HW := hid hw0
 have HB0 := hid b0
 have HB := hid (fun (w' : World) (q : Below w0.heap.size w0 w') => b0.trans (q.mono b0.size))
 clear hw0 b0 hr0 hp ha hb
 go_enter Try.func11, Try.ntmps11
 go_wp2_with fail
 rw [← HW.out]
 go_wp2_with fail
 refine (sawake_any w0).mono ?_
 rintro _ w1 ⟨rfl, b1⟩
 obtain ⟨-, p0, p1⟩ := SC.out w1 b1
 have HO1 := hid (HOW.out A aa ac (by omega) w1 b1 (HSA.out w1 b1))
 unfold OwedPost at HO1
 go_wp2_with fail
 refine HO1.out.mono ?_
 rintro _ w2 ⟨v2, rfl, ho2, b2⟩
 have b02 := b1.trans (b2.mono b1.size)
 clear p0 p1 HO1
 obtain ⟨-, p0, p1⟩ := SC.out w2 b02
 have HO2 := hid (HOW.out B ba bc (by omega) w2 b02 (HSB.out w2 b02))
 unfold OwedPost at HO2
 generalize hxA : (owedR ss A).getD [] = xA at *
 have HXA := hid hxA
 clear hxA
 obtain ⟨xa, xc, rfl⟩ := own_shape ho2
 generalize heA : (if owedR ss A = none then (1 : Int) else 0) = eA at *
 have HEA := hid heA
 clear heA
 go_wp2_with fail
 refine HO2.out.mono ?_
 rintro _ w3 ⟨v3, rfl, ho3, b3⟩
 have b03 := b02.trans (b3.mono b02.size)
 clear p0 p1 HO2
 generalize hxB : (owedR ss B).getD [] = xB at *
 have HXB := hid hxB
 clear hxB
 obtain ⟨ya, yc, rfl⟩ := own_shape ho3
 generalize heB : (if owedR ss B = none then (1 : Int) else 0) = eB at *
 have HEB := hid heB
 clear heB
 have hoA := hid (fun (w' : World) (q : Below w3.heap.size w3 w') => own_new (own_new ho2 b3) q)
 have hoB := hid (fun (w' : World) (q : Below w3.heap.size w3 w') => own_new ho3 q)
 have HU3 := hid (fun (w' : World) (q : Below w3.heap.size w3 w') => b03.trans (q.mono b03.size))
 have hs3A := (HSA.out w3 b03)
 have hs3B := (HSB.out w3 b03)
 have hd : Below w3.heap.size w3 (w3.drewN 1) := below_drewN _ _ _
 have hsA := hs3A.below hd
 have hsB := hs3B.below hd
 clear ho2 ho3 b2 b3 b1 hs3A hs3B b02
 obtain ⟨-, p0, p1⟩ := SC.out w3 b03
 go_wp2_with fail
 refine wp_region_noPanic ?_
 refine wp_region_held_drew (S := (fun w' : World => Below w0.heap.size w0 w' ∧ w'.cell? ⟨w.heap.size, 0, none⟩ = some (.slice va ss.length vc) ∧ w'.cell? ⟨w.heap.size, 1, none⟩ = some (.int .i64 lim))) (by kernel_rfl) ?_ (fun hHeld => ?_)
 · exact SC.out _ (HU3.out _ hd)
 refine wpAnyH_take (i := 0) (oi := ?fo0) (v := ?fv0) ?fe0 (by kernel_rfl) (by kernel_rfl) (by kernel_rfl) (fun _ _ _ h => h) (Or.inl ⟨?fw0, ?fy0⟩) (by assumption) ?fr0
 case fe0 => ((simp only [List.getElem?_toArray, List.getElem?_cons_succ, List.getElem?_cons_zero]) <;> rfl)
 case fw0 => rfl
 case fy0 => (intro w hSw; (try dsimp only at hSw); go_simp; (try with_reducible rfl))
 try simp only [Act.put, List.setIfInBounds_toArray, List.set_cons_zero, List.set_cons_succ]
 refine wpAnyH_take (i := 1) (oi := ?fo1) (v := ?fv1) ?fe1 (by kernel_rfl) (by kernel_rfl) (by kernel_rfl) (fun _ _ _ h => h) (Or.inl ⟨?fw1, ?fy1⟩) (by assumption) ?fr1
 case fe1 => ((simp only [List.getElem?_toArray, List.getElem?_cons_succ, List.getElem?_cons_zero]) <;> rfl)
 case fw1 => rfl
 case fy1 => (intro w hSw; (try dsimp only at hSw); go_simp; (try with_reducible rfl))
 try simp only [Act.put, List.setIfInBounds_toArray, List.set_cons_zero, List.set_cons_succ]
 refine wpAnyH_take (i := 3) (oi := ?fo3) (v := ?fv3) ?fe3 (by kernel_rfl) (by kernel_rfl) (by kernel_rfl) (fun _ _ _ h => h) (Or.inl ⟨?fw3, ?fy3⟩) (by assumption) ?fr3
 case fe3 => ((simp only [List.getElem?_toArray, List.getElem?_cons_succ, List.getElem?_cons_zero]) <;> rfl)
 case fw3 => rfl
 case fy3 => (intro w hSw; (try dsimp only at hSw); go_simp; (try with_reducible rfl))
 try simp only [Act.put, List.setIfInBounds_toArray, List.set_cons_zero, List.set_cons_succ]
 refine wpAnyH_ready (rs := [2]) (by kernel_rfl) (by simp) ?_
 refine AllReadyH.cons (o := ?fo2) ?fe2 (fun K hK => ?fc2) ?fn2
 case fn2 => exact AllReadyH.nil
 case fe2 => ((simp only [List.getElem?_toArray, List.getElem?_cons_succ, List.getElem?_cons_zero]) <;> rfl)
 refine step_append_slS _ (by rfl) _ _ 54 (by rfl) w3.heap.size 3 (.int .i64 0) 1 8 Try.underlying54 hinfo (by rfl) (by decide) (.slice none 0 0) 0 [] (by rfl) (World.ownsRow_nil _ _ _ _) _ A.length (A.map iv) (by rfl) hsA (one A) (by omega) (by omega) w3 hd.size hd ?_
 intro a1 c1 w4 o4 b4
 rw [List.nil_append, Nat.zero_add] at o4
 rw [Nat.zero_add]
 have hsB4 := hsB.below (show Below (w3.drewN 1).heap.size (w3.drewN 1) w4 from ⟨b4.os, b4.tape, b4.output, b4.size, b4.block⟩)
 refine hK.out _ _ ?_ (fun hHeld2 => ?_)
 · exact SC.out _ (HU3.out _ b4)
 clear hK K
 try simp only [Act.put, List.setIfInBounds_toArray, List.set_cons_zero, List.set_cons_succ]
 refine wpAnyH_ready (rs := [4]) (by kernel_rfl) (by simp) ?_
 refine AllReadyH.cons (o := ?fo4) ?fe4 (fun K hK => ?fc4) ?fn4
 case fn4 => exact AllReadyH.nil
 case fe4 => ((simp only [List.getElem?_toArray, List.getElem?_cons_succ, List.getElem?_cons_zero]) <;> rfl)
 refine step_append_slS _ (by rfl) _ _ 54 (by rfl) w3.heap.size 3 (.int .i64 0) 1 8 Try.underlying54 hinfo (by rfl) (by decide) _ A.length (A.map iv) (by rfl) o4 _ B.length (B.map iv) (by rfl) hsB4 (one B) (by omega) (by omega) w3 b4.size b4 ?_
 intro a2 c2 w5 o5 b5
 obtain ⟨C, hC⟩ : ∃ C, C = A ++ B := ⟨_, rfl⟩
 have hCl : C.length = A.length + B.length := by rw [hC, List.length_append]
 have hs5 : Sl w5 (.slice a2 C.length c2) 1 C.length (C.map iv) := by
   have := Sl.of_own o5 (by omega)
   rw [hCl, hC, List.map_append]; exact this
 have HO5 := HOW.out C a2 c2 (by rw [hCl]; omega) w5 (HU3.out _ b5) hs5
 unfold OwedPost at HO5
 rw [← hCl]
 have HC := hid hC
 clear hC hCl
 refine hK.out _ _ ?_ (fun hHeld4 => ?_)
 · exact SC.out _ (HU3.out _ b5)
 clear hK K
 try simp only [Act.put, List.setIfInBounds_toArray, List.set_cons_zero, List.set_cons_succ]
 refine wpAnyH_ready (rs := [5]) (by kernel_rfl) (by simp) ?_
 refine AllReadyH.cons (o := ?fo5) ?fe5 (fun K hK => ?fc5) ?fn5
 case fn5 => exact AllReadyH.nil
 case fe5 => ((simp only [List.getElem?_toArray, List.getElem?_cons_succ, List.getElem?_cons_zero]) <;> rfl)
 go_simp
 go_at_call 27
 refine HO5.mono ?_
 rintro _ w6 ⟨v6, rfl, ho6, b6⟩
 have b36 := b5.trans (b6.mono b5.size)
 refine hK.out _ _ ?_ (fun hHeld5 => ?_)
 · exact SC.out _ (HU3.out _ b36)
 clear hK K
 try simp only [Act.put, List.setIfInBounds_toArray, List.set_cons_zero, List.set_cons_succ]
 refine wpAnyH_take (i := 6) (oi := ?fo6) (v := ?fv6) ?fe6 (by kernel_rfl) (by kernel_rfl) (by kernel_rfl) (fun _ _ _ h => h) (Or.inl ⟨?fw6, ?fy6⟩) (by assumption) ?fr6
 case fe6 => ((simp only [List.getElem?_toArray, List.getElem?_cons_succ, List.getElem?_cons_zero]) <;> rfl)
 case fw6 => rfl
 case fy6 => (intro w hSw; (try dsimp only at hSw); go_simp; (try with_reducible rfl))
 try simp only [Act.put, List.setIfInBounds_toArray, List.set_cons_zero, List.set_cons_succ]
 refine wpAnyH_take (i := 7) (oi := ?fo7) (v := ?fv7) ?fe7 (by kernel_rfl) (by kernel_rfl) (by kernel_rfl) (fun _ _ _ h => h) (Or.inl ⟨?fw7, ?fy7⟩) (by assumption) ?fr7
 case fe7 => ((simp only [List.getElem?_toArray, List.getElem?_cons_succ, List.getElem?_cons_zero]) <;> rfl)
 case fw7 => rfl
 case fy7 => (intro w hSw; (try dsimp only at hSw); go_simp; (try with_reducible rfl))
 try simp only [Act.put, List.setIfInBounds_toArray, List.set_cons_zero, List.set_cons_succ]
 refine wpAnyH_take (i := 8) (oi := ?fo8) (v := ?fv8) ?fe8 (by kernel_rfl) (by kernel_rfl) (by kernel_rfl) (fun _ _ _ h => h) (Or.inl ⟨?fw8, ?fy8⟩) (by assumption) ?fr8
 case fe8 => ((simp only [List.getElem?_toArray, List.getElem?_cons_succ, List.getElem?_cons_zero]) <;> rfl)
 case fw8 => rfl
 case fy8 => (intro w hSw; (try dsimp only at hSw); go_simp; (try with_reducible rfl))
 try simp only [Act.put, List.setIfInBounds_toArray, List.set_cons_zero, List.set_cons_succ]
 refine wpAnyH_take (i := 9) (oi := ?fo9) (v := ?fv9) ?fe9 (by kernel_rfl) (by kernel_rfl) (by kernel_rfl) (fun _ _ _ h => h) (Or.inl ⟨?fw9, ?fy9⟩) (by assumption) ?fr9
 case fe9 => ((simp only [List.getElem?_toArray, List.getElem?_cons_succ, List.getElem?_cons_zero]) <;> rfl)
 case fw9 => rfl
 case fy9 => (intro w hSw; (try dsimp only at hSw); go_simp; (try with_reducible rfl))
 try simp only [Act.put, List.setIfInBounds_toArray, List.set_cons_zero, List.set_cons_succ]
 refine wpAnyH_take (i := 10) (oi := ?fo10) (v := ?fv10) ?fe10 (by kernel_rfl) (by kernel_rfl) (by kernel_rfl) (fun _ _ _ h => h) (Or.inl ⟨?fw10, ?fy10⟩) (by assumption) ?fr10
 case fe10 => ((simp only [List.getElem?_toArray, List.getElem?_cons_succ, List.getElem?_cons_zero]) <;> rfl)
 case fw10 => rfl
 case fy10 => (intro w hSw; (try dsimp only at hSw); go_simp; (try with_reducible rfl))
 try simp only [Act.put, List.setIfInBounds_toArray, List.set_cons_zero, List.set_cons_succ]
 refine wpAnyH_done (by kernel_rfl) ?_ _
 refine NoPanic.normal ?_
 have HBF := hid (HB.out w6 (HU3.out w6 b36))
 have HU6 := hid (fun (w' : World) (q : Below w6.heap.size w6 w') => HU3.out w' (b36.trans (q.mono b36.size)))
 have HX6 := hid (hoA.out w6 b36)
 have HY6 := hid (hoB.out w6 b36)
 obtain ⟨-, q0, q1⟩ := SC.out w6 (HU3.out w6 b36)
 clear p0 p1 b36 b5 b6 o5 o4 b4 hs5 HO5 hsA hsB hd hsB4 hoA hoB
 rcases owedR_cases ss A with ⟨qA, nA⟩ | ⟨qA, yA⟩
 · have hCn : owedR ss C = none := owedR_none (fun h => nA (fun x hx => h x (by rw [HC.out]; exact List.mem_append_left _ hx)))
   have h1 : eA = 1 := by have := HEA.out; rw [qA] at this; simpa using this.symm
   subst h1
   clear nA qA HEA HXA
   rw [hCn] at ho6 ⊢
   simp only [Option.getD_none] at ho6
   obtain ⟨za, zc, rfl⟩ := own_shape ho6
   rw [show ([] : List Int).length = 0 from rfl, if_pos rfl]
   clear ho6 hCn
   go_wp2_with fail
   go_ret
   exact ⟨rfl, HBF.out⟩
 rcases owedR_cases ss B with ⟨qB, nB⟩ | ⟨qB, yB⟩
 · have hCn : owedR ss C = none := owedR_none (fun h => nB (fun x hx => h x (by rw [HC.out]; exact List.mem_append_right _ hx)))
   have h1 : eA = 0 := by have := HEA.out; rw [qA] at this; simpa using this.symm
   have h2 : eB = 1 := by have := HEB.out; rw [qB] at this; simpa using this.symm
   subst h1 h2
   clear nB qA qB HEA HEB HXA HXB
   rw [hCn] at ho6 ⊢
   simp only [Option.getD_none] at ho6
   obtain ⟨za, zc, rfl⟩ := own_shape ho6
   rw [show ([] : List Int).length = 0 from rfl, if_pos rfl]
   clear ho6 hCn
   go_wp2_with fail
   go_ret
   exact ⟨rfl, HBF.out⟩
 have h1 : eA = 0 := by have := HEA.out; rw [qA] at this; simpa using this.symm
 have h2 : eB = 0 := by have := HEB.out; rw [qB] at this; simpa using this.symm
 subst h1 h2
 have hCs : ∀ x ∈ C, OwOk ss x := fun x hx => by
   rw [HC.out] at hx
   rcases List.mem_append.1 hx with q | q
   · exact yA x q
   · exact yB x q
 have h3 := HXA.out
 rw [qA] at h3
 have h3 : owedF ss A = xA := h3
 have h4 := HXB.out
 rw [qB] at h4
 have h4 : owedF ss B = xB := h4
 rw [owedR_all hCs] at ho6 ⊢
 simp only [Option.getD_some] at ho6
 obtain ⟨Z, hZ⟩ : ∃ Z, Z = owedF ss C := ⟨_, rfl⟩
 have hZ2 : Z = xB ++ xA := by rw [hZ, HC.out, owedF_append, h3, h4]
 have HZO := hid (fun x (hx : x ∈ Z) => by
   rw [hZ] at hx
   unfold owedF at hx
   rw [List.mem_filter] at hx
   exact (⟨hCs x (List.mem_reverse.1 hx.1), of_decide_eq_true hx.2⟩ : OwOk ss x ∧ undoOf ss x ≠ []))
 have hlA := owedF_len ss A
 have hlB := owedF_len ss B
 rw [h3] at hlA
 rw [h4] at hlB
 have hlZ : Z.length ≤ 2097152 := by rw [hZ2, List.length_append]; omega
 rw [← hZ] at ho6
 have HZ2 := hid hZ2
 obtain ⟨za, zc, rfl⟩ := own_shape ho6
 rw [if_neg (by simp)]
 have HSZ := hid (own_ints ho6 (by omega))
 have HSX := hid (own_ints HX6.out (by omega))
 have HSY := hid (own_ints HY6.out (by omega))
 have HP6 := hid (HP.out w6 (HU6.out w6 (Below.refl _ _)))
 clear ho6 hCs h3 h4 qA qB yA yB HEA HEB HXA HXB hZ hZ2 HC
 go_wp2_with fail
 go_loopw [54] (fun n0 wr => ∃ k : Nat, k ≤ Z.length ∧ n0 = .int .i64 (k : Int) ∧ wr = w6) (fun n0 _ => Z.length - (intOf n0).toNat)
 case atStart => exact ⟨0, Nat.zero_le _, rfl, rfl⟩
 case round =>
   obtain ⟨k, hk, rfl, rfl⟩ := hrel
   by_cases hlt : k < Z.length
   case neg =>
     obtain rfl : k = Z.length := by omega
     go_wp2_with (first | (at_builtin; refine wpList_append_sl _ rfl _ _ 54 rfl wr.heap.size 3 (.int .i64 0) 1 8 Try.underlying54 hinfo rfl (by decide) (.slice none 0 0) 0 [] rfl (World.ownsRow_nil _ _ _ _) (.slice ya xB.length yc) xB.length (xB.map iv) rfl HSY.out (one xB) (by omega) (by omega) wr (Nat.le_refl _) (Below.refl _ _) ?_))
     intro v7 w7 o7 b7 g7
     have o7 : w7.ownsRow wr.heap.size 3 1 v7 xB.length (xB.map iv) := by
       first | exact o7 | (rw [Nat.zero_add] at o7; exact o7) | (rw [List.nil_append] at o7; exact o7) | simpa using o7
     have hsx7 := HSX.out.below b7
     go_wp2_with (first | (at_builtin; refine wpList_append_sl _ rfl _ _ 54 rfl wr.heap.size 3 (.int .i64 0) 1 8 Try.underlying54 hinfo rfl (by decide) v7 xB.length (xB.map iv) rfl o7 (.slice xa xA.length xc) xA.length (xA.map iv) rfl hsx7 (one xA) (by omega) (by omega) wr b7.size b7 ?_))
     intro v8 w8 o8 b8 g8
     have hZl : xB.length + xA.length = Z.length := by rw [HZ2.out, List.length_append]
     rw [hZl, ← List.map_append, ← HZ2.out] at o8
     have hs8 := Sl.of_own o8 (by omega)
     obtain ⟨a8, c8, rfl⟩ := own_shape o8
     have HSM := hid (rsame16 Z Z za a8 zc c8 w8 (HSZ.out.below b8) hs8)
     rw [show decide (Z = Z) = true by simp] at HSM
     have HB8 := hid (HBF.out.trans (b8.mono HBF.out.size))
     clear o7 b7 g7 hsx7 o8 b8 g8 hs8
     go_wp2_with fail
     refine HSM.out.mono ?_
     rintro _ w9 ⟨rfl, b9⟩
     have HB9 := hid (HB8.out.trans (b9.mono HB8.out.size))
     clear b9
     go_wp2_with fail
     go_ret
     exact ⟨rfl, HB9.out⟩
   obtain ⟨zb, zo, rfl, hzb, z0⟩ := int_cell HSZ.out hlt
   obtain ⟨⟨o1, o2, o3⟩, o4⟩ := HZO.out _ (List.getElem_mem hlt)
   generalize Z[k] = x at z0 o1 o2 o3 o4
   obtain ⟨i, rfl⟩ : ∃ i : Nat, x = (i : Int) := ⟨x.toNat, by omega⟩
   have hil : i < ss.length := by omega
   obtain ⟨_, _, a9, cap', hv, hcc⟩ := HP6.out
   rw [Value.slice.injEq] at hv
   obtain ⟨rfl, -, rfl⟩ := hv
   obtain ⟨sb, off, rfl, hblt, hcc⟩ := hcc.resolve_left (by omega)
   have k2 : wr.cell? ⟨sb, off + i * 6 + 2, none⟩ = some (.string ⟨ss[i].2.2.1.toArray⟩) := st_cell hcc i 2 (by decide) hil _ rfl
   have hun : undoOf ss ((i : Nat) : Int) = ss[i].2.2.1 := by
     unfold undoOf
     rw [Int.toNat_natCast, List.getD_eq_getElem?_getD, List.getElem?_eq_getElem hil]; rfl
   rw [hun] at o4
   generalize ss[i].2.2.1 = un at k2 o4
   have hi0 : (0 : Int) ≤ (i : Int) := by omega
   have hi1 : (i : Int) < (ss.length : Int) := by omega
   have hk0 : (0 : Int) ≤ (k : Int) := by omega
   have hk1 : (k : Int) < (Z.length : Int) := by omega
   clear hcc hun o1 o2 o3
   cases un with
   | nil => exact absurd rfl o4
   | cons u0 ur =>
     clear o4
     go_wp2_with fail
     go_roundw
     case rel => first
       | exact ⟨k + 1, by omega, by go_num, trivial⟩
       | ((repeat apply Exists.intro); exact ⟨⟨k + 1, by omega, by go_num, trivial⟩, rfl⟩)
     case measure => simp [intOf]; omega
theorem sagaOwes_v (v : Value) (va : Option Addr) (vc : Nat) (lim : Int) (ss : List St) (u1 : Value) (A : List Int) (aa : Option Addr) (ac : Nat) (u2 : Value) (B : List Int) (ba : Option Addr) (bc : Nat) (w : World) (hv : v = .agg #[.slice va ss.length vc, .int .i64 lim]) (hp : Sl w (.slice va ss.length vc) 6 ss.length (ss.flatMap stC)) (h1 : u1 = .slice aa A.length ac) (ha : Sl w u1 1 A.length (A.map iv)) (h2 : u2 = .slice ba B.length bc) (hb : Sl w u2 1 B.length (B.map iv)) (hA : A.length ≤ 1048576) (hB : B.length ≤ 1048576) :
   Calls Try.prog 11 #[v, u1, u2] w fun e w' => e = .returned (.bool true) ∧ Below w.heap.size w w' := by
 subst hv; subst h1; subst h2; exact sagaOwes_b ss lim va vc A B aa ba ac bc hA hB w hp ha hb
end Go.Proofs.Ytdoblbiodpcjdaa
