/- CONTRACT: wherrylaw07.TableFroms. -/
import Derived.Test.YtfdbcnpbjabjoaaTabAwake
import Derived.Test.YtfdbcnpbjabjoaaTabSame
import Derived.Test.YtfdbcnpbjabjoaaTabLaid
import Derived.Test.YtfdbcnpbjabjoaaTabLawP
import Derived.Test.YtfdbcnpbjabjoaaTabIn
import Derived.RegionTactic
import Derived.Deep.RegionHeld3
import Derived.StillTailTactics
namespace Go.Proofs.Ytfdbcnpbjabjoaa
open Go.RowKit Go.Shelf
set_option linter.unusedVariables false
set_option linter.unusedSimpArgs false

attribute [local go_sem] Oper.semAt_some
theorem binOp_geq_t4 (t : TypeId) (a b : ByteArray) : binOp .geq t (.string a) (.string b) = pure (.bool !(Op.bytesLess a.toList b.toList)) := by simp [binOp, Op.stringOp]
attribute [local go_sem] binOp_geq_t4
theorem prC_arr (p : Pr) : (prC p).toArray = #[.string ⟨p.1.toArray⟩, .string ⟨p.2.1.toArray⟩, .bool p.2.2] := rfl
/-- a loop over pairs, its variable in a box of its own -/
theorem rangeFunc_prs {F : Fence} {n : Nat} {P : Program} {w : World} {g : Operand} {ps : Array Tmp} {assign body : Code} {Q : Exit → Act → World → Prop} {a : Act}
    (hro : F.round = none) (h1 : 1 ≤ n) {gf : Nat} {lb : Array Value} (hg : a.eval g = .func (.func gf) #[] lb) (hFg : F.fn gf) (eg : ∀ args w, (callFunc gf args).run P w = .ok (.enter gf args) w)
    {encs : Pr → Array Value} {Kp : World → World → Prop} {S Sp : List Pr → Prop} {M : Nat} {w0 : World} (hseq : SeqStopsK F (n - 1) P gf lb encs Kp S Sp M w0)
    (hKt : ∀ {A B C : World}, Kp A B → Kp B C → Kp A C) (hKb : ∀ (W : World) (l : Nat) (o o' : Obj), w.heap.size ≤ l → W.heap[l]? = some o → o.isCells = false → o.isWalk = false → Kp W (W.putObj l o')) (hb0 : Below w0.heap.size w0 w) (hps : ∀ x, (encs x).size = ps.size)
    (I : List Pr → World → Prop) (Ix : Code → List Pr → World → Prop) (hI : OwnFrom w.heap.size I) (hIx : ∀ c, OwnFrom w.heap.size (Ix c)) (h0 : I [] w) (T : TypeId) (N : Nat) (af : Pr → Nat → Act)
    (hassign : ∀ (l : Nat) (pre : List Pr) (x : Pr) (W : World) (K : Act → World → Prop), I pre W → (∀ Bx W', KeepsFrom w.heap.size W W' → Kp W W' → I pre W' → N < Bx → W'.heap[Bx]? = some (.cells #[.string ⟨x.1.toArray⟩, .string ⟨x.2.1.toArray⟩, .bool x.2.2] T (0, 0)) → K (af x Bx) W') →
      assign.wpIn (F.inRound l) (n - 1 - 1) P (Exit.then K (fun _ _ _ => False)) { tmps := (ps.zip (encs x)).foldl (fun t (p, v) => t.setIfInBounds p v) a.tmps, defers := [] } W)
    (hbody : ∀ (l : Nat) (pre : List Pr) (x : Pr) (Bx : Nat) (W : World), I pre W → N < Bx → W.heap[Bx]? = some (.cells #[.string ⟨x.1.toArray⟩, .string ⟨x.2.1.toArray⟩, .bool x.2.2] T (0, 0)) → pre.length < M → body.wpIn (F.inRound l) (n - 1 - 1) P (ownPostG w.heap.size Kp I Ix (pre ++ [x]) W) (af x Bx) W)
    (hdone : ∀ (D : Nat) (xs : List Pr) (W : World), w.heap.size ≤ D → S xs → I xs W → W.heap[D]? = some (.deferred (some [])) → Q .normal { a with defers := { target := .collected D, args := #[] } :: a.defers } W)
    (hstop : ∀ (D : Nat) (c : Code) (pre : List Pr) (W : World), w.heap.size ≤ D → Sp pre → Ix c pre W → W.heap[D]? = some (.deferred (some [])) → c.wpIn F n P Q { a with defers := { target := .collected D, args := #[] } :: a.defers } W) :
    (Code.rangeFunc g ps assign body).wpIn F n P Q a w :=
  wpIn_rangeFunc_ownH hro h1 hg hFg eg hseq hKt hKb hb0 hps I Ix hI hIx h0
    (fun p a' W => ∃ Bx, N < Bx ∧ W.heap[Bx]? = some (.cells #[.string ⟨p.1.toArray⟩, .string ⟨p.2.1.toArray⟩, .bool p.2.2] T (0, 0)) ∧ a' = af p Bx)
    (by
      rintro p a' _ A B row ⟨Bx, h1, h2, h3⟩ hg hr
      refine ⟨Bx, h1, ?_, h3⟩
      refine (hg.block Bx (Array.getElem?_eq_some_iff.1 h2).1 (fun e => ?_)).trans h2
      obtain ⟨-, o, ho, hc⟩ := hr Bx e.symm
      rw [h2] at ho
      cases ho
      cases hc)
    (fun l pre x W K hI hK => hassign l pre x W K hI fun Bx W' k1 k2 k3 k4 k5 => hK _ W' k1 k2 k3 ⟨Bx, k4, k5, rfl⟩)
    (fun l pre x a' W hl hr hI ⟨Bx, k4, k5, k6⟩ hlt => by rw [k6]; exact hbody l pre x Bx W hI k4 k5 hlt)
    hdone hstop
set_option maxHeartbeats 16000000 in
set_option maxRecDepth 100000 in
theorem tableFroms_in (v0 : Value) (puts : List Pr) (key : List UInt8) (most : Int) (hm : -9223372036854775808 ≤ most ∧ most ≤ 9223372036854775807) (w : World) (h0 : Sl w v0 3 puts.length (puts.flatMap prC)) (hw : wtP puts ≤ 1048576) (hk : key.length ≤ 1048576) :
    CallsIn Fence.wide 12 Try.prog 10 #[v0, .string ⟨key.toArray⟩, .int .i64 most] w fun e w' => e = .returned (.bool true) ∧ Below w.heap.size w w' := by
  obtain ⟨L, hL⟩ : ∃ L, L = laidP puts := ⟨_, rfl⟩
  have hok : LaidOk L := by rw [hL]; exact laid_ok puts
  have hwt : wtP L ≤ 1048576 := by rw [hL]; have := laid_wt puts; omega
  have hln := wtP_len L
  have hLl : L.length ≤ 1048576 := by omega
  have HLD := hid (fun (V : World) (q : Below w.heap.size w V) => laid_any v0 puts hw V (h0.below q))
  rw [← hL] at HLD
  have hbk : ∀ p ∈ L, p.1.length ≤ 1048576 ∧ p.2.1.length ≤ 1048576 := fun p hp => by have := wtP_mem hp; omega
  obtain ⟨-, -, a0, c0, rfl, -⟩ := h0
  clear hL
  have HBL := hid (fun (V : World) (a : Option Addr) (c : Nat) (q : Sl V (.slice a L.length c) 3 L.length (L.flatMap prC)) (h : L.length ≤ c) => tbuild_any L (.slice a L.length c) (by omega) hbk V q (fun a' n' c' e => by rw [Value.slice.injEq] at e; omega))
  obtain ⟨wk, hwk⟩ : ∃ y, y = (w.alloc (.cells #[.string ⟨key.toArray⟩] 9)).alloc (.cells #[.int .i64 most] 3) := ⟨_, rfl⟩
  obtain ⟨ek, em, bk0⟩ := from_boxes hwk
  have HEK := hid (fun (V : World) (q : Below wk.heap.size wk V) => (⟨(q.block _ (Array.getElem?_eq_some_iff.1 ek).1).trans ek, (q.block _ (Array.getElem?_eq_some_iff.1 em).1).trans em⟩ : V.heap[w.heap.size]? = some (.cells #[.string ⟨key.toArray⟩] 9 (0, 0)) ∧ V.heap[w.heap.size + 1]? = some (.cells #[.int .i64 most] 3 (0, 0))))
  have HBK0 := hid bk0
  have HWK := hid hwk
  have hwks : w.heap.size + 2 ≤ wk.heap.size := (Array.getElem?_eq_some_iff.1 em).1
  clear hwk ek em bk0 hbk
  refine callsIn_of_wp_marks Try.func10 rfl trivial ?_ rfl
  simp only [Try.ntmps10, List.size_toArray, List.length_cons, List.length_nil, Nat.reduceAdd, Nat.reduceSub, Array.replicate_succ, Array.replicate_zero, List.push_toArray, List.append_toArray, List.nil_append, List.cons_append]
  gi_wp2_with (rw [← HWK.out])
  refine ⟨trivial, (callsIn_wide.2 (awake_any wk)).mono ?_⟩
  rintro _ w1 ⟨rfl, b1⟩
  gi_wp2
  refine ⟨trivial, (callsIn_wide.2 (HLD.out w1 (bnext HBK0.out b1))).mono ?_⟩
  rintro _ w2 ⟨la, lc, rfl, hs2, hlc, b2⟩
  gi_wp2
  refine ⟨trivial, (callsIn_wide.2 (HBL.out w2 la lc hs2 hlc)).mono ?_⟩
  rintro _ w3 ⟨rfl, b3⟩
  have hB3 := bnext b1 (bnext b2 b3)
  clear b1 b2 b3 hs2 HLD HBL hlc
  by_cases he : (buildF L).2 = 0
  case neg =>
    have heI : ((buildF L).2 == 0) = false := beq_eq_false_iff_ne.2 he
    have HB := hid (bnext HBK0.out hB3)
    generalize (buildF L).2 = e at *
    clear hB3
    gi_wp2
    refine ⟨_, results_tmp rfl _ _ _, ⟨rfl, HB.out⟩⟩
  case pos =>
  have hle := build_wt hok hwt he
  have hop := open_build (by omega) he
  obtain ⟨prs, hg⟩ := open_good hle hop
  rw [he]
  obtain ⟨s, hs⟩ : ∃ s, s = (buildF L).1 := ⟨_, rfl⟩
  rw [← hs] at hle hop ⊢
  have HO := hid (fun V => open_any s hle V)
  rw [hop] at HO
  have HG := hid hg
  obtain ⟨t, ht⟩ : ∃ t, t = (⟨(grp L).map headK, (grp L).map blkL, filtL L, L⟩ : Tb) := ⟨_, rfl⟩
  have htp : t.ps = L := by rw [ht]
  rw [← ht] at HO HG
  have HTP := hid htp
  have HDN := hid (dropK_nil L)
  have HFL := hid (dropK_filter key hok.asc)
  clear hs ht hop hle hg he hwt hok htp
  gi_wp2
  refine ⟨trivial, (callsIn_wide.2 (HO.out w3)).mono ?_⟩
  rintro _ w4 ⟨⟨g, rfl, ht4, -⟩, b4⟩
  have hB4 := bnext hB3 b4
  clear hB3 b4 HO
  obtain ⟨w5, hw5⟩ : ∃ y, y = w4.alloc (.cells #[.slice none 0 0] 55) := ⟨_, rfl⟩
  have b5 : Below w4.heap.size w4 w5 := by rw [hw5]; exact (Below.refl _ _).alloc (Nat.le_refl _) _
  have hbx5 : Boxed w5 w4.heap.size 55 (.slice none 0 0) := by rw [hw5]; exact Boxed.new w4 _ _
  have hs5 : w5.heap.size = w4.heap.size + 1 := by rw [hw5, World.size_alloc]
  have HW5 := hid hw5
  have HS5 := hid hs5
  clear hw5 hs5
  gi_wp2_with (rw [← HW5.out])
  refine ⟨trivial, (callsIn_wide.2 (from_any g [] w5)).mono ?_⟩
  rintro _ w6 ⟨rfl, hw6⟩
  obtain ⟨e1, e2, b6⟩ := from_boxes hw6
  have hs6 : w6.heap.size = w5.heap.size + 2 := by rw [hw6, World.size_alloc, World.size_alloc]
  have HS6 := hid hs6
  clear hw6 hs6
  unfold fromV
  gi_wp2
  have hb46 : Below w4.heap.size w4 w6 := bnext b5 b6
  have hbx6 : Boxed w6 w4.heap.size 55 (.slice none 0 0) := (b6.block _ hbx5.lt).trans hbx5
  have hx6 := hbx6.cell
  have hs5 := HS5.out
  have hs6 := HS6.out
  refine rangeFunc_prs (F := Fence.wide) (w := w6) rfl (by omega) (gf := 65) (lb := #[.pointer (some ⟨w5.heap.size, 0, none⟩), .pointer (some ⟨w5.heap.size + 1, 0, none⟩)]) rfl trivial (enters_of Try.func65 (by kernel_rfl) rfl)
    (from_stops 11 (by omega) w5.heap.size (w5.heap.size + 1) g w4.heap.size w4.heap.size t prs [] HG.out w6 w4 _ _ e1 e2 (by omega) (by omega) (by omega) hx6 rfl ht4 hb46)
    (fun h k => h.trans k) (fun W l o o' hl h hc hw => KpB.put (by omega) (by omega) W l o o' hl h hc hw) (Below.refl _ _) (fun _ => rfl)
    (fun pre W => (∃ v, Boxed W w4.heap.size 55 v ∧ W.ownsRow w4.heap.size 70 3 v (pre.filter (fun p : Pr => !ltB p.1 key)).length ((pre.filter (fun p : Pr => !ltB p.1 key)).flatMap prC) ∧ True) ∧ Below w4.heap.size w4 W)
    (fun _ _ _ => False)
    (OwnFrom.and (Own.from (holdsRow_own w4.heap.size w4.heap.size 55 70 3 (fun pre : List Pr => (pre.filter (fun p : Pr => !ltB p.1 key)).length) (fun pre => (pre.filter (fun p : Pr => !ltB p.1 key)).flatMap prC) (fun _ _ => True)) _) (ownFrom_below (Nat.le_refl _) (by omega)))
    (fun _ _ _ _ _ hs _ _ => hs)
    ⟨⟨_, hbx6, World.ownsRow_nil _ _ _ _, (by first | trivial | (show ((0 : Nat) : Int) ≤ _; omega))⟩, hb46⟩
    70 w4.heap.size ?af1 ?assign1 ?body1 ?done1 ?stop1
  case assign1 =>
    rintro l pre x W K ⟨⟨v, hv, hrow, hx⟩, hB⟩ hK
    simp only [prE, prC_arr]
    obtain ⟨Bx, hBx⟩ : ∃ B, B = W.heap.size := ⟨_, rfl⟩
    gi_wp2
    rw [← hBx]
    exact hK Bx _ ((KeepsOthers.alloc _ _).from _) (KpB.grow ((Below.refl _ W).alloc (Nat.le_refl _) _) hB.size hv.lt) ⟨⟨v, hv.alloc _, hrow.alloc _, hx⟩, hB.alloc hB.size _⟩ (by rw [hBx]; exact hv.lt) (by rw [hBx]; exact heap_alloc_new W _)
  case body1 =>
    rintro l pre x Bx W ⟨⟨v, hv, hrow, -⟩, hB⟩ hBx hpr hlt
    have hpl : pre.length ≤ 1048576 := by rw [HTP.out, HDN.out] at hlt; omega
    have hql : (pre.filter (fun p : Pr => !ltB p.1 key)).length ≤ pre.length := List.length_filter_le _ _
    have hfs : (pre ++ [x]).filter (fun p : Pr => !ltB p.1 key) = pre.filter (fun p : Pr => !ltB p.1 key) ++ (if (!ltB x.1 key) = true then [x] else []) := by rw [List.filter_append, List.filter_cons, List.filter_nil]
    have HFS := hid hfs
    clear hfs
    generalize pre.filter (fun p : Pr => !ltB p.1 key) = q at *
    obtain ⟨va, vc, rfl⟩ := ownsRow_slice hrow
    have hc := hv.cell
    have hf := hv.frozen
    have hkc : W.cell? ⟨w.heap.size, 0, none⟩ = some (.string ⟨key.toArray⟩) := by rw [cell_of_row _ _ 0 _ _ (0, 0) (HEK.out W (bnext hB4 hB)).1]; rfl
    obtain ⟨y0, y1, y2, -⟩ := prow_cell hpr
    cases hge : ltB x.1 key with
    | true =>
      have hlt2 : Op.bytesLess x.1 key = true := hge
      rw [hge] at HFS
      have HV := hid hv
      have HR := hid hrow
      have HB := hid hB
      clear hv hrow hB hpr hBx
      gi_wp2
      refine ⟨KeepsFrom.refl _ _, KpB.refl _ _ _, ⟨_, HV.out, ?_, trivial⟩, HB.out⟩
      rw [HFS.out]
      simpa using HR.out
    | false =>
      have hlt2 : Op.bytesLess x.1 key = false := hge
      rw [hge] at HFS
      obtain ⟨Wn, hWn⟩ : ∃ y, y = W.alloc (.cells #[.string ⟨x.1.toArray⟩, .string ⟨x.2.1.toArray⟩, .bool x.2.2] 70) := ⟨_, rfl⟩
      have hrn : Wn.ownsRow w4.heap.size 70 3 (.slice va q.length vc) q.length (q.flatMap prC) := by rw [hWn]; exact hrow.alloc _
      have hyn : ∀ j u, (prC x)[j]? = some u → Wn.cell? ⟨W.heap.size, j, none⟩ = some u := fun j u z => by
        have hh : Wn.heap[W.heap.size]? = some (.cells #[.string ⟨x.1.toArray⟩, .string ⟨x.2.1.toArray⟩, .bool x.2.2] 70 (0, 0)) := by rw [hWn]; exact heap_alloc_new W _
        rw [cell_of_row _ _ j _ _ (0, 0) hh, ← z]
        simp [prC, strV]
      have hsn : w4.heap.size ≤ Wn.heap.size := by rw [hWn, World.size_alloc]; have := hB.size; omega
      have hb1 : q.length + 1 ≤ maxLen := by unfold maxLen; omega
      have hb2 : (q.length + 1) * 40 ≤ 140737488355328 := by omega
      have HWn := hid hWn
      gi_wp2_with (gi_at_builtin; rw [← HWn.out]; refine wpListIn_append_row _ rfl _ _ 55 rfl prC 3 (by decide) prC_len prC_one w4.heap.size 70 (.agg #[.string .empty, .string .empty, .bool false]) 40 Try.underlying55 infoPr rfl (.slice va q.length vc) q.length q rfl hrn W.heap.size 1 rfl x hyn hb1 hb2 hsn ?_)
      intro a2 c2 w2 hown' hgrow hnew
      obtain ⟨hv1, hv2, hr2, hk2, hbl2⟩ := hv.appended (by decide) hrow hB.size (Nat.le_refl _) hown' hgrow
      have hc1 := hv1.cell
      have hf1 := hv1.frozen
      have hkp : KpB w4.heap.size w4.heap.size W (w2.setCell ⟨w4.heap.size, 0, none⟩ (.slice a2 (q.length + 1) c2)) := by
        refine ⟨hbl2, fun b c T z hb hx ho => ?_, fun b ⟨u, hu, hub⟩ => ?_⟩
        · have h1 := (Array.getElem?_eq_some_iff.1 hb).1
          refine ((grownBy_setCell' w2 w4.heap.size (.slice a2 (q.length + 1) c2)).block b ?_ (by simpa using hx)).trans ((hgrow.block b (by rw [World.size_alloc]; omega) (fun e => ho ⟨_, hc, e.symm⟩)).trans (heap_alloc_old W _ b h1))
          have := hgrow.size
          rw [World.size_alloc] at this
          omega
        · rw [hv2.cell] at hu
          cases hu
          rcases hnew b hub with z | z
          · exact .inl ⟨_, hc, z⟩
          · refine .inr ⟨?_, (hr2.lt b hub).2⟩
            (try rw [hWn] at z)
            (try rw [World.size_alloc] at z)
            omega
      clear hrn hyn hown' hgrow hnew hv1
      gi_wp2
      refine ⟨hk2.from _, hkp, ⟨_, hv2, ?_, trivial⟩, hB.trans hbl2⟩
      rw [HFS.out]
      simpa using hr2
  case done1 =>
    rintro D1 ys W1 hD1 rfl ⟨⟨vw, hvw, hroww, -⟩, hB14⟩ hK1
    rw [HTP.out, HDN.out, HFL.out] at hroww
    have ht1 := ht4.below hB14
    obtain ⟨aw, cw, rfl⟩ := ownsRow_slice hroww
    have hcw0 := own_cap hroww
    have hsw1 := Sl.of_own hroww (by have := (List.dropWhile_sublist (fun p : Pr => ltB p.1 key) (l := L)).length_le; unfold maxLen dropK; omega)
    have hkc : W1.cell? ⟨w.heap.size, 0, none⟩ = some (.string ⟨key.toArray⟩) := by rw [cell_of_row _ _ 0 _ _ (0, 0) (HEK.out W1 (bnext hB4 hB14)).1]; rfl
    obtain ⟨W2, hW2⟩ : ∃ y, y = W1.alloc (.cells #[.slice none 0 0] 55) := ⟨_, rfl⟩
    have b12 : Below W1.heap.size W1 W2 := by rw [hW2]; exact (Below.refl _ _).alloc (Nat.le_refl _) _
    have hbx2 : Boxed W2 W1.heap.size 55 (.slice none 0 0) := by rw [hW2]; exact Boxed.new W1 _ _
    have hs12 : W2.heap.size = W1.heap.size + 1 := by rw [hW2, World.size_alloc]
    have hl1 : w.heap.size < W1.heap.size := by have := (Array.getElem?_eq_some_iff.1 (HEK.out W1 (bnext hB4 hB14)).1).1; omega
    have hkc2 : W2.cell? ⟨w.heap.size, 0, none⟩ = some (.string ⟨key.toArray⟩) := (b12.cell (p := ⟨w.heap.size, 0, none⟩) hl1).trans hkc
    have HS12 := hid hs12
    have HW2 := hid hW2
    clear hW2 hs12 hkc hs5 hs6 e1 e2
    gi_wp2_with (rw [← HW2.out])
    refine ⟨trivial, (callsIn_wide.2 (from_any g key W2)).mono ?_⟩
    rintro _ W3 ⟨rfl, hW3⟩
    obtain ⟨e1, e2, b23⟩ := from_boxes hW3
    have hs23 : W3.heap.size = W2.heap.size + 2 := by rw [hW3, World.size_alloc, World.size_alloc]
    have HS23 := hid hs23
    clear hW3 hs23
    unfold fromV
    gi_wp2
    have hb13 : Below W1.heap.size W1 W3 := bnext b12 b23
    have hbx3 : Boxed W3 W1.heap.size 55 (.slice none 0 0) := (b23.block _ hbx2.lt).trans hbx2
    have hx3 := hbx3.cell
    have hs5 := HS12.out
    have hs6 := HS23.out
    have hJ2 : OwnFrom W3.heap.size (fun (pre : List Pr) W => (∃ v, Boxed W W1.heap.size 55 v ∧ W.ownsRow W1.heap.size 70 3 v pre.length (pre.flatMap prC) ∧ True) ∧ Below W1.heap.size W1 W) :=
      OwnFrom.and (Own.from (holdsRow_own W1.heap.size W1.heap.size 55 70 3 (fun pre : List Pr => pre.length) (fun pre => pre.flatMap prC) (fun _ _ => True)) _) (ownFrom_below (Nat.le_refl _) (by omega))
    have hdl : (dropK key L).length ≤ L.length := (List.dropWhile_sublist _).length_le
    refine rangeFunc_prs (F := Fence.wide) (w := W3) rfl (by omega) (gf := 65) (lb := #[.pointer (some ⟨W2.heap.size, 0, none⟩), .pointer (some ⟨W2.heap.size + 1, 0, none⟩)]) rfl trivial (enters_of Try.func65 (by kernel_rfl) rfl)
      (from_stops 11 (by omega) W2.heap.size (W2.heap.size + 1) g W1.heap.size W1.heap.size t prs key HG.out W3 W1 _ _ e1 e2 (by omega) (by omega) (by omega) hx3 rfl ht1 hb13)
      (fun h k => h.trans k) (fun W l o o' hl h hc hw => KpB.put (by omega) (by omega) W l o o' hl h hc hw) (Below.refl _ _) (fun _ => rfl)
      (fun pre W => (∃ v, Boxed W W1.heap.size 55 v ∧ W.ownsRow W1.heap.size 70 3 v pre.length (pre.flatMap prC) ∧ (pre.length : Int) ≤ max 0 most) ∧ Below W1.heap.size W1 W)
      (fun c ys W => c = .exit 2 ∧ ∃ pre p, ys = pre ++ [p] ∧ (pre.length : Int) = max 0 most ∧ (∃ v, Boxed W W1.heap.size 55 v ∧ W.ownsRow W1.heap.size 70 3 v pre.length (pre.flatMap prC) ∧ True) ∧ Below W1.heap.size W1 W)
      (OwnFrom.and (Own.from (holdsRow_own W1.heap.size W1.heap.size 55 70 3 (fun pre : List Pr => pre.length) (fun pre => pre.flatMap prC) (fun pre _ => (pre.length : Int) ≤ max 0 most)) _) (ownFrom_below (Nat.le_refl _) (by omega)))
      (fun c => by rintro s A B row ⟨h1, pre, p, h2, h3, h4⟩ hg hr; exact ⟨h1, pre, p, h2, h3, hJ2 pre A B row h4 hg hr⟩)
      ⟨⟨_, hbx3, World.ownsRow_nil _ _ _ _, (by first | trivial | (show ((0 : Nat) : Int) ≤ _; omega))⟩, hb13⟩
      70 W1.heap.size ?af2 ?assign2 ?body2 ?done2 ?stop2
    case assign2 =>
      rintro l pre x W K ⟨⟨v, hv, hrow, hx⟩, hB⟩ hK
      simp only [prE, prC_arr]
      obtain ⟨Bx, hBx⟩ : ∃ B, B = W.heap.size := ⟨_, rfl⟩
      gi_wp2
      rw [← hBx]
      exact hK Bx _ ((KeepsOthers.alloc _ _).from _) (KpB.grow ((Below.refl _ W).alloc (Nat.le_refl _) _) hB.size hv.lt) ⟨⟨v, hv.alloc _, hrow.alloc _, hx⟩, hB.alloc hB.size _⟩ (by rw [hBx]; exact hv.lt) (by rw [hBx]; exact heap_alloc_new W _)
    case body2 =>
      rintro l pre x Bx W ⟨⟨v, hv, hrow, hmo⟩, hB⟩ hBx hpr hlt
      have hpl : pre.length ≤ 1048576 := by rw [HTP.out] at hlt; omega
      obtain ⟨va, vc, rfl⟩ := ownsRow_slice hrow
      have hc := hv.cell
      have hf := hv.frozen
      have hmc : W.cell? ⟨w.heap.size + 1, 0, none⟩ = some (.int .i64 most) := by rw [cell_of_row _ _ 0 _ _ (0, 0) (HEK.out W (bnext hB4 (bnext hB14 hB))).2]; rfl
      obtain ⟨y0, y1, y2, -⟩ := prow_cell hpr
      have hp0 : (0 : Int) ≤ (pre.length : Int) := Int.natCast_nonneg _
      by_cases hge : most ≤ (pre.length : Int)
      · have HV := hid hv
        have HR := hid hrow
        have HB := hid hB
        have HMO := hid (show (pre.length : Int) = max 0 most by omega)
        clear hv hrow hB hpr hBx hmo
        gi_wp2
        refine ⟨KeepsFrom.refl _ _, rfl, pre, x, rfl, HMO.out, ⟨_, HV.out, HR.out, trivial⟩, HB.out⟩
      · have HMO := hid (show ((pre.length : Int) + 1) ≤ max 0 most by omega)
        clear hmo
        obtain ⟨Wn, hWn⟩ : ∃ y, y = W.alloc (.cells #[.string ⟨x.1.toArray⟩, .string ⟨x.2.1.toArray⟩, .bool x.2.2] 70) := ⟨_, rfl⟩
        have hrn : Wn.ownsRow W1.heap.size 70 3 (.slice va pre.length vc) pre.length (pre.flatMap prC) := by rw [hWn]; exact hrow.alloc _
        have hyn : ∀ j u, (prC x)[j]? = some u → Wn.cell? ⟨W.heap.size, j, none⟩ = some u := fun j u z => by
          have hh : Wn.heap[W.heap.size]? = some (.cells #[.string ⟨x.1.toArray⟩, .string ⟨x.2.1.toArray⟩, .bool x.2.2] 70 (0, 0)) := by rw [hWn]; exact heap_alloc_new W _
          rw [cell_of_row _ _ j _ _ (0, 0) hh, ← z]
          simp [prC, strV]
        have hsn : W1.heap.size ≤ Wn.heap.size := by rw [hWn, World.size_alloc]; have := hB.size; omega
        have hb1 : pre.length + 1 ≤ maxLen := by unfold maxLen; omega
        have hb2 : (pre.length + 1) * 40 ≤ 140737488355328 := by omega
        have HWn := hid hWn
        gi_wp2_with (gi_at_builtin; rw [← HWn.out]; refine wpListIn_append_row _ rfl _ _ 55 rfl prC 3 (by decide) prC_len prC_one W1.heap.size 70 (.agg #[.string .empty, .string .empty, .bool false]) 40 Try.underlying55 infoPr rfl (.slice va pre.length vc) pre.length pre rfl hrn W.heap.size 1 rfl x hyn hb1 hb2 hsn ?_)
        intro a2 c2 w2 hown' hgrow hnew
        obtain ⟨hv1, hv2, hr2, hk2, hbl2⟩ := hv.appended (by decide) hrow hB.size (Nat.le_refl _) hown' hgrow
        have hc1 := hv1.cell
        have hf1 := hv1.frozen
        have hkp : KpB W1.heap.size W1.heap.size W (w2.setCell ⟨W1.heap.size, 0, none⟩ (.slice a2 (pre.length + 1) c2)) := by
          refine ⟨hbl2, fun b c T z hb hx ho => ?_, fun b ⟨u, hu, hub⟩ => ?_⟩
          · have h1 := (Array.getElem?_eq_some_iff.1 hb).1
            refine ((grownBy_setCell' w2 W1.heap.size (.slice a2 (pre.length + 1) c2)).block b ?_ (by simpa using hx)).trans ((hgrow.block b (by rw [World.size_alloc]; omega) (fun e => ho ⟨_, hc, e.symm⟩)).trans (heap_alloc_old W _ b h1))
            have := hgrow.size
            rw [World.size_alloc] at this
            omega
          · rw [hv2.cell] at hu
            cases hu
            rcases hnew b hub with z | z
            · exact .inl ⟨_, hc, z⟩
            · refine .inr ⟨?_, (hr2.lt b hub).2⟩
              (try rw [hWn] at z)
              (try rw [World.size_alloc] at z)
              omega
        clear hrn hyn hown' hgrow hnew hv1
        gi_wp2
        refine ⟨hk2.from _, hkp, ⟨_, hv2, ?_, ?_⟩, hB.trans hbl2⟩
        · rw [List.length_append, List.flatMap_append, List.flatMap_singleton]
          exact hr2
        · rw [List.length_append]
          exact HMO.out
    case done2 =>
      rintro D2 ys W4 hD2 rfl ⟨⟨v, hv, hrow4, hmo⟩, hB5⟩ hK2
      rw [HTP.out] at hrow4 hmo
      obtain ⟨kk, hkk, hkd, hpk⟩ : ∃ kk : Nat, max 0 (min most ((dropK key L).length : Int)) = (kk : Int) ∧ kk ≤ (dropK key L).length ∧ dropK key L = (dropK key L).take kk := ⟨(dropK key L).length, by omega, Nat.le_refl _, by rw [List.take_length]⟩
      have hpl : (dropK key L).length = kk := by have := congrArg List.length hpk; rw [List.length_take] at this; omega
      rw [hpl] at hrow4
      have HKD := hid hkd
      have hl4 : W1.heap.size ≤ W4.heap.size := hB5.size
      have hgl : ((dropK key L).take kk).length = kk := by rw [List.length_take]; omega
      conv at hrow4 => rhs; rw [hpk]
      obtain ⟨ag, cg, rfl⟩ := ownsRow_slice hrow4
      have hcg := hv.cell
      have hvw4 : Boxed W4 w4.heap.size 55 (.slice aw (dropK key L).length cw) := (hB5.block _ hvw.lt).trans hvw
      have hcw := hvw4.cell
      have hek := HEK.out W4 (bnext hB4 (bnext hB14 hB5))
      have hck : W4.cell? ⟨w.heap.size, 0, none⟩ = some (.string ⟨key.toArray⟩) := by rw [cell_of_row _ _ 0 _ _ (0, 0) hek.1]; rfl
      have hcm : W4.cell? ⟨w.heap.size + 1, 0, none⟩ = some (.int .i64 most) := by rw [cell_of_row _ _ 0 _ _ (0, 0) hek.2]; rfl
      have lk1 := (Array.getElem?_eq_some_iff.1 hek.1).1
      have lk2 := (Array.getElem?_eq_some_iff.1 hek.2).1
      have lk3 := hvw4.lt
      have lk4 := hv.lt
      have HS := hid (fun (V : World) (q : Below W4.heap.size W4 V) => (⟨q, (q.cell (p := ⟨w.heap.size, 0, none⟩) lk1).trans hck, (q.cell (p := ⟨w.heap.size + 1, 0, none⟩) lk2).trans hcm, (q.cell (p := ⟨w4.heap.size, 0, none⟩) lk3).trans hcw, (q.cell (p := ⟨W1.heap.size, 0, none⟩) lk4).trans hcg⟩ : Below W4.heap.size W4 V ∧ V.cell? ⟨w.heap.size, 0, none⟩ = some (.string ⟨key.toArray⟩) ∧ V.cell? ⟨w.heap.size + 1, 0, none⟩ = some (.int .i64 most) ∧ V.cell? ⟨w4.heap.size, 0, none⟩ = some (.slice aw (dropK key L).length cw) ∧ V.cell? ⟨W1.heap.size, 0, none⟩ = some (.slice ag kk cg)))
      have hsw4 := hsw1.below hB5
      have HSW := hid (fun (V : World) (q : Below W4.heap.size W4 V) => hsw4.below q)
      have ht4' := ht1.below hB5
      have HT4 := hid (fun (V : World) (q : Below W4.heap.size W4 V) => ht4'.below q)
      have hsg := Sl.of_own hrow4 (by unfold maxLen; omega)
      have htk := hsw4.takeP hkd
      have HSG := hid (fun (V : World) (q : Below W4.heap.size W4 V) => (by
        have e := same_yes ((dropK key L).take kk) (.slice ag kk cg) (.slice aw kk cw) (by omega) V (by rw [hgl]; exact hsg.below q) (by rw [hgl]; exact htk.below q)
        exact e : Calls Try.prog 29 #[.slice ag kk cg, .slice aw kk cw] V fun e w' => e = .returned (.bool true) ∧ Below V.heap.size V w'))
      have hkcI : (kk : Int) ≤ (cw : Int) := by omega
      have hk0I : (0 : Int) ≤ (kk : Int) := Int.natCast_nonneg _
      have HKK := hid hkk
      have hlD2 := (Array.getElem?_eq_some_iff.1 hK2).1
      have hlD1 := (Array.getElem?_eq_some_iff.1 hK1).1
      have hk14 := (hB5.block D1 hlD1).trans hK1
      have HFIN := hid (fun (V : World) (q : Below W4.heap.size W4 V) => (⟨(q.block D2 hlD2).trans hK2, (q.block D1 (by omega)).trans hk14, bnext HBK0.out (bnext hB4 (bnext hB14 (bnext hB5 q)))⟩ : V.heap[D2]? = some (.deferred (some [])) ∧ V.heap[D1]? = some (.deferred (some [])) ∧ Below w.heap.size w V))
      have hD12 : D1 ≠ D2 := by omega
      have hwD2 : w.heap.size ≤ D2 := by omega
      have hwD1 : w.heap.size ≤ D1 := by have z1 := hB4.size; have z2 := HS5.out; have z3 := HS6.out; omega
      clear hck hcm hcw hcg hek hsw4 ht4' hsg htk hrow4 hk14 hkk hvw4 hpk hgl hpl
      gi_wp2
      refine wpIn_wide.2 ?_
      refine wp_region_noPanic ?_
      refine wp_region_held_drew (S := (fun w' => Below W4.heap.size W4 w' ∧ w'.cell? ⟨w.heap.size, 0, none⟩ = some (.string ⟨key.toArray⟩) ∧ w'.cell? ⟨w.heap.size + 1, 0, none⟩ = some (.int .i64 most) ∧ w'.cell? ⟨w4.heap.size, 0, none⟩ = some (.slice aw (dropK key L).length cw) ∧ w'.cell? ⟨W1.heap.size, 0, none⟩ = some (.slice ag kk cg))) (by kernel_rfl) ?_ (fun hHeld => ?_)
      · exact HS.out _ (Below.refl _ _).drew
      refine wpAnyH_take (i := 0) (oi := ?fo0w31) (v := ?fv0w31) ?fe0w31 (by kernel_rfl) (by kernel_rfl) (by kernel_rfl) (fun _ _ _ h => h) (Or.inl ⟨?fw0w31, ?fy0w31⟩) (by assumption) ?fr0w31
      case fe0w31 => ((simp only [List.getElem?_toArray, List.getElem?_cons_succ, List.getElem?_cons_zero]) <;> rfl)
      case fw0w31 => rfl
      case fy0w31 => (intro w hSw; (try dsimp only at hSw); go_simp; (try with_reducible rfl))
      try simp only [Act.put, List.setIfInBounds_toArray, List.set_cons_zero, List.set_cons_succ]
      refine wpAnyH_take (i := 1) (oi := ?fo1w31) (v := ?fv1w31) ?fe1w31 (by kernel_rfl) (by kernel_rfl) (by kernel_rfl) (fun _ _ _ h => h) (Or.inl ⟨?fw1w31, ?fy1w31⟩) (by assumption) ?fr1w31
      case fe1w31 => ((simp only [List.getElem?_toArray, List.getElem?_cons_succ, List.getElem?_cons_zero]) <;> rfl)
      case fw1w31 => rfl
      case fy1w31 => (intro w hSw; (try dsimp only at hSw); go_simp; (try with_reducible rfl))
      try simp only [Act.put, List.setIfInBounds_toArray, List.set_cons_zero, List.set_cons_succ]
      refine wpAnyH_take (i := 4) (oi := ?fo4w31) (v := ?fv4w31) ?fe4w31 (by kernel_rfl) (by kernel_rfl) (by kernel_rfl) (fun _ _ _ h => h) (Or.inl ⟨?fw4w31, ?fy4w31⟩) (by assumption) ?fr4w31
      case fe4w31 => ((simp only [List.getElem?_toArray, List.getElem?_cons_succ, List.getElem?_cons_zero]) <;> rfl)
      case fw4w31 => rfl
      case fy4w31 => (intro w hSw; (try dsimp only at hSw); go_simp; (try with_reducible rfl))
      try simp only [Act.put, List.setIfInBounds_toArray, List.set_cons_zero, List.set_cons_succ]
      refine wpAnyH_ready (rs := [2]) (by kernel_rfl) (by simp) ?_
      refine AllReadyH.cons (o := ?fo2w31) ?fe2w31 (fun K hK => ?fc2w31) ?fn2w31
      case fn2w31 => exact AllReadyH.nil
      case fe2w31 => ((simp only [List.getElem?_toArray, List.getElem?_cons_succ, List.getElem?_cons_zero]) <;> rfl)
      go_simp
      go_at_call 31
      refine (from_any g key W4.drew).mono ?_
      rintro _ Wa ⟨rfl, hWa⟩
      obtain ⟨f1, f2, ba⟩ := from_boxes hWa
      clear hWa
      refine hK.out _ _ ?_ (fun hHeld2 => ?_)
      · exact HS.out _ (bnext (Below.refl _ _).drew ba)
      clear hK K
      try simp only [Act.put, List.setIfInBounds_toArray, List.set_cons_zero, List.set_cons_succ]
      refine wpAnyH_ready (rs := [3]) (by kernel_rfl) (by simp) ?_
      refine AllReadyH.cons (o := ?fo3w31) ?fe3w31 (fun K hK => ?fc3w31) ?fn3w31
      case fn3w31 => exact AllReadyH.nil
      case fe3w31 => ((simp only [List.getElem?_toArray, List.getElem?_cons_succ, List.getElem?_cons_zero]) <;> rfl)
      go_simp
      go_at_call 30
      refine (collect_any W4.drew.heap.size g t prs key HG.out Wa _ _ f1 f2 (HT4.out Wa (bnext (Below.refl _ _).drew ba))).mono ?_
      rintro _ Wb ⟨vb, rfl, hob, bb⟩
      rw [HTP.out] at hob
      have bab := bnext (bnext (Below.refl W4.heap.size W4).drew ba) bb
      have hsb := Sl.of_own hob (by unfold maxLen; omega)
      obtain ⟨ab, cb, rfl⟩ := ownsRow_slice hob
      refine hK.out _ _ ?_ (fun hHeld3 => ?_)
      · exact HS.out _ bab
      clear hK K
      try simp only [Act.put, List.setIfInBounds_toArray, List.set_cons_zero, List.set_cons_succ]
      refine wpAnyH_ready (rs := [5]) (by kernel_rfl) (by simp) ?_
      refine AllReadyH.cons (o := ?fo5w31) ?fe5w31 (fun K hK => ?fc5w31) ?fn5w31
      case fn5w31 => exact AllReadyH.nil
      case fe5w31 => ((simp only [List.getElem?_toArray, List.getElem?_cons_succ, List.getElem?_cons_zero]) <;> rfl)
      go_simp
      go_at_call 29
      refine (same_yes (dropK key L) _ _ (by omega) Wb hsb (HSW.out Wb bab)).mono ?_
      rintro _ Wc ⟨rfl, bc⟩
      have babc := bnext bab bc
      refine hK.out _ _ ?_ (fun hHeld5 => ?_)
      · exact HS.out _ babc
      clear hK K
      try simp only [Act.put, List.setIfInBounds_toArray, List.set_cons_zero, List.set_cons_succ]
      refine wpAnyH_take (i := 6) (oi := ?fo6w31) (v := ?fv6w31) ?fe6w31 (by kernel_rfl) (by kernel_rfl) (by kernel_rfl) (fun _ _ _ h => h) (Or.inl ⟨?fw6w31, ?fy6w31⟩) (by assumption) ?fr6w31
      case fe6w31 => ((simp only [List.getElem?_toArray, List.getElem?_cons_succ, List.getElem?_cons_zero]) <;> rfl)
      case fw6w31 => rfl
      case fy6w31 => (intro w hSw; (try dsimp only at hSw); go_simp; (try with_reducible rfl))
      try simp only [Act.put, List.setIfInBounds_toArray, List.set_cons_zero, List.set_cons_succ]
      refine wpAnyH_take (i := 7) (oi := ?fo7w31) (v := ?fv7w31) ?fe7w31 (by kernel_rfl) (by kernel_rfl) (by kernel_rfl) (fun _ _ _ h => h) (Or.inl ⟨?fw7w31, ?fy7w31⟩) (by assumption) ?fr7w31
      case fe7w31 => ((simp only [List.getElem?_toArray, List.getElem?_cons_succ, List.getElem?_cons_zero]) <;> rfl)
      case fw7w31 => rfl
      case fy7w31 => (intro w hSw; (try dsimp only at hSw); go_simp; (try with_reducible rfl))
      try simp only [Act.put, List.setIfInBounds_toArray, List.set_cons_zero, List.set_cons_succ]
      refine wpAnyH_take (i := 8) (oi := ?fo8w31) (v := ?fv8w31) ?fe8w31 (by kernel_rfl) (by kernel_rfl) (by kernel_rfl) (fun _ _ _ h => h) (Or.inl ⟨?fw8w31, ?fy8w31⟩) (by assumption) ?fr8w31
      case fe8w31 => ((simp only [List.getElem?_toArray, List.getElem?_cons_succ, List.getElem?_cons_zero]) <;> rfl)
      case fw8w31 => rfl
      case fy8w31 => (intro w hSw; (try dsimp only at hSw); go_simp; (try with_reducible rfl))
      try simp only [Act.put, List.setIfInBounds_toArray, List.set_cons_zero, List.set_cons_succ]
      refine wpAnyH_take (i := 9) (oi := ?fo9w31) (v := ?fv9w31) ?fe9w31 (by kernel_rfl) (by kernel_rfl) (by kernel_rfl) (fun _ _ _ h => h) (Or.inl ⟨?fw9w31, ?fy9w31⟩) (by assumption) ?fr9w31
      case fe9w31 => ((simp only [List.getElem?_toArray, List.getElem?_cons_succ, List.getElem?_cons_zero]) <;> rfl)
      case fw9w31 => rfl
      case fy9w31 => (intro w hSw; (try dsimp only at hSw); go_simp; (try with_reducible rfl))
      try simp only [Act.put, List.setIfInBounds_toArray, List.set_cons_zero, List.set_cons_succ]
      refine wpAnyH_take (i := 10) (oi := ?fo10w31) (v := ?fv10w31) ?fe10w31 (by kernel_rfl) (by kernel_rfl) (by kernel_rfl) (fun _ _ _ h => h) (Or.inl ⟨?fw10w31, ?fy10w31⟩) (by assumption) ?fr10w31
      case fe10w31 => ((simp only [List.getElem?_toArray, List.getElem?_cons_succ, List.getElem?_cons_zero]) <;> rfl)
      case fw10w31 => rfl
      case fy10w31 => (intro w hSw; (try dsimp only at hSw); go_simp; (try with_reducible rfl))
      try simp only [Act.put, List.setIfInBounds_toArray, List.set_cons_zero, List.set_cons_succ]
      refine wpAnyH_take (i := 11) (oi := ?fo11w31) (v := ?fv11w31) ?fe11w31 (by kernel_rfl) (by kernel_rfl) (by kernel_rfl) (fun _ _ _ h => h) (Or.inl ⟨?fw11w31, ?fy11w31⟩) (by assumption) ?fr11w31
      case fe11w31 => ((simp only [List.getElem?_toArray, List.getElem?_cons_succ, List.getElem?_cons_zero]) <;> rfl)
      case fw11w31 => rfl
      case fy11w31 => (intro w hSw; (try dsimp only at hSw); go_simp; (try with_reducible rfl))
      try simp only [Act.put, List.setIfInBounds_toArray, List.set_cons_zero, List.set_cons_succ]
      refine wpAnyH_take (i := 12) (oi := ?fo12w31) (v := ?fv12w31) ?fe12w31 (by kernel_rfl) (by kernel_rfl) (by kernel_rfl) (fun _ _ _ h => h) (Or.inl ⟨?fw12w31, ?fy12w31⟩) (by assumption) ?fr12w31
      case fe12w31 => ((simp only [List.getElem?_toArray, List.getElem?_cons_succ, List.getElem?_cons_zero]) <;> rfl)
      case fw12w31 => rfl
      case fy12w31 => (intro w hSw; (try dsimp only at hSw); go_simp; (try with_reducible rfl))
      try simp only [Act.put, List.setIfInBounds_toArray, List.set_cons_zero, List.set_cons_succ]
      refine wpAnyH_take (i := 13) (oi := ?fo13w31) (v := (.int .i64 ((kk : Nat) : Int))) ?fe13w31 (by kernel_rfl) (by kernel_rfl) (by kernel_rfl) (fun _ _ _ h => h) (Or.inl ⟨?fw13w31, ?fy13w31⟩) (by assumption) ?fr13w31
      case fe13w31 => ((simp only [List.getElem?_toArray, List.getElem?_cons_succ, List.getElem?_cons_zero]) <;> rfl)
      case fw13w31 => rfl
      case fy13w31 => (intro w hSw; (try dsimp only at hSw); go_simp; (try exact HKK.out))
      try simp only [Act.put, List.setIfInBounds_toArray, List.set_cons_zero, List.set_cons_succ]
      refine wpAnyH_take (i := 14) (oi := ?fo14w31) (v := ?fv14w31) ?fe14w31 (by kernel_rfl) (by kernel_rfl) (by kernel_rfl) (fun _ _ _ h => h) (Or.inl ⟨?fw14w31, ?fy14w31⟩) (by assumption) ?fr14w31
      case fe14w31 => ((simp only [List.getElem?_toArray, List.getElem?_cons_succ, List.getElem?_cons_zero]) <;> rfl)
      case fw14w31 => rfl
      case fy14w31 => (intro w hSw; (try dsimp only at hSw); go_simp; (try with_reducible rfl))
      try simp only [Act.put, List.setIfInBounds_toArray, List.set_cons_zero, List.set_cons_succ]
      refine wpAnyH_ready (rs := [15]) (by kernel_rfl) (by simp) ?_
      refine AllReadyH.cons (o := ?fo15w31) ?fe15w31 (fun K hK => ?fc15w31) ?fn15w31
      case fn15w31 => exact AllReadyH.nil
      case fe15w31 => ((simp only [List.getElem?_toArray, List.getElem?_cons_succ, List.getElem?_cons_zero]) <;> rfl)
      go_simp
      go_at_call 29
      refine (HSG.out Wc babc).mono ?_
      rintro _ Wd ⟨rfl, bd⟩
      have bf := bnext babc bd
      refine hK.out _ _ ?_ (fun hHeld15 => ?_)
      · exact HS.out _ bf
      clear hK K
      try simp only [Act.put, List.setIfInBounds_toArray, List.set_cons_zero, List.set_cons_succ]
      refine wpAnyH_take (i := 16) (oi := ?fo16w31) (v := ?fv16w31) ?fe16w31 (by kernel_rfl) (by kernel_rfl) (by kernel_rfl) (fun _ _ _ h => h) (Or.inl ⟨?fw16w31, ?fy16w31⟩) (by assumption) ?fr16w31
      case fe16w31 => ((simp only [List.getElem?_toArray, List.getElem?_cons_succ, List.getElem?_cons_zero]) <;> rfl)
      case fw16w31 => rfl
      case fy16w31 => (intro w hSw; (try dsimp only at hSw); go_simp; (try with_reducible rfl))
      try simp only [Act.put, List.setIfInBounds_toArray, List.set_cons_zero, List.set_cons_succ]
      refine wpAnyH_take (i := 17) (oi := ?fo17w31) (v := ?fv17w31) ?fe17w31 (by kernel_rfl) (by kernel_rfl) (by kernel_rfl) (fun _ _ _ h => h) (Or.inl ⟨?fw17w31, ?fy17w31⟩) (by assumption) ?fr17w31
      case fe17w31 => ((simp only [List.getElem?_toArray, List.getElem?_cons_succ, List.getElem?_cons_zero]) <;> rfl)
      case fw17w31 => rfl
      case fy17w31 => (intro w hSw; (try dsimp only at hSw); go_simp; (try with_reducible rfl))
      try simp only [Act.put, List.setIfInBounds_toArray, List.set_cons_zero, List.set_cons_succ]
      refine wpAnyH_done (by kernel_rfl) ?_ _
      refine NoPanic.normal ?_
      obtain ⟨k2, k1, kb⟩ := HFIN.out Wd bf
      gi_wp2
      refine ⟨by simp, .inl ⟨_, _, rfl, run_takeDeferred k2, ?_⟩⟩
      have k1' := (World.putObj_heap_other (o := .deferred none) (w := Wd) hD12).trans k1
      refine ⟨by simp, .inl ⟨_, _, rfl, run_takeDeferred k1', ?_⟩⟩
      exact ⟨_, results_tmp rfl _ _ _, ⟨rfl, (kb.trans (belowK_b (w := w) (Nat.le_refl _) Wd D2 _ _ hwD2 k2 rfl rfl)).trans (belowK_b (w := w) (Nat.le_refl _) _ D1 _ _ hwD1 k1' rfl rfl)⟩⟩

    case stop2 =>
      rintro D2 c ys W4 hD2 hSp ⟨rfl, pre, p, rfl, hmo, ⟨v, hv, hrow4, -⟩, hB5⟩ hK2
      rw [HTP.out] at hSp
      have hpx : pre <+: dropK key L := (List.prefix_append pre [p]).trans hSp
      have hpn := hSp.length_le
      rw [List.length_append, List.length_singleton] at hpn
      obtain ⟨kk, hkk, hkd, hpk⟩ : ∃ kk : Nat, max 0 (min most ((dropK key L).length : Int)) = (kk : Int) ∧ kk ≤ (dropK key L).length ∧ pre = (dropK key L).take kk := ⟨pre.length, by omega, by omega, List.prefix_iff_eq_take.1 hpx⟩
      have HKD := hid hkd
      have hl4 : W1.heap.size ≤ W4.heap.size := hB5.size
      rw [hpk] at hrow4
      have hgl : ((dropK key L).take kk).length = kk := by rw [List.length_take]; omega
      rw [hgl] at hrow4
      obtain ⟨ag, cg, rfl⟩ := ownsRow_slice hrow4
      have hcg := hv.cell
      have hvw4 : Boxed W4 w4.heap.size 55 (.slice aw (dropK key L).length cw) := (hB5.block _ hvw.lt).trans hvw
      have hcw := hvw4.cell
      have hek := HEK.out W4 (bnext hB4 (bnext hB14 hB5))
      have hck : W4.cell? ⟨w.heap.size, 0, none⟩ = some (.string ⟨key.toArray⟩) := by rw [cell_of_row _ _ 0 _ _ (0, 0) hek.1]; rfl
      have hcm : W4.cell? ⟨w.heap.size + 1, 0, none⟩ = some (.int .i64 most) := by rw [cell_of_row _ _ 0 _ _ (0, 0) hek.2]; rfl
      have lk1 := (Array.getElem?_eq_some_iff.1 hek.1).1
      have lk2 := (Array.getElem?_eq_some_iff.1 hek.2).1
      have lk3 := hvw4.lt
      have lk4 := hv.lt
      have HS := hid (fun (V : World) (q : Below W4.heap.size W4 V) => (⟨q, (q.cell (p := ⟨w.heap.size, 0, none⟩) lk1).trans hck, (q.cell (p := ⟨w.heap.size + 1, 0, none⟩) lk2).trans hcm, (q.cell (p := ⟨w4.heap.size, 0, none⟩) lk3).trans hcw, (q.cell (p := ⟨W1.heap.size, 0, none⟩) lk4).trans hcg⟩ : Below W4.heap.size W4 V ∧ V.cell? ⟨w.heap.size, 0, none⟩ = some (.string ⟨key.toArray⟩) ∧ V.cell? ⟨w.heap.size + 1, 0, none⟩ = some (.int .i64 most) ∧ V.cell? ⟨w4.heap.size, 0, none⟩ = some (.slice aw (dropK key L).length cw) ∧ V.cell? ⟨W1.heap.size, 0, none⟩ = some (.slice ag kk cg)))
      have hsw4 := hsw1.below hB5
      have HSW := hid (fun (V : World) (q : Below W4.heap.size W4 V) => hsw4.below q)
      have ht4' := ht1.below hB5
      have HT4 := hid (fun (V : World) (q : Below W4.heap.size W4 V) => ht4'.below q)
      have hsg := Sl.of_own hrow4 (by unfold maxLen; omega)
      have htk := hsw4.takeP hkd
      have HSG := hid (fun (V : World) (q : Below W4.heap.size W4 V) => (by
        have e := same_yes ((dropK key L).take kk) (.slice ag kk cg) (.slice aw kk cw) (by omega) V (by rw [hgl]; exact hsg.below q) (by rw [hgl]; exact htk.below q)
        exact e : Calls Try.prog 29 #[.slice ag kk cg, .slice aw kk cw] V fun e w' => e = .returned (.bool true) ∧ Below V.heap.size V w'))
      have hkcI : (kk : Int) ≤ (cw : Int) := by omega
      have hk0I : (0 : Int) ≤ (kk : Int) := Int.natCast_nonneg _
      have HKK := hid hkk
      have hlD2 := (Array.getElem?_eq_some_iff.1 hK2).1
      have hlD1 := (Array.getElem?_eq_some_iff.1 hK1).1
      have hk14 := (hB5.block D1 hlD1).trans hK1
      have HFIN := hid (fun (V : World) (q : Below W4.heap.size W4 V) => (⟨(q.block D2 hlD2).trans hK2, (q.block D1 (by omega)).trans hk14, bnext HBK0.out (bnext hB4 (bnext hB14 (bnext hB5 q)))⟩ : V.heap[D2]? = some (.deferred (some [])) ∧ V.heap[D1]? = some (.deferred (some [])) ∧ Below w.heap.size w V))
      have hD12 : D1 ≠ D2 := by omega
      have hwD2 : w.heap.size ≤ D2 := by omega
      have hwD1 : w.heap.size ≤ D1 := by have z1 := hB4.size; have z2 := HS5.out; have z3 := HS6.out; omega
      clear hck hcm hcw hcg hek hsw4 ht4' hsg htk hrow4 hk14 hkk hvw4 hpk hgl hpx hSp hpn
      gi_wp2
      refine wpIn_wide.2 ?_
      refine wp_region_noPanic ?_
      refine wp_region_held_drew (S := (fun w' => Below W4.heap.size W4 w' ∧ w'.cell? ⟨w.heap.size, 0, none⟩ = some (.string ⟨key.toArray⟩) ∧ w'.cell? ⟨w.heap.size + 1, 0, none⟩ = some (.int .i64 most) ∧ w'.cell? ⟨w4.heap.size, 0, none⟩ = some (.slice aw (dropK key L).length cw) ∧ w'.cell? ⟨W1.heap.size, 0, none⟩ = some (.slice ag kk cg))) (by kernel_rfl) ?_ (fun hHeld => ?_)
      · exact HS.out _ (Below.refl _ _).drew
      refine wpAnyH_take (i := 0) (oi := ?fo0w32) (v := ?fv0w32) ?fe0w32 (by kernel_rfl) (by kernel_rfl) (by kernel_rfl) (fun _ _ _ h => h) (Or.inl ⟨?fw0w32, ?fy0w32⟩) (by assumption) ?fr0w32
      case fe0w32 => ((simp only [List.getElem?_toArray, List.getElem?_cons_succ, List.getElem?_cons_zero]) <;> rfl)
      case fw0w32 => rfl
      case fy0w32 => (intro w hSw; (try dsimp only at hSw); go_simp; (try with_reducible rfl))
      try simp only [Act.put, List.setIfInBounds_toArray, List.set_cons_zero, List.set_cons_succ]
      refine wpAnyH_take (i := 1) (oi := ?fo1w32) (v := ?fv1w32) ?fe1w32 (by kernel_rfl) (by kernel_rfl) (by kernel_rfl) (fun _ _ _ h => h) (Or.inl ⟨?fw1w32, ?fy1w32⟩) (by assumption) ?fr1w32
      case fe1w32 => ((simp only [List.getElem?_toArray, List.getElem?_cons_succ, List.getElem?_cons_zero]) <;> rfl)
      case fw1w32 => rfl
      case fy1w32 => (intro w hSw; (try dsimp only at hSw); go_simp; (try with_reducible rfl))
      try simp only [Act.put, List.setIfInBounds_toArray, List.set_cons_zero, List.set_cons_succ]
      refine wpAnyH_take (i := 4) (oi := ?fo4w32) (v := ?fv4w32) ?fe4w32 (by kernel_rfl) (by kernel_rfl) (by kernel_rfl) (fun _ _ _ h => h) (Or.inl ⟨?fw4w32, ?fy4w32⟩) (by assumption) ?fr4w32
      case fe4w32 => ((simp only [List.getElem?_toArray, List.getElem?_cons_succ, List.getElem?_cons_zero]) <;> rfl)
      case fw4w32 => rfl
      case fy4w32 => (intro w hSw; (try dsimp only at hSw); go_simp; (try with_reducible rfl))
      try simp only [Act.put, List.setIfInBounds_toArray, List.set_cons_zero, List.set_cons_succ]
      refine wpAnyH_ready (rs := [2]) (by kernel_rfl) (by simp) ?_
      refine AllReadyH.cons (o := ?fo2w32) ?fe2w32 (fun K hK => ?fc2w32) ?fn2w32
      case fn2w32 => exact AllReadyH.nil
      case fe2w32 => ((simp only [List.getElem?_toArray, List.getElem?_cons_succ, List.getElem?_cons_zero]) <;> rfl)
      go_simp
      go_at_call 31
      refine (from_any g key W4.drew).mono ?_
      rintro _ Wa ⟨rfl, hWa⟩
      obtain ⟨f1, f2, ba⟩ := from_boxes hWa
      clear hWa
      refine hK.out _ _ ?_ (fun hHeld2 => ?_)
      · exact HS.out _ (bnext (Below.refl _ _).drew ba)
      clear hK K
      try simp only [Act.put, List.setIfInBounds_toArray, List.set_cons_zero, List.set_cons_succ]
      refine wpAnyH_ready (rs := [3]) (by kernel_rfl) (by simp) ?_
      refine AllReadyH.cons (o := ?fo3w32) ?fe3w32 (fun K hK => ?fc3w32) ?fn3w32
      case fn3w32 => exact AllReadyH.nil
      case fe3w32 => ((simp only [List.getElem?_toArray, List.getElem?_cons_succ, List.getElem?_cons_zero]) <;> rfl)
      go_simp
      go_at_call 30
      refine (collect_any W4.drew.heap.size g t prs key HG.out Wa _ _ f1 f2 (HT4.out Wa (bnext (Below.refl _ _).drew ba))).mono ?_
      rintro _ Wb ⟨vb, rfl, hob, bb⟩
      rw [HTP.out] at hob
      have bab := bnext (bnext (Below.refl W4.heap.size W4).drew ba) bb
      have hsb := Sl.of_own hob (by unfold maxLen; omega)
      obtain ⟨ab, cb, rfl⟩ := ownsRow_slice hob
      refine hK.out _ _ ?_ (fun hHeld3 => ?_)
      · exact HS.out _ bab
      clear hK K
      try simp only [Act.put, List.setIfInBounds_toArray, List.set_cons_zero, List.set_cons_succ]
      refine wpAnyH_ready (rs := [5]) (by kernel_rfl) (by simp) ?_
      refine AllReadyH.cons (o := ?fo5w32) ?fe5w32 (fun K hK => ?fc5w32) ?fn5w32
      case fn5w32 => exact AllReadyH.nil
      case fe5w32 => ((simp only [List.getElem?_toArray, List.getElem?_cons_succ, List.getElem?_cons_zero]) <;> rfl)
      go_simp
      go_at_call 29
      refine (same_yes (dropK key L) _ _ (by omega) Wb hsb (HSW.out Wb bab)).mono ?_
      rintro _ Wc ⟨rfl, bc⟩
      have babc := bnext bab bc
      refine hK.out _ _ ?_ (fun hHeld5 => ?_)
      · exact HS.out _ babc
      clear hK K
      try simp only [Act.put, List.setIfInBounds_toArray, List.set_cons_zero, List.set_cons_succ]
      refine wpAnyH_take (i := 6) (oi := ?fo6w32) (v := ?fv6w32) ?fe6w32 (by kernel_rfl) (by kernel_rfl) (by kernel_rfl) (fun _ _ _ h => h) (Or.inl ⟨?fw6w32, ?fy6w32⟩) (by assumption) ?fr6w32
      case fe6w32 => ((simp only [List.getElem?_toArray, List.getElem?_cons_succ, List.getElem?_cons_zero]) <;> rfl)
      case fw6w32 => rfl
      case fy6w32 => (intro w hSw; (try dsimp only at hSw); go_simp; (try with_reducible rfl))
      try simp only [Act.put, List.setIfInBounds_toArray, List.set_cons_zero, List.set_cons_succ]
      refine wpAnyH_take (i := 7) (oi := ?fo7w32) (v := ?fv7w32) ?fe7w32 (by kernel_rfl) (by kernel_rfl) (by kernel_rfl) (fun _ _ _ h => h) (Or.inl ⟨?fw7w32, ?fy7w32⟩) (by assumption) ?fr7w32
      case fe7w32 => ((simp only [List.getElem?_toArray, List.getElem?_cons_succ, List.getElem?_cons_zero]) <;> rfl)
      case fw7w32 => rfl
      case fy7w32 => (intro w hSw; (try dsimp only at hSw); go_simp; (try with_reducible rfl))
      try simp only [Act.put, List.setIfInBounds_toArray, List.set_cons_zero, List.set_cons_succ]
      refine wpAnyH_take (i := 8) (oi := ?fo8w32) (v := ?fv8w32) ?fe8w32 (by kernel_rfl) (by kernel_rfl) (by kernel_rfl) (fun _ _ _ h => h) (Or.inl ⟨?fw8w32, ?fy8w32⟩) (by assumption) ?fr8w32
      case fe8w32 => ((simp only [List.getElem?_toArray, List.getElem?_cons_succ, List.getElem?_cons_zero]) <;> rfl)
      case fw8w32 => rfl
      case fy8w32 => (intro w hSw; (try dsimp only at hSw); go_simp; (try with_reducible rfl))
      try simp only [Act.put, List.setIfInBounds_toArray, List.set_cons_zero, List.set_cons_succ]
      refine wpAnyH_take (i := 9) (oi := ?fo9w32) (v := ?fv9w32) ?fe9w32 (by kernel_rfl) (by kernel_rfl) (by kernel_rfl) (fun _ _ _ h => h) (Or.inl ⟨?fw9w32, ?fy9w32⟩) (by assumption) ?fr9w32
      case fe9w32 => ((simp only [List.getElem?_toArray, List.getElem?_cons_succ, List.getElem?_cons_zero]) <;> rfl)
      case fw9w32 => rfl
      case fy9w32 => (intro w hSw; (try dsimp only at hSw); go_simp; (try with_reducible rfl))
      try simp only [Act.put, List.setIfInBounds_toArray, List.set_cons_zero, List.set_cons_succ]
      refine wpAnyH_take (i := 10) (oi := ?fo10w32) (v := ?fv10w32) ?fe10w32 (by kernel_rfl) (by kernel_rfl) (by kernel_rfl) (fun _ _ _ h => h) (Or.inl ⟨?fw10w32, ?fy10w32⟩) (by assumption) ?fr10w32
      case fe10w32 => ((simp only [List.getElem?_toArray, List.getElem?_cons_succ, List.getElem?_cons_zero]) <;> rfl)
      case fw10w32 => rfl
      case fy10w32 => (intro w hSw; (try dsimp only at hSw); go_simp; (try with_reducible rfl))
      try simp only [Act.put, List.setIfInBounds_toArray, List.set_cons_zero, List.set_cons_succ]
      refine wpAnyH_take (i := 11) (oi := ?fo11w32) (v := ?fv11w32) ?fe11w32 (by kernel_rfl) (by kernel_rfl) (by kernel_rfl) (fun _ _ _ h => h) (Or.inl ⟨?fw11w32, ?fy11w32⟩) (by assumption) ?fr11w32
      case fe11w32 => ((simp only [List.getElem?_toArray, List.getElem?_cons_succ, List.getElem?_cons_zero]) <;> rfl)
      case fw11w32 => rfl
      case fy11w32 => (intro w hSw; (try dsimp only at hSw); go_simp; (try with_reducible rfl))
      try simp only [Act.put, List.setIfInBounds_toArray, List.set_cons_zero, List.set_cons_succ]
      refine wpAnyH_take (i := 12) (oi := ?fo12w32) (v := ?fv12w32) ?fe12w32 (by kernel_rfl) (by kernel_rfl) (by kernel_rfl) (fun _ _ _ h => h) (Or.inl ⟨?fw12w32, ?fy12w32⟩) (by assumption) ?fr12w32
      case fe12w32 => ((simp only [List.getElem?_toArray, List.getElem?_cons_succ, List.getElem?_cons_zero]) <;> rfl)
      case fw12w32 => rfl
      case fy12w32 => (intro w hSw; (try dsimp only at hSw); go_simp; (try with_reducible rfl))
      try simp only [Act.put, List.setIfInBounds_toArray, List.set_cons_zero, List.set_cons_succ]
      refine wpAnyH_take (i := 13) (oi := ?fo13w32) (v := (.int .i64 ((kk : Nat) : Int))) ?fe13w32 (by kernel_rfl) (by kernel_rfl) (by kernel_rfl) (fun _ _ _ h => h) (Or.inl ⟨?fw13w32, ?fy13w32⟩) (by assumption) ?fr13w32
      case fe13w32 => ((simp only [List.getElem?_toArray, List.getElem?_cons_succ, List.getElem?_cons_zero]) <;> rfl)
      case fw13w32 => rfl
      case fy13w32 => (intro w hSw; (try dsimp only at hSw); go_simp; (try exact HKK.out))
      try simp only [Act.put, List.setIfInBounds_toArray, List.set_cons_zero, List.set_cons_succ]
      refine wpAnyH_take (i := 14) (oi := ?fo14w32) (v := ?fv14w32) ?fe14w32 (by kernel_rfl) (by kernel_rfl) (by kernel_rfl) (fun _ _ _ h => h) (Or.inl ⟨?fw14w32, ?fy14w32⟩) (by assumption) ?fr14w32
      case fe14w32 => ((simp only [List.getElem?_toArray, List.getElem?_cons_succ, List.getElem?_cons_zero]) <;> rfl)
      case fw14w32 => rfl
      case fy14w32 => (intro w hSw; (try dsimp only at hSw); go_simp; (try with_reducible rfl))
      try simp only [Act.put, List.setIfInBounds_toArray, List.set_cons_zero, List.set_cons_succ]
      refine wpAnyH_ready (rs := [15]) (by kernel_rfl) (by simp) ?_
      refine AllReadyH.cons (o := ?fo15w32) ?fe15w32 (fun K hK => ?fc15w32) ?fn15w32
      case fn15w32 => exact AllReadyH.nil
      case fe15w32 => ((simp only [List.getElem?_toArray, List.getElem?_cons_succ, List.getElem?_cons_zero]) <;> rfl)
      go_simp
      go_at_call 29
      refine (HSG.out Wc babc).mono ?_
      rintro _ Wd ⟨rfl, bd⟩
      have bf := bnext babc bd
      refine hK.out _ _ ?_ (fun hHeld15 => ?_)
      · exact HS.out _ bf
      clear hK K
      try simp only [Act.put, List.setIfInBounds_toArray, List.set_cons_zero, List.set_cons_succ]
      refine wpAnyH_take (i := 16) (oi := ?fo16w32) (v := ?fv16w32) ?fe16w32 (by kernel_rfl) (by kernel_rfl) (by kernel_rfl) (fun _ _ _ h => h) (Or.inl ⟨?fw16w32, ?fy16w32⟩) (by assumption) ?fr16w32
      case fe16w32 => ((simp only [List.getElem?_toArray, List.getElem?_cons_succ, List.getElem?_cons_zero]) <;> rfl)
      case fw16w32 => rfl
      case fy16w32 => (intro w hSw; (try dsimp only at hSw); go_simp; (try with_reducible rfl))
      try simp only [Act.put, List.setIfInBounds_toArray, List.set_cons_zero, List.set_cons_succ]
      refine wpAnyH_take (i := 17) (oi := ?fo17w32) (v := ?fv17w32) ?fe17w32 (by kernel_rfl) (by kernel_rfl) (by kernel_rfl) (fun _ _ _ h => h) (Or.inl ⟨?fw17w32, ?fy17w32⟩) (by assumption) ?fr17w32
      case fe17w32 => ((simp only [List.getElem?_toArray, List.getElem?_cons_succ, List.getElem?_cons_zero]) <;> rfl)
      case fw17w32 => rfl
      case fy17w32 => (intro w hSw; (try dsimp only at hSw); go_simp; (try with_reducible rfl))
      try simp only [Act.put, List.setIfInBounds_toArray, List.set_cons_zero, List.set_cons_succ]
      refine wpAnyH_done (by kernel_rfl) ?_ _
      refine NoPanic.normal ?_
      obtain ⟨k2, k1, kb⟩ := HFIN.out Wd bf
      gi_wp2
      refine ⟨by simp, .inl ⟨_, _, rfl, run_takeDeferred k2, ?_⟩⟩
      have k1' := (World.putObj_heap_other (o := .deferred none) (w := Wd) hD12).trans k1
      refine ⟨by simp, .inl ⟨_, _, rfl, run_takeDeferred k1', ?_⟩⟩
      exact ⟨_, results_tmp rfl _ _ _, ⟨rfl, (kb.trans (belowK_b (w := w) (Nat.le_refl _) Wd D2 _ _ hwD2 k2 rfl rfl)).trans (belowK_b (w := w) (Nat.le_refl _) _ D1 _ _ hwD1 k1' rfl rfl)⟩⟩

  case stop1 =>
    rintro D c pre W _ _ h _
    exact h.elim
theorem tableFroms_v (v0 : Value) (puts : List Pr) (key : List UInt8) (_h2 : key.length ≤ 140737488351232) (most : Int) (hm : -9223372036854775808 ≤ most ∧ most ≤ 9223372036854775807) (w : World) (h0 : Sl w v0 3 puts.length (puts.flatMap prC)) (_hcap : ∀ a n c, v0 = .slice a n c → n ≤ c) (hw : wtP puts ≤ 1048576) (hk : key.length ≤ 1048576) :
    Calls Try.prog 10 #[v0, .string ⟨key.toArray⟩, .int .i64 most] w fun e w' => e = .returned (.bool true) ∧ Below w.heap.size w w' :=
  callsIn_wide.1 (tableFroms_in v0 puts key most hm w h0 hw hk)
end Go.Proofs.Ytfdbcnpbjabjoaa
