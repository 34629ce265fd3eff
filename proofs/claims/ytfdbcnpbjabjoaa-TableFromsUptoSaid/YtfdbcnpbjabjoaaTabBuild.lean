/- CONTRACT: table.Build. -/
import Derived.Test.YtfdbcnpbjabjoaaTabBS
import Derived.Test.YtfdbcnpbjabjoaaTabBP
import Derived.Test.YtfdbcnpbjabjoaaTabPair
import Derived.Test.YtfdbcnpbjabjoaaBloomMake
import Derived.Test.YtfdbcnpbjabjoaaFrameWrap
import Derived.RegionTactic
import Derived.Deep.RegionHeld3
import Derived.StillTailTactics
import Derived.Stop.RegionWithIn
import Derived.Sort.AtCallIn
namespace Go.Proofs.Ytfdbcnpbjabjoaa
open Go.RowKit Go.Shelf
set_option linter.unusedVariables false
set_option linter.unusedSimpArgs false

attribute [local go_sem] Oper.semAt_some
theorem binOp_leq_tb (t : TypeId) (a b : ByteArray) : binOp .leq t (.string a) (.string b) = pure (.bool !(Op.bytesLess b.toList a.toList)) := by simp [binOp, Op.stringOp]; exact congrArg _ (congrArg _ (leB_eq a.toList b.toList))
attribute [local go_sem] binOp_leq_tb
theorem wrap_q (q : Nat) (h : q ≤ 1048576) : IntKind.i64.wrap (q : Int) = (q : Int) := by rw [IntKind.wrap_i64]; omega
theorem wrap_u (q : Nat) (h : q ≤ 1048576) : IntKind.u64.wrap (q : Int) = (q : Int) := by rw [IntKind.wrap_u64]; omega
theorem le_of {a b : List UInt8} (h : Op.bytesLess b a = false) : Op.bytesLess a b = true ∨ a = b := (ltB_tot h).elim (fun e => .inr e.symm) .inl
theorem nle_of {a b : List UInt8} (h : Op.bytesLess b a = true) : Op.bytesLess a b = false ∧ ¬ a = b := by
  have := leB_eq a b
  rw [show ltB b a = true from h] at this
  simpa [ltB] using this
theorem infoStrT : (Try.prog.info? 9).map (fun i => (i.zero, i.size, i.bytes)) = some (some (.string .empty), 1, 16) := by kernel_rfl
def lastAt (l : List Pr) (m : Nat) : List UInt8 := if m = 0 then [] else (l[m - 1]?.getD ([], [], false)).1
theorem chk_step {l : List Pr} {m : Nat} (h : m < l.length) : chkB (lastAt l m) (l.drop m) = if ltB (lastAt l m) l[m].1 = false ∨ (l[m].2.2 = true ∧ l[m].2.1 ≠ []) then 1 else if 64 < l[m].1.length ∨ 8192 < l[m].2.1.length then 2 else chkB (lastAt l (m + 1)) (l.drop (m + 1)) := by
  rw [List.drop_eq_getElem_cons h, chkB]
  have : lastAt l (m + 1) = l[m].1 := by unfold lastAt; rw [if_neg (by omega), Nat.add_sub_cancel, List.getElem?_eq_getElem h]; rfl
  rw [this]
theorem build_bad {l : List Pr} {c : Int} (hne : l ≠ []) (h : chkB [] l = c) (hc : c ≠ 0) : buildF l = ([], c) := by
  unfold buildF
  rw [if_neg hne, h, if_pos hc]
set_option maxRecDepth 100000 in
set_option maxHeartbeats 16000000 in
theorem tbuild_in (l : List Pr) (v0 : Value) (hl : l.length ≤ 1048576) (hbk : ∀ p ∈ l, p.1.length ≤ 1048576 ∧ p.2.1.length ≤ 1048576) (w : World) (h0 : Sl w v0 3 l.length (l.flatMap prC)) (hcap : ∀ a n c, v0 = .slice a n c → n ≤ c) (hne : l ≠ []) :
    CallsIn Fence.wide 12 Try.prog 22 #[v0] w fun e w' => e = .returned (.tuple #[.string ⟨(buildF l).1.toArray⟩, .int .i64 (buildF l).2]) ∧ Below w.heap.size w w' := by
  have hlp := List.length_pos_iff.2 hne
  obtain ⟨-, -, a', cap, rfl, hc⟩ := h0
  obtain ⟨b, off, rfl, hblt, hc⟩ := hc.resolve_left (by omega)
  have hcp := hcap _ _ _ rfl
  clear hcap
  have hlI : (l.length : Int) ≤ 1048576 := by omega
  have hlz : ¬ (l.length : Int) = 0 := by omega
  have HC := hid (fun (V : World) (q : Below w.heap.size w V) (m : Nat) (hm : m < l.length) => (show ∀ (j : Nat) (u : Value), (prC l[m])[j]? = some u → V.cell? ⟨b, off + m * 3 + j, none⟩ = some u from fun j u hu => by
    have hj : j < 3 := by have := (List.getElem?_eq_some_iff.1 hu).1; rwa [prC_len] at this
    rw [q.cell (p := ⟨b, off + m * 3 + j, none⟩) hblt, Nat.add_assoc]
    exact Sl.cell (f := prC) (k := 3) prC_len hc m j hj hm u hu))
  have HBK := hid hbk
  have HNE := hid hne
  clear hc hbk hne
  refine callsIn_of_wp_marks Try.func22 rfl trivial ?_ rfl
  simp only [Try.ntmps22, List.size_toArray, List.length_cons, List.length_nil, Nat.reduceAdd, Nat.reduceSub, Array.replicate_succ, Array.replicate_zero, List.push_toArray, List.append_toArray, List.nil_append, List.cons_append]
  gi_wp2
  gi_loopw [26] (fun i wr => ∃ m : Nat, m ≤ l.length ∧ i = .int .i64 m ∧ Below w.heap.size w wr ∧ chkB (lastAt l m) (l.drop m) = chkB [] l) (fun i _ => l.length - (intOf i).toNat)
  case atStart => exact ⟨0, by omega, rfl, Below.refl _ _, rfl⟩
  case round =>
    obtain ⟨m, hm, rfl, hbw, hck⟩ := hrel
    by_cases hmq : m < l.length
    case neg =>
      obtain rfl : m = l.length := by omega
      rw [List.drop_length] at hck
      have HCK := hid (show chkB [] l = 0 from hck.symm)
      clear hmq hm hck
      rename World => V0
      gi_wp2
      refine ⟨trivial, (callsIn_wide.2 (chunk_any (some ⟨b, off, none⟩) l.length cap _)).mono ?_⟩
      rintro _ w1 ⟨rfl, hw1⟩
      have hst := BdS.start V0 (.slice (some ⟨b, off, none⟩) l.length cap)
      rw [← hw1] at hst
      have hB1 : Below V0.heap.size V0 w1 := hst.bw
      have hsz : w1.heap.size = V0.heap.size + 6 := by rw [hw1]; simp only [World.size_alloc]
      have HW1 := hid hw1
      clear hw1
      simp only [World.size_alloc, Nat.add_assoc, Nat.reduceAdd] at hst hB1 hsz ⊢
      unfold chunkV
      have HOK := hid ((chkB_ok.1 HCK.out).2)
      gi_wp2
      have HBW := hid (show Below w.heap.size w w1 from bnext hbw hB1)
      have HWN := hid (show w.heap.size ≤ V0.heap.size from hbw.size)
      refine wpIn_rangeFunc_ownG (F := Fence.wide) (w := w1) (α := Fin (chN l.length)) rfl (by omega) (gf := 67) (lb := #[.pointer (some ⟨V0.heap.size + 4, 0, none⟩), .pointer (some ⟨V0.heap.size + 5, 0, none⟩)]) rfl trivial (enters_of Try.func67 (by kernel_rfl) rfl)
        (chunk_stops 11 (by omega) (V0.heap.size + 4) (V0.heap.size + 5) b off l.length cap (by omega) hcp w1 _ _ hst.cs hst.cn)
        (fun h k => h.trans k) (fun W lk o o' hl h hc hw => KpC.put W lk o' (by omega) (by omega)) (Below.refl _ _) (fun _ => rfl)
        (fun pre W => BdS V0.heap.size V0 (.slice (some ⟨b, off, none⟩) l.length cap) (outF l pre) (ksF l pre) (ixF l pre) pre.length W)
        (fun _ _ _ => False)
        (BdS.from (by omega) _ _ _ _)
        (fun _ _ _ _ _ hs _ _ => hs)
        hst ?a1 ?assign ?body ?done ?stop
      case assign =>
        intro lp x W K hK
        dsimp only [chE, chV]
        gi_wp2
        exact hK
      case stop =>
        rintro D c pre W _ _ h _
        exact h.elim
      case body =>
        intro lp pre x W hI hlt
        obtain ⟨g, hg⟩ : ∃ g, g = gAt l x.val := ⟨_, rfl⟩
        have hgl := gAt_len l x.val
        have hgp := gAt_ne l x
        have hgo := gAt_ok HOK.out x.val
        have hat := gAt_at l x.val
        have HO := hid (outF_snoc l pre x)
        have HKS := hid (ksF_snoc l pre x)
        have HIX := hid (ixF_snoc l pre x)
        have HOL := hid (outF_le HOK.out pre)
        have HKL := hid (ksF_len (l := l) pre)
        have HIL := hid (ixF_le HOK.out pre)
        have HNL := hid hlt
        rw [← hg] at hgl hgp hgo hat HO HKS HIX
        generalize outF l pre = ou at *
        generalize ksF l pre = ks at *
        generalize ixF l pre = ix at *
        generalize hcl : pre.length = c at *
        have HPL := hid hcl
        clear hcl
        have HGO := hid hgo
        have HGL := hid hgl
        obtain ⟨J, hJ⟩ : ∃ J, J = 8 * x.val := ⟨_, rfl⟩
        have hg8 : g.length ≤ 8 := by omega
        have HAT := hid (fun (V : World) (q : Below w.heap.size w V) (m : Nat) (hm : m < g.length) => (show ∀ (j : Nat) (u : Value), (prC g[m])[j]? = some u → V.cell? ⟨b, off + J * 3 + m * 3 + j, none⟩ = some u from by
          obtain ⟨h1, h2⟩ := hat m hm
          rw [← hJ] at h1 h2
          rw [List.getElem?_eq_getElem hm, List.getElem?_eq_getElem h1, Option.some.injEq] at h2
          have h3 := HC.out V q (J + m) h1
          rw [← h2, Nat.add_mul, ← Nat.add_assoc] at h3
          exact h3))
        rw [← hJ] at hgl ⊢
        rw [← hgl]
        clear hg hgo hgl hat hlt hJ
        have HHK := hid (show headK g = (g[0]'hgp).1 from by cases g with | nil => simp at hgp | cons p r => rfl)
        have hgI : (g.length : Int) ≤ 8 := by omega
        have hgp0 : ¬ g.length = 0 := by omega
        have HI0 := hid hI
        gi_wp2
        gi_loopw [11, 76] (fun s i wr => ∃ m : Nat, m ≤ g.length ∧ s = .string ⟨((g.take m).flatMap pairL).toArray⟩ ∧ i = .int .i64 m ∧ BdS V0.heap.size V0 (.slice (some ⟨b, off, none⟩) l.length cap) ou (ks ++ (g.take m).map (·.1)) ix c wr ∧ KeepsOthers W wr) (fun s i _ => g.length - (intOf i).toNat)
        case atStart => exact ⟨0, by omega, rfl, rfl, by simpa using HI0.out, KeepsOthers.refl _⟩
        case round =>
          obtain ⟨m, hm, rfl, rfl, hbd, hko⟩ := hrel
          by_cases hmq : m < g.length
          case neg =>
            obtain rfl : m = g.length := by omega
            rw [List.take_length] at hbd ⊢
            clear hmq hm
            obtain ⟨kt, hkt⟩ : ∃ y, y = ks ++ g.map (·.1) := ⟨_, rfl⟩
            rw [← hkt] at hbd
            have HKT := hid hkt
            have hbl : (blkL g).length ≤ 66400 := by have := blkL_le HGO.out; omega
            have hbe : g.flatMap pairL = blkL g := rfl
            rw [hbe]
            have hwl := wrapL_le (s := blkL g) (by omega)
            have HHG := hid (show ∀ V : World, Below w.heap.size w V → V.cell? ⟨b, off + J * 3, none⟩ = some (.string ⟨(headK g).toArray⟩) from fun V q => by
              have h1 := HAT.out V q 0 hgp 0 _ rfl
              rw [HHK.out]
              rw [Nat.zero_mul] at h1
              exact h1)
            have hhk := headK_le HGO.out
            have HWR := wrap_any (blkL g) (by omega)
            generalize blkL g = bl at *
            generalize headK g = hd at *
            clear hkt hbe
            gi_wp2
            refine ⟨trivial, (callsIn_wide.2 (HWR _)).mono ?_⟩
            rintro _ w2 ⟨rfl, hb2⟩
            have hbd2 := hbd.below hb2
            have hk2 := hko.trans (KeepsOthers.below hb2)
            clear hbd hko hb2
            gi_wp2
            refine ⟨trivial, (callsIn_wide.2 (writeS_any V0.heap.size V0.heap.size _ ⟨(wrapL bl).toArray⟩ w2 hbd2.bl ?wl ?wb)).mono ?_⟩
            case wl =>
              have h1 := HOL.out
              have h2 := HNL.out
              unfold chN at h2
              show (Lib.byteCells ou).length + (wrapL bl).length ≤ _
              rw [Lib.byteCells_length]
              omega
            case wb => have := hbd2.size; omega
            rintro _ w3 ⟨rfl, hq3, hb3, ho3⟩
            have hbd3 := hbd2.write (p := .pointer none) hq3 hb3 ho3
            have hk3 := hk2.trans (OthK.others ho3 hb3.size (bldF_cells hbd2.bl |> fun ⟨cs, h⟩ => ⟨cs, _, _, h⟩))
            clear hbd2 hk2 hq3 hb3 ho3
            gi_wp2
            have dI := hbd3.ix.cell
            have fI := hbd3.ix.frozen
            have hs3 := hbd3.size
            have dH := HHG.out w3 (hbw.trans (hbd3.bw.mono HWN.out))
            have HTX := fun V => text_any hd (by omega) V
            have hil : ix.length ≤ 10000000 := by
              have h1 := HIL.out
              have h2 := HNL.out
              unfold chN at h2
              omega
            have htx := textL_le (k := hd) (by omega)
            have hcat := fun V => run_cat (P := Try.prog) V ix (textL hd) (by omega)
            gi_region_with (refine ⟨trivial, (CallsIn.inRound lp (callsIn_wide.2 (HTX _))).mono ?_⟩; rintro _ wa ⟨rfl, hba⟩; have da := (hba.cell (p := ⟨V0.heap.size + 2, 0, none⟩) (by show V0.heap.size + 2 < w3.heap.size; omega)).trans dI; have fa := (hba.frozen (p := ⟨V0.heap.size + 2, 0, none⟩) (by show V0.heap.size + 2 < w3.heap.size; omega)).trans fI)
            all_goals
              have hbz : Below w3.heap.size w3 wa := ⟨hba.os, hba.tape, hba.output, hba.size, hba.block⟩
              have hbd5 := (hbd3.below hbz).setIx (ix ++ textL hd)
              have hk5 := (hk3.trans (KeepsOthers.below hbz)).trans (KeepsOthers.setCell wa ⟨V0.heap.size + 2, 0, none⟩ (.string ⟨(ix ++ textL hd).toArray⟩))
              obtain ⟨W5, hW5⟩ : ∃ y, y = wa.setCell ⟨V0.heap.size + 2, 0, none⟩ (.string ⟨(ix ++ textL hd).toArray⟩) := ⟨_, rfl⟩
              rw [← hW5] at hbd5 hk5
              have HW5 := hid hW5
              have dC := hbd5.ct.cell
              have fC := hbd5.ct.frozen
              have hcI : (c : Int) ≤ 131072 := by
                have h2 := HNL.out
                unfold chN at h2
                omega
              have hc0 : (0 : Int) ≤ (c : Int) := Int.natCast_nonneg _
              have hbd6 := hid (hbd5.setCt (c + 1))
              have hk6 := hid (hk5.trans (KeepsOthers.setCell W5 ⟨V0.heap.size + 3, 0, none⟩ (.int .i64 ((c + 1 : Nat) : Int))))
              clear hW5 hba hbz da fa dI fI dH hbd3 hk3 hbd5 hk5
              gi_wp2_with (rw [← HW5.out])
              refine ⟨hk6.out.from _, HI0.out.kp hbd6.out, ?_⟩
              show BdS _ _ _ (outF l (pre ++ [x])) (ksF l (pre ++ [x])) (ixF l (pre ++ [x])) (pre ++ [x]).length _
              rw [HO.out, HKS.out, HIX.out, List.length_append, HPL.out, ← HKT.out]
              exact hbd6.out
          case pos =>
          obtain ⟨kt, hkt⟩ : ∃ y, y = ks ++ (g.take m).map (·.1) := ⟨_, rfl⟩
          have hKI : kt.length ≤ 2000000 := by have := HKL.out; have := HNL.out; unfold chN at this; rw [hkt, List.length_append, List.length_map, List.length_take]; omega
          rw [← hkt] at hbd
          have HKT := hid hkt
          clear hkt
          obtain ⟨sm, hsm⟩ : ∃ y, y = (g.take m).flatMap pairL := ⟨_, rfl⟩
          have HSM := hid hsm
          rw [← hsm]
          clear hsm
          have hbV : Below w.heap.size w wr := by
            have h1 := hbd.bw
            exact hbw.trans (h1.mono HWN.out)
          have hcm := HAT.out wr hbV m hmq
          have hbl : sm.length ≤ 66400 := by
            have h1 := blkL_le (g := g.take m) (fun p hp => HGO.out p (List.mem_of_mem_take hp))
            have h2 : (g.take m).length ≤ 8 := by rw [List.length_take]; omega
            have h3 : blkL (g.take m) = sm := HSM.out.symm
            rw [h3] at h1
            omega
          have hpo := HGO.out g[m] (List.getElem_mem hmq)
          have HTK := hid (show g.take (m + 1) = g.take m ++ [g[m]] from List.take_succ_eq_append_getElem hmq)
          obtain ⟨pm, hpm⟩ : ∃ y, y = g[m] := ⟨_, rfl⟩
          rw [← hpm] at hcm hpo HTK
          obtain ⟨kk, vv, gg⟩ := pm
          have q0 : wr.cell? ⟨b, off + J * 3 + m * 3, none⟩ = some (.string ⟨kk.toArray⟩) := hcm 0 _ rfl
          have q1 : wr.cell? ⟨b, off + J * 3 + m * 3 + 1, none⟩ = some (.string ⟨vv.toArray⟩) := hcm 1 _ rfl
          have q2 : wr.cell? ⟨b, off + J * 3 + m * 3 + 2, none⟩ = some (.bool gg) := hcm 2 _ rfl
          have hpl := pairL_le hpo
          have HPA := hid (fun V : World => pair_any (kk, vv, gg) hpo V)
          unfold prV at HPA
          dsimp only at HPA
          have hmi : (m : Int) < (g.length : Int) := by omega
          have hm0 : (0 : Int) ≤ (m : Int) := by omega
          have hsz1 := hbd.size
          obtain ⟨W2, hW⟩ : ∃ y, y = wr.alloc (.cells #[.string ⟨kk.toArray⟩, .string ⟨vv.toArray⟩, .bool gg] 70) := ⟨_, rfl⟩
          have bW : Below wr.heap.size wr W2 := by rw [hW]; exact (Below.refl _ _).alloc (Nat.le_refl _) _
          have hCW : W2.heap[wr.heap.size]? = some (.cells #[.string ⟨kk.toArray⟩, .string ⟨vv.toArray⟩, .bool gg] 70 (0, 0)) := by rw [hW]; exact heap_alloc_new wr _
          obtain ⟨y0, y1, y2, -⟩ := prow_cell hCW
          have HS2 := hid (show W2.heap.size = wr.heap.size + 1 by rw [hW, World.size_alloc])
          have hs2 : V0.heap.size + 6 ≤ W2.heap.size := by rw [HS2.out]; omega
          have hbd2 := hbd.below bW
          have hko2 := hko.trans (KeepsOthers.below bW)
          obtain ⟨v, hv, hrow⟩ := hbd2.ky
          obtain ⟨va, vc, rfl⟩ := ownsRow_slice hrow
          have hc := hv.cell
          have hf := hv.frozen
          have HW := hid hW
          have HCM := hid hcm
          obtain ⟨i0, hi, hz0, hz1, hz2⟩ := info_parts infoStrT
          clear hW hcm hpm bW hpo
          gi_wp2_with (first | rw [← HW.out] | (gi_at_builtin; go_loud (refine wpListIn_append_own _ rfl _ _ 53 rfl (V0.heap.size + 6) 9 i0 (.string .empty) 1 16 Try.underlying53 hi hz0 hz1 hz2 rfl (by decide) _ _ _ rfl (hrow.alloc _) ⟨W2.heap.size, 0, none⟩ 1 1 [.string ⟨kk.toArray⟩] rfl rfl (cell_one_new _ _ _) (by simp [Value.oneCell']) (by unfold maxLen; omega) (by omega) (by simp; omega) ?_)))
          intro v' w3 hown' hgrow _
          obtain ⟨g', cap', rfl⟩ := ownsRow_succ hown'
          obtain ⟨hv1, hbd4, hk4⟩ := hbd2.addKy (k := kk) hv hrow hown' hgrow
          have hc1 := hv1.cell
          have hf1 := hv1.frozen
          have hw3 : w3.heap[wr.heap.size]? = some (.cells #[.string ⟨kk.toArray⟩, .string ⟨vv.toArray⟩, .bool gg] 70 (0, 0)) := by
            have hl2 := (Array.getElem?_eq_some_iff.1 hCW).1
            refine (hgrow.block wr.heap.size (by rw [World.size_alloc]; omega) (fun e => ?_)).trans ((heap_alloc_old W2 _ _ hl2).trans hCW)
            obtain ⟨cs, hk⟩ := ownsRow_kind hrow _ e.symm
            rw [hCW] at hk; cases hk
          obtain ⟨W4, hW4⟩ : ∃ y, y = w3.setCell ⟨V0.heap.size + 1, 0, none⟩ (.slice (some ⟨g', 0, none⟩) (kt.length + 1) cap') := ⟨_, rfl⟩
          rw [← hW4] at hbd4 hk4
          have hw4 : W4.heap[wr.heap.size]? = some (.cells #[.string ⟨kk.toArray⟩, .string ⟨vv.toArray⟩, .bool gg] 70 (0, 0)) := by
            rw [hW4]
            exact ((grownBy_setCell' w3 (V0.heap.size + 1) _).block wr.heap.size (Array.getElem?_eq_some_iff.1 hw3).1 (fun e => by have := Option.some.inj e; omega)).trans hw3
          obtain ⟨z0, z1, z2, -⟩ := prow_cell hw4
          have HW4 := hid hW4
          have hk5 := hko2.trans hk4
          have hcat := fun V => run_cat (P := Try.prog) V sm (pairL (kk, vv, gg)) (by omega)
          clear hW4 hw4 hw3 hown' hgrow hv1 hrow hv hbd2 hko2 hko hbd hCW y0 y1 y2 q0 q1 q2 hc hf hk4 hi hz0 hz1 hz2
          gi_wp2_with (rw [← HW4.out])
          refine ⟨trivial, (callsIn_wide.2 (HPA.out W4)).mono ?_⟩
          rintro _ w5 ⟨rfl, hb5⟩
          have hbd5 := hid (hbd4.below hb5)
          have hk6 := hid (hk5.trans (KeepsOthers.below hb5))
          clear hbd4 hk5 hb5
          gi_wp2
          refine ⟨⟨m + 1, by omega, by rw [HTK.out, List.flatMap_append, ← HSM.out]; simp, rfl, by rw [HTK.out, List.map_append, ← List.append_assoc, ← HKT.out]; exact hbd5.out, hk6.out⟩, ?_⟩
          simp [intOf]; omega
      case done =>
        rintro D xs W hD rfl hI hK
        rw [outF_all, ksF_all, ixF_all, List.length_finRange] at hI
        have hkl : (keysL l).length = l.length := by unfold keysL; rw [List.length_map]
        have hgl := grp_len l
        obtain ⟨v, hv, hrow⟩ := hI.ky
        obtain ⟨va, vc, rfl⟩ := ownsRow_slice hrow
        have dK := hv.cell
        have hmi : min ((l.length : Int) + 8) 8192 = ((min (l.length + 8) 8192 : Nat) : Int) := by omega
        rw [hkl] at hrow dK
        have HF := hid (show filtL l = makeL (min (l.length + 8) 8192) (keysL l) from rfl)
        obtain ⟨q, hq⟩ : ∃ q, q = min (l.length + 8) 8192 := ⟨_, rfl⟩
        rw [← hq] at hmi HF
        have hq1 : 1 ≤ q ∧ q ≤ 8192 := by omega
        have hSl : Sl W (.slice va l.length vc) 1 (keysL l).length ((keysL l).map strV) := by rw [hkl]; exact Sl.of_own hrow (by unfold maxLen; omega)
        have hkm : ∀ k ∈ keysL l, k.length ≤ maxLen := fun k hk => by
          obtain ⟨p, hp, rfl⟩ := List.mem_map.1 hk
          have := (HOK.out p hp).k64
          unfold maxLen; omega
        have hWD : D < W.heap.size := (Array.getElem?_eq_some_iff.1 hK).1
        have hfl := makeL_len q (keysL l)
        have hko := KeepsOthers.refl W
        have HMK := make_any (.slice va l.length vc) (keysL l) q hq1.1 hq1.2 hkm W hSl
        have HFT := hid (show footL l = putL (chN l.length) ++ (indexL l ++ (putL l.length ++ textL (makeL q (keysL l)))) by unfold footL; rw [hgl, HF.out])
        have hixl : (indexL l).length ≤ 10000000 := by
          have h1 := ixF_le HOK.out (List.finRange (chN l.length))
          rw [ixF_all, List.length_finRange] at h1
          unfold chN at h1
          omega
        have hcn : chN l.length ≤ 131072 := by unfold chN; omega
        have hcn1 : 1 ≤ chN l.length := by unfold chN; omega
        clear hq hv hst hrow hgl hSl hkm
        gi_wp2
        refine ⟨trivial, (callsIn_wide.2 HMK).mono ?_⟩
        rintro _ w2 ⟨rfl, hb2⟩
        generalize makeL q (keysL l) = fl at *
        have hI2 := hI.below hb2
        have hk2 := KeepsOthers.below hb2
        have dC := hI2.ct.cell
        have dX := hI2.ix.cell
        have hsz2 := hI2.size
        have HS := hid (fun (V : World) (h : Below w2.heap.size w2 V) => (⟨h, (h.cell (p := ⟨V0.heap.size + 3, 0, none⟩) (by show V0.heap.size + 3 < w2.heap.size; omega)).trans dC, (h.cell (p := ⟨V0.heap.size + 2, 0, none⟩) (by show V0.heap.size + 2 < w2.heap.size; omega)).trans dX⟩ : Below w2.heap.size w2 V ∧ V.cell? ⟨V0.heap.size + 3, 0, none⟩ = some (.int .i64 (chN l.length : Nat)) ∧ V.cell? ⟨V0.heap.size + 2, 0, none⟩ = some (.string ⟨(indexL l).toArray⟩)))
        have HIX := hid (show indexL l = indexL l from rfl)
        generalize indexL l = ix at *
        generalize hcn0 : chN l.length = cn at *
        have hcI : (cn : Int) ≤ 131072 := by omega
        have hcz : (0 : Int) ≤ (cn : Int) := Int.natCast_nonneg _
        have hlz0 : (0 : Int) ≤ (l.length : Int) := Int.natCast_nonneg _
        clear HMK hb2 dC dX dK
        have hp1 := putL_len10 (n := cn) (by unfold U64; omega)
        have hp2 := putL_len10 (n := l.length) (by unfold U64; omega)
        have htx := textL_le (k := fl) (by omega)
        have hc1 := fun V => run_cat (P := Try.prog) V (putL cn) ix (by omega)
        have hc2 := fun V => run_cat (P := Try.prog) V (putL cn ++ ix) (putL l.length) (by rw [List.length_append]; omega)
        have hc3 := fun V => run_cat (P := Try.prog) V (putL cn ++ (ix ++ putL l.length)) (textL fl) (by simp only [List.length_append]; omega)
        gi_wp2
        refine wpIn_wide.2 ?_
        refine wp_region_noPanic ?_
        refine wp_region_held_drew (S := (fun w' => Below w2.heap.size w2 w' ∧ w'.cell? ⟨V0.heap.size + 3, 0, none⟩ = some (.int .i64 (cn : Nat)) ∧ w'.cell? ⟨V0.heap.size + 2, 0, none⟩ = some (.string ⟨ix.toArray⟩))) (by kernel_rfl) ?_ (fun hHeld => ?_)
        · exact HS.out _ (Below.refl _ _).drew
        refine wpAnyH_take (i := 0) (oi := ?fo0w29) (v := ?fv0w29) ?fe0w29 (by kernel_rfl) (by kernel_rfl) (by kernel_rfl) (fun _ _ _ h => h) (Or.inl ⟨?fw0w29, ?fy0w29⟩) (by assumption) ?fr0w29
        case fe0w29 => ((simp only [List.getElem?_toArray, List.getElem?_cons_succ, List.getElem?_cons_zero]) <;> rfl)
        case fw0w29 => rfl
        case fy0w29 => (intro w hSw; (try dsimp only at hSw); go_simp; (try with_reducible rfl))
        try simp only [Act.put, List.setIfInBounds_toArray, List.set_cons_zero, List.set_cons_succ]
        refine wpAnyH_take (i := 1) (oi := ?fo1w29) (v := (.int .u64 ((cn : Nat) : Int))) ?fe1w29 (by kernel_rfl) (by kernel_rfl) (by kernel_rfl) (fun _ _ _ h => h) (Or.inl ⟨?fw1w29, ?fy1w29⟩) (by assumption) ?fr1w29
        case fe1w29 => ((simp only [List.getElem?_toArray, List.getElem?_cons_succ, List.getElem?_cons_zero]) <;> rfl)
        case fw1w29 => rfl
        case fy1w29 => (intro w hSw; (try dsimp only at hSw); go_simp; (try exact wrap_u _ (by omega)))
        try simp only [Act.put, List.setIfInBounds_toArray, List.set_cons_zero, List.set_cons_succ]
        refine wpAnyH_take (i := 3) (oi := ?fo3w29) (v := ?fv3w29) ?fe3w29 (by kernel_rfl) (by kernel_rfl) (by kernel_rfl) (fun _ _ _ h => h) (Or.inl ⟨?fw3w29, ?fy3w29⟩) (by assumption) ?fr3w29
        case fe3w29 => ((simp only [List.getElem?_toArray, List.getElem?_cons_succ, List.getElem?_cons_zero]) <;> rfl)
        case fw3w29 => rfl
        case fy3w29 => (intro w hSw; (try dsimp only at hSw); go_simp; (try with_reducible rfl))
        try simp only [Act.put, List.setIfInBounds_toArray, List.set_cons_zero, List.set_cons_succ]
        refine wpAnyH_take (i := 5) (oi := ?fo5w29) (v := ?fv5w29) ?fe5w29 (by kernel_rfl) (by kernel_rfl) (by kernel_rfl) (fun _ _ _ h => h) (Or.inl ⟨?fw5w29, ?fy5w29⟩) (by assumption) ?fr5w29
        case fe5w29 => ((simp only [List.getElem?_toArray, List.getElem?_cons_succ, List.getElem?_cons_zero]) <;> rfl)
        case fw5w29 => rfl
        case fy5w29 => (intro w hSw; (try dsimp only at hSw); go_simp; (try with_reducible rfl))
        try simp only [Act.put, List.setIfInBounds_toArray, List.set_cons_zero, List.set_cons_succ]
        refine wpAnyH_take (i := 6) (oi := ?fo6w29) (v := ?fv6w29) ?fe6w29 (by kernel_rfl) (by kernel_rfl) (by kernel_rfl) (fun _ _ _ h => h) (Or.inl ⟨?fw6w29, ?fy6w29⟩) (by assumption) ?fr6w29
        case fe6w29 => ((simp only [List.getElem?_toArray, List.getElem?_cons_succ, List.getElem?_cons_zero]) <;> rfl)
        case fw6w29 => rfl
        case fy6w29 => (intro w hSw; (try dsimp only at hSw); go_simp; (try with_reducible rfl))
        try simp only [Act.put, List.setIfInBounds_toArray, List.set_cons_zero, List.set_cons_succ]
        refine wpAnyH_take (i := 7) (oi := ?fo7w29) (v := (.int .u64 ((l.length : Nat) : Int))) ?fe7w29 (by kernel_rfl) (by kernel_rfl) (by kernel_rfl) (fun _ _ _ h => h) (Or.inl ⟨?fw7w29, ?fy7w29⟩) (by assumption) ?fr7w29
        case fe7w29 => ((simp only [List.getElem?_toArray, List.getElem?_cons_succ, List.getElem?_cons_zero]) <;> rfl)
        case fw7w29 => rfl
        case fy7w29 => (intro w hSw; (try dsimp only at hSw); go_simp; (try exact wrap_u _ (by omega)))
        try simp only [Act.put, List.setIfInBounds_toArray, List.set_cons_zero, List.set_cons_succ]
        refine wpAnyH_take (i := 10) (oi := ?fo10w29) (v := ?fv10w29) ?fe10w29 (by kernel_rfl) (by kernel_rfl) (by kernel_rfl) (fun _ _ _ h => h) (Or.inl ⟨?fw10w29, ?fy10w29⟩) (by assumption) ?fr10w29
        case fe10w29 => ((simp only [List.getElem?_toArray, List.getElem?_cons_succ, List.getElem?_cons_zero]) <;> rfl)
        case fw10w29 => rfl
        case fy10w29 => (intro w hSw; (try dsimp only at hSw); go_simp; (try with_reducible rfl))
        try simp only [Act.put, List.setIfInBounds_toArray, List.set_cons_zero, List.set_cons_succ]
        refine wpAnyH_ready (rs := [2]) (by kernel_rfl) (by simp) ?_
        refine AllReadyH.cons (o := ?fo2w29) ?fe2w29 (fun K hK => ?fc2w29) ?fn2w29
        case fn2w29 => exact AllReadyH.nil
        case fe2w29 => ((simp only [List.getElem?_toArray, List.getElem?_cons_succ, List.getElem?_cons_zero]) <;> rfl)
        go_simp
        go_at_call 42
        refine (put_any cn (by unfold U64; omega) _).mono ?_
        rintro _ wz1 ⟨rfl, hwz1⟩
        refine hK.out _ _ ?_ (fun hHeld2 => ?_)
        · exact HS.out _ (bnext (Below.refl _ _).drew hwz1)
        clear hK K
        try simp only [Act.put, List.setIfInBounds_toArray, List.set_cons_zero, List.set_cons_succ]
        refine wpAnyH_take (i := 4) (oi := ?fo4w29) (v := ?fv4w29) ?fe4w29 (by kernel_rfl) (by kernel_rfl) (by kernel_rfl) (fun _ _ _ h => h) (Or.inl ⟨?fw4w29, ?fy4w29⟩) (by assumption) ?fr4w29
        case fe4w29 => ((simp only [List.getElem?_toArray, List.getElem?_cons_succ, List.getElem?_cons_zero]) <;> rfl)
        case fw4w29 => rfl
        case fy4w29 => (intro w hSw; (try dsimp only at hSw); go_simp; (try with_reducible rfl))
        try simp only [Act.put, List.setIfInBounds_toArray, List.set_cons_zero, List.set_cons_succ]
        refine wpAnyH_ready (rs := [8]) (by kernel_rfl) (by simp) ?_
        refine AllReadyH.cons (o := ?fo8w29) ?fe8w29 (fun K hK => ?fc8w29) ?fn8w29
        case fn8w29 => exact AllReadyH.nil
        case fe8w29 => ((simp only [List.getElem?_toArray, List.getElem?_cons_succ, List.getElem?_cons_zero]) <;> rfl)
        go_simp
        go_at_call 42
        refine (put_any l.length (by unfold U64; omega) _).mono ?_
        rintro _ wz2 ⟨rfl, hwz2⟩
        refine hK.out _ _ ?_ (fun hHeld8 => ?_)
        · exact HS.out _ (bnext (bnext (Below.refl _ _).drew hwz1) hwz2)
        clear hK K
        try simp only [Act.put, List.setIfInBounds_toArray, List.set_cons_zero, List.set_cons_succ]
        refine wpAnyH_take (i := 9) (oi := ?fo9w29) (v := ?fv9w29) ?fe9w29 (by kernel_rfl) (by kernel_rfl) (by kernel_rfl) (fun _ _ _ h => h) (Or.inl ⟨?fw9w29, ?fy9w29⟩) (by assumption) ?fr9w29
        case fe9w29 => ((simp only [List.getElem?_toArray, List.getElem?_cons_succ, List.getElem?_cons_zero]) <;> rfl)
        case fw9w29 => rfl
        case fy9w29 => (intro w hSw; (try dsimp only at hSw); go_simp; (try with_reducible rfl))
        try simp only [Act.put, List.setIfInBounds_toArray, List.set_cons_zero, List.set_cons_succ]
        refine wpAnyH_ready (rs := [11]) (by kernel_rfl) (by simp) ?_
        refine AllReadyH.cons (o := ?fo11w29) ?fe11w29 (fun K hK => ?fc11w29) ?fn11w29
        case fn11w29 => exact AllReadyH.nil
        case fe11w29 => ((simp only [List.getElem?_toArray, List.getElem?_cons_succ, List.getElem?_cons_zero]) <;> rfl)
        go_simp
        go_at_call 40
        refine (text_any fl (by omega) _).mono ?_
        rintro _ wz3 ⟨rfl, hwz3⟩
        refine hK.out _ _ ?_ (fun hHeld11 => ?_)
        · exact HS.out _ (bnext (bnext (bnext (Below.refl _ _).drew hwz1) hwz2) hwz3)
        clear hK K
        try simp only [Act.put, List.setIfInBounds_toArray, List.set_cons_zero, List.set_cons_succ]
        refine wpAnyH_take (i := 12) (oi := ?fo12w29) (v := ?fv12w29) ?fe12w29 (by kernel_rfl) (by kernel_rfl) (by kernel_rfl) (fun _ _ _ h => h) (Or.inl ⟨?fw12w29, ?fy12w29⟩) (by assumption) ?fr12w29
        case fe12w29 => ((simp only [List.getElem?_toArray, List.getElem?_cons_succ, List.getElem?_cons_zero]) <;> rfl)
        case fw12w29 => rfl
        case fy12w29 => (intro w hSw; (try dsimp only at hSw); go_simp; (try with_reducible rfl))
        try simp only [Act.put, List.setIfInBounds_toArray, List.set_cons_zero, List.set_cons_succ]
        refine wpAnyH_take (i := 13) (oi := ?fo13w29) (v := ?fv13w29) ?fe13w29 (by kernel_rfl) (by kernel_rfl) (by kernel_rfl) (fun _ _ _ h => h) (Or.inl ⟨?fw13w29, ?fy13w29⟩) (by assumption) ?fr13w29
        case fe13w29 => ((simp only [List.getElem?_toArray, List.getElem?_cons_succ, List.getElem?_cons_zero]) <;> rfl)
        case fw13w29 => rfl
        case fy13w29 => (intro w hSw; (try dsimp only at hSw); go_simp; (try with_reducible rfl))
        try simp only [Act.put, List.setIfInBounds_toArray, List.set_cons_zero, List.set_cons_succ]
        refine wpAnyH_done (by kernel_rfl) ?_ _
        refine NoPanic.normal ?_
        have hbz := bnext (bnext (bnext (Below.refl _ w2).drew hwz1) hwz2) hwz3
        have hI3 := hid (hI2.below hbz)
        have hk3 := hid (hk2.trans (KeepsOthers.below hbz))
        clear hwz1 hwz2 hwz3 hHeld hHeld2 hHeld8 hHeld11 hbz hI2 hk2 hI
        have hfl2 : (footL l).length ≤ 20000000 := by rw [HFT.out]; simp only [List.length_append]; omega
        have hbl : (bodyL l).length ≤ 66414 * 131072 := by
          have h1 := outF_le HOK.out (List.finRange (chN l.length))
          rw [outF_all, List.length_finRange] at h1
          omega
        rw [← HFT.out]
        have HBU := hid (show buildF l = if 1048576 < (footL l).length then ([], 2) else (bodyL l ++ wrapL (footL l), 0) by
          unfold buildF
          rw [if_neg HNE.out, if_neg (not_not_intro HCK.out)])
        generalize footL l = ft at *
        generalize bodyL l = bo at *
        clear hc1 hc2 hc3 HFT HIX HS hp1 hp2 htx
        have hBB : ∀ V : World, Below V0.heap.size V0 V → Below w.heap.size w V := fun V q => hbw.trans (q.mono HWN.out)
        have hwD : w.heap.size ≤ D := by have := HWN.out; omega
        have HBB := hid hBB
        clear hBB
        by_cases hf : ft.length ≤ 1048576
        · rw [if_neg (by omega)] at HBU
          have hwl := wrapL_le hf
          have hwn : bo ++ wrapL ft ≠ [] := fun e => by
            have h1 := congrArg List.length e
            unfold wrapL at h1
            simp only [List.length_append, fourL_len, List.length_nil] at h1
            omega
          gi_wp2
          refine ⟨trivial, (callsIn_wide.2 (wrap_any ft hf wz3)).mono ?_⟩
          rintro _ w4 ⟨rfl, hb4⟩
          have hI4 := hI3.out.below hb4
          have hk4 := hk3.out.trans (KeepsOthers.below hb4)
          gi_wp2
          refine ⟨trivial, (callsIn_wide.2 (writeS_any V0.heap.size V0.heap.size _ ⟨(wrapL ft).toArray⟩ w4 hI4.bl ?wl2 ?wb2)).mono ?_⟩
          case wl2 =>
            show (Lib.byteCells bo).length + (wrapL ft).length ≤ _
            rw [Lib.byteCells_length]
            omega
          case wb2 => have := hI4.size; omega
          rintro _ w5 ⟨rfl, hq5, hb5, ho5⟩
          have hI5 := hI4.write (p := .pointer none) hq5 hb5 ho5
          have hk5 := hk4.trans (OthK.others ho5 hb5.size (bldF_cells hI4.bl |> fun ⟨cs, h⟩ => ⟨cs, _, _, h⟩))
          gi_wp2
          refine ⟨trivial, (callsIn_wide.2 (string_any V0.heap.size V0.heap.size (bo ++ wrapL ft) w5 hI5.bl hwn)).mono ?_⟩
          rintro _ w6 ⟨rfl, hb6, ho6⟩
          have hk6 := hk5.trans (OthK.others ho6 hb6.size (bldF_cells hI5.bl |> fun ⟨cs, h⟩ => ⟨cs, _, _, h⟩))
          have hK6 := hk6.same D _ hK rfl
          have hB6 := HBB.out w6 (hI5.bw.trans hb6)
          gi_wp2
          refine ⟨by simp, .inl ⟨_, _, rfl, run_takeDeferred hK6, ?_⟩⟩
          refine ⟨_, results_tmp2 rfl _ _ _, ⟨?_, hB6.trans (belowK_b (w := w) (Nat.le_refl _) w6 D _ _ hwD hK6 rfl rfl)⟩⟩
          rw [HBU.out]
          rfl
        · rw [if_pos (by omega)] at HBU
          gi_wp2
          refine ⟨trivial, (callsIn_wide.2 (wrap_no ft (by omega) (by unfold maxLen; omega) wz3)).mono ?_⟩
          rintro _ w4 ⟨rfl, hb4⟩
          have hI4 := hI3.out.below hb4
          have hk4 := hk3.out.trans (KeepsOthers.below hb4)
          have hK4 := hk4.same D _ hK rfl
          have hB4 := HBB.out w4 hI4.bw
          gi_wp2
          refine ⟨by simp, .inl ⟨_, _, rfl, run_takeDeferred hK4, ?_⟩⟩
          refine ⟨_, results_tmp2 rfl _ _ _, ⟨?_, hB4.trans (belowK_b (w := w) (Nat.le_refl _) w4 D _ _ hwD hK4 rfl rfl)⟩⟩
          rw [HBU.out]
          rfl
    case pos =>
    have hcm := HC.out wr hbw m hmq
    have hst := hid (chk_step hmq)
    have hla := hid (fun (q : Nat) (e : m = q + 1) => (show lastAt l m = (l[q]'(by omega)).1 by subst e; unfold lastAt; rw [if_neg (by omega), Nat.add_sub_cancel, List.getElem?_eq_getElem (by omega)]; rfl))
    have hbm := HBK.out l[m] (List.getElem_mem hmq)
    obtain ⟨pm, hpm⟩ : ∃ y, y = l[m] := ⟨_, rfl⟩
    rw [← hpm] at hcm hst hbm
    obtain ⟨kk, vv, gg⟩ := pm
    have q0 : wr.cell? ⟨b, off + m * 3, none⟩ = some (.string ⟨kk.toArray⟩) := hcm 0 _ rfl
    have q1 : wr.cell? ⟨b, off + m * 3 + 1, none⟩ = some (.string ⟨vv.toArray⟩) := hcm 1 _ rfl
    have q2 : wr.cell? ⟨b, off + m * 3 + 2, none⟩ = some (.bool gg) := hcm 2 _ rfl
    have HCK := hid hck
    dsimp only at hbm
    have hmi : (m : Int) < (l.length : Int) := by omega
    have hm0 : (0 : Int) ≤ (m : Int) := by omega
    have hks : (kk.length : Int) ≤ 1048576 := by omega
    have hvs : (vv.length : Int) ≤ 1048576 := by omega
    obtain ⟨W2, hW⟩ : ∃ y, y = wr.alloc (.cells #[.string ⟨kk.toArray⟩, .string ⟨vv.toArray⟩, .bool gg] 70) := ⟨_, rfl⟩
    have bW : Below wr.heap.size wr W2 := by rw [hW]; exact (Below.refl _ _).alloc (Nat.le_refl _) _
    have hCW : W2.heap[wr.heap.size]? = some (.cells #[.string ⟨kk.toArray⟩, .string ⟨vv.toArray⟩, .bool gg] 70 (0, 0)) := by rw [hW]; exact heap_alloc_new wr _
    obtain ⟨y0, y1, y2, -⟩ := prow_cell hCW
    have hBW := hid (show Below w.heap.size w W2 from bnext hbw bW)
    have hpc := hid (fun (q : Nat) (e : m = q + 1) => (show W2.cell? ⟨b, off + q * 3, none⟩ = some (strV (l[q]'(by omega)).1) from HC.out W2 hBW.out q (by omega) 0 _ rfl))
    have HW := hid hW
    dsimp only at hst
    clear hW bW hCW hcm hpm hck hbw
    by_cases hkz : kk = []
    · subst hkz
      gi_wp2_with (rw [← HW.out])
      refine wpIn_wide.2 ?_
      refine wp_region_noPanic ?_
      refine wp_region_held_drew (S := (fun w' => w'.cell? ⟨wr.heap.size, 0, none⟩ = some (.string ⟨#[]⟩) ∧ w'.cell? ⟨wr.heap.size, 1, none⟩ = some (.string ⟨vv.toArray⟩) ∧ w'.cell? ⟨wr.heap.size, 2, none⟩ = some (.bool gg))) (by kernel_rfl) ?_ (fun hHeld => ?_)
      · exact ⟨y0, y1, y2⟩
      refine wpAnyH_take (i := 0) (oi := ?fo0w1) (v := ?fv0w1) ?fe0w1 (by kernel_rfl) (by kernel_rfl) (by kernel_rfl) (fun _ _ _ h => h) (Or.inl ⟨?fw0w1, ?fy0w1⟩) (by assumption) ?fr0w1
      case fe0w1 => ((simp only [List.getElem?_toArray, List.getElem?_cons_succ, List.getElem?_cons_zero]) <;> rfl)
      case fw0w1 => rfl
      case fy0w1 => (intro w hSw; (try dsimp only at hSw); go_simp; (try with_reducible rfl))
      try simp only [Act.put, List.setIfInBounds_toArray, List.set_cons_zero, List.set_cons_succ]
      refine wpAnyH_take (i := 1) (oi := ?fo1w1) (v := ?fv1w1) ?fe1w1 (by kernel_rfl) (by kernel_rfl) (by kernel_rfl) (fun _ _ _ h => h) (Or.inl ⟨?fw1w1, ?fy1w1⟩) (by assumption) ?fr1w1
      case fe1w1 => ((simp only [List.getElem?_toArray, List.getElem?_cons_succ, List.getElem?_cons_zero]) <;> rfl)
      case fw1w1 => rfl
      case fy1w1 => (intro w hSw; (try dsimp only at hSw); go_simp; (try with_reducible rfl))
      try simp only [Act.put, List.setIfInBounds_toArray, List.set_cons_zero, List.set_cons_succ]
      refine wpAnyH_take (i := 2) (oi := ?fo2w1) (v := ?fv2w1) ?fe2w1 (by kernel_rfl) (by kernel_rfl) (by kernel_rfl) (fun _ _ _ h => h) (Or.inl ⟨?fw2w1, ?fy2w1⟩) (by assumption) ?fr2w1
      case fe2w1 => ((simp only [List.getElem?_toArray, List.getElem?_cons_succ, List.getElem?_cons_zero]) <;> rfl)
      case fw2w1 => rfl
      case fy2w1 => (intro w hSw; (try dsimp only at hSw); go_simp; (try with_reducible rfl))
      try simp only [Act.put, List.setIfInBounds_toArray, List.set_cons_zero, List.set_cons_succ]
      refine wpAnyH_take (i := 3) (oi := ?fo3w1) (v := ?fv3w1) ?fe3w1 (by kernel_rfl) (by kernel_rfl) (by kernel_rfl) (fun _ _ _ h => h) (Or.inl ⟨?fw3w1, ?fy3w1⟩) (by assumption) ?fr3w1
      case fe3w1 => ((simp only [List.getElem?_toArray, List.getElem?_cons_succ, List.getElem?_cons_zero]) <;> rfl)
      case fw3w1 => rfl
      case fy3w1 => (intro w hSw; (try dsimp only at hSw); go_simp; (try with_reducible rfl))
      try simp only [Act.put, List.setIfInBounds_toArray, List.set_cons_zero, List.set_cons_succ]
      refine wpAnyH_take (i := 4) (oi := ?fo4w1) (v := undef) ?fe4w1 (by kernel_rfl) (by kernel_rfl) (by kernel_rfl) (fun _ _ _ h => h) (Or.inr ⟨?fw4w1, rfl⟩) (by assumption) ?fr4w1
      case fe4w1 => ((simp only [List.getElem?_toArray, List.getElem?_cons_succ, List.getElem?_cons_zero]) <;> rfl)
      case fw4w1 => rfl
      try simp only [Act.put, List.setIfInBounds_toArray, List.set_cons_zero, List.set_cons_succ]
      refine wpAnyH_take (i := 5) (oi := ?fo5w1) (v := undef) ?fe5w1 (by kernel_rfl) (by kernel_rfl) (by kernel_rfl) (fun _ _ _ h => h) (Or.inr ⟨?fw5w1, rfl⟩) (by assumption) ?fr5w1
      case fe5w1 => ((simp only [List.getElem?_toArray, List.getElem?_cons_succ, List.getElem?_cons_zero]) <;> rfl)
      case fw5w1 => rfl
      try simp only [Act.put, List.setIfInBounds_toArray, List.set_cons_zero, List.set_cons_succ]
      refine wpAnyH_take (i := 6) (oi := ?fo6w1) (v := undef) ?fe6w1 (by kernel_rfl) (by kernel_rfl) (by kernel_rfl) (fun _ _ _ h => h) (Or.inr ⟨?fw6w1, rfl⟩) (by assumption) ?fr6w1
      case fe6w1 => ((simp only [List.getElem?_toArray, List.getElem?_cons_succ, List.getElem?_cons_zero]) <;> rfl)
      case fw6w1 => rfl
      try simp only [Act.put, List.setIfInBounds_toArray, List.set_cons_zero, List.set_cons_succ]
      refine wpAnyH_take (i := 7) (oi := ?fo7w1) (v := undef) ?fe7w1 (by kernel_rfl) (by kernel_rfl) (by kernel_rfl) (fun _ _ _ h => h) (Or.inr ⟨?fw7w1, rfl⟩) (by assumption) ?fr7w1
      case fe7w1 => ((simp only [List.getElem?_toArray, List.getElem?_cons_succ, List.getElem?_cons_zero]) <;> rfl)
      case fw7w1 => rfl
      try simp only [Act.put, List.setIfInBounds_toArray, List.set_cons_zero, List.set_cons_succ]
      refine wpAnyH_take (i := 8) (oi := ?fo8w1) (v := undef) ?fe8w1 (by kernel_rfl) (by kernel_rfl) (by kernel_rfl) (fun _ _ _ h => h) (Or.inr ⟨?fw8w1, rfl⟩) (by assumption) ?fr8w1
      case fe8w1 => ((simp only [List.getElem?_toArray, List.getElem?_cons_succ, List.getElem?_cons_zero]) <;> rfl)
      case fw8w1 => rfl
      try simp only [Act.put, List.setIfInBounds_toArray, List.set_cons_zero, List.set_cons_succ]
      refine wpAnyH_take (i := 9) (oi := ?fo9w1) (v := undef) ?fe9w1 (by kernel_rfl) (by kernel_rfl) (by kernel_rfl) (fun _ _ _ h => h) (Or.inr ⟨?fw9w1, rfl⟩) (by assumption) ?fr9w1
      case fe9w1 => ((simp only [List.getElem?_toArray, List.getElem?_cons_succ, List.getElem?_cons_zero]) <;> rfl)
      case fw9w1 => rfl
      try simp only [Act.put, List.setIfInBounds_toArray, List.set_cons_zero, List.set_cons_succ]
      refine wpAnyH_take (i := 10) (oi := ?fo10w1) (v := undef) ?fe10w1 (by kernel_rfl) (by kernel_rfl) (by kernel_rfl) (fun _ _ _ h => h) (Or.inr ⟨?fw10w1, rfl⟩) (by assumption) ?fr10w1
      case fe10w1 => ((simp only [List.getElem?_toArray, List.getElem?_cons_succ, List.getElem?_cons_zero]) <;> rfl)
      case fw10w1 => rfl
      try simp only [Act.put, List.setIfInBounds_toArray, List.set_cons_zero, List.set_cons_succ]
      refine wpAnyH_take (i := 11) (oi := ?fo11w1) (v := ?fv11w1) ?fe11w1 (by kernel_rfl) (by kernel_rfl) (by kernel_rfl) (fun _ _ _ h => h) (Or.inl ⟨?fw11w1, ?fy11w1⟩) (by assumption) ?fr11w1
      case fe11w1 => ((simp only [List.getElem?_toArray, List.getElem?_cons_succ, List.getElem?_cons_zero]) <;> rfl)
      case fw11w1 => rfl
      case fy11w1 => (intro w hSw; (try dsimp only at hSw); go_simp; (try with_reducible rfl))
      try simp only [Act.put, List.setIfInBounds_toArray, List.set_cons_zero, List.set_cons_succ]
      refine wpAnyH_take (i := 12) (oi := ?fo12w1) (v := ?fv12w1) ?fe12w1 (by kernel_rfl) (by kernel_rfl) (by kernel_rfl) (fun _ _ _ h => h) (Or.inl ⟨?fw12w1, ?fy12w1⟩) (by assumption) ?fr12w1
      case fe12w1 => ((simp only [List.getElem?_toArray, List.getElem?_cons_succ, List.getElem?_cons_zero]) <;> rfl)
      case fw12w1 => rfl
      case fy12w1 => (intro w hSw; (try dsimp only at hSw); go_simp; (try with_reducible rfl))
      try simp only [Act.put, List.setIfInBounds_toArray, List.set_cons_zero, List.set_cons_succ]
      refine wpAnyH_take (i := 13) (oi := ?fo13w1) (v := undef) ?fe13w1 (by kernel_rfl) (by kernel_rfl) (by kernel_rfl) (fun _ _ _ h => h) (Or.inr ⟨?fw13w1, rfl⟩) (by assumption) ?fr13w1
      case fe13w1 => ((simp only [List.getElem?_toArray, List.getElem?_cons_succ, List.getElem?_cons_zero]) <;> rfl)
      case fw13w1 => rfl
      try simp only [Act.put, List.setIfInBounds_toArray, List.set_cons_zero, List.set_cons_succ]
      refine wpAnyH_take (i := 14) (oi := ?fo14w1) (v := undef) ?fe14w1 (by kernel_rfl) (by kernel_rfl) (by kernel_rfl) (fun _ _ _ h => h) (Or.inr ⟨?fw14w1, rfl⟩) (by assumption) ?fr14w1
      case fe14w1 => ((simp only [List.getElem?_toArray, List.getElem?_cons_succ, List.getElem?_cons_zero]) <;> rfl)
      case fw14w1 => rfl
      try simp only [Act.put, List.setIfInBounds_toArray, List.set_cons_zero, List.set_cons_succ]
      refine wpAnyH_take (i := 15) (oi := ?fo15w1) (v := undef) ?fe15w1 (by kernel_rfl) (by kernel_rfl) (by kernel_rfl) (fun _ _ _ h => h) (Or.inr ⟨?fw15w1, rfl⟩) (by assumption) ?fr15w1
      case fe15w1 => ((simp only [List.getElem?_toArray, List.getElem?_cons_succ, List.getElem?_cons_zero]) <;> rfl)
      case fw15w1 => rfl
      try simp only [Act.put, List.setIfInBounds_toArray, List.set_cons_zero, List.set_cons_succ]
      refine wpAnyH_take (i := 16) (oi := ?fo16w1) (v := undef) ?fe16w1 (by kernel_rfl) (by kernel_rfl) (by kernel_rfl) (fun _ _ _ h => h) (Or.inr ⟨?fw16w1, rfl⟩) (by assumption) ?fr16w1
      case fe16w1 => ((simp only [List.getElem?_toArray, List.getElem?_cons_succ, List.getElem?_cons_zero]) <;> rfl)
      case fw16w1 => rfl
      try simp only [Act.put, List.setIfInBounds_toArray, List.set_cons_zero, List.set_cons_succ]
      refine wpAnyH_take (i := 17) (oi := ?fo17w1) (v := undef) ?fe17w1 (by kernel_rfl) (by kernel_rfl) (by kernel_rfl) (fun _ _ _ h => h) (Or.inr ⟨?fw17w1, rfl⟩) (by assumption) ?fr17w1
      case fe17w1 => ((simp only [List.getElem?_toArray, List.getElem?_cons_succ, List.getElem?_cons_zero]) <;> rfl)
      case fw17w1 => rfl
      try simp only [Act.put, List.setIfInBounds_toArray, List.set_cons_zero, List.set_cons_succ]
      refine wpAnyH_take (i := 18) (oi := ?fo18w1) (v := undef) ?fe18w1 (by kernel_rfl) (by kernel_rfl) (by kernel_rfl) (fun _ _ _ h => h) (Or.inr ⟨?fw18w1, rfl⟩) (by assumption) ?fr18w1
      case fe18w1 => ((simp only [List.getElem?_toArray, List.getElem?_cons_succ, List.getElem?_cons_zero]) <;> rfl)
      case fw18w1 => rfl
      try simp only [Act.put, List.setIfInBounds_toArray, List.set_cons_zero, List.set_cons_succ]
      refine wpAnyH_take (i := 19) (oi := ?fo19w1) (v := undef) ?fe19w1 (by kernel_rfl) (by kernel_rfl) (by kernel_rfl) (fun _ _ _ h => h) (Or.inr ⟨?fw19w1, rfl⟩) (by assumption) ?fr19w1
      case fe19w1 => ((simp only [List.getElem?_toArray, List.getElem?_cons_succ, List.getElem?_cons_zero]) <;> rfl)
      case fw19w1 => rfl
      try simp only [Act.put, List.setIfInBounds_toArray, List.set_cons_zero, List.set_cons_succ]
      refine wpAnyH_take (i := 20) (oi := ?fo20w1) (v := undef) ?fe20w1 (by kernel_rfl) (by kernel_rfl) (by kernel_rfl) (fun _ _ _ h => h) (Or.inr ⟨?fw20w1, rfl⟩) (by assumption) ?fr20w1
      case fe20w1 => ((simp only [List.getElem?_toArray, List.getElem?_cons_succ, List.getElem?_cons_zero]) <;> rfl)
      case fw20w1 => rfl
      try simp only [Act.put, List.setIfInBounds_toArray, List.set_cons_zero, List.set_cons_succ]
      refine wpAnyH_take (i := 21) (oi := ?fo21w1) (v := undef) ?fe21w1 (by kernel_rfl) (by kernel_rfl) (by kernel_rfl) (fun _ _ _ h => h) (Or.inr ⟨?fw21w1, rfl⟩) (by assumption) ?fr21w1
      case fe21w1 => ((simp only [List.getElem?_toArray, List.getElem?_cons_succ, List.getElem?_cons_zero]) <;> rfl)
      case fw21w1 => rfl
      try simp only [Act.put, List.setIfInBounds_toArray, List.set_cons_zero, List.set_cons_succ]
      refine wpAnyH_take (i := 22) (oi := ?fo22w1) (v := undef) ?fe22w1 (by kernel_rfl) (by kernel_rfl) (by kernel_rfl) (fun _ _ _ h => h) (Or.inr ⟨?fw22w1, rfl⟩) (by assumption) ?fr22w1
      case fe22w1 => ((simp only [List.getElem?_toArray, List.getElem?_cons_succ, List.getElem?_cons_zero]) <;> rfl)
      case fw22w1 => rfl
      try simp only [Act.put, List.setIfInBounds_toArray, List.set_cons_zero, List.set_cons_succ]
      refine wpAnyH_take (i := 23) (oi := ?fo23w1) (v := undef) ?fe23w1 (by kernel_rfl) (by kernel_rfl) (by kernel_rfl) (fun _ _ _ h => h) (Or.inr ⟨?fw23w1, rfl⟩) (by assumption) ?fr23w1
      case fe23w1 => ((simp only [List.getElem?_toArray, List.getElem?_cons_succ, List.getElem?_cons_zero]) <;> rfl)
      case fw23w1 => rfl
      try simp only [Act.put, List.setIfInBounds_toArray, List.set_cons_zero, List.set_cons_succ]
      refine wpAnyH_take (i := 24) (oi := ?fo24w1) (v := undef) ?fe24w1 (by kernel_rfl) (by kernel_rfl) (by kernel_rfl) (fun _ _ _ h => h) (Or.inr ⟨?fw24w1, rfl⟩) (by assumption) ?fr24w1
      case fe24w1 => ((simp only [List.getElem?_toArray, List.getElem?_cons_succ, List.getElem?_cons_zero]) <;> rfl)
      case fw24w1 => rfl
      try simp only [Act.put, List.setIfInBounds_toArray, List.set_cons_zero, List.set_cons_succ]
      refine wpAnyH_take (i := 25) (oi := ?fo25w1) (v := undef) ?fe25w1 (by kernel_rfl) (by kernel_rfl) (by kernel_rfl) (fun _ _ _ h => h) (Or.inr ⟨?fw25w1, rfl⟩) (by assumption) ?fr25w1
      case fe25w1 => ((simp only [List.getElem?_toArray, List.getElem?_cons_succ, List.getElem?_cons_zero]) <;> rfl)
      case fw25w1 => rfl
      try simp only [Act.put, List.setIfInBounds_toArray, List.set_cons_zero, List.set_cons_succ]
      refine wpAnyH_take (i := 26) (oi := ?fo26w1) (v := ?fv26w1) ?fe26w1 (by kernel_rfl) (by kernel_rfl) (by kernel_rfl) (fun _ _ _ h => h) (Or.inl ⟨?fw26w1, ?fy26w1⟩) (by assumption) ?fr26w1
      case fe26w1 => ((simp only [List.getElem?_toArray, List.getElem?_cons_succ, List.getElem?_cons_zero]) <;> rfl)
      case fw26w1 => rfl
      case fy26w1 => (intro w hSw; (try dsimp only at hSw); go_simp; (try with_reducible rfl))
      try simp only [Act.put, List.setIfInBounds_toArray, List.set_cons_zero, List.set_cons_succ]
      refine wpAnyH_take (i := 27) (oi := ?fo27w1) (v := ?fv27w1) ?fe27w1 (by kernel_rfl) (by kernel_rfl) (by kernel_rfl) (fun _ _ _ h => h) (Or.inl ⟨?fw27w1, ?fy27w1⟩) (by assumption) ?fr27w1
      case fe27w1 => ((simp only [List.getElem?_toArray, List.getElem?_cons_succ, List.getElem?_cons_zero]) <;> rfl)
      case fw27w1 => rfl
      case fy27w1 => (intro w hSw; (try dsimp only at hSw); go_simp; (try with_reducible rfl))
      try simp only [Act.put, List.setIfInBounds_toArray, List.set_cons_zero, List.set_cons_succ]
      refine wpAnyH_done (by kernel_rfl) ?_ _
      refine NoPanic.normal ?_
      gi_wp2
      have HBF := hid (build_bad HNE.out (HCK.out.symm.trans (hst.out.trans (if_pos (.inl (by exact ltB_nil2 _))))) (by decide))
      refine ⟨_, results_tmp2 rfl _ _ _, ⟨?_, hBW.out.drew⟩⟩
      rw [HBF.out]
      rfl
    · cases gg with
      | true =>
        by_cases hvz : vv = []
        · subst hvz
          by_cases hmz : m = 0
          · have hmI : ¬ (0 : Int) < (m : Int) := by omega
            have HNB := hid (show ¬ (ltB (lastAt l m) kk = false ∨ (true = true ∧ ([] : List UInt8) ≠ [])) by rw [hmz]; simp [lastAt, ltB_nil, hkz])
            have HMZ := hid hmz
            clear hmz
            gi_wp2_with (rw [← HW.out])
            refine wpIn_wide.2 ?_
            refine wp_region_noPanic ?_
            refine wp_region_held_drew (S := (fun w' => w'.cell? ⟨wr.heap.size, 0, none⟩ = some (.string ⟨kk.toArray⟩) ∧ w'.cell? ⟨wr.heap.size, 1, none⟩ = some (.string ⟨#[]⟩) ∧ w'.cell? ⟨wr.heap.size, 2, none⟩ = some (.bool true))) (by kernel_rfl) ?_ (fun hHeld => ?_)
            · exact ⟨y0, y1, y2⟩
            refine wpAnyH_take (i := 0) (oi := ?fo0w2) (v := ?fv0w2) ?fe0w2 (by kernel_rfl) (by kernel_rfl) (by kernel_rfl) (fun _ _ _ h => h) (Or.inl ⟨?fw0w2, ?fy0w2⟩) (by assumption) ?fr0w2
            case fe0w2 => ((simp only [List.getElem?_toArray, List.getElem?_cons_succ, List.getElem?_cons_zero]) <;> rfl)
            case fw0w2 => rfl
            case fy0w2 => (intro w hSw; (try dsimp only at hSw); go_simp; (try with_reducible rfl))
            try simp only [Act.put, List.setIfInBounds_toArray, List.set_cons_zero, List.set_cons_succ]
            refine wpAnyH_take (i := 1) (oi := ?fo1w2) (v := ?fv1w2) ?fe1w2 (by kernel_rfl) (by kernel_rfl) (by kernel_rfl) (fun _ _ _ h => h) (Or.inl ⟨?fw1w2, ?fy1w2⟩) (by assumption) ?fr1w2
            case fe1w2 => ((simp only [List.getElem?_toArray, List.getElem?_cons_succ, List.getElem?_cons_zero]) <;> rfl)
            case fw1w2 => rfl
            case fy1w2 => (intro w hSw; (try dsimp only at hSw); go_simp; (try with_reducible rfl))
            try simp only [Act.put, List.setIfInBounds_toArray, List.set_cons_zero, List.set_cons_succ]
            refine wpAnyH_take (i := 2) (oi := ?fo2w2) (v := (.bool false)) ?fe2w2 (by kernel_rfl) (by kernel_rfl) (by kernel_rfl) (fun _ _ _ h => h) (Or.inl ⟨?fw2w2, ?fy2w2⟩) (by assumption) ?fr2w2
            case fe2w2 => ((simp only [List.getElem?_toArray, List.getElem?_cons_succ, List.getElem?_cons_zero]) <;> rfl)
            case fw2w2 => rfl
            case fy2w2 => (intro w hSw; (try dsimp only at hSw); go_simp; (try rfl))
            try simp only [Act.put, List.setIfInBounds_toArray, List.set_cons_zero, List.set_cons_succ]
            refine wpAnyH_take (i := 3) (oi := ?fo3w2) (v := ?fv3w2) ?fe3w2 (by kernel_rfl) (by kernel_rfl) (by kernel_rfl) (fun _ _ _ h => h) (Or.inl ⟨?fw3w2, ?fy3w2⟩) (by assumption) ?fr3w2
            case fe3w2 => ((simp only [List.getElem?_toArray, List.getElem?_cons_succ, List.getElem?_cons_zero]) <;> rfl)
            case fw3w2 => rfl
            case fy3w2 => (intro w hSw; (try dsimp only at hSw); go_simp; (try with_reducible rfl))
            try simp only [Act.put, List.setIfInBounds_toArray, List.set_cons_zero, List.set_cons_succ]
            refine wpAnyH_take (i := 4) (oi := ?fo4w2) (v := ?fv4w2) ?fe4w2 (by kernel_rfl) (by kernel_rfl) (by kernel_rfl) (fun _ _ _ h => h) (Or.inl ⟨?fw4w2, ?fy4w2⟩) (by assumption) ?fr4w2
            case fe4w2 => ((simp only [List.getElem?_toArray, List.getElem?_cons_succ, List.getElem?_cons_zero]) <;> rfl)
            case fw4w2 => rfl
            case fy4w2 => (intro w hSw; (try dsimp only at hSw); go_simp; (try with_reducible rfl))
            try simp only [Act.put, List.setIfInBounds_toArray, List.set_cons_zero, List.set_cons_succ]
            refine wpAnyH_take (i := 5) (oi := ?fo5w2) (v := ?fv5w2) ?fe5w2 (by kernel_rfl) (by kernel_rfl) (by kernel_rfl) (fun _ _ _ h => h) (Or.inl ⟨?fw5w2, ?fy5w2⟩) (by assumption) ?fr5w2
            case fe5w2 => ((simp only [List.getElem?_toArray, List.getElem?_cons_succ, List.getElem?_cons_zero]) <;> rfl)
            case fw5w2 => rfl
            case fy5w2 => (intro w hSw; (try dsimp only at hSw); go_simp; (try with_reducible rfl))
            try simp only [Act.put, List.setIfInBounds_toArray, List.set_cons_zero, List.set_cons_succ]
            refine wpAnyH_take (i := 6) (oi := ?fo6w2) (v := ?fv6w2) ?fe6w2 (by kernel_rfl) (by kernel_rfl) (by kernel_rfl) (fun _ _ _ h => h) (Or.inl ⟨?fw6w2, ?fy6w2⟩) (by assumption) ?fr6w2
            case fe6w2 => ((simp only [List.getElem?_toArray, List.getElem?_cons_succ, List.getElem?_cons_zero]) <;> rfl)
            case fw6w2 => rfl
            case fy6w2 => (intro w hSw; (try dsimp only at hSw); go_simp; (try with_reducible rfl))
            try simp only [Act.put, List.setIfInBounds_toArray, List.set_cons_zero, List.set_cons_succ]
            refine wpAnyH_take (i := 7) (oi := ?fo7w2) (v := ?fv7w2) ?fe7w2 (by kernel_rfl) (by kernel_rfl) (by kernel_rfl) (fun _ _ _ h => h) (Or.inl ⟨?fw7w2, ?fy7w2⟩) (by assumption) ?fr7w2
            case fe7w2 => ((simp only [List.getElem?_toArray, List.getElem?_cons_succ, List.getElem?_cons_zero]) <;> rfl)
            case fw7w2 => rfl
            case fy7w2 => (intro w hSw; (try dsimp only at hSw); go_simp; (try with_reducible rfl))
            try simp only [Act.put, List.setIfInBounds_toArray, List.set_cons_zero, List.set_cons_succ]
            refine wpAnyH_take (i := 8) (oi := ?fo8w2) (v := ?fv8w2) ?fe8w2 (by kernel_rfl) (by kernel_rfl) (by kernel_rfl) (fun _ _ _ h => h) (Or.inl ⟨?fw8w2, ?fy8w2⟩) (by assumption) ?fr8w2
            case fe8w2 => ((simp only [List.getElem?_toArray, List.getElem?_cons_succ, List.getElem?_cons_zero]) <;> rfl)
            case fw8w2 => rfl
            case fy8w2 => (intro w hSw; (try dsimp only at hSw); go_simp; (try with_reducible rfl))
            try simp only [Act.put, List.setIfInBounds_toArray, List.set_cons_zero, List.set_cons_succ]
            refine wpAnyH_take (i := 9) (oi := ?fo9w2) (v := (.bool false)) ?fe9w2 (by kernel_rfl) (by kernel_rfl) (by kernel_rfl) (fun _ _ _ h => h) (Or.inl ⟨?fw9w2, ?fy9w2⟩) (by assumption) ?fr9w2
            case fe9w2 => ((simp only [List.getElem?_toArray, List.getElem?_cons_succ, List.getElem?_cons_zero]) <;> rfl)
            case fw9w2 => rfl
            case fy9w2 => (intro w hSw; (try dsimp only at hSw); go_simp; (try rfl))
            try simp only [Act.put, List.setIfInBounds_toArray, List.set_cons_zero, List.set_cons_succ]
            refine wpAnyH_take (i := 10) (oi := ?fo10w2) (v := ?fv10w2) ?fe10w2 (by kernel_rfl) (by kernel_rfl) (by kernel_rfl) (fun _ _ _ h => h) (Or.inl ⟨?fw10w2, ?fy10w2⟩) (by assumption) ?fr10w2
            case fe10w2 => ((simp only [List.getElem?_toArray, List.getElem?_cons_succ, List.getElem?_cons_zero]) <;> rfl)
            case fw10w2 => rfl
            case fy10w2 => (intro w hSw; (try dsimp only at hSw); go_simp; (try with_reducible rfl))
            try simp only [Act.put, List.setIfInBounds_toArray, List.set_cons_zero, List.set_cons_succ]
            refine wpAnyH_take (i := 11) (oi := ?fo11w2) (v := ?fv11w2) ?fe11w2 (by kernel_rfl) (by kernel_rfl) (by kernel_rfl) (fun _ _ _ h => h) (Or.inl ⟨?fw11w2, ?fy11w2⟩) (by assumption) ?fr11w2
            case fe11w2 => ((simp only [List.getElem?_toArray, List.getElem?_cons_succ, List.getElem?_cons_zero]) <;> rfl)
            case fw11w2 => rfl
            case fy11w2 => (intro w hSw; (try dsimp only at hSw); go_simp; (try with_reducible rfl))
            try simp only [Act.put, List.setIfInBounds_toArray, List.set_cons_zero, List.set_cons_succ]
            refine wpAnyH_take (i := 12) (oi := ?fo12w2) (v := ?fv12w2) ?fe12w2 (by kernel_rfl) (by kernel_rfl) (by kernel_rfl) (fun _ _ _ h => h) (Or.inl ⟨?fw12w2, ?fy12w2⟩) (by assumption) ?fr12w2
            case fe12w2 => ((simp only [List.getElem?_toArray, List.getElem?_cons_succ, List.getElem?_cons_zero]) <;> rfl)
            case fw12w2 => rfl
            case fy12w2 => (intro w hSw; (try dsimp only at hSw); go_simp; (try with_reducible rfl))
            try simp only [Act.put, List.setIfInBounds_toArray, List.set_cons_zero, List.set_cons_succ]
            refine wpAnyH_take (i := 13) (oi := ?fo13w2) (v := ?fv13w2) ?fe13w2 (by kernel_rfl) (by kernel_rfl) (by kernel_rfl) (fun _ _ _ h => h) (Or.inl ⟨?fw13w2, ?fy13w2⟩) (by assumption) ?fr13w2
            case fe13w2 => ((simp only [List.getElem?_toArray, List.getElem?_cons_succ, List.getElem?_cons_zero]) <;> rfl)
            case fw13w2 => rfl
            case fy13w2 => (intro w hSw; (try dsimp only at hSw); go_simp; (try with_reducible rfl))
            try simp only [Act.put, List.setIfInBounds_toArray, List.set_cons_zero, List.set_cons_succ]
            refine wpAnyH_take (i := 14) (oi := ?fo14w2) (v := (.bool false)) ?fe14w2 (by kernel_rfl) (by kernel_rfl) (by kernel_rfl) (fun _ _ _ h => h) (Or.inl ⟨?fw14w2, ?fy14w2⟩) (by assumption) ?fr14w2
            case fe14w2 => ((simp only [List.getElem?_toArray, List.getElem?_cons_succ, List.getElem?_cons_zero]) <;> rfl)
            case fw14w2 => rfl
            case fy14w2 => (intro w hSw; (try dsimp only at hSw); go_simp; (try exact HMZ.out))
            try simp only [Act.put, List.setIfInBounds_toArray, List.set_cons_zero, List.set_cons_succ]
            refine wpAnyH_take (i := 15) (oi := ?fo15w2) (v := ?fv15w2) ?fe15w2 (by kernel_rfl) (by kernel_rfl) (by kernel_rfl) (fun _ _ _ h => h) (Or.inl ⟨?fw15w2, ?fy15w2⟩) (by assumption) ?fr15w2
            case fe15w2 => ((simp only [List.getElem?_toArray, List.getElem?_cons_succ, List.getElem?_cons_zero]) <;> rfl)
            case fw15w2 => rfl
            case fy15w2 => (intro w hSw; (try dsimp only at hSw); go_simp; (try with_reducible rfl))
            try simp only [Act.put, List.setIfInBounds_toArray, List.set_cons_zero, List.set_cons_succ]
            refine wpAnyH_take (i := 16) (oi := ?fo16w2) (v := undef) ?fe16w2 (by kernel_rfl) (by kernel_rfl) (by kernel_rfl) (fun _ _ _ h => h) (Or.inr ⟨?fw16w2, rfl⟩) (by assumption) ?fr16w2
            case fe16w2 => ((simp only [List.getElem?_toArray, List.getElem?_cons_succ, List.getElem?_cons_zero]) <;> rfl)
            case fw16w2 => rfl
            try simp only [Act.put, List.setIfInBounds_toArray, List.set_cons_zero, List.set_cons_succ]
            refine wpAnyH_take (i := 17) (oi := ?fo17w2) (v := undef) ?fe17w2 (by kernel_rfl) (by kernel_rfl) (by kernel_rfl) (fun _ _ _ h => h) (Or.inr ⟨?fw17w2, rfl⟩) (by assumption) ?fr17w2
            case fe17w2 => ((simp only [List.getElem?_toArray, List.getElem?_cons_succ, List.getElem?_cons_zero]) <;> rfl)
            case fw17w2 => rfl
            try simp only [Act.put, List.setIfInBounds_toArray, List.set_cons_zero, List.set_cons_succ]
            refine wpAnyH_take (i := 18) (oi := ?fo18w2) (v := undef) ?fe18w2 (by kernel_rfl) (by kernel_rfl) (by kernel_rfl) (fun _ _ _ h => h) (Or.inr ⟨?fw18w2, rfl⟩) (by assumption) ?fr18w2
            case fe18w2 => ((simp only [List.getElem?_toArray, List.getElem?_cons_succ, List.getElem?_cons_zero]) <;> rfl)
            case fw18w2 => rfl
            try simp only [Act.put, List.setIfInBounds_toArray, List.set_cons_zero, List.set_cons_succ]
            refine wpAnyH_take (i := 19) (oi := ?fo19w2) (v := undef) ?fe19w2 (by kernel_rfl) (by kernel_rfl) (by kernel_rfl) (fun _ _ _ h => h) (Or.inr ⟨?fw19w2, rfl⟩) (by assumption) ?fr19w2
            case fe19w2 => ((simp only [List.getElem?_toArray, List.getElem?_cons_succ, List.getElem?_cons_zero]) <;> rfl)
            case fw19w2 => rfl
            try simp only [Act.put, List.setIfInBounds_toArray, List.set_cons_zero, List.set_cons_succ]
            refine wpAnyH_take (i := 20) (oi := ?fo20w2) (v := undef) ?fe20w2 (by kernel_rfl) (by kernel_rfl) (by kernel_rfl) (fun _ _ _ h => h) (Or.inr ⟨?fw20w2, rfl⟩) (by assumption) ?fr20w2
            case fe20w2 => ((simp only [List.getElem?_toArray, List.getElem?_cons_succ, List.getElem?_cons_zero]) <;> rfl)
            case fw20w2 => rfl
            try simp only [Act.put, List.setIfInBounds_toArray, List.set_cons_zero, List.set_cons_succ]
            refine wpAnyH_take (i := 21) (oi := ?fo21w2) (v := undef) ?fe21w2 (by kernel_rfl) (by kernel_rfl) (by kernel_rfl) (fun _ _ _ h => h) (Or.inr ⟨?fw21w2, rfl⟩) (by assumption) ?fr21w2
            case fe21w2 => ((simp only [List.getElem?_toArray, List.getElem?_cons_succ, List.getElem?_cons_zero]) <;> rfl)
            case fw21w2 => rfl
            try simp only [Act.put, List.setIfInBounds_toArray, List.set_cons_zero, List.set_cons_succ]
            refine wpAnyH_take (i := 22) (oi := ?fo22w2) (v := undef) ?fe22w2 (by kernel_rfl) (by kernel_rfl) (by kernel_rfl) (fun _ _ _ h => h) (Or.inr ⟨?fw22w2, rfl⟩) (by assumption) ?fr22w2
            case fe22w2 => ((simp only [List.getElem?_toArray, List.getElem?_cons_succ, List.getElem?_cons_zero]) <;> rfl)
            case fw22w2 => rfl
            try simp only [Act.put, List.setIfInBounds_toArray, List.set_cons_zero, List.set_cons_succ]
            refine wpAnyH_take (i := 23) (oi := ?fo23w2) (v := undef) ?fe23w2 (by kernel_rfl) (by kernel_rfl) (by kernel_rfl) (fun _ _ _ h => h) (Or.inr ⟨?fw23w2, rfl⟩) (by assumption) ?fr23w2
            case fe23w2 => ((simp only [List.getElem?_toArray, List.getElem?_cons_succ, List.getElem?_cons_zero]) <;> rfl)
            case fw23w2 => rfl
            try simp only [Act.put, List.setIfInBounds_toArray, List.set_cons_zero, List.set_cons_succ]
            refine wpAnyH_take (i := 24) (oi := ?fo24w2) (v := undef) ?fe24w2 (by kernel_rfl) (by kernel_rfl) (by kernel_rfl) (fun _ _ _ h => h) (Or.inr ⟨?fw24w2, rfl⟩) (by assumption) ?fr24w2
            case fe24w2 => ((simp only [List.getElem?_toArray, List.getElem?_cons_succ, List.getElem?_cons_zero]) <;> rfl)
            case fw24w2 => rfl
            try simp only [Act.put, List.setIfInBounds_toArray, List.set_cons_zero, List.set_cons_succ]
            refine wpAnyH_take (i := 25) (oi := ?fo25w2) (v := ?fv25w2) ?fe25w2 (by kernel_rfl) (by kernel_rfl) (by kernel_rfl) (fun _ _ _ h => h) (Or.inl ⟨?fw25w2, ?fy25w2⟩) (by assumption) ?fr25w2
            case fe25w2 => ((simp only [List.getElem?_toArray, List.getElem?_cons_succ, List.getElem?_cons_zero]) <;> rfl)
            case fw25w2 => rfl
            case fy25w2 => (intro w hSw; (try dsimp only at hSw); go_simp; (try with_reducible rfl))
            try simp only [Act.put, List.setIfInBounds_toArray, List.set_cons_zero, List.set_cons_succ]
            refine wpAnyH_take (i := 26) (oi := ?fo26w2) (v := ?fv26w2) ?fe26w2 (by kernel_rfl) (by kernel_rfl) (by kernel_rfl) (fun _ _ _ h => h) (Or.inl ⟨?fw26w2, ?fy26w2⟩) (by assumption) ?fr26w2
            case fe26w2 => ((simp only [List.getElem?_toArray, List.getElem?_cons_succ, List.getElem?_cons_zero]) <;> rfl)
            case fw26w2 => rfl
            case fy26w2 => (intro w hSw; (try dsimp only at hSw); go_simp; (try with_reducible rfl))
            try simp only [Act.put, List.setIfInBounds_toArray, List.set_cons_zero, List.set_cons_succ]
            refine wpAnyH_take (i := 27) (oi := ?fo27w2) (v := ?fv27w2) ?fe27w2 (by kernel_rfl) (by kernel_rfl) (by kernel_rfl) (fun _ _ _ h => h) (Or.inl ⟨?fw27w2, ?fy27w2⟩) (by assumption) ?fr27w2
            case fe27w2 => ((simp only [List.getElem?_toArray, List.getElem?_cons_succ, List.getElem?_cons_zero]) <;> rfl)
            case fw27w2 => rfl
            case fy27w2 => (intro w hSw; (try dsimp only at hSw); go_simp; (try with_reducible rfl))
            try simp only [Act.put, List.setIfInBounds_toArray, List.set_cons_zero, List.set_cons_succ]
            refine wpAnyH_done (by kernel_rfl) ?_ _
            refine NoPanic.normal ?_
            clear hHeld
            by_cases h64 : 64 < kk.length
            · have hkI : (64 : Int) < (kk.length : Int) := by omega
              gi_wp2
              have HBF := hid (build_bad HNE.out (HCK.out.symm.trans (hst.out.trans ((if_neg HNB.out).trans (if_pos (.inl h64))))) (by decide))
              refine ⟨_, results_tmp2 rfl _ _ _, ⟨?_, hBW.out.drew⟩⟩
              rw [HBF.out]
              rfl
            have hkI : ¬ (64 : Int) < (kk.length : Int) := by omega
            by_cases h81 : 8192 < ([] : List UInt8).length
            · exact absurd h81 (by simp)
            have hvI : ¬ (8192 : Int) < (([] : List UInt8).length : Int) := by omega
            have HGO := hid (hst.out.trans ((if_neg HNB.out).trans (if_neg (fun q => q.elim h64 h81))))
            gi_wp2
            go_roundw
            case rel => first | exact ⟨m + 1, by omega, by go_num, hBW.out.drew, HGO.out.symm.trans HCK.out⟩ | ((repeat apply Exists.intro); refine ⟨⟨m + 1, by omega, by go_num, hBW.out.drew, HGO.out.symm.trans HCK.out⟩, ?_⟩; repeat (first | exact rfl | refine ⟨rfl, ?_⟩))
            case measure => simp [intOf]; omega
          obtain ⟨q, hq⟩ : ∃ q, m = q + 1 := ⟨m - 1, by omega⟩
          have hpk := hpc.out q hq
          have hlq := hla.out q hq
          have hql : q < l.length := by omega
          obtain ⟨pk, hpkk⟩ : ∃ y, y = (l[q]'hql).1 := ⟨_, rfl⟩
          rw [← hpkk] at hpk hlq
          dsimp only [strV] at hpk
          have hmI : (0 : Int) < (m : Int) := by omega
          have hm1 : (m : Int) - 1 = (q : Int) := by omega
          have hq0 : (0 : Int) ≤ (q : Int) := by omega
          have hqI : (q : Int) < (l.length : Int) := by omega
          have hwq := wrap_q q (by omega)
          have HLQ := hid hlq
          clear hpkk hlq hq hql
          cases hlt : Op.bytesLess pk kk with
          | false =>
            have HLE := hid (le_of hlt)
            gi_wp2_with (rw [← HW.out])
            refine wpIn_wide.2 ?_
            refine wp_region_noPanic ?_
            refine wp_region_held_drew (S := (fun w' => w'.cell? ⟨wr.heap.size, 0, none⟩ = some (.string ⟨kk.toArray⟩) ∧ w'.cell? ⟨wr.heap.size, 1, none⟩ = some (.string ⟨#[]⟩) ∧ w'.cell? ⟨wr.heap.size, 2, none⟩ = some (.bool true) ∧ w'.cell? ⟨b, off + q * 3, none⟩ = some (.string ⟨pk.toArray⟩))) (by kernel_rfl) ?_ (fun hHeld => ?_)
            · exact ⟨y0, y1, y2, hpk⟩
            refine wpAnyH_take (i := 0) (oi := ?fo0w3) (v := ?fv0w3) ?fe0w3 (by kernel_rfl) (by kernel_rfl) (by kernel_rfl) (fun _ _ _ h => h) (Or.inl ⟨?fw0w3, ?fy0w3⟩) (by assumption) ?fr0w3
            case fe0w3 => ((simp only [List.getElem?_toArray, List.getElem?_cons_succ, List.getElem?_cons_zero]) <;> rfl)
            case fw0w3 => rfl
            case fy0w3 => (intro w hSw; (try dsimp only at hSw); go_simp; (try with_reducible rfl))
            try simp only [Act.put, List.setIfInBounds_toArray, List.set_cons_zero, List.set_cons_succ]
            refine wpAnyH_take (i := 1) (oi := ?fo1w3) (v := ?fv1w3) ?fe1w3 (by kernel_rfl) (by kernel_rfl) (by kernel_rfl) (fun _ _ _ h => h) (Or.inl ⟨?fw1w3, ?fy1w3⟩) (by assumption) ?fr1w3
            case fe1w3 => ((simp only [List.getElem?_toArray, List.getElem?_cons_succ, List.getElem?_cons_zero]) <;> rfl)
            case fw1w3 => rfl
            case fy1w3 => (intro w hSw; (try dsimp only at hSw); go_simp; (try with_reducible rfl))
            try simp only [Act.put, List.setIfInBounds_toArray, List.set_cons_zero, List.set_cons_succ]
            refine wpAnyH_take (i := 2) (oi := ?fo2w3) (v := (.bool false)) ?fe2w3 (by kernel_rfl) (by kernel_rfl) (by kernel_rfl) (fun _ _ _ h => h) (Or.inl ⟨?fw2w3, ?fy2w3⟩) (by assumption) ?fr2w3
            case fe2w3 => ((simp only [List.getElem?_toArray, List.getElem?_cons_succ, List.getElem?_cons_zero]) <;> rfl)
            case fw2w3 => rfl
            case fy2w3 => (intro w hSw; (try dsimp only at hSw); go_simp; (try rfl))
            try simp only [Act.put, List.setIfInBounds_toArray, List.set_cons_zero, List.set_cons_succ]
            refine wpAnyH_take (i := 3) (oi := ?fo3w3) (v := ?fv3w3) ?fe3w3 (by kernel_rfl) (by kernel_rfl) (by kernel_rfl) (fun _ _ _ h => h) (Or.inl ⟨?fw3w3, ?fy3w3⟩) (by assumption) ?fr3w3
            case fe3w3 => ((simp only [List.getElem?_toArray, List.getElem?_cons_succ, List.getElem?_cons_zero]) <;> rfl)
            case fw3w3 => rfl
            case fy3w3 => (intro w hSw; (try dsimp only at hSw); go_simp; (try with_reducible rfl))
            try simp only [Act.put, List.setIfInBounds_toArray, List.set_cons_zero, List.set_cons_succ]
            refine wpAnyH_take (i := 4) (oi := ?fo4w3) (v := ?fv4w3) ?fe4w3 (by kernel_rfl) (by kernel_rfl) (by kernel_rfl) (fun _ _ _ h => h) (Or.inl ⟨?fw4w3, ?fy4w3⟩) (by assumption) ?fr4w3
            case fe4w3 => ((simp only [List.getElem?_toArray, List.getElem?_cons_succ, List.getElem?_cons_zero]) <;> rfl)
            case fw4w3 => rfl
            case fy4w3 => (intro w hSw; (try dsimp only at hSw); go_simp; (try with_reducible rfl))
            try simp only [Act.put, List.setIfInBounds_toArray, List.set_cons_zero, List.set_cons_succ]
            refine wpAnyH_take (i := 5) (oi := ?fo5w3) (v := ?fv5w3) ?fe5w3 (by kernel_rfl) (by kernel_rfl) (by kernel_rfl) (fun _ _ _ h => h) (Or.inl ⟨?fw5w3, ?fy5w3⟩) (by assumption) ?fr5w3
            case fe5w3 => ((simp only [List.getElem?_toArray, List.getElem?_cons_succ, List.getElem?_cons_zero]) <;> rfl)
            case fw5w3 => rfl
            case fy5w3 => (intro w hSw; (try dsimp only at hSw); go_simp; (try with_reducible rfl))
            try simp only [Act.put, List.setIfInBounds_toArray, List.set_cons_zero, List.set_cons_succ]
            refine wpAnyH_take (i := 6) (oi := ?fo6w3) (v := ?fv6w3) ?fe6w3 (by kernel_rfl) (by kernel_rfl) (by kernel_rfl) (fun _ _ _ h => h) (Or.inl ⟨?fw6w3, ?fy6w3⟩) (by assumption) ?fr6w3
            case fe6w3 => ((simp only [List.getElem?_toArray, List.getElem?_cons_succ, List.getElem?_cons_zero]) <;> rfl)
            case fw6w3 => rfl
            case fy6w3 => (intro w hSw; (try dsimp only at hSw); go_simp; (try with_reducible rfl))
            try simp only [Act.put, List.setIfInBounds_toArray, List.set_cons_zero, List.set_cons_succ]
            refine wpAnyH_take (i := 7) (oi := ?fo7w3) (v := ?fv7w3) ?fe7w3 (by kernel_rfl) (by kernel_rfl) (by kernel_rfl) (fun _ _ _ h => h) (Or.inl ⟨?fw7w3, ?fy7w3⟩) (by assumption) ?fr7w3
            case fe7w3 => ((simp only [List.getElem?_toArray, List.getElem?_cons_succ, List.getElem?_cons_zero]) <;> rfl)
            case fw7w3 => rfl
            case fy7w3 => (intro w hSw; (try dsimp only at hSw); go_simp; (try with_reducible rfl))
            try simp only [Act.put, List.setIfInBounds_toArray, List.set_cons_zero, List.set_cons_succ]
            refine wpAnyH_take (i := 8) (oi := ?fo8w3) (v := ?fv8w3) ?fe8w3 (by kernel_rfl) (by kernel_rfl) (by kernel_rfl) (fun _ _ _ h => h) (Or.inl ⟨?fw8w3, ?fy8w3⟩) (by assumption) ?fr8w3
            case fe8w3 => ((simp only [List.getElem?_toArray, List.getElem?_cons_succ, List.getElem?_cons_zero]) <;> rfl)
            case fw8w3 => rfl
            case fy8w3 => (intro w hSw; (try dsimp only at hSw); go_simp; (try with_reducible rfl))
            try simp only [Act.put, List.setIfInBounds_toArray, List.set_cons_zero, List.set_cons_succ]
            refine wpAnyH_take (i := 9) (oi := ?fo9w3) (v := (.bool false)) ?fe9w3 (by kernel_rfl) (by kernel_rfl) (by kernel_rfl) (fun _ _ _ h => h) (Or.inl ⟨?fw9w3, ?fy9w3⟩) (by assumption) ?fr9w3
            case fe9w3 => ((simp only [List.getElem?_toArray, List.getElem?_cons_succ, List.getElem?_cons_zero]) <;> rfl)
            case fw9w3 => rfl
            case fy9w3 => (intro w hSw; (try dsimp only at hSw); go_simp; (try rfl))
            try simp only [Act.put, List.setIfInBounds_toArray, List.set_cons_zero, List.set_cons_succ]
            refine wpAnyH_take (i := 10) (oi := ?fo10w3) (v := ?fv10w3) ?fe10w3 (by kernel_rfl) (by kernel_rfl) (by kernel_rfl) (fun _ _ _ h => h) (Or.inl ⟨?fw10w3, ?fy10w3⟩) (by assumption) ?fr10w3
            case fe10w3 => ((simp only [List.getElem?_toArray, List.getElem?_cons_succ, List.getElem?_cons_zero]) <;> rfl)
            case fw10w3 => rfl
            case fy10w3 => (intro w hSw; (try dsimp only at hSw); go_simp; (try with_reducible rfl))
            try simp only [Act.put, List.setIfInBounds_toArray, List.set_cons_zero, List.set_cons_succ]
            refine wpAnyH_take (i := 11) (oi := ?fo11w3) (v := ?fv11w3) ?fe11w3 (by kernel_rfl) (by kernel_rfl) (by kernel_rfl) (fun _ _ _ h => h) (Or.inl ⟨?fw11w3, ?fy11w3⟩) (by assumption) ?fr11w3
            case fe11w3 => ((simp only [List.getElem?_toArray, List.getElem?_cons_succ, List.getElem?_cons_zero]) <;> rfl)
            case fw11w3 => rfl
            case fy11w3 => (intro w hSw; (try dsimp only at hSw); go_simp; (try with_reducible rfl))
            try simp only [Act.put, List.setIfInBounds_toArray, List.set_cons_zero, List.set_cons_succ]
            refine wpAnyH_take (i := 12) (oi := ?fo12w3) (v := ?fv12w3) ?fe12w3 (by kernel_rfl) (by kernel_rfl) (by kernel_rfl) (fun _ _ _ h => h) (Or.inl ⟨?fw12w3, ?fy12w3⟩) (by assumption) ?fr12w3
            case fe12w3 => ((simp only [List.getElem?_toArray, List.getElem?_cons_succ, List.getElem?_cons_zero]) <;> rfl)
            case fw12w3 => rfl
            case fy12w3 => (intro w hSw; (try dsimp only at hSw); go_simp; (try with_reducible rfl))
            try simp only [Act.put, List.setIfInBounds_toArray, List.set_cons_zero, List.set_cons_succ]
            refine wpAnyH_take (i := 13) (oi := ?fo13w3) (v := ?fv13w3) ?fe13w3 (by kernel_rfl) (by kernel_rfl) (by kernel_rfl) (fun _ _ _ h => h) (Or.inl ⟨?fw13w3, ?fy13w3⟩) (by assumption) ?fr13w3
            case fe13w3 => ((simp only [List.getElem?_toArray, List.getElem?_cons_succ, List.getElem?_cons_zero]) <;> rfl)
            case fw13w3 => rfl
            case fy13w3 => (intro w hSw; (try dsimp only at hSw); go_simp; (try with_reducible rfl))
            try simp only [Act.put, List.setIfInBounds_toArray, List.set_cons_zero, List.set_cons_succ]
            refine wpAnyH_take (i := 14) (oi := ?fo14w3) (v := (.bool true)) ?fe14w3 (by kernel_rfl) (by kernel_rfl) (by kernel_rfl) (fun _ _ _ h => h) (Or.inl ⟨?fw14w3, ?fy14w3⟩) (by assumption) ?fr14w3
            case fe14w3 => ((simp only [List.getElem?_toArray, List.getElem?_cons_succ, List.getElem?_cons_zero]) <;> rfl)
            case fw14w3 => rfl
            case fy14w3 => (intro w hSw; (try dsimp only at hSw); go_simp; (try omega))
            try simp only [Act.put, List.setIfInBounds_toArray, List.set_cons_zero, List.set_cons_succ]
            refine wpAnyH_take (i := 15) (oi := ?fo15w3) (v := ?fv15w3) ?fe15w3 (by kernel_rfl) (by kernel_rfl) (by kernel_rfl) (fun _ _ _ h => h) (Or.inl ⟨?fw15w3, ?fy15w3⟩) (by assumption) ?fr15w3
            case fe15w3 => ((simp only [List.getElem?_toArray, List.getElem?_cons_succ, List.getElem?_cons_zero]) <;> rfl)
            case fw15w3 => rfl
            case fy15w3 => (intro w hSw; (try dsimp only at hSw); go_simp; (try with_reducible rfl))
            try simp only [Act.put, List.setIfInBounds_toArray, List.set_cons_zero, List.set_cons_succ]
            refine wpAnyH_take (i := 16) (oi := ?fo16w3) (v := ?fv16w3) ?fe16w3 (by kernel_rfl) (by kernel_rfl) (by kernel_rfl) (fun _ _ _ h => h) (Or.inl ⟨?fw16w3, ?fy16w3⟩) (by assumption) ?fr16w3
            case fe16w3 => ((simp only [List.getElem?_toArray, List.getElem?_cons_succ, List.getElem?_cons_zero]) <;> rfl)
            case fw16w3 => rfl
            case fy16w3 => (intro w hSw; (try dsimp only at hSw); go_simp; (try with_reducible rfl))
            try simp only [Act.put, List.setIfInBounds_toArray, List.set_cons_zero, List.set_cons_succ]
            refine wpAnyH_take (i := 17) (oi := ?fo17w3) (v := ?fv17w3) ?fe17w3 (by kernel_rfl) (by kernel_rfl) (by kernel_rfl) (fun _ _ _ h => h) (Or.inl ⟨?fw17w3, ?fy17w3⟩) (by assumption) ?fr17w3
            case fe17w3 => ((simp only [List.getElem?_toArray, List.getElem?_cons_succ, List.getElem?_cons_zero]) <;> rfl)
            case fw17w3 => rfl
            case fy17w3 => (intro w hSw; (try dsimp only at hSw); go_simp; (try with_reducible rfl))
            try simp only [Act.put, List.setIfInBounds_toArray, List.set_cons_zero, List.set_cons_succ]
            refine wpAnyH_take (i := 18) (oi := ?fo18w3) (v := ?fv18w3) ?fe18w3 (by kernel_rfl) (by kernel_rfl) (by kernel_rfl) (fun _ _ _ h => h) (Or.inl ⟨?fw18w3, ?fy18w3⟩) (by assumption) ?fr18w3
            case fe18w3 => ((simp only [List.getElem?_toArray, List.getElem?_cons_succ, List.getElem?_cons_zero]) <;> rfl)
            case fw18w3 => rfl
            case fy18w3 => (intro w hSw; (try dsimp only at hSw); go_simp; (try with_reducible rfl))
            try simp only [Act.put, List.setIfInBounds_toArray, List.set_cons_zero, List.set_cons_succ]
            refine wpAnyH_take (i := 19) (oi := ?fo19w3) (v := ?fv19w3) ?fe19w3 (by kernel_rfl) (by kernel_rfl) (by kernel_rfl) (fun _ _ _ h => h) (Or.inl ⟨?fw19w3, ?fy19w3⟩) (by assumption) ?fr19w3
            case fe19w3 => ((simp only [List.getElem?_toArray, List.getElem?_cons_succ, List.getElem?_cons_zero]) <;> rfl)
            case fw19w3 => rfl
            case fy19w3 => (intro w hSw; (try dsimp only at hSw); go_simp; (try with_reducible rfl))
            try simp only [Act.put, List.setIfInBounds_toArray, List.set_cons_zero, List.set_cons_succ]
            refine wpAnyH_take (i := 20) (oi := ?fo20w3) (v := ?fv20w3) ?fe20w3 (by kernel_rfl) (by kernel_rfl) (by kernel_rfl) (fun _ _ _ h => h) (Or.inl ⟨?fw20w3, ?fy20w3⟩) (by assumption) ?fr20w3
            case fe20w3 => ((simp only [List.getElem?_toArray, List.getElem?_cons_succ, List.getElem?_cons_zero]) <;> rfl)
            case fw20w3 => rfl
            case fy20w3 => (intro w hSw; (try dsimp only at hSw); go_simp; (try with_reducible rfl))
            try simp only [Act.put, List.setIfInBounds_toArray, List.set_cons_zero, List.set_cons_succ]
            refine wpAnyH_take (i := 21) (oi := ?fo21w3) (v := ?fv21w3) ?fe21w3 (by kernel_rfl) (by kernel_rfl) (by kernel_rfl) (fun _ _ _ h => h) (Or.inl ⟨?fw21w3, ?fy21w3⟩) (by assumption) ?fr21w3
            case fe21w3 => ((simp only [List.getElem?_toArray, List.getElem?_cons_succ, List.getElem?_cons_zero]) <;> rfl)
            case fw21w3 => rfl
            case fy21w3 => (intro w hSw; (try dsimp only at hSw); go_simp; (try with_reducible rfl))
            try simp only [Act.put, List.setIfInBounds_toArray, List.set_cons_zero, List.set_cons_succ]
            refine wpAnyH_take (i := 22) (oi := ?fo22w3) (v := ?fv22w3) ?fe22w3 (by kernel_rfl) (by kernel_rfl) (by kernel_rfl) (fun _ _ _ h => h) (Or.inl ⟨?fw22w3, ?fy22w3⟩) (by assumption) ?fr22w3
            case fe22w3 => ((simp only [List.getElem?_toArray, List.getElem?_cons_succ, List.getElem?_cons_zero]) <;> rfl)
            case fw22w3 => rfl
            case fy22w3 => (intro w hSw; (try dsimp only at hSw); go_simp; (try with_reducible rfl))
            try simp only [Act.put, List.setIfInBounds_toArray, List.set_cons_zero, List.set_cons_succ]
            refine wpAnyH_take (i := 23) (oi := ?fo23w3) (v := ?fv23w3) ?fe23w3 (by kernel_rfl) (by kernel_rfl) (by kernel_rfl) (fun _ _ _ h => h) (Or.inl ⟨?fw23w3, ?fy23w3⟩) (by assumption) ?fr23w3
            case fe23w3 => ((simp only [List.getElem?_toArray, List.getElem?_cons_succ, List.getElem?_cons_zero]) <;> rfl)
            case fw23w3 => rfl
            case fy23w3 => (intro w hSw; (try dsimp only at hSw); go_simp; (try with_reducible rfl))
            try simp only [Act.put, List.setIfInBounds_toArray, List.set_cons_zero, List.set_cons_succ]
            refine wpAnyH_take (i := 24) (oi := ?fo24w3) (v := (.bool true)) ?fe24w3 (by kernel_rfl) (by kernel_rfl) (by kernel_rfl) (fun _ _ _ h => h) (Or.inl ⟨?fw24w3, ?fy24w3⟩) (by assumption) ?fr24w3
            case fe24w3 => ((simp only [List.getElem?_toArray, List.getElem?_cons_succ, List.getElem?_cons_zero]) <;> rfl)
            case fw24w3 => rfl
            case fy24w3 => (intro w hSw; (try dsimp only at hSw); go_simp; (try exact HLE.out))
            try simp only [Act.put, List.setIfInBounds_toArray, List.set_cons_zero, List.set_cons_succ]
            refine wpAnyH_take (i := 25) (oi := ?fo25w3) (v := ?fv25w3) ?fe25w3 (by kernel_rfl) (by kernel_rfl) (by kernel_rfl) (fun _ _ _ h => h) (Or.inl ⟨?fw25w3, ?fy25w3⟩) (by assumption) ?fr25w3
            case fe25w3 => ((simp only [List.getElem?_toArray, List.getElem?_cons_succ, List.getElem?_cons_zero]) <;> rfl)
            case fw25w3 => rfl
            case fy25w3 => (intro w hSw; (try dsimp only at hSw); go_simp; (try with_reducible rfl))
            try simp only [Act.put, List.setIfInBounds_toArray, List.set_cons_zero, List.set_cons_succ]
            refine wpAnyH_take (i := 26) (oi := ?fo26w3) (v := ?fv26w3) ?fe26w3 (by kernel_rfl) (by kernel_rfl) (by kernel_rfl) (fun _ _ _ h => h) (Or.inl ⟨?fw26w3, ?fy26w3⟩) (by assumption) ?fr26w3
            case fe26w3 => ((simp only [List.getElem?_toArray, List.getElem?_cons_succ, List.getElem?_cons_zero]) <;> rfl)
            case fw26w3 => rfl
            case fy26w3 => (intro w hSw; (try dsimp only at hSw); go_simp; (try with_reducible rfl))
            try simp only [Act.put, List.setIfInBounds_toArray, List.set_cons_zero, List.set_cons_succ]
            refine wpAnyH_take (i := 27) (oi := ?fo27w3) (v := ?fv27w3) ?fe27w3 (by kernel_rfl) (by kernel_rfl) (by kernel_rfl) (fun _ _ _ h => h) (Or.inl ⟨?fw27w3, ?fy27w3⟩) (by assumption) ?fr27w3
            case fe27w3 => ((simp only [List.getElem?_toArray, List.getElem?_cons_succ, List.getElem?_cons_zero]) <;> rfl)
            case fw27w3 => rfl
            case fy27w3 => (intro w hSw; (try dsimp only at hSw); go_simp; (try with_reducible rfl))
            try simp only [Act.put, List.setIfInBounds_toArray, List.set_cons_zero, List.set_cons_succ]
            refine wpAnyH_done (by kernel_rfl) ?_ _
            refine NoPanic.normal ?_
            gi_wp2
            have HBF := hid (build_bad HNE.out (HCK.out.symm.trans (hst.out.trans (if_pos (.inl (by rw [HLQ.out]; exact hlt))))) (by decide))
            refine ⟨_, results_tmp2 rfl _ _ _, ⟨?_, hBW.out.drew⟩⟩
            rw [HBF.out]
            rfl
          | true =>
            have HLE := hid (nle_of hlt)
            have HNB := hid (show ¬ (ltB (lastAt l m) kk = false ∨ (true = true ∧ ([] : List UInt8) ≠ [])) by rw [HLQ.out]; simp [ltB, hlt])
            gi_wp2_with (rw [← HW.out])
            refine wpIn_wide.2 ?_
            refine wp_region_noPanic ?_
            refine wp_region_held_drew (S := (fun w' => w'.cell? ⟨wr.heap.size, 0, none⟩ = some (.string ⟨kk.toArray⟩) ∧ w'.cell? ⟨wr.heap.size, 1, none⟩ = some (.string ⟨#[]⟩) ∧ w'.cell? ⟨wr.heap.size, 2, none⟩ = some (.bool true) ∧ w'.cell? ⟨b, off + q * 3, none⟩ = some (.string ⟨pk.toArray⟩))) (by kernel_rfl) ?_ (fun hHeld => ?_)
            · exact ⟨y0, y1, y2, hpk⟩
            refine wpAnyH_take (i := 0) (oi := ?fo0w4) (v := ?fv0w4) ?fe0w4 (by kernel_rfl) (by kernel_rfl) (by kernel_rfl) (fun _ _ _ h => h) (Or.inl ⟨?fw0w4, ?fy0w4⟩) (by assumption) ?fr0w4
            case fe0w4 => ((simp only [List.getElem?_toArray, List.getElem?_cons_succ, List.getElem?_cons_zero]) <;> rfl)
            case fw0w4 => rfl
            case fy0w4 => (intro w hSw; (try dsimp only at hSw); go_simp; (try with_reducible rfl))
            try simp only [Act.put, List.setIfInBounds_toArray, List.set_cons_zero, List.set_cons_succ]
            refine wpAnyH_take (i := 1) (oi := ?fo1w4) (v := ?fv1w4) ?fe1w4 (by kernel_rfl) (by kernel_rfl) (by kernel_rfl) (fun _ _ _ h => h) (Or.inl ⟨?fw1w4, ?fy1w4⟩) (by assumption) ?fr1w4
            case fe1w4 => ((simp only [List.getElem?_toArray, List.getElem?_cons_succ, List.getElem?_cons_zero]) <;> rfl)
            case fw1w4 => rfl
            case fy1w4 => (intro w hSw; (try dsimp only at hSw); go_simp; (try with_reducible rfl))
            try simp only [Act.put, List.setIfInBounds_toArray, List.set_cons_zero, List.set_cons_succ]
            refine wpAnyH_take (i := 2) (oi := ?fo2w4) (v := (.bool false)) ?fe2w4 (by kernel_rfl) (by kernel_rfl) (by kernel_rfl) (fun _ _ _ h => h) (Or.inl ⟨?fw2w4, ?fy2w4⟩) (by assumption) ?fr2w4
            case fe2w4 => ((simp only [List.getElem?_toArray, List.getElem?_cons_succ, List.getElem?_cons_zero]) <;> rfl)
            case fw2w4 => rfl
            case fy2w4 => (intro w hSw; (try dsimp only at hSw); go_simp; (try rfl))
            try simp only [Act.put, List.setIfInBounds_toArray, List.set_cons_zero, List.set_cons_succ]
            refine wpAnyH_take (i := 3) (oi := ?fo3w4) (v := ?fv3w4) ?fe3w4 (by kernel_rfl) (by kernel_rfl) (by kernel_rfl) (fun _ _ _ h => h) (Or.inl ⟨?fw3w4, ?fy3w4⟩) (by assumption) ?fr3w4
            case fe3w4 => ((simp only [List.getElem?_toArray, List.getElem?_cons_succ, List.getElem?_cons_zero]) <;> rfl)
            case fw3w4 => rfl
            case fy3w4 => (intro w hSw; (try dsimp only at hSw); go_simp; (try with_reducible rfl))
            try simp only [Act.put, List.setIfInBounds_toArray, List.set_cons_zero, List.set_cons_succ]
            refine wpAnyH_take (i := 4) (oi := ?fo4w4) (v := ?fv4w4) ?fe4w4 (by kernel_rfl) (by kernel_rfl) (by kernel_rfl) (fun _ _ _ h => h) (Or.inl ⟨?fw4w4, ?fy4w4⟩) (by assumption) ?fr4w4
            case fe4w4 => ((simp only [List.getElem?_toArray, List.getElem?_cons_succ, List.getElem?_cons_zero]) <;> rfl)
            case fw4w4 => rfl
            case fy4w4 => (intro w hSw; (try dsimp only at hSw); go_simp; (try with_reducible rfl))
            try simp only [Act.put, List.setIfInBounds_toArray, List.set_cons_zero, List.set_cons_succ]
            refine wpAnyH_take (i := 5) (oi := ?fo5w4) (v := ?fv5w4) ?fe5w4 (by kernel_rfl) (by kernel_rfl) (by kernel_rfl) (fun _ _ _ h => h) (Or.inl ⟨?fw5w4, ?fy5w4⟩) (by assumption) ?fr5w4
            case fe5w4 => ((simp only [List.getElem?_toArray, List.getElem?_cons_succ, List.getElem?_cons_zero]) <;> rfl)
            case fw5w4 => rfl
            case fy5w4 => (intro w hSw; (try dsimp only at hSw); go_simp; (try with_reducible rfl))
            try simp only [Act.put, List.setIfInBounds_toArray, List.set_cons_zero, List.set_cons_succ]
            refine wpAnyH_take (i := 6) (oi := ?fo6w4) (v := ?fv6w4) ?fe6w4 (by kernel_rfl) (by kernel_rfl) (by kernel_rfl) (fun _ _ _ h => h) (Or.inl ⟨?fw6w4, ?fy6w4⟩) (by assumption) ?fr6w4
            case fe6w4 => ((simp only [List.getElem?_toArray, List.getElem?_cons_succ, List.getElem?_cons_zero]) <;> rfl)
            case fw6w4 => rfl
            case fy6w4 => (intro w hSw; (try dsimp only at hSw); go_simp; (try with_reducible rfl))
            try simp only [Act.put, List.setIfInBounds_toArray, List.set_cons_zero, List.set_cons_succ]
            refine wpAnyH_take (i := 7) (oi := ?fo7w4) (v := ?fv7w4) ?fe7w4 (by kernel_rfl) (by kernel_rfl) (by kernel_rfl) (fun _ _ _ h => h) (Or.inl ⟨?fw7w4, ?fy7w4⟩) (by assumption) ?fr7w4
            case fe7w4 => ((simp only [List.getElem?_toArray, List.getElem?_cons_succ, List.getElem?_cons_zero]) <;> rfl)
            case fw7w4 => rfl
            case fy7w4 => (intro w hSw; (try dsimp only at hSw); go_simp; (try with_reducible rfl))
            try simp only [Act.put, List.setIfInBounds_toArray, List.set_cons_zero, List.set_cons_succ]
            refine wpAnyH_take (i := 8) (oi := ?fo8w4) (v := ?fv8w4) ?fe8w4 (by kernel_rfl) (by kernel_rfl) (by kernel_rfl) (fun _ _ _ h => h) (Or.inl ⟨?fw8w4, ?fy8w4⟩) (by assumption) ?fr8w4
            case fe8w4 => ((simp only [List.getElem?_toArray, List.getElem?_cons_succ, List.getElem?_cons_zero]) <;> rfl)
            case fw8w4 => rfl
            case fy8w4 => (intro w hSw; (try dsimp only at hSw); go_simp; (try with_reducible rfl))
            try simp only [Act.put, List.setIfInBounds_toArray, List.set_cons_zero, List.set_cons_succ]
            refine wpAnyH_take (i := 9) (oi := ?fo9w4) (v := (.bool false)) ?fe9w4 (by kernel_rfl) (by kernel_rfl) (by kernel_rfl) (fun _ _ _ h => h) (Or.inl ⟨?fw9w4, ?fy9w4⟩) (by assumption) ?fr9w4
            case fe9w4 => ((simp only [List.getElem?_toArray, List.getElem?_cons_succ, List.getElem?_cons_zero]) <;> rfl)
            case fw9w4 => rfl
            case fy9w4 => (intro w hSw; (try dsimp only at hSw); go_simp; (try rfl))
            try simp only [Act.put, List.setIfInBounds_toArray, List.set_cons_zero, List.set_cons_succ]
            refine wpAnyH_take (i := 10) (oi := ?fo10w4) (v := ?fv10w4) ?fe10w4 (by kernel_rfl) (by kernel_rfl) (by kernel_rfl) (fun _ _ _ h => h) (Or.inl ⟨?fw10w4, ?fy10w4⟩) (by assumption) ?fr10w4
            case fe10w4 => ((simp only [List.getElem?_toArray, List.getElem?_cons_succ, List.getElem?_cons_zero]) <;> rfl)
            case fw10w4 => rfl
            case fy10w4 => (intro w hSw; (try dsimp only at hSw); go_simp; (try with_reducible rfl))
            try simp only [Act.put, List.setIfInBounds_toArray, List.set_cons_zero, List.set_cons_succ]
            refine wpAnyH_take (i := 11) (oi := ?fo11w4) (v := ?fv11w4) ?fe11w4 (by kernel_rfl) (by kernel_rfl) (by kernel_rfl) (fun _ _ _ h => h) (Or.inl ⟨?fw11w4, ?fy11w4⟩) (by assumption) ?fr11w4
            case fe11w4 => ((simp only [List.getElem?_toArray, List.getElem?_cons_succ, List.getElem?_cons_zero]) <;> rfl)
            case fw11w4 => rfl
            case fy11w4 => (intro w hSw; (try dsimp only at hSw); go_simp; (try with_reducible rfl))
            try simp only [Act.put, List.setIfInBounds_toArray, List.set_cons_zero, List.set_cons_succ]
            refine wpAnyH_take (i := 12) (oi := ?fo12w4) (v := ?fv12w4) ?fe12w4 (by kernel_rfl) (by kernel_rfl) (by kernel_rfl) (fun _ _ _ h => h) (Or.inl ⟨?fw12w4, ?fy12w4⟩) (by assumption) ?fr12w4
            case fe12w4 => ((simp only [List.getElem?_toArray, List.getElem?_cons_succ, List.getElem?_cons_zero]) <;> rfl)
            case fw12w4 => rfl
            case fy12w4 => (intro w hSw; (try dsimp only at hSw); go_simp; (try with_reducible rfl))
            try simp only [Act.put, List.setIfInBounds_toArray, List.set_cons_zero, List.set_cons_succ]
            refine wpAnyH_take (i := 13) (oi := ?fo13w4) (v := ?fv13w4) ?fe13w4 (by kernel_rfl) (by kernel_rfl) (by kernel_rfl) (fun _ _ _ h => h) (Or.inl ⟨?fw13w4, ?fy13w4⟩) (by assumption) ?fr13w4
            case fe13w4 => ((simp only [List.getElem?_toArray, List.getElem?_cons_succ, List.getElem?_cons_zero]) <;> rfl)
            case fw13w4 => rfl
            case fy13w4 => (intro w hSw; (try dsimp only at hSw); go_simp; (try with_reducible rfl))
            try simp only [Act.put, List.setIfInBounds_toArray, List.set_cons_zero, List.set_cons_succ]
            refine wpAnyH_take (i := 14) (oi := ?fo14w4) (v := (.bool true)) ?fe14w4 (by kernel_rfl) (by kernel_rfl) (by kernel_rfl) (fun _ _ _ h => h) (Or.inl ⟨?fw14w4, ?fy14w4⟩) (by assumption) ?fr14w4
            case fe14w4 => ((simp only [List.getElem?_toArray, List.getElem?_cons_succ, List.getElem?_cons_zero]) <;> rfl)
            case fw14w4 => rfl
            case fy14w4 => (intro w hSw; (try dsimp only at hSw); go_simp; (try omega))
            try simp only [Act.put, List.setIfInBounds_toArray, List.set_cons_zero, List.set_cons_succ]
            refine wpAnyH_take (i := 15) (oi := ?fo15w4) (v := ?fv15w4) ?fe15w4 (by kernel_rfl) (by kernel_rfl) (by kernel_rfl) (fun _ _ _ h => h) (Or.inl ⟨?fw15w4, ?fy15w4⟩) (by assumption) ?fr15w4
            case fe15w4 => ((simp only [List.getElem?_toArray, List.getElem?_cons_succ, List.getElem?_cons_zero]) <;> rfl)
            case fw15w4 => rfl
            case fy15w4 => (intro w hSw; (try dsimp only at hSw); go_simp; (try with_reducible rfl))
            try simp only [Act.put, List.setIfInBounds_toArray, List.set_cons_zero, List.set_cons_succ]
            refine wpAnyH_take (i := 16) (oi := ?fo16w4) (v := ?fv16w4) ?fe16w4 (by kernel_rfl) (by kernel_rfl) (by kernel_rfl) (fun _ _ _ h => h) (Or.inl ⟨?fw16w4, ?fy16w4⟩) (by assumption) ?fr16w4
            case fe16w4 => ((simp only [List.getElem?_toArray, List.getElem?_cons_succ, List.getElem?_cons_zero]) <;> rfl)
            case fw16w4 => rfl
            case fy16w4 => (intro w hSw; (try dsimp only at hSw); go_simp; (try with_reducible rfl))
            try simp only [Act.put, List.setIfInBounds_toArray, List.set_cons_zero, List.set_cons_succ]
            refine wpAnyH_take (i := 17) (oi := ?fo17w4) (v := ?fv17w4) ?fe17w4 (by kernel_rfl) (by kernel_rfl) (by kernel_rfl) (fun _ _ _ h => h) (Or.inl ⟨?fw17w4, ?fy17w4⟩) (by assumption) ?fr17w4
            case fe17w4 => ((simp only [List.getElem?_toArray, List.getElem?_cons_succ, List.getElem?_cons_zero]) <;> rfl)
            case fw17w4 => rfl
            case fy17w4 => (intro w hSw; (try dsimp only at hSw); go_simp; (try with_reducible rfl))
            try simp only [Act.put, List.setIfInBounds_toArray, List.set_cons_zero, List.set_cons_succ]
            refine wpAnyH_take (i := 18) (oi := ?fo18w4) (v := ?fv18w4) ?fe18w4 (by kernel_rfl) (by kernel_rfl) (by kernel_rfl) (fun _ _ _ h => h) (Or.inl ⟨?fw18w4, ?fy18w4⟩) (by assumption) ?fr18w4
            case fe18w4 => ((simp only [List.getElem?_toArray, List.getElem?_cons_succ, List.getElem?_cons_zero]) <;> rfl)
            case fw18w4 => rfl
            case fy18w4 => (intro w hSw; (try dsimp only at hSw); go_simp; (try with_reducible rfl))
            try simp only [Act.put, List.setIfInBounds_toArray, List.set_cons_zero, List.set_cons_succ]
            refine wpAnyH_take (i := 19) (oi := ?fo19w4) (v := ?fv19w4) ?fe19w4 (by kernel_rfl) (by kernel_rfl) (by kernel_rfl) (fun _ _ _ h => h) (Or.inl ⟨?fw19w4, ?fy19w4⟩) (by assumption) ?fr19w4
            case fe19w4 => ((simp only [List.getElem?_toArray, List.getElem?_cons_succ, List.getElem?_cons_zero]) <;> rfl)
            case fw19w4 => rfl
            case fy19w4 => (intro w hSw; (try dsimp only at hSw); go_simp; (try with_reducible rfl))
            try simp only [Act.put, List.setIfInBounds_toArray, List.set_cons_zero, List.set_cons_succ]
            refine wpAnyH_take (i := 20) (oi := ?fo20w4) (v := ?fv20w4) ?fe20w4 (by kernel_rfl) (by kernel_rfl) (by kernel_rfl) (fun _ _ _ h => h) (Or.inl ⟨?fw20w4, ?fy20w4⟩) (by assumption) ?fr20w4
            case fe20w4 => ((simp only [List.getElem?_toArray, List.getElem?_cons_succ, List.getElem?_cons_zero]) <;> rfl)
            case fw20w4 => rfl
            case fy20w4 => (intro w hSw; (try dsimp only at hSw); go_simp; (try with_reducible rfl))
            try simp only [Act.put, List.setIfInBounds_toArray, List.set_cons_zero, List.set_cons_succ]
            refine wpAnyH_take (i := 21) (oi := ?fo21w4) (v := ?fv21w4) ?fe21w4 (by kernel_rfl) (by kernel_rfl) (by kernel_rfl) (fun _ _ _ h => h) (Or.inl ⟨?fw21w4, ?fy21w4⟩) (by assumption) ?fr21w4
            case fe21w4 => ((simp only [List.getElem?_toArray, List.getElem?_cons_succ, List.getElem?_cons_zero]) <;> rfl)
            case fw21w4 => rfl
            case fy21w4 => (intro w hSw; (try dsimp only at hSw); go_simp; (try with_reducible rfl))
            try simp only [Act.put, List.setIfInBounds_toArray, List.set_cons_zero, List.set_cons_succ]
            refine wpAnyH_take (i := 22) (oi := ?fo22w4) (v := ?fv22w4) ?fe22w4 (by kernel_rfl) (by kernel_rfl) (by kernel_rfl) (fun _ _ _ h => h) (Or.inl ⟨?fw22w4, ?fy22w4⟩) (by assumption) ?fr22w4
            case fe22w4 => ((simp only [List.getElem?_toArray, List.getElem?_cons_succ, List.getElem?_cons_zero]) <;> rfl)
            case fw22w4 => rfl
            case fy22w4 => (intro w hSw; (try dsimp only at hSw); go_simp; (try with_reducible rfl))
            try simp only [Act.put, List.setIfInBounds_toArray, List.set_cons_zero, List.set_cons_succ]
            refine wpAnyH_take (i := 23) (oi := ?fo23w4) (v := ?fv23w4) ?fe23w4 (by kernel_rfl) (by kernel_rfl) (by kernel_rfl) (fun _ _ _ h => h) (Or.inl ⟨?fw23w4, ?fy23w4⟩) (by assumption) ?fr23w4
            case fe23w4 => ((simp only [List.getElem?_toArray, List.getElem?_cons_succ, List.getElem?_cons_zero]) <;> rfl)
            case fw23w4 => rfl
            case fy23w4 => (intro w hSw; (try dsimp only at hSw); go_simp; (try with_reducible rfl))
            try simp only [Act.put, List.setIfInBounds_toArray, List.set_cons_zero, List.set_cons_succ]
            refine wpAnyH_take (i := 24) (oi := ?fo24w4) (v := (.bool false)) ?fe24w4 (by kernel_rfl) (by kernel_rfl) (by kernel_rfl) (fun _ _ _ h => h) (Or.inl ⟨?fw24w4, ?fy24w4⟩) (by assumption) ?fr24w4
            case fe24w4 => ((simp only [List.getElem?_toArray, List.getElem?_cons_succ, List.getElem?_cons_zero]) <;> rfl)
            case fw24w4 => rfl
            case fy24w4 => (intro w hSw; (try dsimp only at hSw); go_simp; (try exact HLE.out))
            try simp only [Act.put, List.setIfInBounds_toArray, List.set_cons_zero, List.set_cons_succ]
            refine wpAnyH_take (i := 25) (oi := ?fo25w4) (v := ?fv25w4) ?fe25w4 (by kernel_rfl) (by kernel_rfl) (by kernel_rfl) (fun _ _ _ h => h) (Or.inl ⟨?fw25w4, ?fy25w4⟩) (by assumption) ?fr25w4
            case fe25w4 => ((simp only [List.getElem?_toArray, List.getElem?_cons_succ, List.getElem?_cons_zero]) <;> rfl)
            case fw25w4 => rfl
            case fy25w4 => (intro w hSw; (try dsimp only at hSw); go_simp; (try with_reducible rfl))
            try simp only [Act.put, List.setIfInBounds_toArray, List.set_cons_zero, List.set_cons_succ]
            refine wpAnyH_take (i := 26) (oi := ?fo26w4) (v := ?fv26w4) ?fe26w4 (by kernel_rfl) (by kernel_rfl) (by kernel_rfl) (fun _ _ _ h => h) (Or.inl ⟨?fw26w4, ?fy26w4⟩) (by assumption) ?fr26w4
            case fe26w4 => ((simp only [List.getElem?_toArray, List.getElem?_cons_succ, List.getElem?_cons_zero]) <;> rfl)
            case fw26w4 => rfl
            case fy26w4 => (intro w hSw; (try dsimp only at hSw); go_simp; (try with_reducible rfl))
            try simp only [Act.put, List.setIfInBounds_toArray, List.set_cons_zero, List.set_cons_succ]
            refine wpAnyH_take (i := 27) (oi := ?fo27w4) (v := ?fv27w4) ?fe27w4 (by kernel_rfl) (by kernel_rfl) (by kernel_rfl) (fun _ _ _ h => h) (Or.inl ⟨?fw27w4, ?fy27w4⟩) (by assumption) ?fr27w4
            case fe27w4 => ((simp only [List.getElem?_toArray, List.getElem?_cons_succ, List.getElem?_cons_zero]) <;> rfl)
            case fw27w4 => rfl
            case fy27w4 => (intro w hSw; (try dsimp only at hSw); go_simp; (try with_reducible rfl))
            try simp only [Act.put, List.setIfInBounds_toArray, List.set_cons_zero, List.set_cons_succ]
            refine wpAnyH_done (by kernel_rfl) ?_ _
            refine NoPanic.normal ?_
            clear hHeld
            by_cases h64 : 64 < kk.length
            · have hkI : (64 : Int) < (kk.length : Int) := by omega
              gi_wp2
              have HBF := hid (build_bad HNE.out (HCK.out.symm.trans (hst.out.trans ((if_neg HNB.out).trans (if_pos (.inl h64))))) (by decide))
              refine ⟨_, results_tmp2 rfl _ _ _, ⟨?_, hBW.out.drew⟩⟩
              rw [HBF.out]
              rfl
            have hkI : ¬ (64 : Int) < (kk.length : Int) := by omega
            by_cases h81 : 8192 < ([] : List UInt8).length
            · exact absurd h81 (by simp)
            have hvI : ¬ (8192 : Int) < (([] : List UInt8).length : Int) := by omega
            have HGO := hid (hst.out.trans ((if_neg HNB.out).trans (if_neg (fun q => q.elim h64 h81))))
            gi_wp2
            go_roundw
            case rel => first | exact ⟨m + 1, by omega, by go_num, hBW.out.drew, HGO.out.symm.trans HCK.out⟩ | ((repeat apply Exists.intro); refine ⟨⟨m + 1, by omega, by go_num, hBW.out.drew, HGO.out.symm.trans HCK.out⟩, ?_⟩; repeat (first | exact rfl | refine ⟨rfl, ?_⟩))
            case measure => simp [intOf]; omega
        · gi_wp2_with (rw [← HW.out])
          refine wpIn_wide.2 ?_
          refine wp_region_noPanic ?_
          refine wp_region_held_drew (S := (fun w' => w'.cell? ⟨wr.heap.size, 0, none⟩ = some (.string ⟨kk.toArray⟩) ∧ w'.cell? ⟨wr.heap.size, 1, none⟩ = some (.string ⟨vv.toArray⟩) ∧ w'.cell? ⟨wr.heap.size, 2, none⟩ = some (.bool true))) (by kernel_rfl) ?_ (fun hHeld => ?_)
          · exact ⟨y0, y1, y2⟩
          refine wpAnyH_take (i := 0) (oi := ?fo0w5) (v := ?fv0w5) ?fe0w5 (by kernel_rfl) (by kernel_rfl) (by kernel_rfl) (fun _ _ _ h => h) (Or.inl ⟨?fw0w5, ?fy0w5⟩) (by assumption) ?fr0w5
          case fe0w5 => ((simp only [List.getElem?_toArray, List.getElem?_cons_succ, List.getElem?_cons_zero]) <;> rfl)
          case fw0w5 => rfl
          case fy0w5 => (intro w hSw; (try dsimp only at hSw); go_simp; (try with_reducible rfl))
          try simp only [Act.put, List.setIfInBounds_toArray, List.set_cons_zero, List.set_cons_succ]
          refine wpAnyH_take (i := 1) (oi := ?fo1w5) (v := ?fv1w5) ?fe1w5 (by kernel_rfl) (by kernel_rfl) (by kernel_rfl) (fun _ _ _ h => h) (Or.inl ⟨?fw1w5, ?fy1w5⟩) (by assumption) ?fr1w5
          case fe1w5 => ((simp only [List.getElem?_toArray, List.getElem?_cons_succ, List.getElem?_cons_zero]) <;> rfl)
          case fw1w5 => rfl
          case fy1w5 => (intro w hSw; (try dsimp only at hSw); go_simp; (try with_reducible rfl))
          try simp only [Act.put, List.setIfInBounds_toArray, List.set_cons_zero, List.set_cons_succ]
          refine wpAnyH_take (i := 2) (oi := ?fo2w5) (v := (.bool false)) ?fe2w5 (by kernel_rfl) (by kernel_rfl) (by kernel_rfl) (fun _ _ _ h => h) (Or.inl ⟨?fw2w5, ?fy2w5⟩) (by assumption) ?fr2w5
          case fe2w5 => ((simp only [List.getElem?_toArray, List.getElem?_cons_succ, List.getElem?_cons_zero]) <;> rfl)
          case fw2w5 => rfl
          case fy2w5 => (intro w hSw; (try dsimp only at hSw); go_simp; (try rfl))
          try simp only [Act.put, List.setIfInBounds_toArray, List.set_cons_zero, List.set_cons_succ]
          refine wpAnyH_take (i := 3) (oi := ?fo3w5) (v := ?fv3w5) ?fe3w5 (by kernel_rfl) (by kernel_rfl) (by kernel_rfl) (fun _ _ _ h => h) (Or.inl ⟨?fw3w5, ?fy3w5⟩) (by assumption) ?fr3w5
          case fe3w5 => ((simp only [List.getElem?_toArray, List.getElem?_cons_succ, List.getElem?_cons_zero]) <;> rfl)
          case fw3w5 => rfl
          case fy3w5 => (intro w hSw; (try dsimp only at hSw); go_simp; (try with_reducible rfl))
          try simp only [Act.put, List.setIfInBounds_toArray, List.set_cons_zero, List.set_cons_succ]
          refine wpAnyH_take (i := 4) (oi := ?fo4w5) (v := ?fv4w5) ?fe4w5 (by kernel_rfl) (by kernel_rfl) (by kernel_rfl) (fun _ _ _ h => h) (Or.inl ⟨?fw4w5, ?fy4w5⟩) (by assumption) ?fr4w5
          case fe4w5 => ((simp only [List.getElem?_toArray, List.getElem?_cons_succ, List.getElem?_cons_zero]) <;> rfl)
          case fw4w5 => rfl
          case fy4w5 => (intro w hSw; (try dsimp only at hSw); go_simp; (try with_reducible rfl))
          try simp only [Act.put, List.setIfInBounds_toArray, List.set_cons_zero, List.set_cons_succ]
          refine wpAnyH_take (i := 5) (oi := ?fo5w5) (v := ?fv5w5) ?fe5w5 (by kernel_rfl) (by kernel_rfl) (by kernel_rfl) (fun _ _ _ h => h) (Or.inl ⟨?fw5w5, ?fy5w5⟩) (by assumption) ?fr5w5
          case fe5w5 => ((simp only [List.getElem?_toArray, List.getElem?_cons_succ, List.getElem?_cons_zero]) <;> rfl)
          case fw5w5 => rfl
          case fy5w5 => (intro w hSw; (try dsimp only at hSw); go_simp; (try with_reducible rfl))
          try simp only [Act.put, List.setIfInBounds_toArray, List.set_cons_zero, List.set_cons_succ]
          refine wpAnyH_take (i := 6) (oi := ?fo6w5) (v := ?fv6w5) ?fe6w5 (by kernel_rfl) (by kernel_rfl) (by kernel_rfl) (fun _ _ _ h => h) (Or.inl ⟨?fw6w5, ?fy6w5⟩) (by assumption) ?fr6w5
          case fe6w5 => ((simp only [List.getElem?_toArray, List.getElem?_cons_succ, List.getElem?_cons_zero]) <;> rfl)
          case fw6w5 => rfl
          case fy6w5 => (intro w hSw; (try dsimp only at hSw); go_simp; (try with_reducible rfl))
          try simp only [Act.put, List.setIfInBounds_toArray, List.set_cons_zero, List.set_cons_succ]
          refine wpAnyH_take (i := 7) (oi := ?fo7w5) (v := ?fv7w5) ?fe7w5 (by kernel_rfl) (by kernel_rfl) (by kernel_rfl) (fun _ _ _ h => h) (Or.inl ⟨?fw7w5, ?fy7w5⟩) (by assumption) ?fr7w5
          case fe7w5 => ((simp only [List.getElem?_toArray, List.getElem?_cons_succ, List.getElem?_cons_zero]) <;> rfl)
          case fw7w5 => rfl
          case fy7w5 => (intro w hSw; (try dsimp only at hSw); go_simp; (try with_reducible rfl))
          try simp only [Act.put, List.setIfInBounds_toArray, List.set_cons_zero, List.set_cons_succ]
          refine wpAnyH_take (i := 8) (oi := ?fo8w5) (v := ?fv8w5) ?fe8w5 (by kernel_rfl) (by kernel_rfl) (by kernel_rfl) (fun _ _ _ h => h) (Or.inl ⟨?fw8w5, ?fy8w5⟩) (by assumption) ?fr8w5
          case fe8w5 => ((simp only [List.getElem?_toArray, List.getElem?_cons_succ, List.getElem?_cons_zero]) <;> rfl)
          case fw8w5 => rfl
          case fy8w5 => (intro w hSw; (try dsimp only at hSw); go_simp; (try with_reducible rfl))
          try simp only [Act.put, List.setIfInBounds_toArray, List.set_cons_zero, List.set_cons_succ]
          refine wpAnyH_take (i := 9) (oi := ?fo9w5) (v := (.bool true)) ?fe9w5 (by kernel_rfl) (by kernel_rfl) (by kernel_rfl) (fun _ _ _ h => h) (Or.inl ⟨?fw9w5, ?fy9w5⟩) (by assumption) ?fr9w5
          case fe9w5 => ((simp only [List.getElem?_toArray, List.getElem?_cons_succ, List.getElem?_cons_zero]) <;> rfl)
          case fw9w5 => rfl
          case fy9w5 => (intro w hSw; (try dsimp only at hSw); go_simp; (try rfl))
          try simp only [Act.put, List.setIfInBounds_toArray, List.set_cons_zero, List.set_cons_succ]
          refine wpAnyH_take (i := 10) (oi := ?fo10w5) (v := ?fv10w5) ?fe10w5 (by kernel_rfl) (by kernel_rfl) (by kernel_rfl) (fun _ _ _ h => h) (Or.inl ⟨?fw10w5, ?fy10w5⟩) (by assumption) ?fr10w5
          case fe10w5 => ((simp only [List.getElem?_toArray, List.getElem?_cons_succ, List.getElem?_cons_zero]) <;> rfl)
          case fw10w5 => rfl
          case fy10w5 => (intro w hSw; (try dsimp only at hSw); go_simp; (try with_reducible rfl))
          try simp only [Act.put, List.setIfInBounds_toArray, List.set_cons_zero, List.set_cons_succ]
          refine wpAnyH_take (i := 11) (oi := ?fo11w5) (v := ?fv11w5) ?fe11w5 (by kernel_rfl) (by kernel_rfl) (by kernel_rfl) (fun _ _ _ h => h) (Or.inl ⟨?fw11w5, ?fy11w5⟩) (by assumption) ?fr11w5
          case fe11w5 => ((simp only [List.getElem?_toArray, List.getElem?_cons_succ, List.getElem?_cons_zero]) <;> rfl)
          case fw11w5 => rfl
          case fy11w5 => (intro w hSw; (try dsimp only at hSw); go_simp; (try with_reducible rfl))
          try simp only [Act.put, List.setIfInBounds_toArray, List.set_cons_zero, List.set_cons_succ]
          refine wpAnyH_take (i := 12) (oi := ?fo12w5) (v := ?fv12w5) ?fe12w5 (by kernel_rfl) (by kernel_rfl) (by kernel_rfl) (fun _ _ _ h => h) (Or.inl ⟨?fw12w5, ?fy12w5⟩) (by assumption) ?fr12w5
          case fe12w5 => ((simp only [List.getElem?_toArray, List.getElem?_cons_succ, List.getElem?_cons_zero]) <;> rfl)
          case fw12w5 => rfl
          case fy12w5 => (intro w hSw; (try dsimp only at hSw); go_simp; (try with_reducible rfl))
          try simp only [Act.put, List.setIfInBounds_toArray, List.set_cons_zero, List.set_cons_succ]
          refine wpAnyH_take (i := 13) (oi := ?fo13w5) (v := undef) ?fe13w5 (by kernel_rfl) (by kernel_rfl) (by kernel_rfl) (fun _ _ _ h => h) (Or.inr ⟨?fw13w5, rfl⟩) (by assumption) ?fr13w5
          case fe13w5 => ((simp only [List.getElem?_toArray, List.getElem?_cons_succ, List.getElem?_cons_zero]) <;> rfl)
          case fw13w5 => rfl
          try simp only [Act.put, List.setIfInBounds_toArray, List.set_cons_zero, List.set_cons_succ]
          refine wpAnyH_take (i := 14) (oi := ?fo14w5) (v := undef) ?fe14w5 (by kernel_rfl) (by kernel_rfl) (by kernel_rfl) (fun _ _ _ h => h) (Or.inr ⟨?fw14w5, rfl⟩) (by assumption) ?fr14w5
          case fe14w5 => ((simp only [List.getElem?_toArray, List.getElem?_cons_succ, List.getElem?_cons_zero]) <;> rfl)
          case fw14w5 => rfl
          try simp only [Act.put, List.setIfInBounds_toArray, List.set_cons_zero, List.set_cons_succ]
          refine wpAnyH_take (i := 15) (oi := ?fo15w5) (v := undef) ?fe15w5 (by kernel_rfl) (by kernel_rfl) (by kernel_rfl) (fun _ _ _ h => h) (Or.inr ⟨?fw15w5, rfl⟩) (by assumption) ?fr15w5
          case fe15w5 => ((simp only [List.getElem?_toArray, List.getElem?_cons_succ, List.getElem?_cons_zero]) <;> rfl)
          case fw15w5 => rfl
          try simp only [Act.put, List.setIfInBounds_toArray, List.set_cons_zero, List.set_cons_succ]
          refine wpAnyH_take (i := 16) (oi := ?fo16w5) (v := undef) ?fe16w5 (by kernel_rfl) (by kernel_rfl) (by kernel_rfl) (fun _ _ _ h => h) (Or.inr ⟨?fw16w5, rfl⟩) (by assumption) ?fr16w5
          case fe16w5 => ((simp only [List.getElem?_toArray, List.getElem?_cons_succ, List.getElem?_cons_zero]) <;> rfl)
          case fw16w5 => rfl
          try simp only [Act.put, List.setIfInBounds_toArray, List.set_cons_zero, List.set_cons_succ]
          refine wpAnyH_take (i := 17) (oi := ?fo17w5) (v := undef) ?fe17w5 (by kernel_rfl) (by kernel_rfl) (by kernel_rfl) (fun _ _ _ h => h) (Or.inr ⟨?fw17w5, rfl⟩) (by assumption) ?fr17w5
          case fe17w5 => ((simp only [List.getElem?_toArray, List.getElem?_cons_succ, List.getElem?_cons_zero]) <;> rfl)
          case fw17w5 => rfl
          try simp only [Act.put, List.setIfInBounds_toArray, List.set_cons_zero, List.set_cons_succ]
          refine wpAnyH_take (i := 18) (oi := ?fo18w5) (v := undef) ?fe18w5 (by kernel_rfl) (by kernel_rfl) (by kernel_rfl) (fun _ _ _ h => h) (Or.inr ⟨?fw18w5, rfl⟩) (by assumption) ?fr18w5
          case fe18w5 => ((simp only [List.getElem?_toArray, List.getElem?_cons_succ, List.getElem?_cons_zero]) <;> rfl)
          case fw18w5 => rfl
          try simp only [Act.put, List.setIfInBounds_toArray, List.set_cons_zero, List.set_cons_succ]
          refine wpAnyH_take (i := 19) (oi := ?fo19w5) (v := undef) ?fe19w5 (by kernel_rfl) (by kernel_rfl) (by kernel_rfl) (fun _ _ _ h => h) (Or.inr ⟨?fw19w5, rfl⟩) (by assumption) ?fr19w5
          case fe19w5 => ((simp only [List.getElem?_toArray, List.getElem?_cons_succ, List.getElem?_cons_zero]) <;> rfl)
          case fw19w5 => rfl
          try simp only [Act.put, List.setIfInBounds_toArray, List.set_cons_zero, List.set_cons_succ]
          refine wpAnyH_take (i := 20) (oi := ?fo20w5) (v := undef) ?fe20w5 (by kernel_rfl) (by kernel_rfl) (by kernel_rfl) (fun _ _ _ h => h) (Or.inr ⟨?fw20w5, rfl⟩) (by assumption) ?fr20w5
          case fe20w5 => ((simp only [List.getElem?_toArray, List.getElem?_cons_succ, List.getElem?_cons_zero]) <;> rfl)
          case fw20w5 => rfl
          try simp only [Act.put, List.setIfInBounds_toArray, List.set_cons_zero, List.set_cons_succ]
          refine wpAnyH_take (i := 21) (oi := ?fo21w5) (v := undef) ?fe21w5 (by kernel_rfl) (by kernel_rfl) (by kernel_rfl) (fun _ _ _ h => h) (Or.inr ⟨?fw21w5, rfl⟩) (by assumption) ?fr21w5
          case fe21w5 => ((simp only [List.getElem?_toArray, List.getElem?_cons_succ, List.getElem?_cons_zero]) <;> rfl)
          case fw21w5 => rfl
          try simp only [Act.put, List.setIfInBounds_toArray, List.set_cons_zero, List.set_cons_succ]
          refine wpAnyH_take (i := 22) (oi := ?fo22w5) (v := undef) ?fe22w5 (by kernel_rfl) (by kernel_rfl) (by kernel_rfl) (fun _ _ _ h => h) (Or.inr ⟨?fw22w5, rfl⟩) (by assumption) ?fr22w5
          case fe22w5 => ((simp only [List.getElem?_toArray, List.getElem?_cons_succ, List.getElem?_cons_zero]) <;> rfl)
          case fw22w5 => rfl
          try simp only [Act.put, List.setIfInBounds_toArray, List.set_cons_zero, List.set_cons_succ]
          refine wpAnyH_take (i := 23) (oi := ?fo23w5) (v := undef) ?fe23w5 (by kernel_rfl) (by kernel_rfl) (by kernel_rfl) (fun _ _ _ h => h) (Or.inr ⟨?fw23w5, rfl⟩) (by assumption) ?fr23w5
          case fe23w5 => ((simp only [List.getElem?_toArray, List.getElem?_cons_succ, List.getElem?_cons_zero]) <;> rfl)
          case fw23w5 => rfl
          try simp only [Act.put, List.setIfInBounds_toArray, List.set_cons_zero, List.set_cons_succ]
          refine wpAnyH_take (i := 24) (oi := ?fo24w5) (v := undef) ?fe24w5 (by kernel_rfl) (by kernel_rfl) (by kernel_rfl) (fun _ _ _ h => h) (Or.inr ⟨?fw24w5, rfl⟩) (by assumption) ?fr24w5
          case fe24w5 => ((simp only [List.getElem?_toArray, List.getElem?_cons_succ, List.getElem?_cons_zero]) <;> rfl)
          case fw24w5 => rfl
          try simp only [Act.put, List.setIfInBounds_toArray, List.set_cons_zero, List.set_cons_succ]
          refine wpAnyH_take (i := 25) (oi := ?fo25w5) (v := undef) ?fe25w5 (by kernel_rfl) (by kernel_rfl) (by kernel_rfl) (fun _ _ _ h => h) (Or.inr ⟨?fw25w5, rfl⟩) (by assumption) ?fr25w5
          case fe25w5 => ((simp only [List.getElem?_toArray, List.getElem?_cons_succ, List.getElem?_cons_zero]) <;> rfl)
          case fw25w5 => rfl
          try simp only [Act.put, List.setIfInBounds_toArray, List.set_cons_zero, List.set_cons_succ]
          refine wpAnyH_take (i := 26) (oi := ?fo26w5) (v := ?fv26w5) ?fe26w5 (by kernel_rfl) (by kernel_rfl) (by kernel_rfl) (fun _ _ _ h => h) (Or.inl ⟨?fw26w5, ?fy26w5⟩) (by assumption) ?fr26w5
          case fe26w5 => ((simp only [List.getElem?_toArray, List.getElem?_cons_succ, List.getElem?_cons_zero]) <;> rfl)
          case fw26w5 => rfl
          case fy26w5 => (intro w hSw; (try dsimp only at hSw); go_simp; (try with_reducible rfl))
          try simp only [Act.put, List.setIfInBounds_toArray, List.set_cons_zero, List.set_cons_succ]
          refine wpAnyH_take (i := 27) (oi := ?fo27w5) (v := ?fv27w5) ?fe27w5 (by kernel_rfl) (by kernel_rfl) (by kernel_rfl) (fun _ _ _ h => h) (Or.inl ⟨?fw27w5, ?fy27w5⟩) (by assumption) ?fr27w5
          case fe27w5 => ((simp only [List.getElem?_toArray, List.getElem?_cons_succ, List.getElem?_cons_zero]) <;> rfl)
          case fw27w5 => rfl
          case fy27w5 => (intro w hSw; (try dsimp only at hSw); go_simp; (try with_reducible rfl))
          try simp only [Act.put, List.setIfInBounds_toArray, List.set_cons_zero, List.set_cons_succ]
          refine wpAnyH_done (by kernel_rfl) ?_ _
          refine NoPanic.normal ?_
          gi_wp2
          have HBF := hid (build_bad HNE.out (HCK.out.symm.trans (hst.out.trans (if_pos (.inr (by simp [hvz]))))) (by decide))
          refine ⟨_, results_tmp2 rfl _ _ _, ⟨?_, hBW.out.drew⟩⟩
          rw [HBF.out]
          rfl
      | false =>
        by_cases hmz : m = 0
        · have hmI : ¬ (0 : Int) < (m : Int) := by omega
          have HNB := hid (show ¬ (ltB (lastAt l m) kk = false ∨ (false = true ∧ vv ≠ [])) by rw [hmz]; simp [lastAt, ltB_nil, hkz])
          have HMZ := hid hmz
          clear hmz
          gi_wp2_with (rw [← HW.out])
          refine wpIn_wide.2 ?_
          refine wp_region_noPanic ?_
          refine wp_region_held_drew (S := (fun w' => w'.cell? ⟨wr.heap.size, 0, none⟩ = some (.string ⟨kk.toArray⟩) ∧ w'.cell? ⟨wr.heap.size, 1, none⟩ = some (.string ⟨vv.toArray⟩) ∧ w'.cell? ⟨wr.heap.size, 2, none⟩ = some (.bool false))) (by kernel_rfl) ?_ (fun hHeld => ?_)
          · exact ⟨y0, y1, y2⟩
          refine wpAnyH_take (i := 0) (oi := ?fo0w6) (v := ?fv0w6) ?fe0w6 (by kernel_rfl) (by kernel_rfl) (by kernel_rfl) (fun _ _ _ h => h) (Or.inl ⟨?fw0w6, ?fy0w6⟩) (by assumption) ?fr0w6
          case fe0w6 => ((simp only [List.getElem?_toArray, List.getElem?_cons_succ, List.getElem?_cons_zero]) <;> rfl)
          case fw0w6 => rfl
          case fy0w6 => (intro w hSw; (try dsimp only at hSw); go_simp; (try with_reducible rfl))
          try simp only [Act.put, List.setIfInBounds_toArray, List.set_cons_zero, List.set_cons_succ]
          refine wpAnyH_take (i := 1) (oi := ?fo1w6) (v := ?fv1w6) ?fe1w6 (by kernel_rfl) (by kernel_rfl) (by kernel_rfl) (fun _ _ _ h => h) (Or.inl ⟨?fw1w6, ?fy1w6⟩) (by assumption) ?fr1w6
          case fe1w6 => ((simp only [List.getElem?_toArray, List.getElem?_cons_succ, List.getElem?_cons_zero]) <;> rfl)
          case fw1w6 => rfl
          case fy1w6 => (intro w hSw; (try dsimp only at hSw); go_simp; (try with_reducible rfl))
          try simp only [Act.put, List.setIfInBounds_toArray, List.set_cons_zero, List.set_cons_succ]
          refine wpAnyH_take (i := 2) (oi := ?fo2w6) (v := (.bool false)) ?fe2w6 (by kernel_rfl) (by kernel_rfl) (by kernel_rfl) (fun _ _ _ h => h) (Or.inl ⟨?fw2w6, ?fy2w6⟩) (by assumption) ?fr2w6
          case fe2w6 => ((simp only [List.getElem?_toArray, List.getElem?_cons_succ, List.getElem?_cons_zero]) <;> rfl)
          case fw2w6 => rfl
          case fy2w6 => (intro w hSw; (try dsimp only at hSw); go_simp; (try rfl))
          try simp only [Act.put, List.setIfInBounds_toArray, List.set_cons_zero, List.set_cons_succ]
          refine wpAnyH_take (i := 3) (oi := ?fo3w6) (v := ?fv3w6) ?fe3w6 (by kernel_rfl) (by kernel_rfl) (by kernel_rfl) (fun _ _ _ h => h) (Or.inl ⟨?fw3w6, ?fy3w6⟩) (by assumption) ?fr3w6
          case fe3w6 => ((simp only [List.getElem?_toArray, List.getElem?_cons_succ, List.getElem?_cons_zero]) <;> rfl)
          case fw3w6 => rfl
          case fy3w6 => (intro w hSw; (try dsimp only at hSw); go_simp; (try with_reducible rfl))
          try simp only [Act.put, List.setIfInBounds_toArray, List.set_cons_zero, List.set_cons_succ]
          refine wpAnyH_take (i := 4) (oi := ?fo4w6) (v := ?fv4w6) ?fe4w6 (by kernel_rfl) (by kernel_rfl) (by kernel_rfl) (fun _ _ _ h => h) (Or.inl ⟨?fw4w6, ?fy4w6⟩) (by assumption) ?fr4w6
          case fe4w6 => ((simp only [List.getElem?_toArray, List.getElem?_cons_succ, List.getElem?_cons_zero]) <;> rfl)
          case fw4w6 => rfl
          case fy4w6 => (intro w hSw; (try dsimp only at hSw); go_simp; (try with_reducible rfl))
          try simp only [Act.put, List.setIfInBounds_toArray, List.set_cons_zero, List.set_cons_succ]
          refine wpAnyH_take (i := 5) (oi := ?fo5w6) (v := ?fv5w6) ?fe5w6 (by kernel_rfl) (by kernel_rfl) (by kernel_rfl) (fun _ _ _ h => h) (Or.inl ⟨?fw5w6, ?fy5w6⟩) (by assumption) ?fr5w6
          case fe5w6 => ((simp only [List.getElem?_toArray, List.getElem?_cons_succ, List.getElem?_cons_zero]) <;> rfl)
          case fw5w6 => rfl
          case fy5w6 => (intro w hSw; (try dsimp only at hSw); go_simp; (try with_reducible rfl))
          try simp only [Act.put, List.setIfInBounds_toArray, List.set_cons_zero, List.set_cons_succ]
          refine wpAnyH_take (i := 6) (oi := ?fo6w6) (v := ?fv6w6) ?fe6w6 (by kernel_rfl) (by kernel_rfl) (by kernel_rfl) (fun _ _ _ h => h) (Or.inl ⟨?fw6w6, ?fy6w6⟩) (by assumption) ?fr6w6
          case fe6w6 => ((simp only [List.getElem?_toArray, List.getElem?_cons_succ, List.getElem?_cons_zero]) <;> rfl)
          case fw6w6 => rfl
          case fy6w6 => (intro w hSw; (try dsimp only at hSw); go_simp; (try with_reducible rfl))
          try simp only [Act.put, List.setIfInBounds_toArray, List.set_cons_zero, List.set_cons_succ]
          refine wpAnyH_take (i := 7) (oi := ?fo7w6) (v := undef) ?fe7w6 (by kernel_rfl) (by kernel_rfl) (by kernel_rfl) (fun _ _ _ h => h) (Or.inr ⟨?fw7w6, rfl⟩) (by assumption) ?fr7w6
          case fe7w6 => ((simp only [List.getElem?_toArray, List.getElem?_cons_succ, List.getElem?_cons_zero]) <;> rfl)
          case fw7w6 => rfl
          try simp only [Act.put, List.setIfInBounds_toArray, List.set_cons_zero, List.set_cons_succ]
          refine wpAnyH_take (i := 8) (oi := ?fo8w6) (v := undef) ?fe8w6 (by kernel_rfl) (by kernel_rfl) (by kernel_rfl) (fun _ _ _ h => h) (Or.inr ⟨?fw8w6, rfl⟩) (by assumption) ?fr8w6
          case fe8w6 => ((simp only [List.getElem?_toArray, List.getElem?_cons_succ, List.getElem?_cons_zero]) <;> rfl)
          case fw8w6 => rfl
          try simp only [Act.put, List.setIfInBounds_toArray, List.set_cons_zero, List.set_cons_succ]
          refine wpAnyH_take (i := 9) (oi := ?fo9w6) (v := undef) ?fe9w6 (by kernel_rfl) (by kernel_rfl) (by kernel_rfl) (fun _ _ _ h => h) (Or.inr ⟨?fw9w6, rfl⟩) (by assumption) ?fr9w6
          case fe9w6 => ((simp only [List.getElem?_toArray, List.getElem?_cons_succ, List.getElem?_cons_zero]) <;> rfl)
          case fw9w6 => rfl
          try simp only [Act.put, List.setIfInBounds_toArray, List.set_cons_zero, List.set_cons_succ]
          refine wpAnyH_take (i := 10) (oi := ?fo10w6) (v := ?fv10w6) ?fe10w6 (by kernel_rfl) (by kernel_rfl) (by kernel_rfl) (fun _ _ _ h => h) (Or.inl ⟨?fw10w6, ?fy10w6⟩) (by assumption) ?fr10w6
          case fe10w6 => ((simp only [List.getElem?_toArray, List.getElem?_cons_succ, List.getElem?_cons_zero]) <;> rfl)
          case fw10w6 => rfl
          case fy10w6 => (intro w hSw; (try dsimp only at hSw); go_simp; (try with_reducible rfl))
          try simp only [Act.put, List.setIfInBounds_toArray, List.set_cons_zero, List.set_cons_succ]
          refine wpAnyH_take (i := 11) (oi := ?fo11w6) (v := ?fv11w6) ?fe11w6 (by kernel_rfl) (by kernel_rfl) (by kernel_rfl) (fun _ _ _ h => h) (Or.inl ⟨?fw11w6, ?fy11w6⟩) (by assumption) ?fr11w6
          case fe11w6 => ((simp only [List.getElem?_toArray, List.getElem?_cons_succ, List.getElem?_cons_zero]) <;> rfl)
          case fw11w6 => rfl
          case fy11w6 => (intro w hSw; (try dsimp only at hSw); go_simp; (try with_reducible rfl))
          try simp only [Act.put, List.setIfInBounds_toArray, List.set_cons_zero, List.set_cons_succ]
          refine wpAnyH_take (i := 12) (oi := ?fo12w6) (v := ?fv12w6) ?fe12w6 (by kernel_rfl) (by kernel_rfl) (by kernel_rfl) (fun _ _ _ h => h) (Or.inl ⟨?fw12w6, ?fy12w6⟩) (by assumption) ?fr12w6
          case fe12w6 => ((simp only [List.getElem?_toArray, List.getElem?_cons_succ, List.getElem?_cons_zero]) <;> rfl)
          case fw12w6 => rfl
          case fy12w6 => (intro w hSw; (try dsimp only at hSw); go_simp; (try with_reducible rfl))
          try simp only [Act.put, List.setIfInBounds_toArray, List.set_cons_zero, List.set_cons_succ]
          refine wpAnyH_take (i := 13) (oi := ?fo13w6) (v := ?fv13w6) ?fe13w6 (by kernel_rfl) (by kernel_rfl) (by kernel_rfl) (fun _ _ _ h => h) (Or.inl ⟨?fw13w6, ?fy13w6⟩) (by assumption) ?fr13w6
          case fe13w6 => ((simp only [List.getElem?_toArray, List.getElem?_cons_succ, List.getElem?_cons_zero]) <;> rfl)
          case fw13w6 => rfl
          case fy13w6 => (intro w hSw; (try dsimp only at hSw); go_simp; (try with_reducible rfl))
          try simp only [Act.put, List.setIfInBounds_toArray, List.set_cons_zero, List.set_cons_succ]
          refine wpAnyH_take (i := 14) (oi := ?fo14w6) (v := (.bool false)) ?fe14w6 (by kernel_rfl) (by kernel_rfl) (by kernel_rfl) (fun _ _ _ h => h) (Or.inl ⟨?fw14w6, ?fy14w6⟩) (by assumption) ?fr14w6
          case fe14w6 => ((simp only [List.getElem?_toArray, List.getElem?_cons_succ, List.getElem?_cons_zero]) <;> rfl)
          case fw14w6 => rfl
          case fy14w6 => (intro w hSw; (try dsimp only at hSw); go_simp; (try exact HMZ.out))
          try simp only [Act.put, List.setIfInBounds_toArray, List.set_cons_zero, List.set_cons_succ]
          refine wpAnyH_take (i := 15) (oi := ?fo15w6) (v := ?fv15w6) ?fe15w6 (by kernel_rfl) (by kernel_rfl) (by kernel_rfl) (fun _ _ _ h => h) (Or.inl ⟨?fw15w6, ?fy15w6⟩) (by assumption) ?fr15w6
          case fe15w6 => ((simp only [List.getElem?_toArray, List.getElem?_cons_succ, List.getElem?_cons_zero]) <;> rfl)
          case fw15w6 => rfl
          case fy15w6 => (intro w hSw; (try dsimp only at hSw); go_simp; (try with_reducible rfl))
          try simp only [Act.put, List.setIfInBounds_toArray, List.set_cons_zero, List.set_cons_succ]
          refine wpAnyH_take (i := 16) (oi := ?fo16w6) (v := undef) ?fe16w6 (by kernel_rfl) (by kernel_rfl) (by kernel_rfl) (fun _ _ _ h => h) (Or.inr ⟨?fw16w6, rfl⟩) (by assumption) ?fr16w6
          case fe16w6 => ((simp only [List.getElem?_toArray, List.getElem?_cons_succ, List.getElem?_cons_zero]) <;> rfl)
          case fw16w6 => rfl
          try simp only [Act.put, List.setIfInBounds_toArray, List.set_cons_zero, List.set_cons_succ]
          refine wpAnyH_take (i := 17) (oi := ?fo17w6) (v := undef) ?fe17w6 (by kernel_rfl) (by kernel_rfl) (by kernel_rfl) (fun _ _ _ h => h) (Or.inr ⟨?fw17w6, rfl⟩) (by assumption) ?fr17w6
          case fe17w6 => ((simp only [List.getElem?_toArray, List.getElem?_cons_succ, List.getElem?_cons_zero]) <;> rfl)
          case fw17w6 => rfl
          try simp only [Act.put, List.setIfInBounds_toArray, List.set_cons_zero, List.set_cons_succ]
          refine wpAnyH_take (i := 18) (oi := ?fo18w6) (v := undef) ?fe18w6 (by kernel_rfl) (by kernel_rfl) (by kernel_rfl) (fun _ _ _ h => h) (Or.inr ⟨?fw18w6, rfl⟩) (by assumption) ?fr18w6
          case fe18w6 => ((simp only [List.getElem?_toArray, List.getElem?_cons_succ, List.getElem?_cons_zero]) <;> rfl)
          case fw18w6 => rfl
          try simp only [Act.put, List.setIfInBounds_toArray, List.set_cons_zero, List.set_cons_succ]
          refine wpAnyH_take (i := 19) (oi := ?fo19w6) (v := undef) ?fe19w6 (by kernel_rfl) (by kernel_rfl) (by kernel_rfl) (fun _ _ _ h => h) (Or.inr ⟨?fw19w6, rfl⟩) (by assumption) ?fr19w6
          case fe19w6 => ((simp only [List.getElem?_toArray, List.getElem?_cons_succ, List.getElem?_cons_zero]) <;> rfl)
          case fw19w6 => rfl
          try simp only [Act.put, List.setIfInBounds_toArray, List.set_cons_zero, List.set_cons_succ]
          refine wpAnyH_take (i := 20) (oi := ?fo20w6) (v := undef) ?fe20w6 (by kernel_rfl) (by kernel_rfl) (by kernel_rfl) (fun _ _ _ h => h) (Or.inr ⟨?fw20w6, rfl⟩) (by assumption) ?fr20w6
          case fe20w6 => ((simp only [List.getElem?_toArray, List.getElem?_cons_succ, List.getElem?_cons_zero]) <;> rfl)
          case fw20w6 => rfl
          try simp only [Act.put, List.setIfInBounds_toArray, List.set_cons_zero, List.set_cons_succ]
          refine wpAnyH_take (i := 21) (oi := ?fo21w6) (v := undef) ?fe21w6 (by kernel_rfl) (by kernel_rfl) (by kernel_rfl) (fun _ _ _ h => h) (Or.inr ⟨?fw21w6, rfl⟩) (by assumption) ?fr21w6
          case fe21w6 => ((simp only [List.getElem?_toArray, List.getElem?_cons_succ, List.getElem?_cons_zero]) <;> rfl)
          case fw21w6 => rfl
          try simp only [Act.put, List.setIfInBounds_toArray, List.set_cons_zero, List.set_cons_succ]
          refine wpAnyH_take (i := 22) (oi := ?fo22w6) (v := undef) ?fe22w6 (by kernel_rfl) (by kernel_rfl) (by kernel_rfl) (fun _ _ _ h => h) (Or.inr ⟨?fw22w6, rfl⟩) (by assumption) ?fr22w6
          case fe22w6 => ((simp only [List.getElem?_toArray, List.getElem?_cons_succ, List.getElem?_cons_zero]) <;> rfl)
          case fw22w6 => rfl
          try simp only [Act.put, List.setIfInBounds_toArray, List.set_cons_zero, List.set_cons_succ]
          refine wpAnyH_take (i := 23) (oi := ?fo23w6) (v := undef) ?fe23w6 (by kernel_rfl) (by kernel_rfl) (by kernel_rfl) (fun _ _ _ h => h) (Or.inr ⟨?fw23w6, rfl⟩) (by assumption) ?fr23w6
          case fe23w6 => ((simp only [List.getElem?_toArray, List.getElem?_cons_succ, List.getElem?_cons_zero]) <;> rfl)
          case fw23w6 => rfl
          try simp only [Act.put, List.setIfInBounds_toArray, List.set_cons_zero, List.set_cons_succ]
          refine wpAnyH_take (i := 24) (oi := ?fo24w6) (v := undef) ?fe24w6 (by kernel_rfl) (by kernel_rfl) (by kernel_rfl) (fun _ _ _ h => h) (Or.inr ⟨?fw24w6, rfl⟩) (by assumption) ?fr24w6
          case fe24w6 => ((simp only [List.getElem?_toArray, List.getElem?_cons_succ, List.getElem?_cons_zero]) <;> rfl)
          case fw24w6 => rfl
          try simp only [Act.put, List.setIfInBounds_toArray, List.set_cons_zero, List.set_cons_succ]
          refine wpAnyH_take (i := 25) (oi := ?fo25w6) (v := ?fv25w6) ?fe25w6 (by kernel_rfl) (by kernel_rfl) (by kernel_rfl) (fun _ _ _ h => h) (Or.inl ⟨?fw25w6, ?fy25w6⟩) (by assumption) ?fr25w6
          case fe25w6 => ((simp only [List.getElem?_toArray, List.getElem?_cons_succ, List.getElem?_cons_zero]) <;> rfl)
          case fw25w6 => rfl
          case fy25w6 => (intro w hSw; (try dsimp only at hSw); go_simp; (try with_reducible rfl))
          try simp only [Act.put, List.setIfInBounds_toArray, List.set_cons_zero, List.set_cons_succ]
          refine wpAnyH_take (i := 26) (oi := ?fo26w6) (v := ?fv26w6) ?fe26w6 (by kernel_rfl) (by kernel_rfl) (by kernel_rfl) (fun _ _ _ h => h) (Or.inl ⟨?fw26w6, ?fy26w6⟩) (by assumption) ?fr26w6
          case fe26w6 => ((simp only [List.getElem?_toArray, List.getElem?_cons_succ, List.getElem?_cons_zero]) <;> rfl)
          case fw26w6 => rfl
          case fy26w6 => (intro w hSw; (try dsimp only at hSw); go_simp; (try with_reducible rfl))
          try simp only [Act.put, List.setIfInBounds_toArray, List.set_cons_zero, List.set_cons_succ]
          refine wpAnyH_take (i := 27) (oi := ?fo27w6) (v := ?fv27w6) ?fe27w6 (by kernel_rfl) (by kernel_rfl) (by kernel_rfl) (fun _ _ _ h => h) (Or.inl ⟨?fw27w6, ?fy27w6⟩) (by assumption) ?fr27w6
          case fe27w6 => ((simp only [List.getElem?_toArray, List.getElem?_cons_succ, List.getElem?_cons_zero]) <;> rfl)
          case fw27w6 => rfl
          case fy27w6 => (intro w hSw; (try dsimp only at hSw); go_simp; (try with_reducible rfl))
          try simp only [Act.put, List.setIfInBounds_toArray, List.set_cons_zero, List.set_cons_succ]
          refine wpAnyH_done (by kernel_rfl) ?_ _
          refine NoPanic.normal ?_
          clear hHeld
          by_cases h64 : 64 < kk.length
          · have hkI : (64 : Int) < (kk.length : Int) := by omega
            gi_wp2
            have HBF := hid (build_bad HNE.out (HCK.out.symm.trans (hst.out.trans ((if_neg HNB.out).trans (if_pos (.inl h64))))) (by decide))
            refine ⟨_, results_tmp2 rfl _ _ _, ⟨?_, hBW.out.drew⟩⟩
            rw [HBF.out]
            rfl
          have hkI : ¬ (64 : Int) < (kk.length : Int) := by omega
          by_cases h81 : 8192 < vv.length
          · have hvI : (8192 : Int) < (vv.length : Int) := by omega
            gi_wp2
            have HBF := hid (build_bad HNE.out (HCK.out.symm.trans (hst.out.trans ((if_neg HNB.out).trans (if_pos (.inr h81))))) (by decide))
            refine ⟨_, results_tmp2 rfl _ _ _, ⟨?_, hBW.out.drew⟩⟩
            rw [HBF.out]
            rfl
          have hvI : ¬ (8192 : Int) < (vv.length : Int) := by omega
          have HGO := hid (hst.out.trans ((if_neg HNB.out).trans (if_neg (fun q => q.elim h64 h81))))
          gi_wp2
          go_roundw
          case rel => first | exact ⟨m + 1, by omega, by go_num, hBW.out.drew, HGO.out.symm.trans HCK.out⟩ | ((repeat apply Exists.intro); refine ⟨⟨m + 1, by omega, by go_num, hBW.out.drew, HGO.out.symm.trans HCK.out⟩, ?_⟩; repeat (first | exact rfl | refine ⟨rfl, ?_⟩))
          case measure => simp [intOf]; omega
        obtain ⟨q, hq⟩ : ∃ q, m = q + 1 := ⟨m - 1, by omega⟩
        have hpk := hpc.out q hq
        have hlq := hla.out q hq
        have hql : q < l.length := by omega
        obtain ⟨pk, hpkk⟩ : ∃ y, y = (l[q]'hql).1 := ⟨_, rfl⟩
        rw [← hpkk] at hpk hlq
        dsimp only [strV] at hpk
        have hmI : (0 : Int) < (m : Int) := by omega
        have hm1 : (m : Int) - 1 = (q : Int) := by omega
        have hq0 : (0 : Int) ≤ (q : Int) := by omega
        have hqI : (q : Int) < (l.length : Int) := by omega
        have hwq := wrap_q q (by omega)
        have HLQ := hid hlq
        clear hpkk hlq hq hql
        cases hlt : Op.bytesLess pk kk with
        | false =>
          have HLE := hid (le_of hlt)
          gi_wp2_with (rw [← HW.out])
          refine wpIn_wide.2 ?_
          refine wp_region_noPanic ?_
          refine wp_region_held_drew (S := (fun w' => w'.cell? ⟨wr.heap.size, 0, none⟩ = some (.string ⟨kk.toArray⟩) ∧ w'.cell? ⟨wr.heap.size, 1, none⟩ = some (.string ⟨vv.toArray⟩) ∧ w'.cell? ⟨wr.heap.size, 2, none⟩ = some (.bool false) ∧ w'.cell? ⟨b, off + q * 3, none⟩ = some (.string ⟨pk.toArray⟩))) (by kernel_rfl) ?_ (fun hHeld => ?_)
          · exact ⟨y0, y1, y2, hpk⟩
          refine wpAnyH_take (i := 0) (oi := ?fo0w7) (v := ?fv0w7) ?fe0w7 (by kernel_rfl) (by kernel_rfl) (by kernel_rfl) (fun _ _ _ h => h) (Or.inl ⟨?fw0w7, ?fy0w7⟩) (by assumption) ?fr0w7
          case fe0w7 => ((simp only [List.getElem?_toArray, List.getElem?_cons_succ, List.getElem?_cons_zero]) <;> rfl)
          case fw0w7 => rfl
          case fy0w7 => (intro w hSw; (try dsimp only at hSw); go_simp; (try with_reducible rfl))
          try simp only [Act.put, List.setIfInBounds_toArray, List.set_cons_zero, List.set_cons_succ]
          refine wpAnyH_take (i := 1) (oi := ?fo1w7) (v := ?fv1w7) ?fe1w7 (by kernel_rfl) (by kernel_rfl) (by kernel_rfl) (fun _ _ _ h => h) (Or.inl ⟨?fw1w7, ?fy1w7⟩) (by assumption) ?fr1w7
          case fe1w7 => ((simp only [List.getElem?_toArray, List.getElem?_cons_succ, List.getElem?_cons_zero]) <;> rfl)
          case fw1w7 => rfl
          case fy1w7 => (intro w hSw; (try dsimp only at hSw); go_simp; (try with_reducible rfl))
          try simp only [Act.put, List.setIfInBounds_toArray, List.set_cons_zero, List.set_cons_succ]
          refine wpAnyH_take (i := 2) (oi := ?fo2w7) (v := (.bool false)) ?fe2w7 (by kernel_rfl) (by kernel_rfl) (by kernel_rfl) (fun _ _ _ h => h) (Or.inl ⟨?fw2w7, ?fy2w7⟩) (by assumption) ?fr2w7
          case fe2w7 => ((simp only [List.getElem?_toArray, List.getElem?_cons_succ, List.getElem?_cons_zero]) <;> rfl)
          case fw2w7 => rfl
          case fy2w7 => (intro w hSw; (try dsimp only at hSw); go_simp; (try rfl))
          try simp only [Act.put, List.setIfInBounds_toArray, List.set_cons_zero, List.set_cons_succ]
          refine wpAnyH_take (i := 3) (oi := ?fo3w7) (v := ?fv3w7) ?fe3w7 (by kernel_rfl) (by kernel_rfl) (by kernel_rfl) (fun _ _ _ h => h) (Or.inl ⟨?fw3w7, ?fy3w7⟩) (by assumption) ?fr3w7
          case fe3w7 => ((simp only [List.getElem?_toArray, List.getElem?_cons_succ, List.getElem?_cons_zero]) <;> rfl)
          case fw3w7 => rfl
          case fy3w7 => (intro w hSw; (try dsimp only at hSw); go_simp; (try with_reducible rfl))
          try simp only [Act.put, List.setIfInBounds_toArray, List.set_cons_zero, List.set_cons_succ]
          refine wpAnyH_take (i := 4) (oi := ?fo4w7) (v := ?fv4w7) ?fe4w7 (by kernel_rfl) (by kernel_rfl) (by kernel_rfl) (fun _ _ _ h => h) (Or.inl ⟨?fw4w7, ?fy4w7⟩) (by assumption) ?fr4w7
          case fe4w7 => ((simp only [List.getElem?_toArray, List.getElem?_cons_succ, List.getElem?_cons_zero]) <;> rfl)
          case fw4w7 => rfl
          case fy4w7 => (intro w hSw; (try dsimp only at hSw); go_simp; (try with_reducible rfl))
          try simp only [Act.put, List.setIfInBounds_toArray, List.set_cons_zero, List.set_cons_succ]
          refine wpAnyH_take (i := 5) (oi := ?fo5w7) (v := ?fv5w7) ?fe5w7 (by kernel_rfl) (by kernel_rfl) (by kernel_rfl) (fun _ _ _ h => h) (Or.inl ⟨?fw5w7, ?fy5w7⟩) (by assumption) ?fr5w7
          case fe5w7 => ((simp only [List.getElem?_toArray, List.getElem?_cons_succ, List.getElem?_cons_zero]) <;> rfl)
          case fw5w7 => rfl
          case fy5w7 => (intro w hSw; (try dsimp only at hSw); go_simp; (try with_reducible rfl))
          try simp only [Act.put, List.setIfInBounds_toArray, List.set_cons_zero, List.set_cons_succ]
          refine wpAnyH_take (i := 6) (oi := ?fo6w7) (v := ?fv6w7) ?fe6w7 (by kernel_rfl) (by kernel_rfl) (by kernel_rfl) (fun _ _ _ h => h) (Or.inl ⟨?fw6w7, ?fy6w7⟩) (by assumption) ?fr6w7
          case fe6w7 => ((simp only [List.getElem?_toArray, List.getElem?_cons_succ, List.getElem?_cons_zero]) <;> rfl)
          case fw6w7 => rfl
          case fy6w7 => (intro w hSw; (try dsimp only at hSw); go_simp; (try with_reducible rfl))
          try simp only [Act.put, List.setIfInBounds_toArray, List.set_cons_zero, List.set_cons_succ]
          refine wpAnyH_take (i := 7) (oi := ?fo7w7) (v := undef) ?fe7w7 (by kernel_rfl) (by kernel_rfl) (by kernel_rfl) (fun _ _ _ h => h) (Or.inr ⟨?fw7w7, rfl⟩) (by assumption) ?fr7w7
          case fe7w7 => ((simp only [List.getElem?_toArray, List.getElem?_cons_succ, List.getElem?_cons_zero]) <;> rfl)
          case fw7w7 => rfl
          try simp only [Act.put, List.setIfInBounds_toArray, List.set_cons_zero, List.set_cons_succ]
          refine wpAnyH_take (i := 8) (oi := ?fo8w7) (v := undef) ?fe8w7 (by kernel_rfl) (by kernel_rfl) (by kernel_rfl) (fun _ _ _ h => h) (Or.inr ⟨?fw8w7, rfl⟩) (by assumption) ?fr8w7
          case fe8w7 => ((simp only [List.getElem?_toArray, List.getElem?_cons_succ, List.getElem?_cons_zero]) <;> rfl)
          case fw8w7 => rfl
          try simp only [Act.put, List.setIfInBounds_toArray, List.set_cons_zero, List.set_cons_succ]
          refine wpAnyH_take (i := 9) (oi := ?fo9w7) (v := undef) ?fe9w7 (by kernel_rfl) (by kernel_rfl) (by kernel_rfl) (fun _ _ _ h => h) (Or.inr ⟨?fw9w7, rfl⟩) (by assumption) ?fr9w7
          case fe9w7 => ((simp only [List.getElem?_toArray, List.getElem?_cons_succ, List.getElem?_cons_zero]) <;> rfl)
          case fw9w7 => rfl
          try simp only [Act.put, List.setIfInBounds_toArray, List.set_cons_zero, List.set_cons_succ]
          refine wpAnyH_take (i := 10) (oi := ?fo10w7) (v := ?fv10w7) ?fe10w7 (by kernel_rfl) (by kernel_rfl) (by kernel_rfl) (fun _ _ _ h => h) (Or.inl ⟨?fw10w7, ?fy10w7⟩) (by assumption) ?fr10w7
          case fe10w7 => ((simp only [List.getElem?_toArray, List.getElem?_cons_succ, List.getElem?_cons_zero]) <;> rfl)
          case fw10w7 => rfl
          case fy10w7 => (intro w hSw; (try dsimp only at hSw); go_simp; (try with_reducible rfl))
          try simp only [Act.put, List.setIfInBounds_toArray, List.set_cons_zero, List.set_cons_succ]
          refine wpAnyH_take (i := 11) (oi := ?fo11w7) (v := ?fv11w7) ?fe11w7 (by kernel_rfl) (by kernel_rfl) (by kernel_rfl) (fun _ _ _ h => h) (Or.inl ⟨?fw11w7, ?fy11w7⟩) (by assumption) ?fr11w7
          case fe11w7 => ((simp only [List.getElem?_toArray, List.getElem?_cons_succ, List.getElem?_cons_zero]) <;> rfl)
          case fw11w7 => rfl
          case fy11w7 => (intro w hSw; (try dsimp only at hSw); go_simp; (try with_reducible rfl))
          try simp only [Act.put, List.setIfInBounds_toArray, List.set_cons_zero, List.set_cons_succ]
          refine wpAnyH_take (i := 12) (oi := ?fo12w7) (v := ?fv12w7) ?fe12w7 (by kernel_rfl) (by kernel_rfl) (by kernel_rfl) (fun _ _ _ h => h) (Or.inl ⟨?fw12w7, ?fy12w7⟩) (by assumption) ?fr12w7
          case fe12w7 => ((simp only [List.getElem?_toArray, List.getElem?_cons_succ, List.getElem?_cons_zero]) <;> rfl)
          case fw12w7 => rfl
          case fy12w7 => (intro w hSw; (try dsimp only at hSw); go_simp; (try with_reducible rfl))
          try simp only [Act.put, List.setIfInBounds_toArray, List.set_cons_zero, List.set_cons_succ]
          refine wpAnyH_take (i := 13) (oi := ?fo13w7) (v := ?fv13w7) ?fe13w7 (by kernel_rfl) (by kernel_rfl) (by kernel_rfl) (fun _ _ _ h => h) (Or.inl ⟨?fw13w7, ?fy13w7⟩) (by assumption) ?fr13w7
          case fe13w7 => ((simp only [List.getElem?_toArray, List.getElem?_cons_succ, List.getElem?_cons_zero]) <;> rfl)
          case fw13w7 => rfl
          case fy13w7 => (intro w hSw; (try dsimp only at hSw); go_simp; (try with_reducible rfl))
          try simp only [Act.put, List.setIfInBounds_toArray, List.set_cons_zero, List.set_cons_succ]
          refine wpAnyH_take (i := 14) (oi := ?fo14w7) (v := (.bool true)) ?fe14w7 (by kernel_rfl) (by kernel_rfl) (by kernel_rfl) (fun _ _ _ h => h) (Or.inl ⟨?fw14w7, ?fy14w7⟩) (by assumption) ?fr14w7
          case fe14w7 => ((simp only [List.getElem?_toArray, List.getElem?_cons_succ, List.getElem?_cons_zero]) <;> rfl)
          case fw14w7 => rfl
          case fy14w7 => (intro w hSw; (try dsimp only at hSw); go_simp; (try omega))
          try simp only [Act.put, List.setIfInBounds_toArray, List.set_cons_zero, List.set_cons_succ]
          refine wpAnyH_take (i := 15) (oi := ?fo15w7) (v := ?fv15w7) ?fe15w7 (by kernel_rfl) (by kernel_rfl) (by kernel_rfl) (fun _ _ _ h => h) (Or.inl ⟨?fw15w7, ?fy15w7⟩) (by assumption) ?fr15w7
          case fe15w7 => ((simp only [List.getElem?_toArray, List.getElem?_cons_succ, List.getElem?_cons_zero]) <;> rfl)
          case fw15w7 => rfl
          case fy15w7 => (intro w hSw; (try dsimp only at hSw); go_simp; (try with_reducible rfl))
          try simp only [Act.put, List.setIfInBounds_toArray, List.set_cons_zero, List.set_cons_succ]
          refine wpAnyH_take (i := 16) (oi := ?fo16w7) (v := ?fv16w7) ?fe16w7 (by kernel_rfl) (by kernel_rfl) (by kernel_rfl) (fun _ _ _ h => h) (Or.inl ⟨?fw16w7, ?fy16w7⟩) (by assumption) ?fr16w7
          case fe16w7 => ((simp only [List.getElem?_toArray, List.getElem?_cons_succ, List.getElem?_cons_zero]) <;> rfl)
          case fw16w7 => rfl
          case fy16w7 => (intro w hSw; (try dsimp only at hSw); go_simp; (try with_reducible rfl))
          try simp only [Act.put, List.setIfInBounds_toArray, List.set_cons_zero, List.set_cons_succ]
          refine wpAnyH_take (i := 17) (oi := ?fo17w7) (v := ?fv17w7) ?fe17w7 (by kernel_rfl) (by kernel_rfl) (by kernel_rfl) (fun _ _ _ h => h) (Or.inl ⟨?fw17w7, ?fy17w7⟩) (by assumption) ?fr17w7
          case fe17w7 => ((simp only [List.getElem?_toArray, List.getElem?_cons_succ, List.getElem?_cons_zero]) <;> rfl)
          case fw17w7 => rfl
          case fy17w7 => (intro w hSw; (try dsimp only at hSw); go_simp; (try with_reducible rfl))
          try simp only [Act.put, List.setIfInBounds_toArray, List.set_cons_zero, List.set_cons_succ]
          refine wpAnyH_take (i := 18) (oi := ?fo18w7) (v := ?fv18w7) ?fe18w7 (by kernel_rfl) (by kernel_rfl) (by kernel_rfl) (fun _ _ _ h => h) (Or.inl ⟨?fw18w7, ?fy18w7⟩) (by assumption) ?fr18w7
          case fe18w7 => ((simp only [List.getElem?_toArray, List.getElem?_cons_succ, List.getElem?_cons_zero]) <;> rfl)
          case fw18w7 => rfl
          case fy18w7 => (intro w hSw; (try dsimp only at hSw); go_simp; (try with_reducible rfl))
          try simp only [Act.put, List.setIfInBounds_toArray, List.set_cons_zero, List.set_cons_succ]
          refine wpAnyH_take (i := 19) (oi := ?fo19w7) (v := ?fv19w7) ?fe19w7 (by kernel_rfl) (by kernel_rfl) (by kernel_rfl) (fun _ _ _ h => h) (Or.inl ⟨?fw19w7, ?fy19w7⟩) (by assumption) ?fr19w7
          case fe19w7 => ((simp only [List.getElem?_toArray, List.getElem?_cons_succ, List.getElem?_cons_zero]) <;> rfl)
          case fw19w7 => rfl
          case fy19w7 => (intro w hSw; (try dsimp only at hSw); go_simp; (try with_reducible rfl))
          try simp only [Act.put, List.setIfInBounds_toArray, List.set_cons_zero, List.set_cons_succ]
          refine wpAnyH_take (i := 20) (oi := ?fo20w7) (v := ?fv20w7) ?fe20w7 (by kernel_rfl) (by kernel_rfl) (by kernel_rfl) (fun _ _ _ h => h) (Or.inl ⟨?fw20w7, ?fy20w7⟩) (by assumption) ?fr20w7
          case fe20w7 => ((simp only [List.getElem?_toArray, List.getElem?_cons_succ, List.getElem?_cons_zero]) <;> rfl)
          case fw20w7 => rfl
          case fy20w7 => (intro w hSw; (try dsimp only at hSw); go_simp; (try with_reducible rfl))
          try simp only [Act.put, List.setIfInBounds_toArray, List.set_cons_zero, List.set_cons_succ]
          refine wpAnyH_take (i := 21) (oi := ?fo21w7) (v := ?fv21w7) ?fe21w7 (by kernel_rfl) (by kernel_rfl) (by kernel_rfl) (fun _ _ _ h => h) (Or.inl ⟨?fw21w7, ?fy21w7⟩) (by assumption) ?fr21w7
          case fe21w7 => ((simp only [List.getElem?_toArray, List.getElem?_cons_succ, List.getElem?_cons_zero]) <;> rfl)
          case fw21w7 => rfl
          case fy21w7 => (intro w hSw; (try dsimp only at hSw); go_simp; (try with_reducible rfl))
          try simp only [Act.put, List.setIfInBounds_toArray, List.set_cons_zero, List.set_cons_succ]
          refine wpAnyH_take (i := 22) (oi := ?fo22w7) (v := ?fv22w7) ?fe22w7 (by kernel_rfl) (by kernel_rfl) (by kernel_rfl) (fun _ _ _ h => h) (Or.inl ⟨?fw22w7, ?fy22w7⟩) (by assumption) ?fr22w7
          case fe22w7 => ((simp only [List.getElem?_toArray, List.getElem?_cons_succ, List.getElem?_cons_zero]) <;> rfl)
          case fw22w7 => rfl
          case fy22w7 => (intro w hSw; (try dsimp only at hSw); go_simp; (try with_reducible rfl))
          try simp only [Act.put, List.setIfInBounds_toArray, List.set_cons_zero, List.set_cons_succ]
          refine wpAnyH_take (i := 23) (oi := ?fo23w7) (v := ?fv23w7) ?fe23w7 (by kernel_rfl) (by kernel_rfl) (by kernel_rfl) (fun _ _ _ h => h) (Or.inl ⟨?fw23w7, ?fy23w7⟩) (by assumption) ?fr23w7
          case fe23w7 => ((simp only [List.getElem?_toArray, List.getElem?_cons_succ, List.getElem?_cons_zero]) <;> rfl)
          case fw23w7 => rfl
          case fy23w7 => (intro w hSw; (try dsimp only at hSw); go_simp; (try with_reducible rfl))
          try simp only [Act.put, List.setIfInBounds_toArray, List.set_cons_zero, List.set_cons_succ]
          refine wpAnyH_take (i := 24) (oi := ?fo24w7) (v := (.bool true)) ?fe24w7 (by kernel_rfl) (by kernel_rfl) (by kernel_rfl) (fun _ _ _ h => h) (Or.inl ⟨?fw24w7, ?fy24w7⟩) (by assumption) ?fr24w7
          case fe24w7 => ((simp only [List.getElem?_toArray, List.getElem?_cons_succ, List.getElem?_cons_zero]) <;> rfl)
          case fw24w7 => rfl
          case fy24w7 => (intro w hSw; (try dsimp only at hSw); go_simp; (try exact HLE.out))
          try simp only [Act.put, List.setIfInBounds_toArray, List.set_cons_zero, List.set_cons_succ]
          refine wpAnyH_take (i := 25) (oi := ?fo25w7) (v := ?fv25w7) ?fe25w7 (by kernel_rfl) (by kernel_rfl) (by kernel_rfl) (fun _ _ _ h => h) (Or.inl ⟨?fw25w7, ?fy25w7⟩) (by assumption) ?fr25w7
          case fe25w7 => ((simp only [List.getElem?_toArray, List.getElem?_cons_succ, List.getElem?_cons_zero]) <;> rfl)
          case fw25w7 => rfl
          case fy25w7 => (intro w hSw; (try dsimp only at hSw); go_simp; (try with_reducible rfl))
          try simp only [Act.put, List.setIfInBounds_toArray, List.set_cons_zero, List.set_cons_succ]
          refine wpAnyH_take (i := 26) (oi := ?fo26w7) (v := ?fv26w7) ?fe26w7 (by kernel_rfl) (by kernel_rfl) (by kernel_rfl) (fun _ _ _ h => h) (Or.inl ⟨?fw26w7, ?fy26w7⟩) (by assumption) ?fr26w7
          case fe26w7 => ((simp only [List.getElem?_toArray, List.getElem?_cons_succ, List.getElem?_cons_zero]) <;> rfl)
          case fw26w7 => rfl
          case fy26w7 => (intro w hSw; (try dsimp only at hSw); go_simp; (try with_reducible rfl))
          try simp only [Act.put, List.setIfInBounds_toArray, List.set_cons_zero, List.set_cons_succ]
          refine wpAnyH_take (i := 27) (oi := ?fo27w7) (v := ?fv27w7) ?fe27w7 (by kernel_rfl) (by kernel_rfl) (by kernel_rfl) (fun _ _ _ h => h) (Or.inl ⟨?fw27w7, ?fy27w7⟩) (by assumption) ?fr27w7
          case fe27w7 => ((simp only [List.getElem?_toArray, List.getElem?_cons_succ, List.getElem?_cons_zero]) <;> rfl)
          case fw27w7 => rfl
          case fy27w7 => (intro w hSw; (try dsimp only at hSw); go_simp; (try with_reducible rfl))
          try simp only [Act.put, List.setIfInBounds_toArray, List.set_cons_zero, List.set_cons_succ]
          refine wpAnyH_done (by kernel_rfl) ?_ _
          refine NoPanic.normal ?_
          gi_wp2
          have HBF := hid (build_bad HNE.out (HCK.out.symm.trans (hst.out.trans (if_pos (.inl (by rw [HLQ.out]; exact hlt))))) (by decide))
          refine ⟨_, results_tmp2 rfl _ _ _, ⟨?_, hBW.out.drew⟩⟩
          rw [HBF.out]
          rfl
        | true =>
          have HLE := hid (nle_of hlt)
          have HNB := hid (show ¬ (ltB (lastAt l m) kk = false ∨ (false = true ∧ vv ≠ [])) by rw [HLQ.out]; simp [ltB, hlt])
          gi_wp2_with (rw [← HW.out])
          refine wpIn_wide.2 ?_
          refine wp_region_noPanic ?_
          refine wp_region_held_drew (S := (fun w' => w'.cell? ⟨wr.heap.size, 0, none⟩ = some (.string ⟨kk.toArray⟩) ∧ w'.cell? ⟨wr.heap.size, 1, none⟩ = some (.string ⟨vv.toArray⟩) ∧ w'.cell? ⟨wr.heap.size, 2, none⟩ = some (.bool false) ∧ w'.cell? ⟨b, off + q * 3, none⟩ = some (.string ⟨pk.toArray⟩))) (by kernel_rfl) ?_ (fun hHeld => ?_)
          · exact ⟨y0, y1, y2, hpk⟩
          refine wpAnyH_take (i := 0) (oi := ?fo0w8) (v := ?fv0w8) ?fe0w8 (by kernel_rfl) (by kernel_rfl) (by kernel_rfl) (fun _ _ _ h => h) (Or.inl ⟨?fw0w8, ?fy0w8⟩) (by assumption) ?fr0w8
          case fe0w8 => ((simp only [List.getElem?_toArray, List.getElem?_cons_succ, List.getElem?_cons_zero]) <;> rfl)
          case fw0w8 => rfl
          case fy0w8 => (intro w hSw; (try dsimp only at hSw); go_simp; (try with_reducible rfl))
          try simp only [Act.put, List.setIfInBounds_toArray, List.set_cons_zero, List.set_cons_succ]
          refine wpAnyH_take (i := 1) (oi := ?fo1w8) (v := ?fv1w8) ?fe1w8 (by kernel_rfl) (by kernel_rfl) (by kernel_rfl) (fun _ _ _ h => h) (Or.inl ⟨?fw1w8, ?fy1w8⟩) (by assumption) ?fr1w8
          case fe1w8 => ((simp only [List.getElem?_toArray, List.getElem?_cons_succ, List.getElem?_cons_zero]) <;> rfl)
          case fw1w8 => rfl
          case fy1w8 => (intro w hSw; (try dsimp only at hSw); go_simp; (try with_reducible rfl))
          try simp only [Act.put, List.setIfInBounds_toArray, List.set_cons_zero, List.set_cons_succ]
          refine wpAnyH_take (i := 2) (oi := ?fo2w8) (v := (.bool false)) ?fe2w8 (by kernel_rfl) (by kernel_rfl) (by kernel_rfl) (fun _ _ _ h => h) (Or.inl ⟨?fw2w8, ?fy2w8⟩) (by assumption) ?fr2w8
          case fe2w8 => ((simp only [List.getElem?_toArray, List.getElem?_cons_succ, List.getElem?_cons_zero]) <;> rfl)
          case fw2w8 => rfl
          case fy2w8 => (intro w hSw; (try dsimp only at hSw); go_simp; (try rfl))
          try simp only [Act.put, List.setIfInBounds_toArray, List.set_cons_zero, List.set_cons_succ]
          refine wpAnyH_take (i := 3) (oi := ?fo3w8) (v := ?fv3w8) ?fe3w8 (by kernel_rfl) (by kernel_rfl) (by kernel_rfl) (fun _ _ _ h => h) (Or.inl ⟨?fw3w8, ?fy3w8⟩) (by assumption) ?fr3w8
          case fe3w8 => ((simp only [List.getElem?_toArray, List.getElem?_cons_succ, List.getElem?_cons_zero]) <;> rfl)
          case fw3w8 => rfl
          case fy3w8 => (intro w hSw; (try dsimp only at hSw); go_simp; (try with_reducible rfl))
          try simp only [Act.put, List.setIfInBounds_toArray, List.set_cons_zero, List.set_cons_succ]
          refine wpAnyH_take (i := 4) (oi := ?fo4w8) (v := ?fv4w8) ?fe4w8 (by kernel_rfl) (by kernel_rfl) (by kernel_rfl) (fun _ _ _ h => h) (Or.inl ⟨?fw4w8, ?fy4w8⟩) (by assumption) ?fr4w8
          case fe4w8 => ((simp only [List.getElem?_toArray, List.getElem?_cons_succ, List.getElem?_cons_zero]) <;> rfl)
          case fw4w8 => rfl
          case fy4w8 => (intro w hSw; (try dsimp only at hSw); go_simp; (try with_reducible rfl))
          try simp only [Act.put, List.setIfInBounds_toArray, List.set_cons_zero, List.set_cons_succ]
          refine wpAnyH_take (i := 5) (oi := ?fo5w8) (v := ?fv5w8) ?fe5w8 (by kernel_rfl) (by kernel_rfl) (by kernel_rfl) (fun _ _ _ h => h) (Or.inl ⟨?fw5w8, ?fy5w8⟩) (by assumption) ?fr5w8
          case fe5w8 => ((simp only [List.getElem?_toArray, List.getElem?_cons_succ, List.getElem?_cons_zero]) <;> rfl)
          case fw5w8 => rfl
          case fy5w8 => (intro w hSw; (try dsimp only at hSw); go_simp; (try with_reducible rfl))
          try simp only [Act.put, List.setIfInBounds_toArray, List.set_cons_zero, List.set_cons_succ]
          refine wpAnyH_take (i := 6) (oi := ?fo6w8) (v := ?fv6w8) ?fe6w8 (by kernel_rfl) (by kernel_rfl) (by kernel_rfl) (fun _ _ _ h => h) (Or.inl ⟨?fw6w8, ?fy6w8⟩) (by assumption) ?fr6w8
          case fe6w8 => ((simp only [List.getElem?_toArray, List.getElem?_cons_succ, List.getElem?_cons_zero]) <;> rfl)
          case fw6w8 => rfl
          case fy6w8 => (intro w hSw; (try dsimp only at hSw); go_simp; (try with_reducible rfl))
          try simp only [Act.put, List.setIfInBounds_toArray, List.set_cons_zero, List.set_cons_succ]
          refine wpAnyH_take (i := 7) (oi := ?fo7w8) (v := undef) ?fe7w8 (by kernel_rfl) (by kernel_rfl) (by kernel_rfl) (fun _ _ _ h => h) (Or.inr ⟨?fw7w8, rfl⟩) (by assumption) ?fr7w8
          case fe7w8 => ((simp only [List.getElem?_toArray, List.getElem?_cons_succ, List.getElem?_cons_zero]) <;> rfl)
          case fw7w8 => rfl
          try simp only [Act.put, List.setIfInBounds_toArray, List.set_cons_zero, List.set_cons_succ]
          refine wpAnyH_take (i := 8) (oi := ?fo8w8) (v := undef) ?fe8w8 (by kernel_rfl) (by kernel_rfl) (by kernel_rfl) (fun _ _ _ h => h) (Or.inr ⟨?fw8w8, rfl⟩) (by assumption) ?fr8w8
          case fe8w8 => ((simp only [List.getElem?_toArray, List.getElem?_cons_succ, List.getElem?_cons_zero]) <;> rfl)
          case fw8w8 => rfl
          try simp only [Act.put, List.setIfInBounds_toArray, List.set_cons_zero, List.set_cons_succ]
          refine wpAnyH_take (i := 9) (oi := ?fo9w8) (v := undef) ?fe9w8 (by kernel_rfl) (by kernel_rfl) (by kernel_rfl) (fun _ _ _ h => h) (Or.inr ⟨?fw9w8, rfl⟩) (by assumption) ?fr9w8
          case fe9w8 => ((simp only [List.getElem?_toArray, List.getElem?_cons_succ, List.getElem?_cons_zero]) <;> rfl)
          case fw9w8 => rfl
          try simp only [Act.put, List.setIfInBounds_toArray, List.set_cons_zero, List.set_cons_succ]
          refine wpAnyH_take (i := 10) (oi := ?fo10w8) (v := ?fv10w8) ?fe10w8 (by kernel_rfl) (by kernel_rfl) (by kernel_rfl) (fun _ _ _ h => h) (Or.inl ⟨?fw10w8, ?fy10w8⟩) (by assumption) ?fr10w8
          case fe10w8 => ((simp only [List.getElem?_toArray, List.getElem?_cons_succ, List.getElem?_cons_zero]) <;> rfl)
          case fw10w8 => rfl
          case fy10w8 => (intro w hSw; (try dsimp only at hSw); go_simp; (try with_reducible rfl))
          try simp only [Act.put, List.setIfInBounds_toArray, List.set_cons_zero, List.set_cons_succ]
          refine wpAnyH_take (i := 11) (oi := ?fo11w8) (v := ?fv11w8) ?fe11w8 (by kernel_rfl) (by kernel_rfl) (by kernel_rfl) (fun _ _ _ h => h) (Or.inl ⟨?fw11w8, ?fy11w8⟩) (by assumption) ?fr11w8
          case fe11w8 => ((simp only [List.getElem?_toArray, List.getElem?_cons_succ, List.getElem?_cons_zero]) <;> rfl)
          case fw11w8 => rfl
          case fy11w8 => (intro w hSw; (try dsimp only at hSw); go_simp; (try with_reducible rfl))
          try simp only [Act.put, List.setIfInBounds_toArray, List.set_cons_zero, List.set_cons_succ]
          refine wpAnyH_take (i := 12) (oi := ?fo12w8) (v := ?fv12w8) ?fe12w8 (by kernel_rfl) (by kernel_rfl) (by kernel_rfl) (fun _ _ _ h => h) (Or.inl ⟨?fw12w8, ?fy12w8⟩) (by assumption) ?fr12w8
          case fe12w8 => ((simp only [List.getElem?_toArray, List.getElem?_cons_succ, List.getElem?_cons_zero]) <;> rfl)
          case fw12w8 => rfl
          case fy12w8 => (intro w hSw; (try dsimp only at hSw); go_simp; (try with_reducible rfl))
          try simp only [Act.put, List.setIfInBounds_toArray, List.set_cons_zero, List.set_cons_succ]
          refine wpAnyH_take (i := 13) (oi := ?fo13w8) (v := ?fv13w8) ?fe13w8 (by kernel_rfl) (by kernel_rfl) (by kernel_rfl) (fun _ _ _ h => h) (Or.inl ⟨?fw13w8, ?fy13w8⟩) (by assumption) ?fr13w8
          case fe13w8 => ((simp only [List.getElem?_toArray, List.getElem?_cons_succ, List.getElem?_cons_zero]) <;> rfl)
          case fw13w8 => rfl
          case fy13w8 => (intro w hSw; (try dsimp only at hSw); go_simp; (try with_reducible rfl))
          try simp only [Act.put, List.setIfInBounds_toArray, List.set_cons_zero, List.set_cons_succ]
          refine wpAnyH_take (i := 14) (oi := ?fo14w8) (v := (.bool true)) ?fe14w8 (by kernel_rfl) (by kernel_rfl) (by kernel_rfl) (fun _ _ _ h => h) (Or.inl ⟨?fw14w8, ?fy14w8⟩) (by assumption) ?fr14w8
          case fe14w8 => ((simp only [List.getElem?_toArray, List.getElem?_cons_succ, List.getElem?_cons_zero]) <;> rfl)
          case fw14w8 => rfl
          case fy14w8 => (intro w hSw; (try dsimp only at hSw); go_simp; (try omega))
          try simp only [Act.put, List.setIfInBounds_toArray, List.set_cons_zero, List.set_cons_succ]
          refine wpAnyH_take (i := 15) (oi := ?fo15w8) (v := ?fv15w8) ?fe15w8 (by kernel_rfl) (by kernel_rfl) (by kernel_rfl) (fun _ _ _ h => h) (Or.inl ⟨?fw15w8, ?fy15w8⟩) (by assumption) ?fr15w8
          case fe15w8 => ((simp only [List.getElem?_toArray, List.getElem?_cons_succ, List.getElem?_cons_zero]) <;> rfl)
          case fw15w8 => rfl
          case fy15w8 => (intro w hSw; (try dsimp only at hSw); go_simp; (try with_reducible rfl))
          try simp only [Act.put, List.setIfInBounds_toArray, List.set_cons_zero, List.set_cons_succ]
          refine wpAnyH_take (i := 16) (oi := ?fo16w8) (v := ?fv16w8) ?fe16w8 (by kernel_rfl) (by kernel_rfl) (by kernel_rfl) (fun _ _ _ h => h) (Or.inl ⟨?fw16w8, ?fy16w8⟩) (by assumption) ?fr16w8
          case fe16w8 => ((simp only [List.getElem?_toArray, List.getElem?_cons_succ, List.getElem?_cons_zero]) <;> rfl)
          case fw16w8 => rfl
          case fy16w8 => (intro w hSw; (try dsimp only at hSw); go_simp; (try with_reducible rfl))
          try simp only [Act.put, List.setIfInBounds_toArray, List.set_cons_zero, List.set_cons_succ]
          refine wpAnyH_take (i := 17) (oi := ?fo17w8) (v := ?fv17w8) ?fe17w8 (by kernel_rfl) (by kernel_rfl) (by kernel_rfl) (fun _ _ _ h => h) (Or.inl ⟨?fw17w8, ?fy17w8⟩) (by assumption) ?fr17w8
          case fe17w8 => ((simp only [List.getElem?_toArray, List.getElem?_cons_succ, List.getElem?_cons_zero]) <;> rfl)
          case fw17w8 => rfl
          case fy17w8 => (intro w hSw; (try dsimp only at hSw); go_simp; (try with_reducible rfl))
          try simp only [Act.put, List.setIfInBounds_toArray, List.set_cons_zero, List.set_cons_succ]
          refine wpAnyH_take (i := 18) (oi := ?fo18w8) (v := ?fv18w8) ?fe18w8 (by kernel_rfl) (by kernel_rfl) (by kernel_rfl) (fun _ _ _ h => h) (Or.inl ⟨?fw18w8, ?fy18w8⟩) (by assumption) ?fr18w8
          case fe18w8 => ((simp only [List.getElem?_toArray, List.getElem?_cons_succ, List.getElem?_cons_zero]) <;> rfl)
          case fw18w8 => rfl
          case fy18w8 => (intro w hSw; (try dsimp only at hSw); go_simp; (try with_reducible rfl))
          try simp only [Act.put, List.setIfInBounds_toArray, List.set_cons_zero, List.set_cons_succ]
          refine wpAnyH_take (i := 19) (oi := ?fo19w8) (v := ?fv19w8) ?fe19w8 (by kernel_rfl) (by kernel_rfl) (by kernel_rfl) (fun _ _ _ h => h) (Or.inl ⟨?fw19w8, ?fy19w8⟩) (by assumption) ?fr19w8
          case fe19w8 => ((simp only [List.getElem?_toArray, List.getElem?_cons_succ, List.getElem?_cons_zero]) <;> rfl)
          case fw19w8 => rfl
          case fy19w8 => (intro w hSw; (try dsimp only at hSw); go_simp; (try with_reducible rfl))
          try simp only [Act.put, List.setIfInBounds_toArray, List.set_cons_zero, List.set_cons_succ]
          refine wpAnyH_take (i := 20) (oi := ?fo20w8) (v := ?fv20w8) ?fe20w8 (by kernel_rfl) (by kernel_rfl) (by kernel_rfl) (fun _ _ _ h => h) (Or.inl ⟨?fw20w8, ?fy20w8⟩) (by assumption) ?fr20w8
          case fe20w8 => ((simp only [List.getElem?_toArray, List.getElem?_cons_succ, List.getElem?_cons_zero]) <;> rfl)
          case fw20w8 => rfl
          case fy20w8 => (intro w hSw; (try dsimp only at hSw); go_simp; (try with_reducible rfl))
          try simp only [Act.put, List.setIfInBounds_toArray, List.set_cons_zero, List.set_cons_succ]
          refine wpAnyH_take (i := 21) (oi := ?fo21w8) (v := ?fv21w8) ?fe21w8 (by kernel_rfl) (by kernel_rfl) (by kernel_rfl) (fun _ _ _ h => h) (Or.inl ⟨?fw21w8, ?fy21w8⟩) (by assumption) ?fr21w8
          case fe21w8 => ((simp only [List.getElem?_toArray, List.getElem?_cons_succ, List.getElem?_cons_zero]) <;> rfl)
          case fw21w8 => rfl
          case fy21w8 => (intro w hSw; (try dsimp only at hSw); go_simp; (try with_reducible rfl))
          try simp only [Act.put, List.setIfInBounds_toArray, List.set_cons_zero, List.set_cons_succ]
          refine wpAnyH_take (i := 22) (oi := ?fo22w8) (v := ?fv22w8) ?fe22w8 (by kernel_rfl) (by kernel_rfl) (by kernel_rfl) (fun _ _ _ h => h) (Or.inl ⟨?fw22w8, ?fy22w8⟩) (by assumption) ?fr22w8
          case fe22w8 => ((simp only [List.getElem?_toArray, List.getElem?_cons_succ, List.getElem?_cons_zero]) <;> rfl)
          case fw22w8 => rfl
          case fy22w8 => (intro w hSw; (try dsimp only at hSw); go_simp; (try with_reducible rfl))
          try simp only [Act.put, List.setIfInBounds_toArray, List.set_cons_zero, List.set_cons_succ]
          refine wpAnyH_take (i := 23) (oi := ?fo23w8) (v := ?fv23w8) ?fe23w8 (by kernel_rfl) (by kernel_rfl) (by kernel_rfl) (fun _ _ _ h => h) (Or.inl ⟨?fw23w8, ?fy23w8⟩) (by assumption) ?fr23w8
          case fe23w8 => ((simp only [List.getElem?_toArray, List.getElem?_cons_succ, List.getElem?_cons_zero]) <;> rfl)
          case fw23w8 => rfl
          case fy23w8 => (intro w hSw; (try dsimp only at hSw); go_simp; (try with_reducible rfl))
          try simp only [Act.put, List.setIfInBounds_toArray, List.set_cons_zero, List.set_cons_succ]
          refine wpAnyH_take (i := 24) (oi := ?fo24w8) (v := (.bool false)) ?fe24w8 (by kernel_rfl) (by kernel_rfl) (by kernel_rfl) (fun _ _ _ h => h) (Or.inl ⟨?fw24w8, ?fy24w8⟩) (by assumption) ?fr24w8
          case fe24w8 => ((simp only [List.getElem?_toArray, List.getElem?_cons_succ, List.getElem?_cons_zero]) <;> rfl)
          case fw24w8 => rfl
          case fy24w8 => (intro w hSw; (try dsimp only at hSw); go_simp; (try exact HLE.out))
          try simp only [Act.put, List.setIfInBounds_toArray, List.set_cons_zero, List.set_cons_succ]
          refine wpAnyH_take (i := 25) (oi := ?fo25w8) (v := ?fv25w8) ?fe25w8 (by kernel_rfl) (by kernel_rfl) (by kernel_rfl) (fun _ _ _ h => h) (Or.inl ⟨?fw25w8, ?fy25w8⟩) (by assumption) ?fr25w8
          case fe25w8 => ((simp only [List.getElem?_toArray, List.getElem?_cons_succ, List.getElem?_cons_zero]) <;> rfl)
          case fw25w8 => rfl
          case fy25w8 => (intro w hSw; (try dsimp only at hSw); go_simp; (try with_reducible rfl))
          try simp only [Act.put, List.setIfInBounds_toArray, List.set_cons_zero, List.set_cons_succ]
          refine wpAnyH_take (i := 26) (oi := ?fo26w8) (v := ?fv26w8) ?fe26w8 (by kernel_rfl) (by kernel_rfl) (by kernel_rfl) (fun _ _ _ h => h) (Or.inl ⟨?fw26w8, ?fy26w8⟩) (by assumption) ?fr26w8
          case fe26w8 => ((simp only [List.getElem?_toArray, List.getElem?_cons_succ, List.getElem?_cons_zero]) <;> rfl)
          case fw26w8 => rfl
          case fy26w8 => (intro w hSw; (try dsimp only at hSw); go_simp; (try with_reducible rfl))
          try simp only [Act.put, List.setIfInBounds_toArray, List.set_cons_zero, List.set_cons_succ]
          refine wpAnyH_take (i := 27) (oi := ?fo27w8) (v := ?fv27w8) ?fe27w8 (by kernel_rfl) (by kernel_rfl) (by kernel_rfl) (fun _ _ _ h => h) (Or.inl ⟨?fw27w8, ?fy27w8⟩) (by assumption) ?fr27w8
          case fe27w8 => ((simp only [List.getElem?_toArray, List.getElem?_cons_succ, List.getElem?_cons_zero]) <;> rfl)
          case fw27w8 => rfl
          case fy27w8 => (intro w hSw; (try dsimp only at hSw); go_simp; (try with_reducible rfl))
          try simp only [Act.put, List.setIfInBounds_toArray, List.set_cons_zero, List.set_cons_succ]
          refine wpAnyH_done (by kernel_rfl) ?_ _
          refine NoPanic.normal ?_
          clear hHeld
          by_cases h64 : 64 < kk.length
          · have hkI : (64 : Int) < (kk.length : Int) := by omega
            gi_wp2
            have HBF := hid (build_bad HNE.out (HCK.out.symm.trans (hst.out.trans ((if_neg HNB.out).trans (if_pos (.inl h64))))) (by decide))
            refine ⟨_, results_tmp2 rfl _ _ _, ⟨?_, hBW.out.drew⟩⟩
            rw [HBF.out]
            rfl
          have hkI : ¬ (64 : Int) < (kk.length : Int) := by omega
          by_cases h81 : 8192 < vv.length
          · have hvI : (8192 : Int) < (vv.length : Int) := by omega
            gi_wp2
            have HBF := hid (build_bad HNE.out (HCK.out.symm.trans (hst.out.trans ((if_neg HNB.out).trans (if_pos (.inr h81))))) (by decide))
            refine ⟨_, results_tmp2 rfl _ _ _, ⟨?_, hBW.out.drew⟩⟩
            rw [HBF.out]
            rfl
          have hvI : ¬ (8192 : Int) < (vv.length : Int) := by omega
          have HGO := hid (hst.out.trans ((if_neg HNB.out).trans (if_neg (fun q => q.elim h64 h81))))
          gi_wp2
          go_roundw
          case rel => first | exact ⟨m + 1, by omega, by go_num, hBW.out.drew, HGO.out.symm.trans HCK.out⟩ | ((repeat apply Exists.intro); refine ⟨⟨m + 1, by omega, by go_num, hBW.out.drew, HGO.out.symm.trans HCK.out⟩, ?_⟩; repeat (first | exact rfl | refine ⟨rfl, ?_⟩))
          case measure => simp [intOf]; omega
end Go.Proofs.Ytfdbcnpbjabjoaa
