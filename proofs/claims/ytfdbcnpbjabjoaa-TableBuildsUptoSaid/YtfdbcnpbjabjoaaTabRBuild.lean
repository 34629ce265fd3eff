/- CONTRACT: wherryref07.Build. -/
import Derived.Test.YtfdbcnpbjabjoaaTabRBldP
import Derived.Test.YtfdbcnpbjabjoaaTabPair
import Derived.Test.YtfdbcnpbjabjoaaTabOpenP
import Derived.Test.YtfdbcnpbjabjoaaBloomRef
import Derived.Test.YtfdbcnpbjabjoaaFrameWrap
namespace Go.Proofs.Ytfdbcnpbjabjoaa
open Go.RowKit Go.Shelf
set_option linter.unusedVariables false
set_option linter.unusedSimpArgs false

theorem infoStrR : (Try.prog.info? 9).map (fun i => (i.zero, i.size, i.bytes)) = some (some (.string .empty), 1, 16) := by kernel_rfl
theorem le_ofR {a b : List UInt8} (h : Op.bytesLess b a = false) : Op.bytesLess a b = true ∨ a = b := (ltB_tot h).elim (fun e => .inr e.symm) .inl
theorem nle_ofR {a b : List UInt8} (h : Op.bytesLess b a = true) : Op.bytesLess a b = false ∧ ¬ a = b := by
  have := leB_eq a b
  rw [show ltB b a = true from h] at this
  simpa [ltB] using this
theorem rbuild_bad {l : List Pr} {c : Int} (hne : l ≠ []) (h : chkB [] l = c) (hc : c ≠ 0) : buildF l = ([], c) := by
  unfold buildF
  rw [if_neg hne, h, if_pos hc]
set_option maxRecDepth 100000 in
set_option maxHeartbeats 16000000 in
theorem rbuild_in (l : List Pr) (v0 : Value) (hl : l.length ≤ 1048576) (hbk : ∀ p ∈ l, p.1.length ≤ 1048576 ∧ p.2.1.length ≤ 1048576) (w : World) (h0 : Sl w v0 3 l.length (l.flatMap prC)) (hne : l ≠ []) :
    Calls Try.prog 23 #[v0] w fun e w' => e = .returned (.tuple #[.string ⟨(buildF l).1.toArray⟩, .int .i64 (buildF l).2]) ∧ Below w.heap.size w w' := by
  have hlp := List.length_pos_iff.2 hne
  obtain ⟨-, -, a', cap, rfl, hc⟩ := h0
  obtain ⟨b, off, rfl, hblt, hc⟩ := hc.resolve_left (by omega)
  have hlI : (l.length : Int) ≤ 1048576 := by omega
  have hlz : ¬ (l.length : Int) = 0 := by omega
  have hlz2 : ((l.length : Int) == 0) = false := by simp; omega
  have HC := hid (fun (V : World) (q : Below w.heap.size w V) (m : Nat) (hm : m < l.length) => (show ∀ (j : Nat) (u : Value), (prC l[m])[j]? = some u → V.cell? ⟨b, off + m * 3 + j, none⟩ = some u from fun j u hu => by
    have hj : j < 3 := by have := (List.getElem?_eq_some_iff.1 hu).1; rwa [prC_len] at this
    rw [q.cell (p := ⟨b, off + m * 3 + j, none⟩) hblt, Nat.add_assoc]
    exact Sl.cell (f := prC) (k := 3) prC_len hc m j hj hm u hu))
  have HBK := hid hbk
  have HNE := hid hne
  clear hc hbk hne
  obtain ⟨i0, hi, hz0, hz1, hz2⟩ := info_parts infoStrR
  have HI := hid hi
  have HZ0 := hid hz0
  have HZ1 := hid hz1
  have HZ2 := hid hz2
  clear hi hz0 hz1 hz2
  go_enter Try.func23, Try.ntmps23
  go_wp2_with fail
  go_loopw [4, 5, 6] (fun la ks i wr => ∃ m : Nat, m ≤ l.length ∧ la = .string ⟨(lastR l m).toArray⟩ ∧ i = .int .i64 m ∧ Below w.heap.size w wr ∧ chkB (lastR l m) (l.drop m) = chkB [] l ∧ wr.ownsRow w.heap.size 9 1 ks m ((keysL (l.take m)).map strV)) (fun la ks i _ => l.length - (intOf i).toNat)
  case atStart => exact ⟨0, by omega, rfl, rfl, Below.refl _ _, rfl, World.ownsRow_nil _ _ _ _⟩
  case round =>
    obtain ⟨m, hm, rfl, rfl, hbw, hck, how⟩ := hrel
    obtain ⟨va, vc, rfl⟩ := ownsRow_slice how
    obtain ⟨la, hla⟩ : ∃ la, la = lastR l m := ⟨_, rfl⟩
    have HLA := hid hla
    rw [← hla] at hck ⊢
    clear hla
    by_cases hmq : m < l.length
    case neg =>
      obtain rfl : m = l.length := by omega
      rw [List.drop_length] at hck
      have HCK := hid (show chkB [] l = 0 from hck.symm)
      rw [List.take_length] at how
      clear hmq hm hck
      rename World => V1
      have HOK := hid ((chkB_ok.1 HCK.out).2)
      have HOW := hid how
      have HW1 := hid hbw
      have hz1 := outR_zero HNE.out
      have hz2 := blkR_zero HNE.out
      clear how hbw HI HZ0 HZ1 HZ2 HLA
      go_wp2_with fail
      go_loopw [8, 9, 10, 11, 12] (fun o f k n i wx => ∃ m : Nat, m ≤ l.length ∧ o = .string ⟨(outR l m).toArray⟩ ∧ f = .string ⟨(ixR l m).toArray⟩ ∧ k = .string ⟨(blkR l m).toArray⟩ ∧ n = .int .i64 ((m + 7) / 8 : Nat) ∧ i = .int .i64 m ∧ Below V1.heap.size V1 wx) (fun o f k n i _ => l.length - (intOf i).toNat)
      case atStart => exact ⟨0, by omega, by rw [hz1], rfl, by rw [hz2], rfl, rfl, Below.refl _ _⟩
      case round =>
        obtain ⟨m, hm, rfl, rfl, rfl, rfl, rfl, hb⟩ := hrel
        clear hz1 hz2
        by_cases hmq : m < l.length
        case neg =>
          obtain rfl : m = l.length := by omega
          rw [outR_all, ixR_all, blkR_all]
          have hkl : (keysL l).length = l.length := by unfold keysL; rw [List.length_map]
          have hmi : min ((l.length : Int) + 8) 8192 = ((min (l.length + 8) 8192 : Nat) : Int) := by omega
          have HF := hid (show filtL l = makeL (min (l.length + 8) 8192) (keysL l) from rfl)
          obtain ⟨q, hq⟩ : ∃ q, q = min (l.length + 8) 8192 := ⟨_, rfl⟩
          rw [← hq] at hmi HF
          have hq1 : 1 ≤ q ∧ q ≤ 8192 := by omega
          have hSl : Sl wr (.slice va l.length vc) 1 (keysL l).length ((keysL l).map strV) := by rw [hkl]; exact (Sl.of_own HOW.out (by unfold maxLen; omega)).below hb
          have hkm : ∀ k ∈ keysL l, k.length ≤ maxLen := fun k hk => by
            obtain ⟨p, hp, rfl⟩ := List.mem_map.1 hk
            have := (HOK.out p hp).k64
            unfold maxLen; omega
          have HMK := rmake_any (.slice va l.length vc) (keysL l) q hq1.1 hq1.2 hkm wr hSl
          have hfl := makeL_len q (keysL l)
          obtain ⟨nb, hnb⟩ : ∃ nb, nb = (l.length + 7) / 8 := ⟨_, rfl⟩
          have hgl : (grp l).length = nb := by rw [grp_len, hnb]; rfl
          have HFT := hid (show footL l = putL nb ++ (indexL l ++ (putL l.length ++ textL (makeL q (keysL l)))) by unfold footL; rw [hgl, HF.out])
          have hixl : (indexL l).length ≤ 80000000 := by
            have h1 := ixR_le HOK.out l.length (Nat.le_refl _)
            rw [ixR_all] at h1
            omega
          have hbl : (bodyL l).length ≤ 66414 * 1048577 := by
            have h1 := outR_le HOK.out l.length (Nat.le_refl _)
            rw [outR_all] at h1
            exact Nat.le_trans h1 (Nat.mul_le_mul_left _ (by omega))
          have hnbl : nb ≤ 131072 := by omega
          rw [← hnb]
          generalize makeL q (keysL l) = fl at *
          clear hq hSl hkm hgl hkl hmq hm hnb
          have hp1 := putL_len10 (n := nb) (by unfold U64; omega)
          have hp2 := putL_len10 (n := l.length) (by unfold U64; omega)
          have htx := textL_le (k := fl) (by omega)
          have hnI : (0 : Int) ≤ (nb : Int) := Int.natCast_nonneg _
          have hlI0 : (0 : Int) ≤ (l.length : Int) := Int.natCast_nonneg _
          have HP1 := fun V => rint_any (nb : Int) (by omega) (by omega) V
          have HP2 := fun V => rint_any (l.length : Int) (by omega) (by omega) V
          rw [Int.toNat_natCast] at HP1 HP2
          have hft : (footL l).length ≤ 90000000 := by rw [HFT.out]; simp only [List.length_append]; omega
          have HBU := hid (show buildF l = if 1048576 < (footL l).length then ([], 2) else (bodyL l ++ wrapL (footL l), 0) by
            unfold buildF
            rw [if_neg HNE.out, if_neg (not_not_intro HCK.out)])
          generalize indexL l = ix at *
          generalize bodyL l = bo at *
          have hc1 := fun V => run_cat (P := Try.prog) V (putL nb) ix (by omega)
          have hc2 := fun V => run_cat (P := Try.prog) V (putL nb ++ ix) (putL l.length) (by rw [List.length_append]; omega)
          have hc3 := fun V => run_cat (P := Try.prog) V (putL nb ++ (ix ++ putL l.length)) (textL fl) (by simp only [List.length_append]; omega)
          have HBX := hid (bnext HW1.out hb)
          go_wp2_with fail
          refine HMK.mono ?_
          rintro _ w2 ⟨rfl, hb2⟩
          go_wp2_with fail
          refine (HP1 w2).mono ?_
          rintro _ w3 ⟨rfl, hb3⟩
          go_wp2_with fail
          refine (HP2 w3).mono ?_
          rintro _ w4 ⟨rfl, hb4⟩
          go_wp2_with fail
          refine (rtext_any fl (by omega) w4).mono ?_
          rintro _ w5 ⟨rfl, hb5⟩
          have HB5 := hid (bnext HBX.out (bnext hb2 (bnext hb3 (bnext hb4 hb5))))
          clear hb hb2 hb3 hb4 hb5 HMK
          go_wp2_with fail
          rw [← HFT.out]
          generalize footL l = ft at *
          by_cases hf : ft.length ≤ 1048576
          · rw [if_neg (by omega)] at HBU
            have hwl := wrapL_le hf
            have hc4 := fun V => run_cat (P := Try.prog) V bo (wrapL ft) (by omega)
            refine (rwrap_any ft hf w5).mono ?_
            rintro _ w6 ⟨rfl, hb6⟩
            have HB6 := hid (bnext HB5.out hb6)
            go_wp2_with fail
            refine bodyPost_ret (results_tmp2 rfl _ _ _) rfl ⟨?_, HB6.out⟩
            rw [HBU.out]
            rfl
          · rw [if_pos (by omega)] at HBU
            refine (rwrap_no ft (by omega) (by unfold maxLen; omega) w5).mono ?_
            rintro _ w6 ⟨rfl, hb6⟩
            have HB6 := hid (bnext HB5.out hb6)
            go_wp2_with fail
            refine bodyPost_ret (results_tmp2 rfl _ _ _) rfl ⟨?_, HB6.out⟩
            rw [HBU.out]
            rfl
        case pos =>
        have hcm := HC.out wr (bnext HW1.out hb) m hmq
        have hpo := HOK.out l[m] (List.getElem_mem hmq)
        have hi1 := fun h => ixR_first (l := l) (m := m) hmq h
        have ho1 := outR_full (l := l) (m := m) hmq
        have hb2 := blkR_more (l := l) (m := m) hmq
        have HO2 := hid (outR_more (l := l) (m := m) hmq)
        have HB1 := hid (blkR_full (l := l) (m := m) hmq)
        have HI2 := hid (ixR_next (l := l) (m := m))
        have hol := outR_le HOK.out m hm
        have hil := ixR_le HOK.out m hm
        have hbl := blkR_le HOK.out m
        have hbf := fun h => blk_full (l := l) (m := m) hmq h
        have hgl : (blkL (gAt l (m / 8))).length ≤ 66400 := by
          have h1 := blkL_le (gAt_ok HOK.out (m / 8))
          have h2 : (gAt l (m / 8)).length ≤ 8 := by rw [gAt_len]; omega
          omega
        obtain ⟨pm, hpm⟩ : ∃ y, y = l[m] := ⟨_, rfl⟩
        rw [← hpm] at hcm hpo hi1 ho1 hb2 hbf
        obtain ⟨kk, vv, gg⟩ := pm
        have hpl := pairL_le hpo
        have hk64 := hpo.k64
        have HPA := hid (fun V : World => rpair_any (kk, vv, gg) hpo V)
        unfold prV at HPA
        dsimp only at HPA hi1 hk64
        generalize outR l m = ou at *
        generalize blkR l m = bo at *
        generalize ixR l m = ix at *
        generalize pairL (kk, vv, gg) = pl at *
        have HI1 := hid hi1
        have HO1 := hid ho1
        have HB2 := hid hb2
        have HBF := hid hbf
        have q0 : wr.cell? ⟨b, off + m * 3, none⟩ = some (.string ⟨kk.toArray⟩) := hcm 0 _ rfl
        have q1 : wr.cell? ⟨b, off + m * 3 + 1, none⟩ = some (.string ⟨vv.toArray⟩) := hcm 1 _ rfl
        have q2 : wr.cell? ⟨b, off + m * 3 + 2, none⟩ = some (.bool gg) := hcm 2 _ rfl
        have hmi : (m : Int) < (l.length : Int) := by omega
        have hm0 : (0 : Int) ≤ (m : Int) := by omega
        have htl := textL_le (k := kk) (by omega)
        have hc1 := fun V => run_cat (P := Try.prog) V ix (textL kk) (by omega)
        have hc2 := fun V => run_cat (P := Try.prog) V bo pl (by omega)
        have HQ := hid (fun (V : World) (q : Below wr.heap.size wr V) => (by
          have hbl2 : b < wr.heap.size := Nat.lt_of_lt_of_le hblt (bnext HW1.out hb).size
          exact ⟨(q.cell (p := ⟨b, off + m * 3, none⟩) hbl2).trans q0, (q.cell (p := ⟨b, off + m * 3 + 1, none⟩) hbl2).trans q1, (q.cell (p := ⟨b, off + m * 3 + 2, none⟩) hbl2).trans q2⟩ : V.cell? ⟨b, off + m * 3, none⟩ = some (.string ⟨kk.toArray⟩) ∧ V.cell? ⟨b, off + m * 3 + 1, none⟩ = some (.string ⟨vv.toArray⟩) ∧ V.cell? ⟨b, off + m * 3 + 2, none⟩ = some (.bool gg)))
        have HBX := hid hb
        clear hcm hpm hi1 ho1 hb2 hbf hpo hb
        have hnb : (m + 7) / 8 ≤ 200000 := by omega
        have hnz : (0 : Int) ≤ (((m + 7) / 8 : Nat) : Int) := Int.natCast_nonneg _
        by_cases h8 : m % 8 = 0
        · have H8 := hid h8
          have h8i : ((m : Int) % 8) = 0 := by omega
          have h7i : ¬ ((m : Int) % 8) = 7 := by omega
          have HNB := hid (show (m + 1 + 7) / 8 = (m + 7) / 8 + 1 by omega)
          by_cases h6 : m = l.length - 1
          · have H6 := hid h6
            have h6i : ((m : Int) == (l.length : Int) - 1) = true := by simp; omega
            have HN := hid (show True from trivial)
            generalize (m + 7) / 8 = nb at *
            clear h6
            go_wp2_with fail
            refine (rtext_any kk (by omega) wr).mono ?_
            rintro _ w2 ⟨rfl, hz2⟩
            obtain ⟨q0', q1', q2'⟩ := HQ.out w2 hz2
            clear q0 q1 q2
            go_wp2_with fail
            refine (HPA.out w2).mono ?_
            rintro _ w3 ⟨rfl, hz3⟩
            have hbz := bnext HBX.out (bnext hz2 hz3)
            have hbpl : (bo ++ pl).length ≤ 74700 := by rw [List.length_append]; omega
            have hwl := wrapL_le (s := bo ++ pl) (by omega)
            have hc3 := fun V => run_cat (P := Try.prog) V ou (wrapL (bo ++ pl)) (by omega)
            go_wp2_with fail
            refine (rwrap_any (bo ++ pl) (by omega) w3).mono ?_
            rintro _ w4 ⟨rfl, hz4⟩
            have HBZ := hid (bnext hbz hz4)
            clear hz2 hz3 hz4 hbz
            go_wp2_with fail
            go_roundw
            case rel => first | exact ⟨m + 1, by omega, by rw [HO1.out (.inr H6.out)], by rw [HI1.out H8.out], by rw [HB1.out (.inr H6.out)], by (rw [HNB.out]; try go_num), by go_num, HBZ.out⟩ | ((repeat apply Exists.intro); refine ⟨⟨m + 1, by omega, by rw [HO1.out (.inr H6.out)], by rw [HI1.out H8.out], by rw [HB1.out (.inr H6.out)], by (rw [HNB.out]; try go_num), by go_num, HBZ.out⟩, ?_⟩; repeat (first | exact rfl | refine ⟨rfl, ?_⟩))
            case measure => simp [intOf]; omega
          · have HN := hid (show ¬ (m % 8 = 7 ∨ m = l.length - 1) by omega)
            have h6i : ((m : Int) == (l.length : Int) - 1) = false := by simp; omega
            generalize (m + 7) / 8 = nb at *
            clear h6
            go_wp2_with fail
            refine (rtext_any kk (by omega) wr).mono ?_
            rintro _ w2 ⟨rfl, hz2⟩
            obtain ⟨q0', q1', q2'⟩ := HQ.out w2 hz2
            clear q0 q1 q2
            go_wp2_with fail
            refine (HPA.out w2).mono ?_
            rintro _ w3 ⟨rfl, hz3⟩
            have hbz := bnext HBX.out (bnext hz2 hz3)
            have HBZ := hid hbz
            clear hz2 hz3 hbz
            go_wp2_with fail
            go_roundw
            case rel => first | exact ⟨m + 1, by omega, by rw [HO2.out HN.out], by rw [HI1.out H8.out], by rw [HB2.out HN.out], by (rw [HNB.out]; try go_num), by go_num, HBZ.out⟩ | ((repeat apply Exists.intro); refine ⟨⟨m + 1, by omega, by rw [HO2.out HN.out], by rw [HI1.out H8.out], by rw [HB2.out HN.out], by (rw [HNB.out]; try go_num), by go_num, HBZ.out⟩, ?_⟩; repeat (first | exact rfl | refine ⟨rfl, ?_⟩))
            case measure => simp [intOf]; omega
        · have H8 := hid h8
          have h8i : ¬ ((m : Int) % 8) = 0 := by omega
          have HNB := hid (show (m + 1 + 7) / 8 = (m + 7) / 8 by omega)
          generalize (m + 7) / 8 = nb at *
          by_cases h7 : m % 8 = 7
          · have h7i : ((m : Int) % 8) = 7 := by omega
            obtain ⟨w2, hw2⟩ : ∃ y, y = wr := ⟨_, rfl⟩
            have hz2 : Below wr.heap.size wr w2 := by rw [hw2]; exact Below.refl _ _
            obtain ⟨q0', q1', q2'⟩ := HQ.out w2 hz2
            rw [← hw2]
            clear hw2
            clear q0 q1 q2
            go_wp2_with fail
            refine (HPA.out w2).mono ?_
            rintro _ w3 ⟨rfl, hz3⟩
            have hbz := bnext HBX.out (bnext hz2 hz3)
            have hbpl : (bo ++ pl).length ≤ 74700 := by rw [List.length_append]; omega
            have hwl := wrapL_le (s := bo ++ pl) (by omega)
            have hc3 := fun V => run_cat (P := Try.prog) V ou (wrapL (bo ++ pl)) (by omega)
            go_wp2_with fail
            refine (rwrap_any (bo ++ pl) (by omega) w3).mono ?_
            rintro _ w4 ⟨rfl, hz4⟩
            have HBZ := hid (bnext hbz hz4)
            clear hz2 hz3 hz4 hbz
            go_wp2_with fail
            go_roundw
            case rel => first | exact ⟨m + 1, by omega, by rw [HO1.out (.inl h7)], by rw [HI2.out H8.out], by rw [HB1.out (.inl h7)], by (rw [HNB.out]; try go_num), by go_num, HBZ.out⟩ | ((repeat apply Exists.intro); refine ⟨⟨m + 1, by omega, by rw [HO1.out (.inl h7)], by rw [HI2.out H8.out], by rw [HB1.out (.inl h7)], by (rw [HNB.out]; try go_num), by go_num, HBZ.out⟩, ?_⟩; repeat (first | exact rfl | refine ⟨rfl, ?_⟩))
            case measure => simp [intOf]; omega
          · have h7i : ¬ ((m : Int) % 8) = 7 := by omega
            by_cases h6 : m = l.length - 1
            · have H6 := hid h6
              have h6i : ((m : Int) == (l.length : Int) - 1) = true := by simp; omega
              clear h6
              obtain ⟨w2, hw2⟩ : ∃ y, y = wr := ⟨_, rfl⟩
              have hz2 : Below wr.heap.size wr w2 := by rw [hw2]; exact Below.refl _ _
              obtain ⟨q0', q1', q2'⟩ := HQ.out w2 hz2
              rw [← hw2]
              clear hw2
              clear q0 q1 q2
              go_wp2_with fail
              refine (HPA.out w2).mono ?_
              rintro _ w3 ⟨rfl, hz3⟩
              have hbz := bnext HBX.out (bnext hz2 hz3)
              have hbpl : (bo ++ pl).length ≤ 74700 := by rw [List.length_append]; omega
              have hwl := wrapL_le (s := bo ++ pl) (by omega)
              have hc3 := fun V => run_cat (P := Try.prog) V ou (wrapL (bo ++ pl)) (by omega)
              go_wp2_with fail
              refine (rwrap_any (bo ++ pl) (by omega) w3).mono ?_
              rintro _ w4 ⟨rfl, hz4⟩
              have HBZ := hid (bnext hbz hz4)
              clear hz2 hz3 hz4 hbz
              go_wp2_with fail
              go_roundw
              case rel => first | exact ⟨m + 1, by omega, by rw [HO1.out (.inr H6.out)], by rw [HI2.out H8.out], by rw [HB1.out (.inr H6.out)], by (rw [HNB.out]; try go_num), by go_num, HBZ.out⟩ | ((repeat apply Exists.intro); refine ⟨⟨m + 1, by omega, by rw [HO1.out (.inr H6.out)], by rw [HI2.out H8.out], by rw [HB1.out (.inr H6.out)], by (rw [HNB.out]; try go_num), by go_num, HBZ.out⟩, ?_⟩; repeat (first | exact rfl | refine ⟨rfl, ?_⟩))
              case measure => simp [intOf]; omega
            · have HN := hid (show ¬ (m % 8 = 7 ∨ m = l.length - 1) by omega)
              have h6i : ((m : Int) == (l.length : Int) - 1) = false := by simp; omega
              clear h6
              obtain ⟨w2, hw2⟩ : ∃ y, y = wr := ⟨_, rfl⟩
              have hz2 : Below wr.heap.size wr w2 := by rw [hw2]; exact Below.refl _ _
              obtain ⟨q0', q1', q2'⟩ := HQ.out w2 hz2
              rw [← hw2]
              clear hw2
              clear q0 q1 q2
              go_wp2_with fail
              refine (HPA.out w2).mono ?_
              rintro _ w3 ⟨rfl, hz3⟩
              have hbz := bnext HBX.out (bnext hz2 hz3)
              have HBZ := hid hbz
              clear hz2 hz3 hbz
              go_wp2_with fail
              go_roundw
              case rel => first | exact ⟨m + 1, by omega, by rw [HO2.out HN.out], by rw [HI2.out H8.out], by rw [HB2.out HN.out], by (rw [HNB.out]; try go_num), by go_num, HBZ.out⟩ | ((repeat apply Exists.intro); refine ⟨⟨m + 1, by omega, by rw [HO2.out HN.out], by rw [HI2.out H8.out], by rw [HB2.out HN.out], by (rw [HNB.out]; try go_num), by go_num, HBZ.out⟩, ?_⟩; repeat (first | exact rfl | refine ⟨rfl, ?_⟩))
              case measure => simp [intOf]; omega
    case pos =>
    have hcm := HC.out wr hbw m hmq
    have hst := chkR_step hmq
    have hls := lastR_succ hmq
    have hbm := HBK.out l[m] (List.getElem_mem hmq)
    have htk : (keysL (l.take (m + 1))) = keysL (l.take m) ++ [l[m].1] := by unfold keysL; rw [List.take_succ_eq_append_getElem hmq, List.map_append]; rfl
    obtain ⟨pm, hpm⟩ : ∃ y, y = l[m] := ⟨_, rfl⟩
    rw [← HLA.out] at hst
    rw [← hpm] at hcm hst hbm hls htk
    obtain ⟨kk, vv, gg⟩ := pm
    dsimp only at hst hbm hls htk
    have HST := hid hst
    have HLS := hid hls
    have HTK := hid htk
    have q0 : wr.cell? ⟨b, off + m * 3, none⟩ = some (.string ⟨kk.toArray⟩) := hcm 0 _ rfl
    have q1 : wr.cell? ⟨b, off + m * 3 + 1, none⟩ = some (.string ⟨vv.toArray⟩) := hcm 1 _ rfl
    have q2 : wr.cell? ⟨b, off + m * 3 + 2, none⟩ = some (.bool gg) := hcm 2 _ rfl
    have HCK := hid hck
    have hmi : (m : Int) < (l.length : Int) := by omega
    have hm0 : (0 : Int) ≤ (m : Int) := by omega
    have hks : (kk.length : Int) ≤ 1048576 := by omega
    have hvs : (vv.length : Int) ≤ 1048576 := by omega
    obtain ⟨W2, hW⟩ : ∃ y, y = wr.alloc (.cells #[.string ⟨kk.toArray⟩, .string ⟨vv.toArray⟩, .bool gg] 70) := ⟨_, rfl⟩
    have bW : Below wr.heap.size wr W2 := by rw [hW]; exact (Below.refl _ _).alloc (Nat.le_refl _) _
    have hCW : W2.heap[wr.heap.size]? = some (.cells #[.string ⟨kk.toArray⟩, .string ⟨vv.toArray⟩, .bool gg] 70 (0, 0)) := by rw [hW]; exact heap_alloc_new wr _
    obtain ⟨y0, y1, y2, -⟩ := prow_cell hCW
    have HBW := hid (show Below w.heap.size w W2 from bnext hbw bW)
    have how2 : W2.ownsRow w.heap.size 9 1 (.slice va m vc) m ((keysL (l.take m)).map strV) := by rw [hW]; exact how.alloc _
    have HW := hid hW
    clear hW bW hCW hcm hpm hck hbw hst hls htk how
    cases hlt : Op.bytesLess la kk with
    | false =>
      rcases le_ofR hlt with hle | hle
      · go_wp2_with (rw [← HW.out])
        have HBF := hid (rbuild_bad HNE.out (HCK.out.symm.trans (HST.out.trans (if_pos (.inl hlt)))) (by decide))
        refine bodyPost_ret (results_tmp2 rfl _ _ _) rfl ⟨?_, HBW.out⟩
        rw [HBF.out]
        rfl
      · subst hle
        go_wp2_with (rw [← HW.out])
        have HBF := hid (rbuild_bad HNE.out (HCK.out.symm.trans (HST.out.trans (if_pos (.inl hlt)))) (by decide))
        refine bodyPost_ret (results_tmp2 rfl _ _ _) rfl ⟨?_, HBW.out⟩
        rw [HBF.out]
        rfl
    | true =>
      obtain ⟨hle1, hle2⟩ := nle_ofR hlt
      have hle3 : (kk == la) = false := by simp [hle2]
      cases gg with
      | false =>
        have HNB := hid (show ¬ (ltB la kk = false ∨ (false = true ∧ vv ≠ [])) by simp [ltB, hlt])
        by_cases h64 : 64 < kk.length
        · have hkI : (64 : Int) < (kk.length : Int) := by omega
          go_wp2_with (rw [← HW.out])
          have HBF := hid (rbuild_bad HNE.out (HCK.out.symm.trans (HST.out.trans ((if_neg HNB.out).trans (if_pos (.inl h64))))) (by decide))
          refine bodyPost_ret (results_tmp2 rfl _ _ _) rfl ⟨?_, HBW.out⟩
          rw [HBF.out]
          rfl
        have hkI : ¬ (64 : Int) < (kk.length : Int) := by omega
        by_cases h81 : 8192 < vv.length
        · have hvI : (8192 : Int) < (vv.length : Int) := by omega
          go_wp2_with (rw [← HW.out])
          have HBF := hid (rbuild_bad HNE.out (HCK.out.symm.trans (HST.out.trans ((if_neg HNB.out).trans (if_pos (.inr h81))))) (by decide))
          refine bodyPost_ret (results_tmp2 rfl _ _ _) rfl ⟨?_, HBW.out⟩
          rw [HBF.out]
          rfl
        have hvI : ¬ (8192 : Int) < (vv.length : Int) := by omega
        have HGO := hid (HST.out.trans ((if_neg HNB.out).trans (if_neg (fun q => q.elim h64 h81))))
        go_wp2_with (first | rw [← HW.out] | (at_builtin; refine wpList_append_own _ rfl _ _ 53 rfl w.heap.size 9 i0 (.string .empty) 1 16 Try.underlying53 HI.out HZ0.out HZ1.out HZ2.out rfl (by decide) _ _ _ rfl (how2.alloc _) ⟨W2.heap.size, 0, none⟩ 1 1 [.string ⟨kk.toArray⟩] rfl rfl (cell_one_new _ _ _) (by simp [Value.oneCell']) (by unfold maxLen; omega) (by omega) (by have := HBW.out.size; simp; omega) ?_; intro v' w3 hown' hgrow _; obtain ⟨g', cap', rfl⟩ := ownsRow_succ hown'; have HOW := hid hown'; have HB3 := hid ((HBW.out.alloc HBW.out.size _).grown hgrow (by have := HBW.out.size; simp; omega) (fun k hk => (how2.lt k hk).1)); clear hown' hgrow))
        go_roundw
        case rel => first | exact ⟨m + 1, by omega, by rw [HLS.out], by go_num, HB3.out, HGO.out.symm.trans HCK.out, by rw [HTK.out, List.map_append]; exact HOW.out⟩ | ((repeat apply Exists.intro); refine ⟨⟨m + 1, by omega, by rw [HLS.out], by go_num, HB3.out, HGO.out.symm.trans HCK.out, by rw [HTK.out, List.map_append]; exact HOW.out⟩, ?_⟩; repeat (first | exact rfl | refine ⟨rfl, ?_⟩))
        case measure => simp [intOf]; omega
      | true =>
        by_cases hvz : vv = []
        · subst hvz
          have HNB := hid (show ¬ (ltB la kk = false ∨ (true = true ∧ ([] : List UInt8) ≠ [])) by simp [ltB, hlt])
          by_cases h64 : 64 < kk.length
          · have hkI : (64 : Int) < (kk.length : Int) := by omega
            go_wp2_with (rw [← HW.out])
            have HBF := hid (rbuild_bad HNE.out (HCK.out.symm.trans (HST.out.trans ((if_neg HNB.out).trans (if_pos (.inl h64))))) (by decide))
            refine bodyPost_ret (results_tmp2 rfl _ _ _) rfl ⟨?_, HBW.out⟩
            rw [HBF.out]
            rfl
          have hkI : ¬ (64 : Int) < (kk.length : Int) := by omega
          by_cases h81 : 8192 < ([] : List UInt8).length
          · exact absurd h81 (by simp)
          have hvI : ¬ (8192 : Int) < (([] : List UInt8).length : Int) := by omega
          have HGO := hid (HST.out.trans ((if_neg HNB.out).trans (if_neg (fun q => q.elim h64 h81))))
          go_wp2_with (first | rw [← HW.out] | (at_builtin; refine wpList_append_own _ rfl _ _ 53 rfl w.heap.size 9 i0 (.string .empty) 1 16 Try.underlying53 HI.out HZ0.out HZ1.out HZ2.out rfl (by decide) _ _ _ rfl (how2.alloc _) ⟨W2.heap.size, 0, none⟩ 1 1 [.string ⟨kk.toArray⟩] rfl rfl (cell_one_new _ _ _) (by simp [Value.oneCell']) (by unfold maxLen; omega) (by omega) (by have := HBW.out.size; simp; omega) ?_; intro v' w3 hown' hgrow _; obtain ⟨g', cap', rfl⟩ := ownsRow_succ hown'; have HOW := hid hown'; have HB3 := hid ((HBW.out.alloc HBW.out.size _).grown hgrow (by have := HBW.out.size; simp; omega) (fun k hk => (how2.lt k hk).1)); clear hown' hgrow))
          go_roundw
          case rel => first | exact ⟨m + 1, by omega, by rw [HLS.out], by go_num, HB3.out, HGO.out.symm.trans HCK.out, by rw [HTK.out, List.map_append]; exact HOW.out⟩ | ((repeat apply Exists.intro); refine ⟨⟨m + 1, by omega, by rw [HLS.out], by go_num, HB3.out, HGO.out.symm.trans HCK.out, by rw [HTK.out, List.map_append]; exact HOW.out⟩, ?_⟩; repeat (first | exact rfl | refine ⟨rfl, ?_⟩))
          case measure => simp [intOf]; omega
        · have hvz3 : (vv == ([] : List UInt8)) = false := by simp [hvz]
          have hvz4 : (vv != ([] : List UInt8)) = true := by simp [hvz]
          go_wp2_with (rw [← HW.out])
          have HBF := hid (rbuild_bad HNE.out (HCK.out.symm.trans (HST.out.trans (if_pos (.inr (by simp [hvz]))))) (by decide))
          refine bodyPost_ret (results_tmp2 rfl _ _ _) rfl ⟨?_, HBW.out⟩
          rw [HBF.out]
          rfl
set_option maxHeartbeats 1600000 in
set_option maxRecDepth 100000 in
theorem rbuild_nil (a : Option Addr) (c : Nat) (w : World) : Calls Try.prog 23 #[.slice a 0 c] w fun e w' => e = .returned (.tuple #[.string ⟨#[]⟩, .int .i64 1]) ∧ Below w.heap.size w w' := by
  go_enter Try.func23, Try.ntmps23
  go_wp2_with fail
  go_ret2
  exact ⟨rfl, Below.refl _ _⟩
theorem rbuild_any (l : List Pr) (v0 : Value) (hl : l.length ≤ 1048576) (hbk : ∀ p ∈ l, p.1.length ≤ 1048576 ∧ p.2.1.length ≤ 1048576) (w : World) (h0 : Sl w v0 3 l.length (l.flatMap prC)) :
    Calls Try.prog 23 #[v0] w fun e w' => e = .returned (.tuple #[.string ⟨(buildF l).1.toArray⟩, .int .i64 (buildF l).2]) ∧ Below w.heap.size w w' := by
  by_cases h : l = []
  · subst h
    obtain ⟨-, -, a', cap, rfl, -⟩ := h0
    have hb : buildF [] = ([], 1) := by unfold buildF; rw [if_pos rfl]
    rw [hb]
    exact rbuild_nil a' cap w
  · exact rbuild_in l v0 hl hbk w h0 h
end Go.Proofs.Ytfdbcnpbjabjoaa
