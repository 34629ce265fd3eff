/- CONTRACT: wherryref07.Open. -/
import Derived.Test.YtfdbcnpbjabjoaaTabROP
import Derived.Test.YtfdbcnpbjabjoaaBloomRef
import Derived.Test.YtfdbcnpbjabjoaaTabScan2
import Derived.Test.YtfdbcnpbjabjoaaTabChunk
namespace Go.Proofs.Ytfdbcnpbjabjoaa
open Go.RowKit Go.Shelf
set_option linter.unusedVariables false
set_option linter.unusedSimpArgs false

def ROpenPost (o : Option (List Pr)) (B : Nat) (e : Ending) (w' : World) : Prop :=
  match o with
  | some l => ∃ v, e = .returned (.tuple #[v, .int .i64 0]) ∧ w'.ownsRow B 70 3 v l.length (l.flatMap prC)
  | none => e = .returned (.tuple #[.slice none 0 0, .int .i64 60])
/-- in the walk: the reader stands behind w1; the pairs behind it -/
structure RoS (w1 : World) (r : List UInt8) (b : Bool) (av : Value) (acc : List Pr) (W : World) : Prop where
  rd : RRdr W w1.heap.size r b
  sn : Sane r b
  rl : r.length ≤ 1048576
  ow : W.ownsRow (w1.heap.size + 1) 70 3 av acc.length (acc.flatMap prC)
  bl : Below w1.heap.size w1 W
variable {w1 W W' : World} {r r' : List UInt8} {b b' : Bool} {av : Value} {acc : List Pr}
theorem RoS.below (h : RoS w1 r b av acc W) (hb : Below W.heap.size W W') : RoS w1 r b av acc W' :=
  ⟨h.rd.keep hb, h.sn, h.rl, h.ow.kept (row := none) ⟨hb.os, hb.tape, hb.output, hb.size, fun k hk _ => hb.block k hk⟩ (by cases av.ownBlock <;> simp), bnext h.bl hb⟩
theorem RoS.read (h : RoS w1 r b av acc W) (a : At w1.heap.size W W') (hr : RRdr W' w1.heap.size r' b') (hs : Sane r' b') (hl : r'.length ≤ r.length) : RoS w1 r' b' av acc W' :=
  ⟨hr, hs, Nat.le_trans hl h.rl, h.ow.kept a (by
    cases hv : av.ownBlock with
    | none => exact .inl rfl
    | some k =>
      refine .inr fun e => ?_
      have h1 := (h.ow.lt k hv).1
      have h2 := Option.some.inj e
      omega), At.below h.bl a (Nat.le_refl _)⟩
theorem RoS.more (h : RoS w1 r b av acc W) {av' : Value} {x : List Pr} (ho : W'.ownsRow (w1.heap.size + 1) 70 3 av' (acc.length + x.length) (acc.flatMap prC ++ x.flatMap prC)) (hg : W.grownBy W' av.ownBlock) : RoS w1 r b av' (acc ++ x) W' :=
  ⟨h.rd.of_block (hg.block _ h.rd.lt (fun e => by have := (h.ow.lt _ e.symm).1; omega)), h.sn, h.rl, by rw [List.length_append, List.flatMap_append]; exact ho,
   h.bl.grown hg h.bl.size (fun k e => by have := (h.ow.lt k e).1; omega)⟩
theorem takeF_bodyR (r : List UInt8) (b : Bool) (n : Int) : (takeF r b n).1.length ≤ r.length := by
  unfold takeF
  split
  · simp
  · split
    · simp
    · simp only [List.length_take]; omega
theorem textF_bodyR (r : List UInt8) (b : Bool) : (textF r b).1.length ≤ r.length := Nat.le_trans (takeF_bodyR _ _ _) (numF_len r b)
theorem rloop_ok : ∀ (bs : List (List UInt8)) (last r : List UInt8) (b : Bool) (l : List Pr) (y : List UInt8 × Bool), rloopF last r b bs = some (l, y) → ∀ p ∈ l, PrOk p
  | [], last, r, b, l, y, h => by
    rw [rloopF] at h
    cases h
    simp
  | bk :: bs, last, r, b, l, y, h => by
    rw [rloopF] at h
    cases hp : pairsL bk with
    | none => rw [hp] at h; cases h
    | some x =>
      rw [hp] at h
      simp only at h
      split at h
      · cases hq : rloopF (lastK last x) (textF r b).2.1 (textF r b).2.2 bs with
        | none => rw [hq] at h; cases h
        | some z =>
          obtain ⟨l', y'⟩ := z
          rw [hq] at h
          simp only [Option.map_some, Option.some.injEq, Prod.mk.injEq] at h
          obtain ⟨rfl, -⟩ := h
          intro p hm
          rcases List.mem_append.1 hm with hm | hm
          · exact (pairsL_iff.1 hp).1 p hm
          · exact rloop_ok bs _ _ _ l' y' hq p hm
      · cases h
theorem le_ofO {a b : List UInt8} (h : Op.bytesLess b a = false) : Op.bytesLess a b = true ∨ a = b := (ltB_tot h).elim (fun e => .inr e.symm) .inl
theorem nle_ofO {a b : List UInt8} (h : Op.bytesLess b a = true) : Op.bytesLess a b = false ∧ ¬ a = b := by
  have := leB_eq a b
  rw [show ltB b a = true from h] at this
  simpa [ltB] using this
set_option maxRecDepth 100000 in
set_option maxHeartbeats 16000000 in
theorem ropen_any (s : List UInt8) (hs : s.length ≤ 5242880) (w : World) : Calls Try.prog 25 #[.string ⟨s.toArray⟩] w fun e w' => ROpenPost (openR s) w.heap.size e w' ∧ Below w.heap.size w w' := by
  go_enter Try.func25, Try.ntmps25
  go_wp2_with fail
  refine (rscan_any s (by omega) w).mono ?_
  rintro _ w1 ⟨v1, rfl, ho1, hcnt, b1⟩
  obtain ⟨a1, c1, rfl⟩ := ownsRow_slice ho1
  rw [List.length_map] at *
  have hsc := scan_count s.length s (Nat.le_refl _)
  have hsI : (s.length : Int) ≤ 5242880 := by omega
  have hsI0 : (0 : Int) ≤ (s.length : Int) := Int.natCast_nonneg _
  by_cases hbad : (scanL s).2 ≠ [] ∨ (scanL s).1.length < 2
  · have HN := hid (openR_none hbad)
    have HB := hid b1
    have hd : (scanL s).2.length ≠ 0 ∨ (scanL s).1.length < 2 := hbad.imp (fun q e => q (List.eq_nil_of_length_eq_zero e)) id
    have hle := hsc.1
    clear hbad hcnt ho1 b1 hsc
    generalize (scanL s).2.length = lr at *
    generalize (scanL s).1.length = M at *
    by_cases hr : lr = 0
    · have hM2 : (M : Int) < 2 := by omega
      have he : (((s.length - lr : Nat) : Int) != (s.length : Int)) = false := by simp; omega
      clear hd hr hle
      go_wp2_with fail
      go_ret2
      exact ⟨by rw [HN.out]; rfl, HB.out⟩
    · have he : (((s.length - lr : Nat) : Int) != (s.length : Int)) = true := by simp; omega
      clear hd hr hle
      go_wp2_with fail
      go_ret2
      exact ⟨by rw [HN.out]; rfl, HB.out⟩
  · simp only [not_or, Decidable.not_not] at hbad
    obtain ⟨hr0, hM2⟩ := hbad
    obtain ⟨bs, ft, hbf⟩ : ∃ bs ft, (scanL s).1 = bs ++ [ft] := by
      refine ⟨(scanL s).1.dropLast, (scanL s).1.getLast (fun e => by rw [e] at hM2; simp at hM2), ?_⟩
      rw [List.dropLast_concat_getLast]
    have hsp : scanL s = (bs ++ [ft], []) := Prod.ext hbf hr0
    have hM : (scanL s).1.length = bs.length + 1 := by rw [hbf]; simp
    have hb0 : bs ≠ [] := fun e => by rw [hM, e] at hM2; simp at hM2
    have hQ := hid (openR_go hsp hb0)
    have hlens : ∀ b ∈ bs ++ [ft], b.length ≤ 1048576 := fun b q => (scan_five s.length s (Nat.le_refl _)).2 b (by rw [hbf]; exact q)
    have HLN := hid hlens
    have hbl : bs.length ≤ 1048576 := by have h5 := (scan_five s.length s (Nat.le_refl _)).1; rw [hM] at h5; omega
    have hb1 : 1 ≤ bs.length := by rw [hM] at hM2; omega
    have hS : Sl w1 (.slice a1 (bs.length + 1) c1) 1 (bs.length + 1) ((bs ++ [ft]).map strV) := by
      have q := OwnV.sl ho1 (by rw [List.length_map, hM]; unfold maxLen; omega)
      rw [List.length_map, hM, hbf] at q
      exact q
    rw [hM, hr0]
    have hft := hlens ft (by simp)
    obtain ⟨_, _, a', cap', hv, hc⟩ := hS
    rw [Value.slice.injEq] at hv
    obtain ⟨rfl, -, rfl⟩ := hv
    obtain ⟨b, off, rfl, hblt, hc⟩ := hc.resolve_left (by omega)
    have hcf : w1.cell? ⟨b, off + bs.length, none⟩ = some (.string ⟨ft.toArray⟩) := by
      rw [hc bs.length (by simp)]
      simp [strV]
    have HCB := hid (fun (V : World) (q : Below w1.heap.size w1 V) (j : Nat) (h : j < bs.length) => (show V.cell? ⟨b, off + j, none⟩ = some (.string ⟨bs[j].toArray⟩) from by
      rw [q.cell (p := ⟨b, off + j, none⟩) hblt, hc j (by simp; omega), List.getElem_map, List.getElem_append_left h]; rfl))
    obtain ⟨N, hN⟩ : ∃ N, N = bs.length := ⟨_, rfl⟩
    have HB1 := hid b1
    have HBN := hid hN
    rw [← hN] at hb1 hbl hcf ⊢
    have hNi : (0 : Int) ≤ (N : Int) := by omega
    have hNj : (N : Int) < (N : Int) + 1 := by omega
    have hNI : (N : Int) ≤ 1048576 := by omega
    have hge : ¬ ((N : Int) + 1 < 2) := by omega
    clear hsc hcnt ho1 hM2 hr0 hbf hsp hM hb0 hlens hc b1 hN
    obtain ⟨w2, hw2⟩ : ∃ x, x = w1.alloc (.cells #[.string ⟨ft.toArray⟩, .bool false] 121) := ⟨_, rfl⟩
    have b2 : Below w1.heap.size w1 w2 := by rw [hw2]; exact (Below.refl _ _).alloc (Nat.le_refl _) _
    have hS2 : RoS w1 ft false (.slice none 0 0) [] w2 := ⟨by rw [hw2]; exact Obj2.new _ _ _ _, fun h => (by cases h), hft, World.ownsRow_nil _ _ _ _, b2⟩
    have hi := rint_any_r w1.heap.size ft false (s.length : Int) w2 hS2.rd hS2.sn (by unfold maxLen; omega) (by omega) (by omega)
    have hsn := sane_intF (s.length : Int) hS2.sn
    have HW2 := hid hw2
    obtain ⟨n0, r0, b0, h0⟩ : ∃ c0 r0 b0, intF ft false (s.length : Int) = (c0, r0, b0) := ⟨_, _, _, rfl⟩
    have l0 := intF_len ft false (s.length : Int)
    have u0 := intF_le (r := ft) (b := false) (m := (s.length : Int)) (by omega)
    rw [h0] at hi l0 hsn u0
    simp only at hi l0 hsn u0
    clear hw2 b2
    go_wp2_with (rw [← HW2.out])
    refine hi.mono ?_
    rintro _ w3 ⟨rfl, hr3, a3⟩
    have hS3 := hid (hS2.read a3 hr3 hsn l0)
    have HBW := hid (fun (w' : World) (q : Below w1.heap.size w1 w') => bnext HB1.out q)
    clear hi hr3 a3 HW2 hS2 hcf
    by_cases hc0 : n0 = N
    case neg =>
      have he : ((n0 : Int) != (N : Int)) = true := by simp; omega
      have HN := hid (show openR s = none by rw [hQ.out, if_pos (by rw [← HBN.out, h0]; exact hc0)])
      clear hc0
      go_wp2_with fail
      go_ret2
      exact ⟨by rw [HN.out]; rfl, HBW.out _ hS3.out.bl⟩
    subst hc0
    have HQ := hid (show openR s = endR (rloopF [] r0 b0 bs) by rw [hQ.out, if_neg (by rw [← HBN.out, h0]; exact not_not_intro rfl), h0])
    clear h0 hQ
    go_wp2_with fail
    have HIP := infoPr
    go_loopw [7, 8, 9] (fun v la i wr => ∃ (j : Nat) (r : List UInt8) (bb : Bool) (acc : List Pr) (last : List UInt8), j ≤ n0 ∧ la = .string ⟨last.toArray⟩ ∧ i = .int .i64 j ∧ RoS w1 r bb v acc wr ∧ RkAt r0 b0 bs j last r bb acc) (fun v la i _ => n0 - (intOf i).toNat)
    case atStart => exact ⟨0, r0, b0, [], [], by omega, rfl, rfl, hS3.out, RkAt.start _ _ _⟩
    case round =>
      obtain ⟨j, r, bb, acc, last, hj, rfl, rfl, hst, hrk⟩ := hrel
      clear hS3
      obtain ⟨va, vc, rfl⟩ := ownsRow_slice hst.ow
      by_cases hjq : j < n0
      case neg =>
        obtain rfl : j = n0 := by omega
        clear hjq hj
        have HLO := hid (show rloopF [] r0 b0 bs = some (acc, r, bb) by rw [HBN.out] at hrk; exact hrk.stop)
        have hal := hrk.len
        clear hrk
        have HE := hid (show openR s = endR (some (acc, r, bb)) by rw [HQ.out, HLO.out])
        have HOKP := hid (rloop_ok bs [] r0 b0 acc (r, bb) HLO.out)
        have hrl := hst.rl
        have hi1 := rint_any_r w1.heap.size r bb 1073741824 wr hst.rd hst.sn (by unfold maxLen; omega) (by omega) (by omega)
        have s1 := sane_intF 1073741824 hst.sn
        have l1 := intF_len r bb 1073741824
        have u1 := intF_le (r := r) (b := bb) (m := 1073741824) (by omega)
        have hEB := fun h => endR_bad (l := acc) (r := r) (b := bb) h
        have hEO := fun h => endR_ok (l := acc) (r := r) (b := bb) h
        obtain ⟨cn, r2, b2, h2⟩ : ∃ x y z, intF r bb 1073741824 = (x, y, z) := ⟨_, _, _, rfl⟩
        rw [h2] at hi1 s1 l1 u1 hEB hEO
        simp only at hi1 s1 l1 u1 hEB hEO
        have hT := fun V (q : RRdr V w1.heap.size r2 b2) => rtext_any_r w1.heap.size r2 b2 V q s1 (by omega)
        have s2 := sane_textF s1
        have l2 := textF_len r2 b2
        obtain ⟨fl, r3, b3, h3⟩ : ∃ x y z, textF r2 b2 = (x, y, z) := ⟨_, _, _, rfl⟩
        rw [h3] at hT s2 l2 hEB hEO
        simp only at hT s2 l2 hEB hEO
        have HEB := hid hEB
        have HEO := hid hEO
        have hfl : fl.length ≤ 1048576 := by
          have h4 : (textF r2 b2).1.length ≤ r2.length := textF_bodyR r2 b2
          rw [h3] at h4
          simp only at h4
          omega
        have HST := hid hst
        have hac : acc.length ≤ 8388608 := by omega
        clear hEB hEO h2 h3 hrl hst
        go_wp2_with fail
        refine hi1.mono ?_
        rintro _ w2 ⟨rfl, hr2, a2⟩
        go_wp2_with fail
        refine (hT w2 hr2).mono ?_
        rintro _ w3 ⟨rfl, hr3, a3⟩
        have hS3 := hid ((HST.out.read a2 hr2 s1 l1).read a3 hr3 s2 l2)
        have hE := rend_any w1.heap.size r3 b3 w3 hr3
        clear hi1 hT hr2 a2 a3 hr3
        go_wp2_with fail
        refine hE.mono ?_
        rintro _ w4 ⟨rfl, rfl⟩
        clear hE
        have HEN := hid (show endF r3 b3 = endF r3 b3 from rfl)
        cases he : endF r3 b3 with
        | false =>
          have HN := hid (show openR s = none by rw [HE.out, HEB.out (.inl he)])
          clear HEB HEO
          go_wp2_with fail
          go_ret2
          exact ⟨by rw [HN.out]; rfl, HBW.out _ hS3.out.bl⟩
        | true =>
          by_cases hcn : cn = acc.length
          case neg =>
            have HN := hid (show openR s = none by rw [HE.out, HEB.out (.inr (.inl hcn))])
            have hcI : ¬ (cn : Int) = (acc.length : Int) := by omega
            have hcI2 : ((cn : Int) == (acc.length : Int)) = false := by simp; omega
            clear HEB HEO hcn
            go_wp2_with fail
            go_ret2
            exact ⟨by rw [HN.out]; rfl, HBW.out _ hS3.out.bl⟩
          case pos =>
          subst hcn
          by_cases hf1 : fl.length < 1
          · have HN := hid (show openR s = none by rw [HE.out, HEB.out (.inr (.inr (.inl (List.eq_nil_of_length_eq_zero (by omega)))))])
            have hfI : (fl.length : Int) < 1 := by omega
            clear HEB HEO
            go_wp2_with fail
            go_ret2
            exact ⟨by rw [HN.out]; rfl, HBW.out _ hS3.out.bl⟩
          have hfI : ¬ (fl.length : Int) < 1 := by omega
          by_cases hf2 : 8192 < fl.length
          · have HN := hid (show openR s = none by rw [HE.out, HEB.out (.inr (.inr (.inr (.inl hf2))))])
            have hfJ : (8192 : Int) < (fl.length : Int) := by omega
            clear HEB HEO
            go_wp2_with fail
            go_ret2
            exact ⟨by rw [HN.out]; rfl, HBW.out _ hS3.out.bl⟩
          have hfJ : ¬ (8192 : Int) < (fl.length : Int) := by omega
          have HF1 := hid (show 1 ≤ fl.length ∧ fl.length ≤ 8192 by omega)
          have HOK := hid (fun (q : ∀ p ∈ acc, hasL fl p.1 = true) => (show openR s = some acc by
            rw [HE.out, HEO.out (by
              rintro (a | a | a | a | a)
              · rw [he] at a; cases a
              · exact a rfl
              · rw [a] at hf1; simp at hf1
              · exact hf2 a
              · exact a q)]))
          have HNO2 := hid (fun (q : ¬ ∀ p ∈ acc, hasL fl p.1 = true) => (show openR s = none by rw [HE.out, HEB.out (.inr (.inr (.inr (.inr q))))]))
          have hacI : (acc.length : Int) ≤ 8388608 := by omega
          clear HEB HEO
          go_wp2_with fail
          go_loopw [16] (fun i wk => ∃ m : Nat, m ≤ acc.length ∧ i = .int .i64 m ∧ RoS w1 r3 b3 (.slice va acc.length vc) acc wk ∧ ∀ k (hk : k < m), hasL fl ((acc[k]?.getD ([], [], false)).1) = true) (fun i _ => acc.length - (intOf i).toNat)
          case atStart => exact ⟨0, by omega, rfl, hS3.out, fun k hk => by omega⟩
          case round =>
            obtain ⟨m, hm, rfl, hst, hhs⟩ := hrel
            by_cases hmq : m < acc.length
            case neg =>
              obtain rfl : m = acc.length := by omega
              have HN := hid (HOK.out (fun p hp => by
                obtain ⟨i, hi, rfl⟩ := List.getElem_of_mem hp
                have := hhs i hi
                rwa [List.getElem?_eq_getElem hi, Option.getD_some] at this))
              have HOW := hid hst.ow
              have HBL := hid hst.bl
              clear hhs hst
              go_wp2_with fail
              go_ret2
              have hB := HB1.out.size
              exact ⟨by rw [HN.out]; exact ⟨_, rfl, ⟨HOW.out.1, HOW.out.2.imp id (fun ⟨g, cap, cur, e1, e2, e3⟩ => ⟨g, cap, cur, e1, by omega, e3⟩)⟩⟩, HBW.out _ HBL.out⟩
            case pos =>
            obtain ⟨-, g4, c4, hv, hg4, hg4l, hcc, hx4⟩ := own_cells (by omega) prC_len hst.ow (by omega)
            rw [Value.slice.injEq] at hv
            obtain ⟨rfl, -, rfl⟩ := hv
            have q0 := hx4 m hmq 0 _ rfl
            rw [Nat.add_zero] at q0
            have hk64 := (HOKP.out acc[m] (List.getElem_mem hmq)).k64
            have HNX := hid (fun (q : hasL fl (acc[m]).1 = true) (k : Nat) (hk : k < m + 1) => (show hasL fl ((acc[k]?.getD ([], [], false)).1) = true from by
              by_cases e : k = m
              · subst e; rw [List.getElem?_eq_getElem hmq]; exact q
              · exact hhs k (by omega)))
            have HNN := hid (fun (q : hasL fl (acc[m]).1 = false) => (show openR s = none from HNO2.out (fun h => by
              have := h acc[m] (List.getElem_mem hmq)
              rw [q] at this; cases this)))
            obtain ⟨km, hkm⟩ : ∃ y, y = acc[m].1 := ⟨_, rfl⟩
            dsimp only [strV] at q0
            rw [← hkm] at q0 hk64 HNX HNN
            have HST4 := hid hst
            have hmi : (m : Int) < (acc.length : Int) := by omega
            have hm0 : (0 : Int) ≤ (m : Int) := Int.natCast_nonneg _
            have hH := rhas_yes fl km HF1.out.1 HF1.out.2 (by unfold maxLen; omega) wr
            clear hkm hhs hst hx4 hcc
            go_wp2_with fail
            refine hH.mono ?_
            rintro _ w5 ⟨rfl, hb5⟩
            have HS5 := hid (HST4.out.below hb5)
            cases hh : hasL fl km with
            | false =>
              have HN := hid (HNN.out hh)
              go_wp2_with fail
              go_ret2
              exact ⟨by rw [HN.out]; rfl, HBW.out _ HS5.out.bl⟩
            | true =>
              have HNX2 := hid (HNX.out hh)
              go_wp2_with fail
              go_roundw
              case rel => exact ⟨m + 1, by omega, by go_num, HS5.out, HNX2.out⟩
              case measure => simp [intOf]; omega
      case pos =>
      have hjb : j < bs.length := by rw [← HBN.out]; exact hjq
      have hcj := HCB.out wr hst.bl j hjb
      have hbj := HLN.out bs[j] (List.mem_append_left _ (List.getElem_mem hjb))
      have hpr := rpairs_any bs[j] hbj wr
      have hji : (j : Int) < (n0 : Int) + 1 - 1 := by omega
      have hji2 : (j : Int) < (n0 : Int) + 1 := by omega
      have hji3 : (j : Int) < (n0 : Int) := by omega
      have hj0 : (0 : Int) ≤ (j : Int) := Int.natCast_nonneg _
      have HST := hid hst
      have HRK := hid hrk
      have HT := hid (fun (V : World) (q : RoS w1 r bb (.slice va acc.length vc) acc V) => rtext_any_r w1.heap.size r bb V q.rd q.sn (by have := q.rl; omega))
      have htl := textF_len r bb
      have hts := sane_textF hst.sn
      have HNO := hid (fun q => hrk.no hjb q)
      have HBD := hid (fun x q h => hrk.bad (x := x) hjb q h)
      have HNX := hid (fun x q h => hrk.next (x := x) hjb q h)
      rw [← HBN.out] at HBD HNX
      obtain ⟨tx, r', b2, ht⟩ : ∃ t r' b2, textF r bb = (t, r', b2) := ⟨_, _, _, rfl⟩
      rw [ht] at HT htl hts HBD HNX
      simp only at HT htl hts HBD HNX
      generalize bs[j] = bj at *
      clear ht hst hrk
      cases hok : okP bj with
      | none =>
        have HN := hid (show openR s = none by rw [HQ.out, HNO.out hok]; rfl)
        rw [hok] at hpr
        clear HNO HBD HNX hok
        go_wp2_with fail
        refine hpr.mono ?_
        rintro _ w4 ⟨⟨v4, rfl⟩, hb4⟩
        have hs4 := HST.out.below hb4
        go_wp2_with fail
        refine (HT.out w4 hs4).mono ?_
        rintro _ w5 ⟨rfl, hr5, a5⟩
        have HS5 := hid (hs4.read a5 hr5 hts htl)
        clear hs4 hr5 a5 hb4
        go_wp2_with fail
        go_ret2
        exact ⟨by rw [HN.out]; rfl, HBW.out _ HS5.out.bl⟩
      | some x =>
        have hx := (okP_some hok).2
        have HBX := hid (HBD.out x hok)
        have HNX2 := hid (HNX.out x hok)
        rw [hok] at hpr
        clear HNO HBD HNX hok
        go_wp2_with fail
        refine hpr.mono ?_
        rintro _ w4 ⟨⟨v4, rfl, how4⟩, hb4⟩
        have hs4 := HST.out.below hb4
        have hwl : w1.heap.size + 1 ≤ wr.heap.size := HST.out.rd.lt
        obtain ⟨-, g4, c4, rfl, hg4, hg4l, hcc, hx4⟩ := own_cells (by omega) prC_len how4 (List.length_pos_iff.2 hx.1)
        go_wp2_with fail
        refine (HT.out w4 hs4).mono ?_
        rintro _ w5 ⟨rfl, hr5, a5⟩
        have hs5 := hs4.read a5 hr5 hts htl
        have HX5 := hid (fun (i : Nat) (hi : i < x.length) (jj : Nat) (u : Value) (q : (prC x[i])[jj]? = some u) => ((World.cell?_of_block (a5.block g4 hg4l (by simp; omega))).trans (hx4 i hi jj u q) : w5.cell? ⟨g4, i * 3 + jj, none⟩ = some u))
        have HS5 := hid hs5
        have HOW5 := hid (show w5.ownsRow wr.heap.size 70 3 (.slice (some ⟨g4, 0, none⟩) x.length c4) x.length (x.flatMap prC) from how4.kept a5 (.inr (by simp [Value.ownBlock]; omega)))
        have HG4 := hid (show g4 < w5.heap.size from Nat.lt_of_lt_of_le hg4l a5.size)
        have d1 := hs5.rd.c1
        have hx0 := List.length_pos_iff.2 hx.1
        have hk0 : w5.cell? ⟨g4, 0, none⟩ = some (.string ⟨(x[0]'hx0).1.toArray⟩) := by
          have := HX5.out 0 hx0 0 _ rfl
          rw [Nat.zero_mul] at this
          exact this
        have hhd : headK x = (x[0]'hx0).1 := by cases x with | nil => cases hx0 | cons p q => rfl
        have hx8 := hx.2
        have hxI : (x.length : Int) ≤ 8 := by omega
        have hxp : (0 : Int) < (x.length : Int) := by omega
        have HXN := hid hx.1
        generalize (x[0]'hx0).1 = k0 at *
        clear hpr hs4 hr5 a5 hb4 how4 hx4 hs5 hx hcc
        have HHD := hid hhd
        clear hhd
        cases b2 with
        | true =>
          have HN := hid (show openR s = none by rw [HQ.out, HBX.out (fun q => by cases q.2)]; rfl)
          clear HBX HNX2
          go_wp2_with fail
          go_ret2
          exact ⟨by rw [HN.out]; rfl, HBW.out _ HS5.out.bl⟩
        | false =>
          by_cases hk : k0 = tx
          case neg =>
            have HN := hid (show openR s = none by rw [HQ.out, HBX.out (fun q => hk (HHD.out.symm.trans q.1.2.2.2.1))]; rfl)
            have hk1 : (k0 == tx) = false := by simp [hk]
            clear HBX HNX2
            go_wp2_with fail
            go_ret2
            exact ⟨by rw [HN.out]; rfl, HBW.out _ HS5.out.bl⟩
          case pos =>
          subst hk
          by_cases hm : j + 1 < n0 ∧ x.length ≠ 8
          · have HN := hid (show openR s = none by rw [HQ.out, HBX.out (fun q => hm.2 (q.1.2.2.1 (decide_eq_true hm.1)))]; rfl)
            have hm1 : (j : Int) < (n0 : Int) + 1 - 2 := by omega
            have hm2 : ¬ (x.length : Int) = 8 := by omega
            have hm3 : ((x.length : Int) == 8) = false := by simp; omega
            clear HBX HNX2 hm
            go_wp2_with fail
            go_ret2
            exact ⟨by rw [HN.out]; rfl, HBW.out _ HS5.out.bl⟩
          · have HMO := hid (show decide (j + 1 < n0) = true → x.length = 8 from fun q => by
              have := of_decide_eq_true q
              omega)
            by_cases hm4 : j + 1 < n0
            · have hm1 : (j : Int) < (n0 : Int) + 1 - 2 := by omega
              have hm2 : (x.length : Int) = 8 := by omega
              clear hm hm4
              have HBK := hid (fun (q : ascB last x) => (⟨HXN.out, hx8, HMO.out, HHD.out, q⟩ : BlkOk last k0 (decide (j + 1 < n0)) x))
              have HAL := hid HRK.out.len
              go_wp2_with fail
              go_loopw [8, 13] (fun la k wk => ∃ m : Nat, m ≤ x.length ∧ la = .string ⟨(lastK last (x.take m)).toArray⟩ ∧ k = .int .i64 m ∧ wk = w5 ∧ ascB last (x.take m)) (fun la k _ => x.length - (intOf k).toNat)
              case atStart => exact ⟨0, by omega, rfl, rfl, rfl, trivial⟩
              case round =>
                obtain ⟨m, hm, rfl, rfl, rfl, has⟩ := hrel
                by_cases hmq : m < x.length
                case neg =>
                  obtain rfl : m = x.length := by omega
                  rw [List.take_length] at has ⊢
                  have HNX3 := hid (HNX2.out ⟨HBK.out has, trivial⟩)
                  have hsl := Sl.of_own HOW5.out (by unfold maxLen; omega)
                  have hone : ∀ u ∈ x.flatMap prC, u.oneCell' = true := fun u hu => by
                    obtain ⟨p, -, hp⟩ := List.mem_flatMap.1 hu
                    exact prC_one p u hp
                  have hrow := HS5.out.ow
                  have hac : acc.length ≤ 8388608 := by have := HAL.out; omega
                  have HX8 := hid hx8
                  clear hk0 d1 hmq hm has
                  go_wp2_with (at_builtin; refine wpList_append_sl _ rfl _ _ 55 rfl (w1.heap.size + 1) 70 (.agg #[.string .empty, .string .empty, .bool false]) 3 40 Try.underlying55 infoPr rfl (by decide) (.slice va acc.length vc) acc.length (acc.flatMap prC) rfl hrow (.slice (some ⟨g4, 0, none⟩) x.length c4) x.length (x.flatMap prC) rfl hsl hone (by unfold maxLen; omega) (by omega) wr HS5.out.rd.lt (Below.refl _ _) ?_; intro v6 w6 ho6 _ hg6; have HS6 := hid (HS5.out.more ho6 hg6); clear ho6 hg6 hrow hsl)
                  go_roundw
                  case rel => exact ⟨j + 1, r', false, acc ++ x, lastK last x, by omega, rfl, by go_num, HS6.out, HNX3.out⟩
                  case measure => simp [intOf]; omega
                case pos =>
                  have hlk := lastK_succ last hmq
                  have hkc := HX5.out m hmq 0 _ rfl
                  dsimp only [strV] at hkc
                  rw [Nat.add_zero] at hkc
                  have HAB := hid (fun q => asc_bad (last := last) hmq q)
                  have HAN := hid (fun q => asc_next (last := last) hmq has q)
                  obtain ⟨la, hla⟩ : ∃ y, y = lastK last (x.take m) := ⟨_, rfl⟩
                  rw [← hla] at HAB HAN ⊢
                  obtain ⟨km, hkm⟩ : ∃ y, y = x[m].1 := ⟨_, rfl⟩
                  rw [← hkm] at hkc HAB HAN hlk
                  have HLK := hid hlk
                  have hmi : (m : Int) < (x.length : Int) := by omega
                  have hm0 : (0 : Int) ≤ (m : Int) := Int.natCast_nonneg _
                  clear hla hkm hlk has hk0 d1
                  cases hlt : Op.bytesLess la km with
                  | false =>
                    have HN := hid (show openR s = none by rw [HQ.out, HBX.out (fun q => HAB.out hlt q.1.2.2.2.2)]; rfl)
                    clear HBX HNX2 HAB HAN
                    rcases le_ofO hlt with hle | hle
                    · go_wp2_with fail
                      go_ret2
                      exact ⟨by rw [HN.out]; rfl, HBW.out _ HS5.out.bl⟩
                    · subst hle
                      go_wp2_with fail
                      go_ret2
                      exact ⟨by rw [HN.out]; rfl, HBW.out _ HS5.out.bl⟩
                  | true =>
                    obtain ⟨hle1, hle2⟩ := nle_ofO hlt
                    have hle3 : (km == la) = false := by simp [hle2]
                    have HAS := hid (HAN.out hlt)
                    go_wp2_with fail
                    go_roundw
                    case rel => exact ⟨m + 1, by omega, by rw [HLK.out], by go_num, trivial, HAS.out⟩
                    case measure => simp [intOf]; omega
            · have hm1 : ¬ (j : Int) < (n0 : Int) + 1 - 2 := by omega
              clear hm hm4
              have HBK := hid (fun (q : ascB last x) => (⟨HXN.out, hx8, HMO.out, HHD.out, q⟩ : BlkOk last k0 (decide (j + 1 < n0)) x))
              have HAL := hid HRK.out.len
              go_wp2_with fail
              go_loopw [8, 13] (fun la k wk => ∃ m : Nat, m ≤ x.length ∧ la = .string ⟨(lastK last (x.take m)).toArray⟩ ∧ k = .int .i64 m ∧ wk = w5 ∧ ascB last (x.take m)) (fun la k _ => x.length - (intOf k).toNat)
              case atStart => exact ⟨0, by omega, rfl, rfl, rfl, trivial⟩
              case round =>
                obtain ⟨m, hm, rfl, rfl, rfl, has⟩ := hrel
                by_cases hmq : m < x.length
                case neg =>
                  obtain rfl : m = x.length := by omega
                  rw [List.take_length] at has ⊢
                  have HNX3 := hid (HNX2.out ⟨HBK.out has, trivial⟩)
                  have hsl := Sl.of_own HOW5.out (by unfold maxLen; omega)
                  have hone : ∀ u ∈ x.flatMap prC, u.oneCell' = true := fun u hu => by
                    obtain ⟨p, -, hp⟩ := List.mem_flatMap.1 hu
                    exact prC_one p u hp
                  have hrow := HS5.out.ow
                  have hac : acc.length ≤ 8388608 := by have := HAL.out; omega
                  have HX8 := hid hx8
                  clear hk0 d1 hmq hm has
                  go_wp2_with (at_builtin; refine wpList_append_sl _ rfl _ _ 55 rfl (w1.heap.size + 1) 70 (.agg #[.string .empty, .string .empty, .bool false]) 3 40 Try.underlying55 infoPr rfl (by decide) (.slice va acc.length vc) acc.length (acc.flatMap prC) rfl hrow (.slice (some ⟨g4, 0, none⟩) x.length c4) x.length (x.flatMap prC) rfl hsl hone (by unfold maxLen; omega) (by omega) wr HS5.out.rd.lt (Below.refl _ _) ?_; intro v6 w6 ho6 _ hg6; have HS6 := hid (HS5.out.more ho6 hg6); clear ho6 hg6 hrow hsl)
                  go_roundw
                  case rel => exact ⟨j + 1, r', false, acc ++ x, lastK last x, by omega, rfl, by go_num, HS6.out, HNX3.out⟩
                  case measure => simp [intOf]; omega
                case pos =>
                  have hlk := lastK_succ last hmq
                  have hkc := HX5.out m hmq 0 _ rfl
                  dsimp only [strV] at hkc
                  rw [Nat.add_zero] at hkc
                  have HAB := hid (fun q => asc_bad (last := last) hmq q)
                  have HAN := hid (fun q => asc_next (last := last) hmq has q)
                  obtain ⟨la, hla⟩ : ∃ y, y = lastK last (x.take m) := ⟨_, rfl⟩
                  rw [← hla] at HAB HAN ⊢
                  obtain ⟨km, hkm⟩ : ∃ y, y = x[m].1 := ⟨_, rfl⟩
                  rw [← hkm] at hkc HAB HAN hlk
                  have HLK := hid hlk
                  have hmi : (m : Int) < (x.length : Int) := by omega
                  have hm0 : (0 : Int) ≤ (m : Int) := Int.natCast_nonneg _
                  clear hla hkm hlk has hk0 d1
                  cases hlt : Op.bytesLess la km with
                  | false =>
                    have HN := hid (show openR s = none by rw [HQ.out, HBX.out (fun q => HAB.out hlt q.1.2.2.2.2)]; rfl)
                    clear HBX HNX2 HAB HAN
                    rcases le_ofO hlt with hle | hle
                    · go_wp2_with fail
                      go_ret2
                      exact ⟨by rw [HN.out]; rfl, HBW.out _ HS5.out.bl⟩
                    · subst hle
                      go_wp2_with fail
                      go_ret2
                      exact ⟨by rw [HN.out]; rfl, HBW.out _ HS5.out.bl⟩
                  | true =>
                    obtain ⟨hle1, hle2⟩ := nle_ofO hlt
                    have hle3 : (km == la) = false := by simp [hle2]
                    have HAS := hid (HAN.out hlt)
                    go_wp2_with fail
                    go_roundw
                    case rel => exact ⟨m + 1, by omega, by rw [HLK.out], by go_num, trivial, HAS.out⟩
                    case measure => simp [intOf]; omega
end Go.Proofs.Ytfdbcnpbjabjoaa
