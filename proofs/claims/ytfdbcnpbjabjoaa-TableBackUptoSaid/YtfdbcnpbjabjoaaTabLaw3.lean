/- CONTRACT: wherrylaw07.TableBack. -/
import Derived.Test.YtfdbcnpbjabjoaaTabAwake
import Derived.Test.YtfdbcnpbjabjoaaTabSame
import Derived.Test.YtfdbcnpbjabjoaaTabLaid
import Derived.Test.YtfdbcnpbjabjoaaTabLawP
import Derived.Test.YtfdbcnpbjabjoaaTabIn
namespace Go.Proofs.Ytfdbcnpbjabjoaa
open Go.RowKit Go.Shelf
set_option linter.unusedVariables false
set_option linter.unusedSimpArgs false

theorem find_self : ∀ (l : List Pr) (last : List UInt8), ascB last l → ∀ p ∈ l, findK p.1 l = some p
  | q :: l, last, ha, p, hp => by
    rcases List.mem_cons.1 hp with rfl | hp
    · exact find_eq rfl
    · have h1 := asc_lt ha.2 p hp
      rw [find_ne (fun e => by rw [e, ltB_irr] at h1; cases h1)]
      exact find_self l q.1 ha.2 p hp
set_option maxHeartbeats 16000000 in
set_option maxRecDepth 100000 in
theorem tableBack_v (v0 : Value) (puts : List Pr) (key : List UInt8) (_h2 : key.length ≤ 140737488351232) (w : World) (h0 : Sl w v0 3 puts.length (puts.flatMap prC)) (_hcap : ∀ a n c, v0 = .slice a n c → n ≤ c) (hw : wtP puts ≤ 1048576) (hk : key.length ≤ 1048576) :
    Calls Try.prog 9 #[v0, .string ⟨key.toArray⟩] w fun e w' => e = .returned (.bool true) ∧ Below w.heap.size w w' := by
  obtain ⟨L, hL⟩ : ∃ L, L = laidP puts := ⟨_, rfl⟩
  have hok : LaidOk L := by rw [hL]; exact laid_ok puts
  have hwt : wtP L ≤ 1048576 := by rw [hL]; have := laid_wt puts; omega
  have hln := wtP_len L
  have hlI : (L.length : Int) ≤ 1048576 := by omega
  have HLD := hid (fun (V : World) (q : Below w.heap.size w V) => laid_any v0 puts hw V (h0.below q))
  rw [← hL] at HLD
  have hbk : ∀ p ∈ L, p.1.length ≤ 1048576 ∧ p.2.1.length ≤ 1048576 := fun p hp => by have := wtP_mem hp; omega
  obtain ⟨-, -, a0, c0, rfl, -⟩ := h0
  clear hL
  have HBL := hid (fun (V : World) (a : Option Addr) (c : Nat) (q : Sl V (.slice a L.length c) 3 L.length (L.flatMap prC)) (h : L.length ≤ c) => tbuild_any L (.slice a L.length c) (by omega) hbk V q (fun a' n' c' e => by rw [Value.slice.injEq] at e; omega))
  go_enter Try.func9, Try.ntmps9
  go_wp2_with fail
  refine (awake_any w).mono ?_
  rintro _ w1 ⟨rfl, b1⟩
  go_wp2_with fail
  refine (HLD.out w1 b1).mono ?_
  rintro _ w2 ⟨la, lc, rfl, hs2, hlc, b2⟩
  go_wp2_with fail
  refine (HBL.out w2 la lc hs2 hlc).mono ?_
  rintro _ w3 ⟨rfl, b3⟩
  have hs3 := hs2.below b3
  have hB3 := bnext b1 (bnext b2 b3)
  clear b1 b2 b3 hs2
  by_cases he : (buildF L).2 = 0
  case neg =>
    have HB := hid hB3
    rcases hok.built with h | h | h
    · exact absurd h he
    · subst h
      have e1 : (buildF []).2 = 1 := by unfold buildF; rw [if_pos rfl]
      rw [e1]
      clear he hok hwt hln hbk hs3 hB3 hlc
      go_wp2_with fail
      go_ret
      exact ⟨rfl, HB.out⟩
    · rw [h]
      by_cases hz : L.length = 0
      · have hzI : (L.length : Int) = 0 := by omega
        clear he hok hwt hln hbk hs3 hB3 hlc h
        go_wp2_with fail
        go_ret
        exact ⟨rfl, HB.out⟩
      · have hzI : ¬ (L.length : Int) = 0 := by omega
        have hzI2 : ((L.length : Int) == 0) = false := beq_eq_false_iff_ne.2 hzI
        clear he hok hwt hln hbk hs3 hB3 hlc h
        go_wp2_with fail
        go_ret
        exact ⟨rfl, HB.out⟩
  case pos =>
  have hle := build_wt hok hwt he
  have hop := open_build (by omega) he
  obtain ⟨prs, hg⟩ := open_good hle hop
  rw [he]
  obtain ⟨s, hs⟩ : ∃ s, s = (buildF L).1 := ⟨_, rfl⟩
  rw [← hs] at hle hop ⊢
  have HO := hid (fun V => open_any s hle V)
  rw [hop] at HO
  have HG := hid hg
  obtain ⟨t, ht⟩ : ∃ t, t = (⟨(grp L).map headK, (grp L).map blkL, filtL L, L⟩ : Tb) := ⟨_, rfl⟩
  have htp : t.ps = L := by rw [ht]
  rw [← ht] at HO HG
  have HTP := hid htp
  have HDN := hid (dropK_nil L)
  have HOK := hid hok
  have HB3 := hid hB3
  have HS3 := hid hs3
  have HLC := hid hlc
  clear hs ht hop hle hg he hB3 hs3 hbk HBL hwt hok hlc
  go_wp2_with fail
  refine (HO.out w3).mono ?_
  rintro _ w4 ⟨⟨g, rfl, ht4, -⟩, b4⟩
  have HT4 := hid ht4
  have HS4 := hid (HS3.out.below b4)
  have HB4 := hid (bnext HB3.out b4)
  have HLN := hid (tlen_any g t w4 ht4)
  rw [htp] at HLN
  clear ht4 b4 htp
  go_wp2_with fail
  refine HLN.out.mono ?_
  rintro _ w5 ⟨rfl, hw5⟩
  subst hw5
  go_wp2_with fail
  refine (from_any g [] w5).mono ?_
  rintro _ we ⟨rfl, hwe⟩
  obtain ⟨e1, e2, be⟩ := from_boxes hwe
  clear hwe
  go_wp2_with fail
  refine (collect_any w5.heap.size g t prs [] HG.out we _ _ e1 e2 (HT4.out.below be)).mono ?_
  rintro _ wf ⟨vf, rfl, hof, bf⟩
  rw [HTP.out, HDN.out] at hof
  have hsf := Sl.of_own hof (by unfold maxLen; omega)
  obtain ⟨af, cf, rfl⟩ := ownsRow_slice hof
  have b5f := bnext be bf
  have hS5 := same_yes L _ _ (by omega) wf hsf (HS4.out.below b5f)
  clear hof e1 e2 be bf hsf
  go_wp2_with fail
  refine hS5.mono ?_
  rintro _ w6 ⟨rfl, b6⟩
  have b56 := bnext b5f b6
  have HT6 := hid (HT4.out.below b56)
  have HS6 := hid (HS4.out.below b56)
  have HB6 := hid (bnext HB4.out b56)
  clear hS5 b5f b6 b56 HT4 HS4 HB4 HLN
  go_wp2_with fail
  go_loopw [61] (fun i wr => ∃ m : Nat, m ≤ L.length ∧ i = .int .i64 m ∧ Below w6.heap.size w6 wr) (fun i _ => L.length - (intOf i).toNat)
  case atStart => exact ⟨0, by omega, rfl, Below.refl _ _⟩
  case round =>
    obtain ⟨m, hm, rfl, hb⟩ := hrel
    by_cases hmq : m < L.length
    case neg =>
      obtain rfl : m = L.length := by omega
      clear hmq hm
      have hsr := HS6.out.below hb
      have HB7 := hid (bnext HB6.out hb)
      have ht7 := HT6.out.below hb
      obtain ⟨w8, hw8⟩ : ∃ y, y = wr.alloc (.cells #[.slice la L.length lc] 68) := ⟨_, rfl⟩
      have b8 : Below wr.heap.size wr w8 := by rw [hw8]; exact (Below.refl _ _).alloc (Nat.le_refl _) _
      have hr8 : RtAt w8 wr.heap.size L := ⟨la, lc, by rw [hw8]; exact heap_alloc_new wr _, hsr.below b8, HLC.out⟩
      have hRG := refget_any wr.heap.size L key (by omega) w8 hr8
      obtain ⟨hg1, hg2⟩ := get_there (key := key) HOK.out.asc
      rw [← hg2, ← hg1] at hRG
      have HGT := hid (fun (V : World) (q : TabAt V g t) => tget_any g t prs key (by unfold maxLen; omega) HG.out V q)
      rw [HTP.out] at HGT
      unfold getV at HGT
      have hpz : (findK key L).isSome = false → (findK key L).getD pr0 = pr0 := fun q => by
        cases hf : findK key L with
        | none => rfl
        | some p => rw [hf] at q; cases q
      have ht8 := ht7.below b8
      have HW8 := hid hw8
      clear hg1 hg2 hw8 hsr ht7 hr8 hb
      generalize (findK key L).getD pr0 = P at *
      generalize (findK key L).isSome = th at *
      have ep : (prC P).toArray = #[.string ⟨P.1.toArray⟩, .string ⟨P.2.1.toArray⟩, .bool P.2.2] := rfl
      rw [ep] at HGT hRG
      go_wp2_with (rw [← HW8.out])
      refine hRG.mono ?_
      rintro _ w9 ⟨rfl, b9⟩
      obtain ⟨Wa, hWa⟩ : ∃ y, y = w9.alloc (.cells #[.string ⟨P.1.toArray⟩, .string ⟨P.2.1.toArray⟩, .bool P.2.2] 70) := ⟨_, rfl⟩
      have ba : Below w9.heap.size w9 Wa := by rw [hWa]; exact (Below.refl _ _).alloc (Nat.le_refl _) _
      have hta := (ht8.below b9).below ba
      have HBa := hid (bnext HB7.out (bnext b8 (bnext b9 ba)))
      have HWa := hid hWa
      clear hWa b8 b9 ba ht8 hRG
      go_wp2_with (rw [← HWa.out])
      refine (HGT.out Wa hta).mono ?_
      rintro _ wb ⟨rfl, bb⟩
      obtain ⟨Wc, hWc⟩ : ∃ y, y = wb.alloc (.cells #[.string ⟨P.1.toArray⟩, .string ⟨P.2.1.toArray⟩, .bool P.2.2] 70) := ⟨_, rfl⟩
      have bc : Below wb.heap.size wb Wc := by rw [hWc]; exact (Below.refl _ _).alloc (Nat.le_refl _) _
      have hc : Wc.heap[wb.heap.size]? = some (.cells #[.string ⟨P.1.toArray⟩, .string ⟨P.2.1.toArray⟩, .bool P.2.2] 70 (0, 0)) := by rw [hWc]; exact heap_alloc_new wb _
      obtain ⟨x0, x1, x2, -⟩ := prow_cell hc
      have HBc := hid (bnext HBa.out (bnext bb bc))
      have HWc := hid hWc
      clear hWc bb bc hc hta ep
      cases th with
      | true =>
        clear hpz
        go_wp2_with (rw [← HWc.out])
        go_ret
        exact ⟨rfl, HBc.out⟩
      | false =>
        have hp0 := hpz rfl
        subst hp0
        clear hpz
        have z0 : Wc.cell? ⟨wb.heap.size, 0, none⟩ = some (.string ⟨#[]⟩) := x0
        have z1 : Wc.cell? ⟨wb.heap.size, 1, none⟩ = some (.string ⟨#[]⟩) := x1
        have z2 : Wc.cell? ⟨wb.heap.size, 2, none⟩ = some (.bool false) := x2
        clear x0 x1 x2
        go_wp2_with (rw [← HWc.out])
        go_ret
        exact ⟨rfl, HBc.out⟩
    case pos =>
    have hsr := HS6.out.below hb
    obtain ⟨-, -, a', cap', hv, hcc⟩ := hsr
    rw [Value.slice.injEq] at hv
    obtain ⟨rfl, -, rfl⟩ := hv
    obtain ⟨b, off, rfl, hblt, hcc⟩ := hcc.resolve_left (by omega)
    have hcm : ∀ (j : Nat) (u : Value), (prC L[m])[j]? = some u → wr.cell? ⟨b, off + m * 3 + j, none⟩ = some u := fun j u hu => by
      have hj : j < 3 := by have := (List.getElem?_eq_some_iff.1 hu).1; rwa [prC_len] at this
      rw [Nat.add_assoc]
      exact Sl.cell (f := prC) (k := 3) prC_len hcc m j hj hmq u hu
    have hfs := find_self L [] HOK.out.asc L[m] (List.getElem_mem hmq)
    have hk64 := (HOK.out.ok L[m] (List.getElem_mem hmq)).k64
    obtain ⟨pm, hpm⟩ : ∃ y, y = L[m] := ⟨_, rfl⟩
    rw [← hpm] at hcm hfs hk64
    obtain ⟨kk, vv, gg⟩ := pm
    dsimp only at hfs hk64
    have q0 : wr.cell? ⟨b, off + m * 3, none⟩ = some (.string ⟨kk.toArray⟩) := hcm 0 _ rfl
    have q1 : wr.cell? ⟨b, off + m * 3 + 1, none⟩ = some (.string ⟨vv.toArray⟩) := hcm 1 _ rfl
    have q2 : wr.cell? ⟨b, off + m * 3 + 2, none⟩ = some (.bool gg) := hcm 2 _ rfl
    have hmi : (m : Int) < (L.length : Int) := by omega
    have hm0 : (0 : Int) ≤ (m : Int) := Int.natCast_nonneg _
    obtain ⟨W2, hW⟩ : ∃ y, y = wr.alloc (.cells #[.string ⟨kk.toArray⟩, .string ⟨vv.toArray⟩, .bool gg] 70) := ⟨_, rfl⟩
    have bW : Below wr.heap.size wr W2 := by rw [hW]; exact (Below.refl _ _).alloc (Nat.le_refl _) _
    have hCW : W2.heap[wr.heap.size]? = some (.cells #[.string ⟨kk.toArray⟩, .string ⟨vv.toArray⟩, .bool gg] 70 (0, 0)) := by rw [hW]; exact heap_alloc_new wr _
    obtain ⟨y0, y1, y2, -⟩ := prow_cell hCW
    have hGT := tget_any g t prs kk (by unfold maxLen; omega) HG.out W2 ((HT6.out.below hb).below bW)
    rw [HTP.out, hfs] at hGT
    unfold getV at hGT
    have ep : (prC (kk, vv, gg)).toArray = #[.string ⟨kk.toArray⟩, .string ⟨vv.toArray⟩, .bool gg] := rfl
    rw [Option.getD_some, Option.isSome_some, ep] at hGT
    have HW := hid hW
    clear hW hcm hpm hcc hfs ep
    go_wp2_with (rw [← HW.out])
    refine hGT.mono ?_
    rintro _ w7 ⟨rfl, b7⟩
    obtain ⟨W8, hW8⟩ : ∃ y, y = w7.alloc (.cells #[.string ⟨kk.toArray⟩, .string ⟨vv.toArray⟩, .bool gg] 70) := ⟨_, rfl⟩
    have b8 : Below w7.heap.size w7 W8 := by rw [hW8]; exact (Below.refl _ _).alloc (Nat.le_refl _) _
    have h8 : W8.heap[w7.heap.size]? = some (.cells #[.string ⟨kk.toArray⟩, .string ⟨vv.toArray⟩, .bool gg] 70 (0, 0)) := by rw [hW8]; exact heap_alloc_new w7 _
    have b78 := bnext b7 b8
    have h6' := (b78.block _ (Array.getElem?_eq_some_iff.1 hCW).1).trans hCW
    obtain ⟨x0, x1, x2, -⟩ := prow_cell h6'
    obtain ⟨z0, z1, z2, -⟩ := prow_cell h8
    have HB8 := hid (bnext hb (bnext bW b78))
    have HW8 := hid hW8
    clear hW8 b7 b8 b78 h6' h8 hCW hGT bW hb y0 y1 y2 q0 q1 q2
    go_wp2_with (rw [← HW8.out])
    go_roundw
    case rel => exact ⟨m + 1, by omega, by go_num, HB8.out⟩
    case measure => simp [intOf]; omega
end Go.Proofs.Ytfdbcnpbjabjoaa
