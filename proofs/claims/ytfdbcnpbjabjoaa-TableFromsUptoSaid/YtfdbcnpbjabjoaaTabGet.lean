/- CONTRACT: the pair of a key, in a table (table.Get). -/
import Derived.Test.YtfdbcnpbjabjoaaTabS
import Derived.Laws.ResultCell
namespace Go.Proofs.Ytfdbcnpbjabjoaa
open Go.RowKit
set_option linter.unusedVariables false
set_option linter.unusedSimpArgs false

def pr0 : Pr := ([], [], false)
/-- what a lookup tells -/
def getV (o : Option Pr) : Value := .tuple #[.agg (prC (o.getD pr0)).toArray, .bool o.isSome]
set_option maxHeartbeats 16000000 in
set_option maxRecDepth 100000 in
theorem tget_any (g : Nat) (t : Tb) (prs : List (List Pr)) (key : List UInt8) (hk : key.length ≤ maxLen) (hg : GoodT t prs) (w : World) (ht : TabAt w g t) :
    Calls Try.prog 26 #[.pointer (some ⟨g, 0, none⟩), .string ⟨key.toArray⟩] w fun e w' => e = .returned (getV (findK key t.ps)) ∧ Below w.heap.size w w' := by
  obtain ⟨w1, hw1⟩ : ∃ x, x = w.alloc (.cells #[.string ⟨#[]⟩, .string ⟨#[]⟩, .bool false] 70) := ⟨_, rfl⟩
  have b1 : Below w.heap.size w w1 := by rw [hw1]; exact (Below.refl _ _).alloc (Nat.le_refl _) _
  have r1 : w1.heap[w.heap.size]? = some (.cells #[.string ⟨#[]⟩, .string ⟨#[]⟩, .bool false] 70 (0, 0)) := by rw [hw1]; exact heap_alloc_new w _
  have ht1 := ht.below b1
  obtain ⟨fa, fc, ba, bc, hr, hfs, hbs, hbc⟩ := ht1.row
  have d1 : w1.cell? ⟨g, 1, none⟩ = some (.slice ba t.bs.length bc) := by rw [cell_of_row _ _ 1 _ _ (0, 0) hr]; rfl
  have d2 : w1.cell? ⟨g, 2, none⟩ = some (.string ⟨t.fl.toArray⟩) := by rw [cell_of_row _ _ 2 _ _ (0, 0) hr]; rfl
  have hh := has_any t.fl key (by have := hg.fl; unfold maxLen; omega) hk w1
  have HW1 := hid hw1
  have HB1 := hid b1
  have hglt : g < w1.heap.size := (Array.getElem?_eq_some_iff.1 hr).1
  clear hw1 b1 hr hfs
  cases hhas : hasL t.fl key with
  | false =>
    rw [hg.has_find key hhas]
    rw [hhas] at hh
    obtain ⟨q0, q1, q2, fz⟩ := prow_cell r1
    have f0 := fz 0
    have f1 := fz 1
    have f2 := fz 2
    clear fz hbs r1
    go_enter Try.func26, Try.ntmps26
    go_wp2_with (rw [← HW1.out])
    refine hh.mono ?_
    rintro _ w2 ⟨rfl, rfl⟩
    go_wp2_with fail
    refine bodyPost_ret (v := getV none) ?_ rfl ⟨rfl, At.below HB1.out ((((At.refl w.heap.size w2).set 0 _).set 1 _).set 2 _) (Nat.le_refl _)⟩
    rw [results_cell_tmp rfl]
    go_simp
    rfl
  | true =>
    rw [hhas] at hh
    have hkl := hg.blk_lt key
    rw [hg.find key]
    have hbl : t.bs.length = prs.length := by rw [hg.bs, List.length_map]
    obtain ⟨x, hx⟩ : ∃ y, y = prs[blockK t.fs key] := ⟨_, rfl⟩
    rw [← hx]
    have hpx : pairsL (blkL x) = some x := pairsL_iff.2 ⟨fun p hp => hg.ok p (by rw [hg.ps]; exact List.mem_flatten.2 ⟨x, by rw [hx]; exact List.getElem_mem hkl, hp⟩), rfl⟩
    have hx8 := hg.g8 x (by rw [hx]; exact List.getElem_mem hkl)
    have hbk : t.bs[blockK t.fs key]'(by omega) = blkL x := by rw [hx]; simp [hg.bs]
    have hbm : (blkL x).length ≤ 1048576 := hg.bl.2 _ (by rw [← hbk]; exact List.getElem_mem _)
    have hkl' : blockK t.fs key < t.bs.length := by omega
    have hb20 := hg.bl.1
    obtain ⟨-, -, a', cap', hv, hc⟩ := hbs
    rw [Value.slice.injEq] at hv
    obtain ⟨rfl, -, rfl⟩ := hv
    obtain ⟨bb, off, rfl, hblt, hc⟩ := hc.resolve_left (by omega)
    have dk : w1.cell? ⟨bb, off + blockK t.fs key, none⟩ = some (.string ⟨(blkL x).toArray⟩) := by
      rw [hc _ (by rw [List.length_map]; exact hkl'), List.getElem_map, hbk]; rfl
    have HBL := hid (fun (W : World) (q : Below w1.heap.size w1 W) => block_any g t key (by rw [hg.len, ← hbl]; exact hb20) hg.mono W (ht1.below q))
    have HPA := hid (fun (W : World) => pairs_any (blkL x) hbm W)
    rw [hpx] at HPA
    have HC := hid (fun (W : World) (q : Below w1.heap.size w1 W) => (⟨q, (q.cell (p := ⟨g, 1, none⟩) hglt).trans d1, (q.cell (p := ⟨bb, off + blockK t.fs key, none⟩) hblt).trans dk⟩ : Below w1.heap.size w1 W ∧ W.cell? ⟨g, 1, none⟩ = some (.slice (some ⟨bb, off, none⟩) t.bs.length bc) ∧ W.cell? ⟨bb, off + blockK t.fs key, none⟩ = some (.string ⟨(blkL x).toArray⟩)))
    have HG := hid (fun p hp => hg.ok p (by rw [hg.ps, flat_at hkl, ← hx]; exact List.mem_append.2 (.inr (List.mem_append.2 (.inl hp)))) : ∀ p ∈ x, PrOk p)
    clear hc hbk hbl hx hpx hhas hblt hglt hbm
    have hk0 : (0 : Int) ≤ (blockK t.fs key : Nat) := Int.natCast_nonneg _
    have hk1 : ((blockK t.fs key : Nat) : Int) < (t.bs.length : Int) := by exact_mod_cast hkl'
    clear hkl hkl'
    generalize blockK t.fs key = k at *
    go_enter Try.func26, Try.ntmps26
    go_wp2_with (rw [← HW1.out])
    refine hh.mono ?_
    rintro _ w2 ⟨rfl, rfl⟩
    go_wp2_with fail
    refine wp_region_noPanic ?_
    refine wp_region_held_drew (S := (fun w' => Below w2.heap.size w2 w' ∧ w'.cell? ⟨g, 1, none⟩ = some (.slice (some ⟨bb, off, none⟩) t.bs.length bc) ∧ w'.cell? ⟨bb, off + k, none⟩ = some (.string ⟨(blkL x).toArray⟩))) (by kernel_rfl) ?_ (fun hHeld => ?_)
    · exact ⟨(Below.refl _ _).drew, d1, dk⟩
    refine wpAnyH_take (i := 0) (oi := ?fo0) (v := ?fv0) ?fe0 (by kernel_rfl) (by kernel_rfl) (by kernel_rfl) (fun _ _ _ h => h) (Or.inl ⟨?fw0, ?fy0⟩) (by assumption) ?fr0
    case fe0 => ((simp only [List.getElem?_toArray, List.getElem?_cons_succ, List.getElem?_cons_zero]) <;> rfl)
    case fw0 => rfl
    case fy0 => (intro w hSw; (try dsimp only at hSw); go_simp; (try with_reducible rfl))
    try simp only [Act.put, List.setIfInBounds_toArray, List.set_cons_zero, List.set_cons_succ]
    refine wpAnyH_take (i := 1) (oi := ?fo1) (v := ?fv1) ?fe1 (by kernel_rfl) (by kernel_rfl) (by kernel_rfl) (fun _ _ _ h => h) (Or.inl ⟨?fw1, ?fy1⟩) (by assumption) ?fr1
    case fe1 => ((simp only [List.getElem?_toArray, List.getElem?_cons_succ, List.getElem?_cons_zero]) <;> rfl)
    case fw1 => rfl
    case fy1 => (intro w hSw; (try dsimp only at hSw); go_simp; (try with_reducible rfl))
    try simp only [Act.put, List.setIfInBounds_toArray, List.set_cons_zero, List.set_cons_succ]
    refine wpAnyH_take (i := 2) (oi := ?fo2) (v := ?fv2) ?fe2 (by kernel_rfl) (by kernel_rfl) (by kernel_rfl) (fun _ _ _ h => h) (Or.inl ⟨?fw2, ?fy2⟩) (by assumption) ?fr2
    case fe2 => ((simp only [List.getElem?_toArray, List.getElem?_cons_succ, List.getElem?_cons_zero]) <;> rfl)
    case fw2 => rfl
    case fy2 => (intro w hSw; (try dsimp only at hSw); go_simp; (try with_reducible rfl))
    try simp only [Act.put, List.setIfInBounds_toArray, List.set_cons_zero, List.set_cons_succ]
    refine wpAnyH_take (i := 3) (oi := ?fo3) (v := ?fv3) ?fe3 (by kernel_rfl) (by kernel_rfl) (by kernel_rfl) (fun _ _ _ h => h) (Or.inl ⟨?fw3, ?fy3⟩) (by assumption) ?fr3
    case fe3 => ((simp only [List.getElem?_toArray, List.getElem?_cons_succ, List.getElem?_cons_zero]) <;> rfl)
    case fw3 => rfl
    case fy3 => (intro w hSw; (try dsimp only at hSw); go_simp; (try with_reducible rfl))
    try simp only [Act.put, List.setIfInBounds_toArray, List.set_cons_zero, List.set_cons_succ]
    refine wpAnyH_take (i := 4) (oi := ?fo4) (v := ?fv4) ?fe4 (by kernel_rfl) (by kernel_rfl) (by kernel_rfl) (fun _ _ _ h => h) (Or.inl ⟨?fw4, ?fy4⟩) (by assumption) ?fr4
    case fe4 => ((simp only [List.getElem?_toArray, List.getElem?_cons_succ, List.getElem?_cons_zero]) <;> rfl)
    case fw4 => rfl
    case fy4 => (intro w hSw; (try dsimp only at hSw); go_simp; (try with_reducible rfl))
    try simp only [Act.put, List.setIfInBounds_toArray, List.set_cons_zero, List.set_cons_succ]
    refine wpAnyH_take (i := 5) (oi := ?fo5) (v := ?fv5) ?fe5 (by kernel_rfl) (by kernel_rfl) (by kernel_rfl) (fun _ _ _ h => h) (Or.inl ⟨?fw5, ?fy5⟩) (by assumption) ?fr5
    case fe5 => ((simp only [List.getElem?_toArray, List.getElem?_cons_succ, List.getElem?_cons_zero]) <;> rfl)
    case fw5 => rfl
    case fy5 => (intro w hSw; (try dsimp only at hSw); go_simp; (try with_reducible rfl))
    try simp only [Act.put, List.setIfInBounds_toArray, List.set_cons_zero, List.set_cons_succ]
    refine wpAnyH_ready (rs := [6]) (by kernel_rfl) (by simp) ?_
    refine AllReadyH.cons (o := ?fo6) ?fe6 (fun K hK => ?fc6) ?fn6
    case fn6 => exact AllReadyH.nil
    case fe6 => ((simp only [List.getElem?_toArray, List.getElem?_cons_succ, List.getElem?_cons_zero]) <;> rfl)
    go_simp
    go_at_call 62
    refine (HBL.out _ (Below.refl _ _).drew).mono ?_
    rintro _ wz ⟨rfl, hwz⟩
    refine hK.out _ _ ?_ (fun hHeld6 => ?_)
    · exact HC.out _ (bnext (Below.refl _ _).drew hwz)
    clear hK K
    try simp only [Act.put, List.setIfInBounds_toArray, List.set_cons_zero, List.set_cons_succ]
    refine wpAnyH_take (i := 7) (oi := ?fo7) (v := ?fv7) ?fe7 (by kernel_rfl) (by kernel_rfl) (by kernel_rfl) (fun _ _ _ h => h) (Or.inl ⟨?fw7, ?fy7⟩) (by assumption) ?fr7
    case fe7 => ((simp only [List.getElem?_toArray, List.getElem?_cons_succ, List.getElem?_cons_zero]) <;> rfl)
    case fw7 => rfl
    case fy7 => (intro w hSw; (try dsimp only at hSw); go_simp; (try with_reducible rfl))
    try simp only [Act.put, List.setIfInBounds_toArray, List.set_cons_zero, List.set_cons_succ]
    refine wpAnyH_take (i := 8) (oi := ?fo8) (v := ?fv8) ?fe8 (by kernel_rfl) (by kernel_rfl) (by kernel_rfl) (fun _ _ _ h => h) (Or.inl ⟨?fw8, ?fy8⟩) (by assumption) ?fr8
    case fe8 => ((simp only [List.getElem?_toArray, List.getElem?_cons_succ, List.getElem?_cons_zero]) <;> rfl)
    case fw8 => rfl
    case fy8 => (intro w hSw; (try dsimp only at hSw); go_simp; (try with_reducible rfl))
    try simp only [Act.put, List.setIfInBounds_toArray, List.set_cons_zero, List.set_cons_succ]
    refine wpAnyH_ready (rs := [9]) (by kernel_rfl) (by simp) ?_
    refine AllReadyH.cons (o := ?fo9) ?fe9 (fun K hK => ?fc9) ?fn9
    case fn9 => exact AllReadyH.nil
    case fe9 => ((simp only [List.getElem?_toArray, List.getElem?_cons_succ, List.getElem?_cons_zero]) <;> rfl)
    go_simp
    go_at_call 54
    refine (HPA.out _).mono ?_
    rintro _ wy ⟨⟨v, rfl, how⟩, hwy⟩
    refine hK.out _ _ ?_ (fun hHeld9 => ?_)
    · exact HC.out _ (bnext hHeld6.1 hwy)
    clear hK K
    try simp only [Act.put, List.setIfInBounds_toArray, List.set_cons_zero, List.set_cons_succ]
    refine wpAnyH_take (i := 10) (oi := ?fo10) (v := ?fv10) ?fe10 (by kernel_rfl) (by kernel_rfl) (by kernel_rfl) (fun _ _ _ h => h) (Or.inl ⟨?fw10, ?fy10⟩) (by assumption) ?fr10
    case fe10 => ((simp only [List.getElem?_toArray, List.getElem?_cons_succ, List.getElem?_cons_zero]) <;> rfl)
    case fw10 => rfl
    case fy10 => (intro w hSw; (try dsimp only at hSw); go_simp; (try with_reducible rfl))
    try simp only [Act.put, List.setIfInBounds_toArray, List.set_cons_zero, List.set_cons_succ]
    refine wpAnyH_take (i := 11) (oi := ?fo11) (v := ?fv11) ?fe11 (by kernel_rfl) (by kernel_rfl) (by kernel_rfl) (fun _ _ _ h => h) (Or.inl ⟨?fw11, ?fy11⟩) (by assumption) ?fr11
    case fe11 => ((simp only [List.getElem?_toArray, List.getElem?_cons_succ, List.getElem?_cons_zero]) <;> rfl)
    case fw11 => rfl
    case fy11 => (intro w hSw; (try dsimp only at hSw); go_simp; (try with_reducible rfl))
    try simp only [Act.put, List.setIfInBounds_toArray, List.set_cons_zero, List.set_cons_succ]
    refine wpAnyH_take (i := 12) (oi := ?fo12) (v := ?fv12) ?fe12 (by kernel_rfl) (by kernel_rfl) (by kernel_rfl) (fun _ _ _ h => h) (Or.inl ⟨?fw12, ?fy12⟩) (by assumption) ?fr12
    case fe12 => ((simp only [List.getElem?_toArray, List.getElem?_cons_succ, List.getElem?_cons_zero]) <;> rfl)
    case fw12 => rfl
    case fy12 => (intro w hSw; (try dsimp only at hSw); go_simp; (try with_reducible rfl))
    try simp only [Act.put, List.setIfInBounds_toArray, List.set_cons_zero, List.set_cons_succ]
    refine wpAnyH_take (i := 13) (oi := ?fo13) (v := ?fv13) ?fe13 (by kernel_rfl) (by kernel_rfl) (by kernel_rfl) (fun _ _ _ h => h) (Or.inl ⟨?fw13, ?fy13⟩) (by assumption) ?fr13
    case fe13 => ((simp only [List.getElem?_toArray, List.getElem?_cons_succ, List.getElem?_cons_zero]) <;> rfl)
    case fw13 => rfl
    case fy13 => (intro w hSw; (try dsimp only at hSw); go_simp; (try with_reducible rfl))
    try simp only [Act.put, List.setIfInBounds_toArray, List.set_cons_zero, List.set_cons_succ]
    refine wpAnyH_take (i := 14) (oi := ?fo14) (v := ?fv14) ?fe14 (by kernel_rfl) (by kernel_rfl) (by kernel_rfl) (fun _ _ _ h => h) (Or.inl ⟨?fw14, ?fy14⟩) (by assumption) ?fr14
    case fe14 => ((simp only [List.getElem?_toArray, List.getElem?_cons_succ, List.getElem?_cons_zero]) <;> rfl)
    case fw14 => rfl
    case fy14 => (intro w hSw; (try dsimp only at hSw); go_simp; (try with_reducible rfl))
    try simp only [Act.put, List.setIfInBounds_toArray, List.set_cons_zero, List.set_cons_succ]
    refine wpAnyH_done (by kernel_rfl) ?_ _
    refine NoPanic.normal ?_
    have HB6 := hid (hHeld6.1.trans (hwy.mono hHeld6.1.size))
    have hwzs := hHeld6.1.size
    clear hHeld hHeld6 hHeld9 HBL HPA HC ht1 d1 d2 dk ht hg HW1
    obtain ⟨-, xb, xc, rfl, hxg, hxl, hxp, hxe⟩ := own_cells (by omega) prC_len how (List.length_pos_iff.2 hx8.1)
    have HXE := hid hxe
    have HXL := hid hxl
    have HX8 := hid hx8.2
    have hq := hid ((HB6.out.block w.heap.size (Array.getElem?_eq_some_iff.1 r1).1).trans r1)
    have HB7 := hid (bnext HB1.out HB6.out)
    have hrl := hid (Nat.lt_of_lt_of_le (Array.getElem?_eq_some_iff.1 r1).1 HB6.out.size)
    clear hxe hxl how hwz hwzs hwy hx8 hxg r1
    go_wp2_with fail
    go_loopw [37] (fun i wr => ∃ m : Nat, m ≤ x.length ∧ i = .int .i64 m ∧ Below wy.heap.size wy wr ∧ findK key x = findK key (x.drop m)) (fun i _ => x.length - (intOf i).toNat)
    case atStart => exact ⟨0, by omega, rfl, Below.refl _ _, rfl⟩
    case round =>
      obtain ⟨m, hm, rfl, hb3, hfd⟩ := hrel
      have hrr := (hb3.block w.heap.size hrl.out).trans hq.out
      have HB8 := hid (bnext HB7.out hb3)
      by_cases hmx : m < x.length
      case neg =>
        obtain rfl : m = x.length := by omega
        have HF := hid (show findK key x = none by rw [hfd, List.drop_length]; rfl)
        obtain ⟨q0, q1, q2, fz⟩ := prow_cell hrr
        have f0 := fz 0
        have f1 := fz 1
        have f2 := fz 2
        clear fz hfd hb3 hrr hmx
        go_wp2_with fail
        refine bodyPost_ret (v := getV none) ?_ rfl ⟨by rw [HF.out], At.below HB8.out ((((At.refl w.heap.size wr).set 0 _).set 1 _).set 2 _) (Nat.le_refl _)⟩
        rw [results_cell_tmp rfl]
        go_simp
        rfl
      case pos =>
      have hup : ∀ (t : Nat) (u : Value), (prC x[m])[t]? = some u → wr.cell? ⟨xb, m * 3 + t, none⟩ = some u := fun t u q => (hb3.cell (p := ⟨xb, m * 3 + t, none⟩) HXL.out).trans (HXE.out m hmx t u q)
      have hdr : findK key (x.drop m) = if (x[m].1 == key) = true then some x[m] else findK key (x.drop (m + 1)) := by
        rw [List.drop_eq_getElem_cons hmx]
        unfold findK
        rw [List.find?_cons]
        cases x[m].1 == key <;> rfl
      rw [← hfd] at hdr
      obtain ⟨pm, hpm⟩ : ∃ y, y = x[m] := ⟨_, rfl⟩
      rw [← hpm] at hup hdr
      obtain ⟨kk, vv, gg⟩ := pm
      simp only at hdr
      have q0 : wr.cell? ⟨xb, m * 3, none⟩ = some (.string ⟨kk.toArray⟩) := hup 0 _ rfl
      have q1 : wr.cell? ⟨xb, m * 3 + 1, none⟩ = some (.string ⟨vv.toArray⟩) := hup 1 _ rfl
      have q2 : wr.cell? ⟨xb, m * 3 + 2, none⟩ = some (.bool gg) := hup 2 _ rfl
      clear hup hpm hfd
      have hmi' : (m : Int) < (x.length : Int) := by omega
      have hm0 : (0 : Int) ≤ (m : Int) := by omega
      have hm8 : (m : Int) ≤ 8 := by have := HX8.out; omega
      obtain ⟨W, hW⟩ : ∃ y, y = wr.alloc (.cells #[.string ⟨kk.toArray⟩, .string ⟨vv.toArray⟩, .bool gg] 70) := ⟨_, rfl⟩
      have bW : Below wr.heap.size wr W := by rw [hW]; exact (Below.refl _ _).alloc (Nat.le_refl _) _
      have hCW : W.heap[wr.heap.size]? = some (.cells #[.string ⟨kk.toArray⟩, .string ⟨vv.toArray⟩, .bool gg] 70 (0, 0)) := by rw [hW]; exact heap_alloc_new wr _
      obtain ⟨y0, y1, y2, -⟩ := prow_cell hCW
      have hrW := (bW.block w.heap.size (Nat.lt_of_lt_of_le hrl.out hb3.size)).trans hrr
      obtain ⟨z0, z1, z2, fz⟩ := prow_cell hrW
      have f0 := fz 0
      have f1 := fz 1
      have f2 := fz 2
      have HB9 := hid (bnext HB8.out bW)
      have HB39 := hid (hb3.trans (bW.mono hb3.size))
      have HW := hid hW
      clear fz hrW hCW bW hW hrr hb3
      cases hke : (kk == key) with
      | true =>
        rw [if_pos hke] at hdr
        have HF := hid hdr
        clear hdr
        go_wp2_with (rw [← HW.out])
        refine bodyPost_ret (v := getV (some (kk, vv, gg))) ?_ rfl ⟨by rw [HF.out], At.below HB9.out ((((At.refl w.heap.size W).set 0 _).set 1 _).set 2 _) (Nat.le_refl _)⟩
        rw [results_cell_tmp rfl]
        go_simp
        rfl
      | false =>
        rw [if_neg (by rw [hke]; simp)] at hdr
        have HF := hid hdr
        clear hdr
        go_wp2_with (rw [← HW.out])
        go_roundw
        case rel => exact ⟨m + 1, by omega, by go_num, HB39.out, HF.out⟩
        case measure => simp [intOf]; omega
end Go.Proofs.Ytfdbcnpbjabjoaa
