/- CONTRACT: the iterator of table.From. CONTRACTS: table.From; the iterator as a loop over a function wants it. CONTRACTS: slices.AppendSeq, slices.Collect at pairs, over whatever iterator. -/
import Derived.Test.YtfdbcnpbjabjoaaTabKp
namespace Go.Proofs.Ytfdbcnpbjabjoaa
open Go.RowKit Go.Shelf
set_option linter.unusedVariables false
set_option linter.unusedSimpArgs false

attribute [local go_sem] Oper.semAt_some

def geK (key : List UInt8) (p : Pr) : Bool := !ltB p.1 key
theorem from_pre {qs : List (List Pr)} {j m : Nat} (key : List UInt8) (hj : j < qs.length) : (qs.take j).flatten.filter (geK key) ++ (qs[j].take m).filter (geK key) <+: qs.flatten.filter (geK key) := by
  rw [flat_at hj, List.filter_append, List.filter_append]
  refine (List.prefix_append_right_inj _).2 ?_
  conv => rhs; rw [← List.take_append_drop m qs[j], List.filter_append]
  rw [List.append_assoc]
  exact List.prefix_append _ _
theorem binOp_geq_tab (t : TypeId) (a b : ByteArray) : binOp .geq t (.string a) (.string b) = pure (.bool !(Op.bytesLess a.toList b.toList)) := by simp [binOp, Op.stringOp]
attribute [local go_sem] binOp_geq_tab
def prE (p : Pr) : Array Value := #[.agg (prC p).toArray]
set_option maxRecDepth 100000 in
set_option maxHeartbeats 8000000 in
theorem from1_in (n : Nat) (hn : 3 ≤ n) (l bt bk g x N : Nat) (t : Tb) (prs : List (List Pr)) (key : List UInt8) (hg : GoodT t prs) (J Jx : List Pr → World → Prop) (W w0 : World) (T1 T2 : TypeId) (hJ : AbidesFrom W.heap.size J)
    (hY : ∀ pre p W1, J pre W1 → pre.length < (dropK key t.ps).length → YieldAt Fence.wide (n - 1) Try.prog l (prE p) W1 fun e W' =>
      (e = .returned (.bool true) ∧ J (pre ++ [p]) W' ∧ KpB N x W1 W') ∨ (e = .returned (.bool false) ∧ Jx (pre ++ [p]) W'))
    (hbt : W.heap[bt]? = some (.cells #[.pointer (some ⟨g, 0, none⟩)] T1 (0, 0))) (hbk : W.heap[bk]? = some (.cells #[.string ⟨key.toArray⟩] T2 (0, 0))) (htx : bt ≠ x) (hkx : bk ≠ x) (hx : x < W.heap.size)
    (hN : w0.heap.size = N) (ht : TabAt w0 g t) (hb0 : Below N w0 W) (hNx : N ≤ W.heap.size) (hno : ∀ b, ¬ ownB x W b) (h0 : J [] W) :
    CallsIn Fence.wide n Try.prog 65 #[.func (.yield l) #[] #[], .pointer (some ⟨bt, 0, none⟩), .pointer (some ⟨bk, 0, none⟩)] W fun e W' => (∃ v, e = .returned v) ∧
      ((∃ ys, ys = dropK key t.ps ∧ J ys W') ∨ (∃ pre, pre <+: dropK key t.ps ∧ Jx pre W')) := by
  refine callsIn_of_wp Try.func65 rfl trivial ?_ rfl
  simp only [Try.ntmps65, List.size_toArray, List.length_cons, List.length_nil, Nat.reduceAdd, Nat.reduceSub, Array.replicate_succ, Array.replicate_zero, List.push_toArray, List.append_toArray, List.nil_append, List.cons_append]
  have hkl := hg.blk_lt key
  have hfr := hid (hg.froms key)
  subst hN
  have htW := ht.below hb0
  have HBL := hid (fun (V : World) (q : Below W.heap.size W V) => block_any g t key (by rw [hg.len]; have := hg.bl.1; rw [hg.bs, List.length_map] at this; exact this) hg.mono V (htW.below q))
  obtain ⟨fa, fc, ba, bc, hr, -, hbs, hbc⟩ := ht.row
  have c1 : W.cell? ⟨bt, 0, none⟩ = some (.pointer (some ⟨g, 0, none⟩)) := by rw [cell_of_row _ _ 0 _ _ (0, 0) hbt]; rfl
  have c2 : W.cell? ⟨bk, 0, none⟩ = some (.string ⟨key.toArray⟩) := by rw [cell_of_row _ _ 0 _ _ (0, 0) hbk]; rfl
  have hgl0 : g < w0.heap.size := (Array.getElem?_eq_some_iff.1 hr).1
  have d1 : W.cell? ⟨g, 1, none⟩ = some (.slice ba t.bs.length bc) := by rw [hb0.cell (p := ⟨g, 1, none⟩) hgl0, cell_of_row _ _ 1 _ _ (0, 0) hr]; rfl
  have hglt : g < W.heap.size := Nat.lt_of_lt_of_le hgl0 hNx
  have hbtl : bt < W.heap.size := (Array.getElem?_eq_some_iff.1 hbt).1
  have hbkl : bk < W.heap.size := (Array.getElem?_eq_some_iff.1 hbk).1
  have hbl : t.bs.length = prs.length := by rw [hg.bs, List.length_map]
  have hb20 := hg.bl.1
  obtain ⟨-, -, a', cap', hv, hc⟩ := hbs
  rw [Value.slice.injEq] at hv
  obtain ⟨rfl, -, rfl⟩ := hv
  obtain ⟨bb, off, rfl, hblt, hc⟩ := hc.resolve_left (by omega)
  have HC := hid (fun (V : World) (q : Below W.heap.size W V) => (⟨q, (q.cell (p := ⟨bt, 0, none⟩) hbtl).trans c1, (q.cell (p := ⟨bk, 0, none⟩) hbkl).trans c2, (q.cell (p := ⟨g, 1, none⟩) hglt).trans d1⟩ : Below W.heap.size W V ∧ V.cell? ⟨bt, 0, none⟩ = some (.pointer (some ⟨g, 0, none⟩)) ∧ V.cell? ⟨bk, 0, none⟩ = some (.string ⟨key.toArray⟩) ∧ V.cell? ⟨g, 1, none⟩ = some (.slice (some ⟨bb, off, none⟩) t.bs.length bc)))
  obtain ⟨k, hkk⟩ : ∃ y, y = blockK t.fs key := ⟨_, rfl⟩
  rw [← hkk] at hkl
  obtain ⟨qs, hqs⟩ : ∃ y, y = prs.drop k := ⟨_, rfl⟩
  have hql : qs.length = t.bs.length - k := by rw [hqs, List.length_drop, hbl]
  have HBK := hid (fun (V : World) (q : Below w0.heap.size W V) (j : Nat) (hj : j < qs.length) => (show V.cell? ⟨bb, off + k + j, none⟩ = some (.string ⟨(blkL qs[j]).toArray⟩) from by
    have hkj : k + j < t.bs.length := by omega
    rw [q.cell (p := ⟨bb, off + k + j, none⟩) hblt, hb0.cell (p := ⟨bb, off + k + j, none⟩) hblt, Nat.add_assoc, hc (k + j) (by rw [List.length_map]; exact hkj), List.getElem_map]
    have : t.bs[k + j] = blkL qs[j] := by simp [hg.bs, hqs]
    rw [this]; rfl))
  have HBM := hid (fun (j : Nat) (hj : j < qs.length) => (show (blkL qs[j]).length ≤ 1048576 from hg.bl.2 _ (by rw [hg.bs]; exact List.mem_map_of_mem (by simp [hqs])) ))
  have HG8 := hid (fun (j : Nat) (hj : j < qs.length) => hg.g8 qs[j] (by simp [hqs]))
  have HPX := hid (fun (j : Nat) (hj : j < qs.length) => (show pairsL (blkL qs[j]) = some qs[j] from pairsL_iff.2 ⟨fun p hp => hg.ok p (by rw [hg.ps]; exact List.mem_flatten.2 ⟨qs[j], by simp [hqs], hp⟩), rfl⟩))
  have hfr : Hid (qs.flatten.filter (geK key) = dropK key t.ps) := hid (by rw [hqs, hkk]; exact hg.froms key)
  simp only [← hkk] at HBL
  have HY := hid hY
  have hk0 : (0 : Int) ≤ (k : Nat) := Int.natCast_nonneg _
  have hk1 : ((k : Nat) : Int) ≤ (t.bs.length : Int) := by exact_mod_cast (show k ≤ t.bs.length by omega)
  have hk2 : k ≤ t.bs.length := by omega
  have hk3 : ¬ bc = k := by omega
  have hbI : (t.bs.length : Int) ≤ (bc : Int) := by exact_mod_cast hbc
  have HQL := hid hql
  have hqm : qs.length ≤ 1048576 := by omega
  have hqI : (qs.length : Int) ≤ 1048576 := by omega
  clear hr hY hg hkk ht htW hc hbl hql hqs hkl
  gi_wp2
  refine wpIn_wide.2 ?_
  refine wp_region_noPanic ?_
  refine wp_region_held_drew (S := (fun w' => Below W.heap.size W w' ∧ w'.cell? ⟨bt, 0, none⟩ = some (.pointer (some ⟨g, 0, none⟩)) ∧ w'.cell? ⟨bk, 0, none⟩ = some (.string ⟨key.toArray⟩) ∧ w'.cell? ⟨g, 1, none⟩ = some (.slice (some ⟨bb, off, none⟩) t.bs.length bc))) (by kernel_rfl) ?_ (fun hHeld => ?_)
  · exact HC.out _ (Below.refl _ _).drew
  refine wpAnyH_take (i := 0) (oi := ?fo0) (v := ?fv0) ?fe0 (by kernel_rfl) (by kernel_rfl) (by kernel_rfl) (fun _ _ _ h => h) (Or.inl ⟨?fw0, ?fy0⟩) (by assumption) ?fr0
  case fe0 => ((simp only [List.getElem?_toArray, List.getElem?_cons_succ, List.getElem?_cons_zero]) <;> rfl)
  case fw0 => rfl
  case fy0 => (intro w hSw; (try dsimp only at hSw); go_simp; (try with_reducible rfl))
  try simp only [Act.put, List.setIfInBounds_toArray, List.set_cons_zero, List.set_cons_succ]
  refine wpAnyH_take (i := 1) (oi := ?fo1) (v := ?fv1) ?fe1 (by kernel_rfl) (by kernel_rfl) (by kernel_rfl) (fun _ _ _ h => h) (Or.inl ⟨?fw1, ?fy1⟩) (by assumption) ?fr1
  case fe1 => ((simp only [List.getElem?_toArray, List.getElem?_cons_succ, List.getElem?_cons_zero]) <;> rfl)
  case fw1 => rfl
  case fy1 => (intro w hSw; (try dsimp only at hSw); go_simp; (try with_reducible rfl))
  try simp only [Act.put, List.setIfInBounds_toArray, List.set_cons_zero, List.set_cons_succ]
  refine wpAnyH_take (i := 2) (oi := ?fo2) (v := ?fv2) ?fe2 (by kernel_rfl) (by kernel_rfl) (by kernel_rfl) (fun _ _ _ h => h) (Or.inl ⟨?fw2, ?fy2⟩) (by assumption) ?fr2
  case fe2 => ((simp only [List.getElem?_toArray, List.getElem?_cons_succ, List.getElem?_cons_zero]) <;> rfl)
  case fw2 => rfl
  case fy2 => (intro w hSw; (try dsimp only at hSw); go_simp; (try with_reducible rfl))
  try simp only [Act.put, List.setIfInBounds_toArray, List.set_cons_zero, List.set_cons_succ]
  refine wpAnyH_take (i := 3) (oi := ?fo3) (v := ?fv3) ?fe3 (by kernel_rfl) (by kernel_rfl) (by kernel_rfl) (fun _ _ _ h => h) (Or.inl ⟨?fw3, ?fy3⟩) (by assumption) ?fr3
  case fe3 => ((simp only [List.getElem?_toArray, List.getElem?_cons_succ, List.getElem?_cons_zero]) <;> rfl)
  case fw3 => rfl
  case fy3 => (intro w hSw; (try dsimp only at hSw); go_simp; (try with_reducible rfl))
  try simp only [Act.put, List.setIfInBounds_toArray, List.set_cons_zero, List.set_cons_succ]
  refine wpAnyH_take (i := 4) (oi := ?fo4) (v := ?fv4) ?fe4 (by kernel_rfl) (by kernel_rfl) (by kernel_rfl) (fun _ _ _ h => h) (Or.inl ⟨?fw4, ?fy4⟩) (by assumption) ?fr4
  case fe4 => ((simp only [List.getElem?_toArray, List.getElem?_cons_succ, List.getElem?_cons_zero]) <;> rfl)
  case fw4 => rfl
  case fy4 => (intro w hSw; (try dsimp only at hSw); go_simp; (try with_reducible rfl))
  try simp only [Act.put, List.setIfInBounds_toArray, List.set_cons_zero, List.set_cons_succ]
  refine wpAnyH_take (i := 5) (oi := ?fo5) (v := ?fv5) ?fe5 (by kernel_rfl) (by kernel_rfl) (by kernel_rfl) (fun _ _ _ h => h) (Or.inl ⟨?fw5, ?fy5⟩) (by assumption) ?fr5
  case fe5 => ((simp only [List.getElem?_toArray, List.getElem?_cons_succ, List.getElem?_cons_zero]) <;> rfl)
  case fw5 => rfl
  case fy5 => (intro w hSw; (try dsimp only at hSw); go_simp; (try with_reducible rfl))
  try simp only [Act.put, List.setIfInBounds_toArray, List.set_cons_zero, List.set_cons_succ]
  refine wpAnyH_take (i := 9) (oi := ?fo9) (v := ?fv9) ?fe9 (by kernel_rfl) (by kernel_rfl) (by kernel_rfl) (fun _ _ _ h => h) (Or.inl ⟨?fw9, ?fy9⟩) (by assumption) ?fr9
  case fe9 => ((simp only [List.getElem?_toArray, List.getElem?_cons_succ, List.getElem?_cons_zero]) <;> rfl)
  case fw9 => rfl
  case fy9 => (intro w hSw; (try dsimp only at hSw); go_simp; (try with_reducible rfl))
  try simp only [Act.put, List.setIfInBounds_toArray, List.set_cons_zero, List.set_cons_succ]
  refine wpAnyH_ready (rs := [6]) (by kernel_rfl) (by simp) ?_
  refine AllReadyH.cons (o := ?fo6) ?fe6 (fun K hK => ?fc6) ?fn6
  case fn6 => exact AllReadyH.nil
  case fe6 => ((simp only [List.getElem?_toArray, List.getElem?_cons_succ, List.getElem?_cons_zero]) <;> rfl)
  go_simp
  go_at_call 62
  refine (HBL.out _ (Below.refl _ _).drew).mono ?_
  rintro _ wz ⟨rfl, hwz⟩
  refine hK.out _ _ ?_ (fun hHeld6 => ?_)
  · exact HC.out _ (bnext (Below.refl _ _).drew hwz)
  clear hK K
  try simp only [Act.put, List.setIfInBounds_toArray, List.set_cons_zero, List.set_cons_succ]
  refine wpAnyH_take (i := 7) (oi := ?fo7) (v := ?fv7) ?fe7 (by kernel_rfl) (by kernel_rfl) (by kernel_rfl) (fun _ _ _ h => h) (Or.inl ⟨?fw7, ?fy7⟩) (by assumption) ?fr7
  case fe7 => ((simp only [List.getElem?_toArray, List.getElem?_cons_succ, List.getElem?_cons_zero]) <;> rfl)
  case fw7 => rfl
  case fy7 => (intro w hSw; (try dsimp only at hSw); go_simp; (try with_reducible rfl))
  try simp only [Act.put, List.setIfInBounds_toArray, List.set_cons_zero, List.set_cons_succ]
  refine wpAnyH_take (i := 8) (oi := ?fo8) (v := ?fv8) ?fe8 (by kernel_rfl) (by kernel_rfl) (by kernel_rfl) (fun _ _ _ h => h) (Or.inl ⟨?fw8, ?fy8⟩) (by assumption) ?fr8
  case fe8 => ((simp only [List.getElem?_toArray, List.getElem?_cons_succ, List.getElem?_cons_zero]) <;> rfl)
  case fw8 => rfl
  case fy8 => (intro w hSw; (try dsimp only at hSw); go_simp; (try with_reducible rfl))
  try simp only [Act.put, List.setIfInBounds_toArray, List.set_cons_zero, List.set_cons_succ]
  refine wpAnyH_done (by kernel_rfl) ?_ _
  refine NoPanic.normal ?_
  rw [← HQL.out]
  have HKW := hid (KpB.grow (N := w0.heap.size) (x := x) (bnext (Below.refl _ W).drew hwz) hNx hx)
  have HJ0 := hid (hJ _ _ _ none h0 (⟨(bnext (Below.refl _ W).drew hwz).os, (bnext (Below.refl _ W).drew hwz).tape, (bnext (Below.refl _ W).drew hwz).output, (bnext (Below.refl _ W).drew hwz).size, fun i hi _ => (bnext (Below.refl _ W).drew hwz).block i hi⟩ : W.grownBy wz none) (by simp))
  clear hHeld hHeld6 c1 c2 d1 h0 HC HBL
  gi_wp2
  gi_loopw [21] (fun i wr => ∃ j : Nat, j ≤ qs.length ∧ i = .int .i64 j ∧ KpB w0.heap.size x W wr ∧ J ((qs.take j).flatten.filter (geK key)) wr) (fun i _ => qs.length - (intOf i).toNat)
  case atStart => exact ⟨0, by omega, rfl, HKW.out, HJ0.out⟩
  case round =>
    obtain ⟨j, hj, rfl, hkp, hJs⟩ := hrel
    by_cases hjq : j < qs.length
    case neg =>
      obtain rfl : j = qs.length := by omega
      rw [List.take_length, hfr.out] at hJs
      clear hkp hjq
      gi_wp2
      go_end0
      exact ⟨⟨_, rfl⟩, .inl ⟨_, rfl, hJs⟩⟩
    case pos =>
    have hcj := HBK.out wr hkp.bl j hjq
    have hji : (j : Int) < (qs.length : Int) := by omega
    have hj0 : (0 : Int) ≤ (j : Int) := by omega
    have hpa := pairs_any (blkL qs[j]) (HBM.out j hjq) wr
    rw [HPX.out j hjq] at hpa
    gi_wp2
    refine ⟨trivial, fun _ => by omega, (callsIn_wide.2 hpa).mono ?_⟩
    rintro _ w1 ⟨⟨v, rfl, how⟩, hb1⟩
    have h8 := HG8.out j hjq
    have hj1 := hid (hJ _ _ _ none hJs (⟨hb1.os, hb1.tape, hb1.output, hb1.size, fun i hi _ => hb1.block i hi⟩ : wr.grownBy w1 none) (by simp))
    have hxr : x < wr.heap.size := Nat.lt_of_lt_of_le hx hkp.bl.size
    have hKP := hid (hkp.trans (KpB.grow (x := x) hb1 (Nat.le_trans hNx hkp.bl.size) hxr))
    have hpre := hid (fun m => from_pre (m := m) key hjq)
    have htk := hid (show (qs.take (j + 1)).flatten.filter (geK key) = (qs.take j).flatten.filter (geK key) ++ qs[j].filter (geK key) by rw [List.take_succ_eq_append_getElem hjq, List.flatten_append, List.filter_append]; simp)
    obtain ⟨ls, hls⟩ : ∃ y, y = qs[j] := ⟨_, rfl⟩
    rw [← hls] at how h8 hpre htk
    clear hls
    obtain ⟨cur, xb, T3, z3, cap3, rfl, hge, hrow, hxe⟩ : ∃ cur xb T3 z3 cap3, v = .slice (some ⟨xb, 0, none⟩) ls.length cap3 ∧ wr.heap.size ≤ xb ∧ w1.heap[xb]? = some (.cells cur T3 z3) ∧ ∀ (i : Nat) (hi : i < ls.length) (jj : Nat) (u : Value), (prC ls[i])[jj]? = some u → w1.cell? ⟨xb, i * 3 + jj, none⟩ = some u := by
      obtain ⟨-, xb, xc, hv, hg1, hg2, hg3, hg4⟩ := own_cells (by omega) prC_len how (List.length_pos_iff.2 h8.1)
      rcases how.2 with ⟨hv0, -⟩ | ⟨g', cap', cur', hv', -, hgr', -⟩
      · rw [hv] at hv0; cases hv0
      · rw [hv] at hv'
        cases hv'
        exact ⟨cur', xb, _, _, xc, hv, hg1, hgr', hg4⟩
    have hox := hid (fun (q : ownB x w1 xb) => (show False from by
      obtain ⟨u, hu, hub⟩ := q
      rcases hkp.nw xb ⟨u, (hb1.cell (p := ⟨x, 0, none⟩) hxr).symm.trans hu, hub⟩ with q | q
      · exact hno xb q
      · omega))
    have hxbx : xb ≠ x := by omega
    have HXE := hid hxe
    have H8 := hid h8.2
    have hlI : (ls.length : Int) ≤ 8 := by have := h8.2; omega
    have hsz1 := hid hb1.size
    clear how hb1 hcj hpa hJs hxe h8
    gi_wp2
    gi_loopw [32] (fun i wi => ∃ m : Nat, m ≤ ls.length ∧ i = .int .i64 m ∧ KpB w0.heap.size x w1 wi ∧ J ((qs.take j).flatten.filter (geK key) ++ (ls.take m).filter (geK key)) wi) (fun i _ => ls.length - (intOf i).toNat)
    case atStart => exact ⟨0, by omega, rfl, KpB.refl _ _ _, by simpa using hj1.out⟩
    case round =>
      obtain ⟨m, hm, rfl, hki, hJi⟩ := hrel
      by_cases hmq : m < ls.length
      case neg =>
        obtain rfl : m = ls.length := by omega
        rw [List.take_length, ← htk.out] at hJi
        gi_wp2
        go_roundw
        case rel => exact ⟨j + 1, by omega, by go_num, hKP.out.trans hki, hJi⟩
        case measure => simp [intOf]; omega
      case pos =>
      have hkw := hid (hKP.out.trans hki)
      have hrx := (hki.cs xb cur T3 z3 hrow hxbx hox.out).trans hrow
      have hcb : ∀ jj, wr.cell? ⟨xb, jj, none⟩ = w1.cell? ⟨xb, jj, none⟩ := fun jj => World.cell?_of_block (hrx.trans hrow.symm)
      have hkb := (hkw.out.cs bk _ _ _ hbk hkx (hno bk)).trans hbk
      have hpos := hid (hpre.out (m + 1))
      have htm := hid (show (ls.take (m + 1)).filter (geK key) = (ls.take m).filter (geK key) ++ (if geK key ls[m] = true then [ls[m]] else []) by rw [List.take_succ_eq_append_getElem hmq, List.filter_append, List.filter_cons, List.filter_nil])
      have hup : ∀ (jj : Nat) (u : Value), (prC ls[m])[jj]? = some u → wr.cell? ⟨xb, m * 3 + jj, none⟩ = some u := fun jj u q => (hcb _).trans (HXE.out m hmq jj u q)
      obtain ⟨pm, hpm⟩ : ∃ y, y = ls[m] := ⟨_, rfl⟩
      rw [← hpm] at hup htm
      obtain ⟨kk, vv, gg⟩ := pm
      have q0 : wr.cell? ⟨xb, m * 3, none⟩ = some (.string ⟨kk.toArray⟩) := hup 0 _ rfl
      have q1 : wr.cell? ⟨xb, m * 3 + 1, none⟩ = some (.string ⟨vv.toArray⟩) := hup 1 _ rfl
      have q2 : wr.cell? ⟨xb, m * 3 + 2, none⟩ = some (.bool gg) := hup 2 _ rfl
      clear hup hpm hcb
      have hmi' : (m : Int) < (ls.length : Int) := by omega
      have hm0 : (0 : Int) ≤ (m : Int) := by omega
      obtain ⟨W2, hW⟩ : ∃ y, y = wr.alloc (.cells #[.string ⟨kk.toArray⟩, .string ⟨vv.toArray⟩, .bool gg] 70) := ⟨_, rfl⟩
      have bW : Below wr.heap.size wr W2 := by rw [hW]; exact (Below.refl _ _).alloc (Nat.le_refl _) _
      have hCW : W2.heap[wr.heap.size]? = some (.cells #[.string ⟨kk.toArray⟩, .string ⟨vv.toArray⟩, .bool gg] 70 (0, 0)) := by rw [hW]; exact heap_alloc_new wr _
      obtain ⟨y0, y1, y2, -⟩ := prow_cell hCW
      have hxi : x < wr.heap.size := Nat.lt_of_lt_of_le hxr (Nat.le_trans hsz1.out hki.bl.size)
      have hNi : w0.heap.size ≤ wr.heap.size := Nat.le_trans hNx hkw.out.bl.size
      have hkbW : W2.cell? ⟨bk, 0, none⟩ = some (.string ⟨key.toArray⟩) := by
        rw [bW.cell (p := ⟨bk, 0, none⟩) (Array.getElem?_eq_some_iff.1 hkb).1, cell_of_row _ _ 0 _ _ (0, 0) hkb]; rfl
      have HJ2 := hid (hJ _ _ _ none hJi (⟨bW.os, bW.tape, bW.output, bW.size, fun i hi _ => bW.block i hi⟩ : wr.grownBy W2 none) (by simp))
      have HK2 := hid (hki.trans (KpB.grow (x := x) bW hNi hxi))
      have HW := hid hW
      clear hCW bW hW hrx hkb hJi
      cases hge' : geK key (kk, vv, gg) with
      | false =>
        rw [hge'] at htm
        have hlt : Op.bytesLess kk key = true := by simpa [geK] using hge'
        gi_wp2_with (rw [← HW.out])
        refine ⟨fun _ h => (by cases h), ?_⟩
        gi_wp2
        go_roundw
        case rel => exact ⟨m + 1, by omega, by go_num, HK2.out, by rw [htm.out]; simpa using HJ2.out⟩
        case measure => simp [intOf]; omega
      | true =>
        rw [hge'] at htm
        have hlt : Op.bytesLess kk key = false := by simpa [geK] using hge'
        have hpo := hpos.out
        rw [htm.out, if_pos rfl, ← List.append_assoc, hfr.out] at hpo
        obtain ⟨fn, tmps, assign, body, hy, hR⟩ := HY.out _ (kk, vv, gg) W2 HJ2.out (by have := hpo.length_le; simp at this ⊢; omega)
        dsimp only [prE, prC, strV] at hy
        gi_wp2_with (rw [← HW.out])
        refine ⟨fun _ => by omega, hR.mono ?_⟩
        rintro e W3 (⟨rfl, hJ3, hk3⟩ | ⟨rfl, hJx3⟩)
        · have HK3 := hid (HK2.out.trans hk3)
          have HJ3 := hid (show J ((qs.take j).flatten.filter (geK key) ++ (ls.take (m + 1)).filter (geK key)) W3 by rw [htm.out]; simpa [List.append_assoc] using hJ3)
          clear hJ3 hk3 hy hR hpo
          gi_wp2
          go_roundw
          case rel => exact ⟨m + 1, by omega, by go_num, HK3.out, HJ3.out⟩
          case measure => simp [intOf]; omega
        · gi_wp2
          refine bodyPost_ret (results_none rfl _ _ _) rfl ?_
          exact ⟨⟨_, rfl⟩, .inr ⟨_, hpo, hJx3⟩⟩
end Go.Proofs.Ytfdbcnpbjabjoaa
namespace Go.Proofs.Ytfdbcnpbjabjoaa
open Go.RowKit Go.Shelf
set_option linter.unusedVariables false
set_option linter.unusedSimpArgs false

/-- what From hands back: the iterator with its two boxes -/
def fromV (n : Nat) : Value := .func (.func 65) #[] #[.pointer (some ⟨n, 0, none⟩), .pointer (some ⟨n + 1, 0, none⟩)]
set_option maxHeartbeats 1600000 in
set_option maxRecDepth 100000 in
theorem from_any (g : Nat) (key : List UInt8) (w : World) : Calls Try.prog 31 #[.pointer (some ⟨g, 0, none⟩), .string ⟨key.toArray⟩] w fun e w' => e = .returned (fromV w.heap.size) ∧ w' = (w.alloc (.cells #[.pointer (some ⟨g, 0, none⟩)] 61)).alloc (.cells #[.string ⟨key.toArray⟩] 9) := by
  go_enter Try.func31, Try.ntmps31
  go_wp2_with fail
  go_ret
  exact ⟨by unfold fromV; simp, rfl⟩
theorem from_stops (n : Nat) (hn : 3 ≤ n) (bt bk g x N : Nat) (t : Tb) (prs : List (List Pr)) (key : List UInt8) (hg : GoodT t prs) (w w0 : World) (T1 T2 : TypeId)
    (hbt : w.heap[bt]? = some (.cells #[.pointer (some ⟨g, 0, none⟩)] T1 (0, 0))) (hbk : w.heap[bk]? = some (.cells #[.string ⟨key.toArray⟩] T2 (0, 0))) (htx : bt ≠ x) (hkx : bk ≠ x) (hx : x < w.heap.size) (hx0 : w.cell? ⟨x, 0, none⟩ = some (.slice none 0 0))
    (hN : w0.heap.size = N) (ht : TabAt w0 g t) (hb0 : Below N w0 w) :
    SeqStopsK Fence.wide n Try.prog 65 #[.pointer (some ⟨bt, 0, none⟩), .pointer (some ⟨bk, 0, none⟩)] prE (KpB N x) (fun ys => ys = dropK key t.ps) (fun pre => pre <+: dropK key t.ps) (dropK key t.ps).length w := by
  intro l J Jx W hW hJ _ hY h0
  have hNx : N ≤ w.heap.size := by rw [← hN]; exact hb0.size
  refine from1_in n hn l bt bk g x N t prs key hg J Jx W w0 T1 T2 hJ hY ((hW.block bt (Array.getElem?_eq_some_iff.1 hbt).1).trans hbt) ((hW.block bk (Array.getElem?_eq_some_iff.1 hbk).1).trans hbk) htx hkx (Nat.lt_of_lt_of_le hx hW.size) hN ht (hb0.trans ⟨hW.os, hW.tape, hW.output, hW.size, fun k hk => hW.block k (by omega)⟩) (Nat.le_trans hNx hW.size) ?_ h0
  rintro b ⟨v, hv, hb⟩
  rw [hW.cell (p := ⟨x, 0, none⟩) hx, hx0] at hv
  cases hv
  cases hb
end Go.Proofs.Ytfdbcnpbjabjoaa
namespace Go.Proofs.Ytfdbcnpbjabjoaa
open Go.RowKit Go.Shelf
set_option linter.unusedVariables false
set_option linter.unusedSimpArgs false

attribute [local go_sem] Oper.semAt_some

set_option maxRecDepth 100000 in
set_option maxHeartbeats 8000000 in
theorem appendSeq_in (n : Nat) (hn : 8 ≤ n) (gf : Nat) (lb : Array Value) (D : List Pr) (w : World) (hD : D.length ≤ 16777216)
    (hseq : ∀ w1, w1 = w.alloc (.cells #[.slice none 0 0] 55) → SeqStopsK Fence.wide (n - 1) Try.prog gf lb prE (KpB w.heap.size w.heap.size) (fun ys => ys = D) (fun pre => pre <+: D) D.length w1) (eg : ∀ args w, (callFunc gf args).run Try.prog w = .ok (.enter gf args) w) :
    CallsIn Fence.wide n Try.prog 64 #[.slice none 0 0, .func (.func gf) #[] lb] w fun e w' => ∃ v, e = .returned v ∧ w'.ownsRow w.heap.size 70 3 v D.length (D.flatMap prC) ∧ Below w.heap.size w w' := by
  refine callsIn_of_wp_marks Try.func64 rfl trivial ?_ rfl
  simp only [Try.ntmps64, List.size_toArray, List.length_cons, List.length_nil, Nat.reduceAdd, Nat.reduceSub, Array.replicate_succ, Array.replicate_zero, List.push_toArray, List.append_toArray, List.nil_append, List.cons_append]
  gi_wp2
  obtain ⟨w1, hw1⟩ : ∃ y, y = w.alloc (.cells #[.slice none 0 0] 55) := ⟨_, rfl⟩
  have hsz : w1.heap.size = w.heap.size + 1 := by rw [hw1, World.size_alloc]
  have hB1 : Below w.heap.size w w1 := by rw [hw1]; exact (Below.refl _ _).alloc (Nat.le_refl _) _
  have hbx : Boxed w1 w.heap.size 55 (.slice none 0 0) := by rw [hw1]; exact Boxed.new w _ _
  have hsq := hseq w1 hw1
  rw [← hw1]
  clear hseq
  refine wpIn_rangeFunc_ownH (F := Fence.wide) (w := w1) rfl (by omega) (gf := gf) (lb := lb) rfl trivial eg hsq (fun h k => h.trans k) (fun W l o o' hl h hc hw => KpB.put (by omega) (by omega) W l o o' hl h hc hw) (Below.refl _ _) (fun _ => rfl)
    (fun pre W => (∃ v, Boxed W w.heap.size 55 v ∧ W.ownsRow w.heap.size 70 3 v pre.length (pre.flatMap prC) ∧ True) ∧ Below w.heap.size w W)
    (fun _ _ _ => False)
    (OwnFrom.and (Own.from (holdsRow_own w.heap.size w.heap.size 55 70 3 (fun pre : List Pr => pre.length) (fun pre => pre.flatMap prC) (fun _ _ => True)) _) (ownFrom_below (Nat.le_refl _) (by omega)))
    (fun _ _ _ _ _ hs _ _ => hs)
    ⟨⟨_, hbx, World.ownsRow_nil _ _ _ _, trivial⟩, hB1⟩
    (fun p a' W => ∃ Bx, w.heap.size < Bx ∧ W.heap[Bx]? = some (.cells #[strV p.1, strV p.2.1, .bool p.2.2] 70 (0, 0)) ∧ a' = { tmps := #[.slice none 0 0, .func (.func gf) #[] lb, .pointer (some ⟨w.heap.size, 0, none⟩), undef, .slice none 0 0, .pointer (some ⟨Bx, 0, none⟩), .func (.func gf) #[] lb, .agg (prC p).toArray, undef, undef, undef, undef, undef], defers := [] })
    ?hax ?assign ?body ?done ?stop
  case hax =>
    rintro p a' _ A B row ⟨Bx, h1, h2, h3⟩ hg hr
    refine ⟨Bx, h1, ?_, h3⟩
    refine (hg.block Bx (Array.getElem?_eq_some_iff.1 h2).1 (fun e => ?_)).trans h2
    obtain ⟨-, o, ho, hc⟩ := hr Bx e.symm
    rw [h2] at ho
    cases ho
    cases hc
  case assign =>
    rintro l pre ⟨kk, vv, gg⟩ W K ⟨⟨v, hv, hrow, -⟩, hB⟩ hK
    dsimp only [prE, prC, strV] at *
    gi_wp2
    exact hK _ _ ((KeepsOthers.alloc _ _).from _) (KpB.grow ((Below.refl _ W).alloc (Nat.le_refl _) _) hB.size hv.lt) ⟨⟨v, hv.alloc _, hrow.alloc _, trivial⟩, hB.alloc hB.size _⟩ ⟨W.heap.size, hv.lt, heap_alloc_new W _, rfl⟩
  case body =>
    rintro l pre ⟨kk, vv, gg⟩ a' W hl ⟨r, hr⟩ ⟨⟨v, hv, hrow, -⟩, hB⟩ ⟨Bx, hBx, hpr, rfl⟩ hlt
    obtain ⟨va, vc, rfl⟩ := ownsRow_slice hrow
    have hc := hv.cell
    have hf := hv.frozen
    dsimp only [prC, strV] at hpr
    obtain ⟨y0, y1, y2, -⟩ := prow_cell hpr
    dsimp only [prC, strV]
    obtain ⟨Wn, hWn⟩ : ∃ y, y = W.alloc (.cells #[.string ⟨kk.toArray⟩, .string ⟨vv.toArray⟩, .bool gg] 70) := ⟨_, rfl⟩
    have hrn : Wn.ownsRow w.heap.size 70 3 (.slice va pre.length vc) pre.length (pre.flatMap prC) := by rw [hWn]; exact hrow.alloc _
    have hyn : ∀ j u, (prC (kk, vv, gg))[j]? = some u → Wn.cell? ⟨W.heap.size, j, none⟩ = some u := fun j u q => by
      have hh : Wn.heap[W.heap.size]? = some (.cells #[.string ⟨kk.toArray⟩, .string ⟨vv.toArray⟩, .bool gg] 70 (0, 0)) := by rw [hWn]; exact heap_alloc_new W _
      rw [cell_of_row _ _ j _ _ (0, 0) hh, ← q]
      simp [prC, strV]
    have hsn : w.heap.size ≤ Wn.heap.size := by rw [hWn, World.size_alloc]; have := hB.size; omega
    have hb1 : pre.length + 1 ≤ maxLen := by unfold maxLen; omega
    have hb2 : (pre.length + 1) * 40 ≤ 140737488355328 := by omega
    have HWn := hid hWn
    gi_wp2_with (gi_at_builtin; rw [← HWn.out]; refine wpListIn_append_row _ rfl _ _ 55 rfl prC 3 (by decide) prC_len prC_one w.heap.size 70 (.agg #[.string .empty, .string .empty, .bool false]) 40 Try.underlying55 infoPr rfl (.slice va pre.length vc) pre.length pre rfl hrn W.heap.size 1 rfl (kk, vv, gg) hyn hb1 hb2 hsn ?_)
    intro a2 c2 w2 hown' hgrow hnew
    obtain ⟨hv1, hv2, hr2, hk2, hbl2⟩ := hv.appended (by decide) hrow hB.size (Nat.le_refl _) hown' hgrow
    have hc1 := hv1.cell
    have hf1 := hv1.frozen
    have hkp : KpB w.heap.size w.heap.size W (w2.setCell ⟨w.heap.size, 0, none⟩ (.slice a2 (pre.length + 1) c2)) := by
      refine ⟨hbl2, fun b c T z hb hx ho => ?_, fun b ⟨u, hu, hub⟩ => ?_⟩
      · have h1 := (Array.getElem?_eq_some_iff.1 hb).1
        refine ((grownBy_setCell' w2 w.heap.size (.slice a2 (pre.length + 1) c2)).block b ?_ (by simpa using hx)).trans ((hgrow.block b (by rw [World.size_alloc]; omega) (fun e => ho ⟨_, hc, e.symm⟩)).trans (heap_alloc_old W _ b h1))
        have := hgrow.size
        rw [World.size_alloc] at this
        omega
      · rw [hv2.cell] at hu
        cases hu
        rcases hnew b hub with q | q
        · exact .inl ⟨_, hc, q⟩
        · refine .inr ⟨?_, (hr2.lt b hub).2⟩
          omega
    clear hrn hyn hown' hgrow hnew hv1
    gi_wp2
    exact ⟨hk2.from _, hkp, ⟨⟨_, hv2, by rw [List.length_append, List.flatMap_append, List.flatMap_singleton]; exact hr2, trivial⟩, hB.trans hbl2⟩⟩
  case done =>
    rintro Dd ys W hD rfl ⟨⟨v, hv, hrow, -⟩, hB⟩ hK
    obtain ⟨va, vc, rfl⟩ := ownsRow_slice hrow
    have hc := hv.cell
    gi_wp2
    refine ⟨by simp, .inl ⟨_, _, rfl, run_takeDeferred hK, ?_⟩⟩
    exact ⟨_, results_tmp rfl _ _ _, ⟨_, rfl, ownsRow_putObj hrow _ hK rfl, hB.trans (belowK_b (w := w) (Nat.le_refl _) W Dd _ _ (by omega) hK rfl rfl)⟩⟩
  case stop =>
    rintro Dd c pre W _ _ h _
    exact h.elim
theorem flat_len : ∀ (prs : List (List Pr)), (∀ x ∈ prs, x ≠ [] ∧ x.length ≤ 8) → prs.flatten.length ≤ 8 * prs.length
  | [], _ => by simp
  | x :: prs, h => by
    have h1 := (h x (by simp)).2
    have h2 := flat_len prs (fun y hy => h y (by simp [hy]))
    rw [List.flatten_cons, List.length_append, List.length_cons]
    omega
theorem drop_len {t : Tb} {prs : List (List Pr)} (hg : GoodT t prs) (key : List UInt8) : (dropK key t.ps).length ≤ 16777216 := by
  have h1 := flat_len prs hg.g8
  have h2 := hg.bl.1
  rw [hg.bs, List.length_map] at h2
  have h3 := (List.dropWhile_sublist (fun p : Pr => ltB p.1 key) (l := t.ps)).length_le
  unfold dropK
  rw [hg.ps] at *
  omega
set_option maxRecDepth 100000 in
set_option maxHeartbeats 8000000 in
theorem collect_any (bt g : Nat) (t : Tb) (prs : List (List Pr)) (key : List UInt8) (hg : GoodT t prs) (w : World) (T1 T2 : TypeId) (hbt : w.heap[bt]? = some (.cells #[.pointer (some ⟨g, 0, none⟩)] T1 (0, 0))) (hbk : w.heap[bt + 1]? = some (.cells #[.string ⟨key.toArray⟩] T2 (0, 0))) (ht : TabAt w g t) :
    Calls Try.prog 30 #[fromV bt] w fun e w' => ∃ v, e = .returned v ∧ w'.ownsRow w.heap.size 70 3 v (dropK key t.ps).length ((dropK key t.ps).flatMap prC) ∧ Below w.heap.size w w' := by
  have l1 := (Array.getElem?_eq_some_iff.1 hbt).1
  have l2 := (Array.getElem?_eq_some_iff.1 hbk).1
  have hc := callsIn_wide.1 (appendSeq_in 8 (by omega) 65 #[.pointer (some ⟨bt, 0, none⟩), .pointer (some ⟨bt + 1, 0, none⟩)] (dropK key t.ps) w (drop_len hg key) (fun w1 h1 => by
    have hb : Below w.heap.size w w1 := by rw [h1]; exact (Below.refl _ _).alloc (Nat.le_refl _) _
    exact from_stops 7 (by omega) bt (bt + 1) g w.heap.size w.heap.size t prs key hg w1 w T1 T2 ((hb.block _ l1).trans hbt) ((hb.block _ l2).trans hbk) (by omega) (by omega) (by rw [h1, World.size_alloc]; omega) (by rw [h1]; exact (Boxed.new w _ _).cell) rfl ht hb)
    (enters_of Try.func65 (by kernel_rfl) rfl))
  unfold fromV
  clear hbt hbk ht
  go_enter Try.func30, Try.ntmps30
  go_wp2_with fail
  refine hc.mono ?_
  rintro _ w2 ⟨v, rfl, how, hb⟩
  go_wp2_with fail
  go_ret
  exact ⟨_, rfl, how, hb⟩
end Go.Proofs.Ytfdbcnpbjabjoaa
