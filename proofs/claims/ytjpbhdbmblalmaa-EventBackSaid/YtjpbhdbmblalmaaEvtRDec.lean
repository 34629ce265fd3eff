/- CONTRACT: the reference's Decode of an event. -/
import Derived.Test.YtjpbhdbmblalmaaEvtREnc
import Derived.Test.YtjpbhdbmblalmaaEvtDec
import Derived.Test.YtjpbhdbmblalmaaPgmRDec
namespace Go.Proofs.Ytjpbhdbmblalmaa
open Go.RowKit
set_option linter.unusedVariables false

def zEv : Ev := (0, 0, 0, 0, 0, 0, false, [])
/-- a reader, the result's block, an event's block -/
structure DS (w wr : World) (g gr gt n : Nat) (x : Ev) (r : List UInt8) (b : Bool) : Prop where
  rd : RRdr wr g r b
  q : wr.heap[gr]? = some (.cells (evC zEv) 23 (0, 0))
  e : wr.heap[gt]? = some (.cells (evC x) 23 (0, 0))
  below : Below w.heap.size w wr
  sane : Sane r b
  len : r.length ≤ n
theorem DS.read {w wr w' : World} {g gr gt n : Nat} {x : Ev} {r r' : List UInt8} {b b' : Bool} (h : DS w wr g gr gt n x r b) (a : At g wr w') (rd' : RRdr w' g r' b') (s' : Sane r' b') (l' : r'.length ≤ r.length) (n1 : gr ≠ g) (n3 : gt ≠ g) (hg : w.heap.size ≤ g) : DS w w' g gr gt n x r' b' :=
  ⟨rd', (a.block gr (Array.getElem?_eq_some_iff.1 h.q).1 (by simpa using n1)).trans h.q, (a.block gt (Array.getElem?_eq_some_iff.1 h.e).1 (by simpa using n3)).trans h.e, At.below h.below a hg, s', Nat.le_trans l' h.len⟩
theorem DS.next {w wr w' : World} {g gr gt n : Nat} {x : Ev} {r : List UInt8} {b : Bool} (h : DS w wr g gr gt n x r b) (k : Below wr.heap.size wr w') : DS w w' g gr gt n x r b :=
  ⟨h.rd.keep k, (k.block _ (Array.getElem?_eq_some_iff.1 h.q).1).trans h.q, (k.block _ (Array.getElem?_eq_some_iff.1 h.e).1).trans h.e, bnext h.below k, h.sane, h.len⟩
theorem DS.set {w wr : World} {g gr gt n : Nat} {x x' : Ev} {r : List UInt8} {b : Bool} (h : DS w wr g gr gt n x r b) (j : Nat) (u : Value) (n3 : gt ≠ g) (n4 : gr ≠ gt) (hg : w.heap.size ≤ gt) (hx : ∀ w2 : World, w2.heap[gt]? = some (.cells (evC x) 23 (0, 0)) → (w2.setCell ⟨gt, j, none⟩ u).heap[gt]? = some (.cells (evC x') 23 (0, 0))) : DS w (wr.setCell ⟨gt, j, none⟩ u) g gr gt n x' r b :=
  ⟨h.rd.grown ((At.refl gt wr).set j u) (Ne.symm n3), (((At.refl gt wr).set j u).block gr (Array.getElem?_eq_some_iff.1 h.q).1 (by simpa using n4)).trans h.q, hx wr h.e, At.below h.below ((At.refl gt wr).set j u) hg, h.sane, h.len⟩
/-- a letter's field, read -/
def rdE (y : Ev × RS) (c : UInt8) : Ev × RS :=
  if c = 114 then ((y.1.id, y.1.kd, y.1.tk, ((rdI 1000 y.2).1 : Int), y.1.sp, y.1.ty, y.1.ud, y.1.dt), (rdI 1000 y.2).2)
  else if c = 115 then ((y.1.id, y.1.kd, y.1.tk, y.1.rf, ((rdI 100 y.2).1 : Int), y.1.ty, y.1.ud, y.1.dt), (rdI 100 y.2).2)
  else if c = 116 then ((y.1.id, y.1.kd, y.1.tk, y.1.rf, y.1.sp, ((rdI 100 y.2).1 : Int), y.1.ud, y.1.dt), (rdI 100 y.2).2)
  else if c = 117 then ((y.1.id, y.1.kd, y.1.tk, y.1.rf, y.1.sp, y.1.ty, (rdI 1 y.2).1 == 1, y.1.dt), (rdI 1 y.2).2)
  else ((y.1.id, y.1.kd, y.1.tk, y.1.rf, y.1.sp, y.1.ty, y.1.ud, (tx2 y.2).1), (tx2 y.2).2)
theorem tailG_fold (i k a : Int) (s : RS) : tailG tx2 1000 100 100 i k a s = (evS k).foldl rdE ((i, k, a, 0, 0, 0, false, []), s) := by
  unfold tailG evS
  by_cases h1 : k = 1
  · rw [h1]; rfl
  by_cases h2 : k = 12
  · rw [h2]; rfl
  have h16 : ¬ evB k = 16 := fun h => by rcases (data16 k).1 h with h | h; exact h1 h; exact h2 h
  rw [if_neg h1, if_neg h2]
  rcases evB_cases k with e | e | e | e | e | e
  · exact absurd e h16
  all_goals (rw [e]; rfl)
theorem foldl_take {α β : Type} (f : β → α → β) (y : β) (l : List α) (j : Nat) (h : j < l.length) : (l.take (j + 1)).foldl f y = f ((l.take j).foldl f y) l[j] := by
  rw [List.take_succ_eq_append_getElem h, List.foldl_append]; rfl
theorem setj (w2 : World) (gt j : Nat) (row row' : Array Value) (u : Value) (hr : row.setIfInBounds j u = row') (h : w2.heap[gt]? = some (.cells row 23 (0, 0))) : (w2.setCell ⟨gt, j, none⟩ u).heap[gt]? = some (.cells row' 23 (0, 0)) := by
  rw [← hr]; exact heap_setCell_same w2 gt j _ _ u h
set_option maxHeartbeats 3200000 in
set_option maxRecDepth 100000 in
theorem rdecodeE_any (l : List UInt8) (hl : l.length ≤ 140737488355328) (w : World) :
    Calls Try.prog 19 #[.string ⟨l.toArray⟩] w fun e w' => ∃ (x : Ev) (er : Int), e = .returned (.tuple #[evV' x, .int .i64 er]) ∧ Below w.heap.size w w' ∧ ((evF l = some x ∧ er = 0) ∨ (evF l = none ∧ er = 60 ∧ x = zEv)) := by
  have hmx : maxLen = 9223372036854775807 := rfl
  go_enter Try.func19, Try.ntmps19
  go_wp2_with fail
  obtain ⟨w1, hw1⟩ : ∃ w1, w1 = ((w.alloc (.cells (evC zEv) 23)).alloc (.cells #[.string ⟨l.toArray⟩, .bool false] 77)).alloc (.cells (evC zEv) 23) := ⟨_, rfl⟩
  have hw1' := hw1
  unfold evC zEv at hw1'
  simp only [Ev.id, Ev.kd, Ev.tk, Ev.rf, Ev.sp, Ev.ty, Ev.ud, Ev.dt] at hw1'
  rw [← hw1']
  clear hw1'
  have s1 : (w.alloc (.cells (evC zEv) 23)).heap.size = w.heap.size + 1 := Array.size_push ..
  have s2 : ((w.alloc (.cells (evC zEv) 23)).alloc (.cells #[.string ⟨l.toArray⟩, .bool false] 77)).heap.size = w.heap.size + 1 + 1 := by rw [← s1]; exact Array.size_push ..
  have b1 : Below w.heap.size w (w.alloc (.cells (evC zEv) 23)) := (Below.refl _ _).alloc (Nat.le_refl _) _
  have b2 := (Below.refl (w.alloc (.cells (evC zEv) 23)).heap.size (w.alloc (.cells (evC zEv) 23))).alloc (Nat.le_refl _) (.cells #[.string ⟨l.toArray⟩, .bool false] 77)
  have b3 := (Below.refl ((w.alloc (.cells (evC zEv) 23)).alloc (.cells #[.string ⟨l.toArray⟩, .bool false] 77)).heap.size ((w.alloc (.cells (evC zEv) 23)).alloc (.cells #[.string ⟨l.toArray⟩, .bool false] 77))).alloc (Nat.le_refl _) (.cells (evC zEv) 23)
  have D1 : DS w w1 (w.heap.size + 1) w.heap.size (w.heap.size + 1 + 1) l.length zEv l false := by
    refine ⟨?_, ?_, ?_, ?_, fun h => (by cases h), Nat.le_refl _⟩
    · rw [hw1, ← s1]; exact (Obj2.new _ _ _ _).keep b3
    · rw [hw1]; exact (b3.block _ (by omega)).trans ((b2.block _ (by omega)).trans (heap_alloc_new w _))
    · rw [hw1, ← s2]; exact heap_alloc_new _ _
    · rw [hw1]; exact bnext (bnext b1 b2) b3
  clear hw1 s1 s2 b1 b2 b3
  obtain ⟨g, hg⟩ : ∃ g, g = w.heap.size + 1 := ⟨_, rfl⟩
  obtain ⟨gt, hgt⟩ : ∃ gt, gt = w.heap.size + 1 + 1 := ⟨_, rfl⟩
  obtain ⟨gr, hgr⟩ : ∃ gr, gr = w.heap.size := ⟨_, rfl⟩
  have n1 : gr ≠ g := by omega
  have n3 : gt ≠ g := by omega
  have n4 : gr ≠ gt := by omega
  have n2 : w.heap.size ≤ g ∧ w.heap.size ≤ gr ∧ w.heap.size ≤ gt := by omega
  rw [← hgt, ← hg, ← hgr] at D1
  rw [← hgt, ← hg, ← hgr]
  clear hg hgt hgr
  -- BEGIN
  have ln1 := D1.len
  refine (rint_any_r g l false 1000 w1 D1.rd D1.sane (by omega) (by omega) (by omega)).mono ?_
  rintro _ v1 ⟨rfl, hrv1, awv1⟩
  have E1 := D1.read awv1 hrv1 (sane_intF (1000) D1.sane) (intF_len l false 1000) n1 n3 n2.1
  obtain ⟨⟨I, r1, e1⟩, hx1⟩ : ∃ x, intF l false 1000 = x := ⟨_, rfl⟩
  rw [hx1] at E1 ⊢
  simp only at E1 ⊢
  clear hrv1 awv1 ln1
  have z : v1.frozen? ⟨gt, 0, none⟩ = false := frozen_of_row v1 _ 0 _ _ E1.e
  have u : v1.cell? ⟨gt, 0, none⟩ = some (.int .i64 0) := by rw [cell_of_row v1 _ 0 _ _ (0, 0) E1.e]; rfl
  obtain ⟨y1, hy1⟩ : ∃ y1, y1 = v1.setCell ⟨gt, 0, none⟩ (.int .i64 I) := ⟨_, rfl⟩
  have F1 : DS w y1 g gr gt l.length ((I : Int), 0, 0, 0, 0, 0, false, []) r1 e1 := by rw [hy1]; exact E1.set 0 _ n3 n4 n2.2.2 (fun w2 hw2 => setj w2 gt 0 _ _ _ rfl hw2)
  have HY1 := hid hy1
  clear hy1 E1 D1
  go_wp2_with fail
  rw [← HY1.out]
  clear z u HY1
  have ln2 := F1.len
  refine (rint_any_r g r1 e1 100 y1 F1.rd F1.sane (by omega) (by omega) (by omega)).mono ?_
  rintro _ v2 ⟨rfl, hrv2, awv2⟩
  have E2 := F1.read awv2 hrv2 (sane_intF (100) F1.sane) (intF_len r1 e1 100) n1 n3 n2.1
  obtain ⟨⟨K, r2, e2⟩, hx2⟩ : ∃ x, intF r1 e1 100 = x := ⟨_, rfl⟩
  rw [hx2] at E2 ⊢
  simp only at E2 ⊢
  clear hrv2 awv2 ln2
  have z : v2.frozen? ⟨gt, 1, none⟩ = false := frozen_of_row v2 _ 1 _ _ E2.e
  have u : v2.cell? ⟨gt, 1, none⟩ = some (.int .i64 0) := by rw [cell_of_row v2 _ 1 _ _ (0, 0) E2.e]; rfl
  obtain ⟨y2, hy2⟩ : ∃ y2, y2 = v2.setCell ⟨gt, 1, none⟩ (.int .i64 K) := ⟨_, rfl⟩
  have F2 : DS w y2 g gr gt l.length ((I : Int), (K : Int), 0, 0, 0, 0, false, []) r2 e2 := by rw [hy2]; exact E2.set 1 _ n3 n4 n2.2.2 (fun w2 hw2 => setj w2 gt 1 _ _ _ rfl hw2)
  have HY2 := hid hy2
  clear hy2 E2 F1
  go_wp2_with fail
  rw [← HY2.out]
  clear z u HY2
  have ln3 := F2.len
  refine (rint_any_r g r2 e2 1125899906842624 y2 F2.rd F2.sane (by omega) (by omega) (by omega)).mono ?_
  rintro _ v3 ⟨rfl, hrv3, awv3⟩
  have E3 := F2.read awv3 hrv3 (sane_intF (1125899906842624) F2.sane) (intF_len r2 e2 1125899906842624) n1 n3 n2.1
  obtain ⟨⟨T, r3, e3⟩, hx3⟩ : ∃ x, intF r2 e2 1125899906842624 = x := ⟨_, rfl⟩
  rw [hx3] at E3 ⊢
  simp only at E3 ⊢
  clear hrv3 awv3 ln3
  have u1 : v3.cell? ⟨gt, 1, none⟩ = some (.int .i64 K) := by rw [cell_of_row v3 _ 1 _ _ (0, 0) E3.e]; rfl
  have z : v3.frozen? ⟨gt, 2, none⟩ = false := frozen_of_row v3 _ 2 _ _ E3.e
  have u : v3.cell? ⟨gt, 2, none⟩ = some (.int .i64 0) := by rw [cell_of_row v3 _ 2 _ _ (0, 0) E3.e]; rfl
  obtain ⟨y3, hy3⟩ : ∃ y3, y3 = v3.setCell ⟨gt, 2, none⟩ (.int .i64 T) := ⟨_, rfl⟩
  have F3 : DS w y3 g gr gt l.length ((I : Int), (K : Int), (T : Int), 0, 0, 0, false, []) r3 e3 := by rw [hy3]; exact E3.set 2 _ n3 n4 n2.2.2 (fun w2 hw2 => setj w2 gt 2 _ _ _ rfl hw2)
  have HY3 := hid hy3
  clear hy3 E3 F2
  go_wp2_with fail
  rw [← HY3.out]
  clear z u u1 HY3
  refine (rfields_any (K : Int) _).mono ?_
  rintro _ w4 ⟨rfl, b4⟩
  have D4 := F3.next b4
  clear F3 b4
  have HG : Hid (ev2 (l, false) = (evS (K : Int)).foldl rdE (((I : Int), (K : Int), (T : Int), 0, 0, 0, false, []), (r3, e3))) := hid (by
    unfold ev2 evG
    simp only [rdI, hx1, hx2, hx3]
    exact tailG_fold _ _ _ _)
  clear hx1 hx2 hx3
  go_wp2_with fail
  have hs2 := evS_len (K : Int)
  have hmem := fun j (h : j < (evS (K : Int)).length) => evS_mem (List.getElem_mem h)
  obtain ⟨y0, hy0⟩ : ∃ y0 : Ev × RS, y0 = (((I : Int), (K : Int), (T : Int), 0, 0, 0, false, []), (r3, e3)) := ⟨_, rfl⟩
  have D5 : DS w w4 g gr gt l.length y0.1 y0.2.1 y0.2.2 := by rw [hy0]; exact D4
  rw [← hy0] at HG
  clear hy0 D4
  go_loopw [8] (fun i0 wr => ∃ j : Nat, j ≤ (evS (K : Int)).length ∧ i0 = .int .i64 j ∧ DS w wr g gr gt l.length (((evS (K : Int)).take j).foldl rdE y0).1 (((evS (K : Int)).take j).foldl rdE y0).2.1 (((evS (K : Int)).take j).foldl rdE y0).2.2) (fun i0 _ => (evS (K : Int)).length - (intOf i0).toNat)
  case atStart => exact ⟨0, Nat.zero_le _, rfl, D5⟩
  case round =>
    obtain ⟨j, hj, rfl, hr⟩ := hrel
    by_cases hlt : j < (evS (K : Int)).length
    · have hsucc := foldl_take rdE y0 (evS (K : Int)) j hlt
      have hm := hmem j hlt
      have hcc : (((⟨(evS (K : Int)).toArray⟩ : ByteArray)[j]'hlt).toNat : Int) = (((evS (K : Int))[j]'hlt).toNat : Int) := rfl
      generalize (evS (K : Int))[j] = c at hcc hm hsucc
      generalize ((evS (K : Int)).take j).foldl rdE y0 = y at *
      obtain ⟨⟨a0, a1, a2, a3, a4, a5, a6, a7⟩, r, b⟩ := y
      simp only at hr
      have HS := hid hsucc
      clear hsucc D5
      have ln := hr.len
      rcases hm with rfl | rfl | rfl | rfl | rfl | rfl
      · have hcc' : (((⟨(evS (K : Int)).toArray⟩ : ByteArray)[j]'hlt).toNat : Int) = 112 := hcc
        clear hcc
        go_wp2_with fail
        refine (rtext_full g r b wr hr.rd hr.sane (by omega)).mono ?_
        rintro _ v ⟨rfl, hrv, awv⟩
        have E := hr.read awv hrv (sane_rtextF hr.sane) (rtextF_len r b) n1 n3 n2.1
        obtain ⟨⟨n, r', b'⟩, hx⟩ : ∃ x, rtextF r b = x := ⟨_, rfl⟩
        rw [hx] at E ⊢
        simp only at E ⊢
        clear hrv awv ln
        have z : v.frozen? ⟨gt, 7, none⟩ = false := frozen_of_row v _ 7 _ _ E.e
        have u : v.cell? ⟨gt, 7, none⟩ = some (.string ⟨a7.toArray⟩) := by rw [cell_of_row v _ 7 _ _ (0, 0) E.e]; rfl
        have F := E.set (x' := (a0, a1, a2, a3, a4, a5, a6, n)) 7 (.string ⟨n.toArray⟩) n3 n4 n2.2.2 (fun w2 hw2 => setj w2 gt 7 _ _ _ rfl hw2)
        have hst : rdE ((a0, a1, a2, a3, a4, a5, a6, a7), r, b) 112 = ((a0, a1, a2, a3, a4, a5, a6, n), r', b') := by
          unfold rdE
          simp only [Ev.id, Ev.kd, Ev.tk, Ev.rf, Ev.sp, Ev.ty, Ev.ud, Ev.dt, rdI, tx2, hx]
          rfl
        have HT := hid (HS.out.trans hst)
        clear HS hst hx
        go_wp2_with fail
        go_roundw
        case rel => exact ⟨j + 1, by omega, by go_num, by rw [HT.out]; exact F⟩
        case measure => simp [intOf]; omega
      · have hcc' : (((⟨(evS (K : Int)).toArray⟩ : ByteArray)[j]'hlt).toNat : Int) = 110 := hcc
        clear hcc
        go_wp2_with fail
        refine (rtext_full g r b wr hr.rd hr.sane (by omega)).mono ?_
        rintro _ v ⟨rfl, hrv, awv⟩
        have E := hr.read awv hrv (sane_rtextF hr.sane) (rtextF_len r b) n1 n3 n2.1
        obtain ⟨⟨n, r', b'⟩, hx⟩ : ∃ x, rtextF r b = x := ⟨_, rfl⟩
        rw [hx] at E ⊢
        simp only at E ⊢
        clear hrv awv ln
        have z : v.frozen? ⟨gt, 7, none⟩ = false := frozen_of_row v _ 7 _ _ E.e
        have u : v.cell? ⟨gt, 7, none⟩ = some (.string ⟨a7.toArray⟩) := by rw [cell_of_row v _ 7 _ _ (0, 0) E.e]; rfl
        have F := E.set (x' := (a0, a1, a2, a3, a4, a5, a6, n)) 7 (.string ⟨n.toArray⟩) n3 n4 n2.2.2 (fun w2 hw2 => setj w2 gt 7 _ _ _ rfl hw2)
        have hst : rdE ((a0, a1, a2, a3, a4, a5, a6, a7), r, b) 110 = ((a0, a1, a2, a3, a4, a5, a6, n), r', b') := by
          unfold rdE
          simp only [Ev.id, Ev.kd, Ev.tk, Ev.rf, Ev.sp, Ev.ty, Ev.ud, Ev.dt, rdI, tx2, hx]
          rfl
        have HT := hid (HS.out.trans hst)
        clear HS hst hx
        go_wp2_with fail
        go_roundw
        case rel => exact ⟨j + 1, by omega, by go_num, by rw [HT.out]; exact F⟩
        case measure => simp [intOf]; omega
      · have hcc' : (((⟨(evS (K : Int)).toArray⟩ : ByteArray)[j]'hlt).toNat : Int) = 114 := hcc
        clear hcc
        go_wp2_with fail
        refine (rint_any_r g r b 1000 wr hr.rd hr.sane (by omega) (by omega) (by omega)).mono ?_
        rintro _ v ⟨rfl, hrv, awv⟩
        have E := hr.read awv hrv (sane_intF (1000) hr.sane) (intF_len r b 1000) n1 n3 n2.1
        obtain ⟨⟨n, r', b'⟩, hx⟩ : ∃ x, intF r b 1000 = x := ⟨_, rfl⟩
        rw [hx] at E ⊢
        simp only at E ⊢
        clear hrv awv ln
        have z : v.frozen? ⟨gt, 3, none⟩ = false := frozen_of_row v _ 3 _ _ E.e
        have u : v.cell? ⟨gt, 3, none⟩ = some (.int .i64 a3) := by rw [cell_of_row v _ 3 _ _ (0, 0) E.e]; rfl
        have F := E.set (x' := (a0, a1, a2, (n : Int), a4, a5, a6, a7)) 3 (.int .i64 n) n3 n4 n2.2.2 (fun w2 hw2 => setj w2 gt 3 _ _ _ rfl hw2)
        have hst : rdE ((a0, a1, a2, a3, a4, a5, a6, a7), r, b) 114 = ((a0, a1, a2, (n : Int), a4, a5, a6, a7), r', b') := by
          unfold rdE
          simp only [Ev.id, Ev.kd, Ev.tk, Ev.rf, Ev.sp, Ev.ty, Ev.ud, Ev.dt, rdI, tx2, hx]
          rfl
        have HT := hid (HS.out.trans hst)
        clear HS hst hx
        go_wp2_with fail
        go_roundw
        case rel => exact ⟨j + 1, by omega, by go_num, by rw [HT.out]; exact F⟩
        case measure => simp [intOf]; omega
      · have hcc' : (((⟨(evS (K : Int)).toArray⟩ : ByteArray)[j]'hlt).toNat : Int) = 115 := hcc
        clear hcc
        go_wp2_with fail
        refine (rint_any_r g r b 100 wr hr.rd hr.sane (by omega) (by omega) (by omega)).mono ?_
        rintro _ v ⟨rfl, hrv, awv⟩
        have E := hr.read awv hrv (sane_intF (100) hr.sane) (intF_len r b 100) n1 n3 n2.1
        obtain ⟨⟨n, r', b'⟩, hx⟩ : ∃ x, intF r b 100 = x := ⟨_, rfl⟩
        rw [hx] at E ⊢
        simp only at E ⊢
        clear hrv awv ln
        have z : v.frozen? ⟨gt, 4, none⟩ = false := frozen_of_row v _ 4 _ _ E.e
        have u : v.cell? ⟨gt, 4, none⟩ = some (.int .i64 a4) := by rw [cell_of_row v _ 4 _ _ (0, 0) E.e]; rfl
        have F := E.set (x' := (a0, a1, a2, a3, (n : Int), a5, a6, a7)) 4 (.int .i64 n) n3 n4 n2.2.2 (fun w2 hw2 => setj w2 gt 4 _ _ _ rfl hw2)
        have hst : rdE ((a0, a1, a2, a3, a4, a5, a6, a7), r, b) 115 = ((a0, a1, a2, a3, (n : Int), a5, a6, a7), r', b') := by
          unfold rdE
          simp only [Ev.id, Ev.kd, Ev.tk, Ev.rf, Ev.sp, Ev.ty, Ev.ud, Ev.dt, rdI, tx2, hx]
          rfl
        have HT := hid (HS.out.trans hst)
        clear HS hst hx
        go_wp2_with fail
        go_roundw
        case rel => exact ⟨j + 1, by omega, by go_num, by rw [HT.out]; exact F⟩
        case measure => simp [intOf]; omega
      · have hcc' : (((⟨(evS (K : Int)).toArray⟩ : ByteArray)[j]'hlt).toNat : Int) = 116 := hcc
        clear hcc
        go_wp2_with fail
        refine (rint_any_r g r b 100 wr hr.rd hr.sane (by omega) (by omega) (by omega)).mono ?_
        rintro _ v ⟨rfl, hrv, awv⟩
        have E := hr.read awv hrv (sane_intF (100) hr.sane) (intF_len r b 100) n1 n3 n2.1
        obtain ⟨⟨n, r', b'⟩, hx⟩ : ∃ x, intF r b 100 = x := ⟨_, rfl⟩
        rw [hx] at E ⊢
        simp only at E ⊢
        clear hrv awv ln
        have z : v.frozen? ⟨gt, 5, none⟩ = false := frozen_of_row v _ 5 _ _ E.e
        have u : v.cell? ⟨gt, 5, none⟩ = some (.int .i64 a5) := by rw [cell_of_row v _ 5 _ _ (0, 0) E.e]; rfl
        have F := E.set (x' := (a0, a1, a2, a3, a4, (n : Int), a6, a7)) 5 (.int .i64 n) n3 n4 n2.2.2 (fun w2 hw2 => setj w2 gt 5 _ _ _ rfl hw2)
        have hst : rdE ((a0, a1, a2, a3, a4, a5, a6, a7), r, b) 116 = ((a0, a1, a2, a3, a4, (n : Int), a6, a7), r', b') := by
          unfold rdE
          simp only [Ev.id, Ev.kd, Ev.tk, Ev.rf, Ev.sp, Ev.ty, Ev.ud, Ev.dt, rdI, tx2, hx]
          rfl
        have HT := hid (HS.out.trans hst)
        clear HS hst hx
        go_wp2_with fail
        go_roundw
        case rel => exact ⟨j + 1, by omega, by go_num, by rw [HT.out]; exact F⟩
        case measure => simp [intOf]; omega
      · have hcc' : (((⟨(evS (K : Int)).toArray⟩ : ByteArray)[j]'hlt).toNat : Int) = 117 := hcc
        clear hcc
        go_wp2_with fail
        refine (rint_any_r g r b 1 wr hr.rd hr.sane (by omega) (by omega) (by omega)).mono ?_
        rintro _ v ⟨rfl, hrv, awv⟩
        have E := hr.read awv hrv (sane_intF (1) hr.sane) (intF_len r b 1) n1 n3 n2.1
        obtain ⟨⟨n, r', b'⟩, hx⟩ : ∃ x, intF r b 1 = x := ⟨_, rfl⟩
        rw [hx] at E ⊢
        simp only at E ⊢
        clear hrv awv ln
        have hone := one_beq' n
        have z : v.frozen? ⟨gt, 6, none⟩ = false := frozen_of_row v _ 6 _ _ E.e
        have u : v.cell? ⟨gt, 6, none⟩ = some (.bool a6) := by rw [cell_of_row v _ 6 _ _ (0, 0) E.e]; rfl
        have F := E.set (x' := (a0, a1, a2, a3, a4, a5, (n == 1), a7)) 6 (.bool (n == 1)) n3 n4 n2.2.2 (fun w2 hw2 => setj w2 gt 6 _ _ _ rfl hw2)
        have hst : rdE ((a0, a1, a2, a3, a4, a5, a6, a7), r, b) 117 = ((a0, a1, a2, a3, a4, a5, (n == 1), a7), r', b') := by
          unfold rdE
          simp only [Ev.id, Ev.kd, Ev.tk, Ev.rf, Ev.sp, Ev.ty, Ev.ud, Ev.dt, rdI, tx2, hx]
          rfl
        have HT := hid (HS.out.trans hst)
        clear HS hst hx
        go_wp2_with fail
        go_roundw
        case rel => exact ⟨j + 1, by omega, by go_num, by rw [HT.out]; exact F⟩
        case measure => simp [intOf]; omega
    · obtain rfl : j = (evS (K : Int)).length := by omega
      rw [List.take_length] at hr
      rw [← HG.out] at hr
      clear D5 hlt hj HG
      have hdl : (ev2 (l, false)).1.dt.length ≤ l.length := evG_dt tx2_fst _ _ _ _ _ _ (l, false)
      have hF : evF l = (if EvP (ev2 (l, false)).1 ∧ endF (ev2 (l, false)).2.1 (ev2 (l, false)).2.2 = true ∧ encE (ev2 (l, false)).1 = l then some (ev2 (l, false)).1 else none) := ev_same l
      obtain ⟨⟨⟨id, k, tk, rf, sp, ty, ud, dt⟩, r', b'⟩, hx⟩ : ∃ x, ev2 (l, false) = x := ⟨_, rfl⟩
      rw [hx] at hr hdl hF
      simp only [Ev.dt] at hr hdl hF
      clear hx
      have x0 : wr.cell? ⟨gt, 0, none⟩ = some (.int .i64 id) := by rw [cell_of_row wr _ 0 _ _ (0, 0) hr.e]; rfl
      have x1 : wr.cell? ⟨gt, 1, none⟩ = some (.int .i64 k) := by rw [cell_of_row wr _ 1 _ _ (0, 0) hr.e]; rfl
      have x2 : wr.cell? ⟨gt, 2, none⟩ = some (.int .i64 tk) := by rw [cell_of_row wr _ 2 _ _ (0, 0) hr.e]; rfl
      have x3 : wr.cell? ⟨gt, 3, none⟩ = some (.int .i64 rf) := by rw [cell_of_row wr _ 3 _ _ (0, 0) hr.e]; rfl
      have x4 : wr.cell? ⟨gt, 4, none⟩ = some (.int .i64 sp) := by rw [cell_of_row wr _ 4 _ _ (0, 0) hr.e]; rfl
      have x5 : wr.cell? ⟨gt, 5, none⟩ = some (.int .i64 ty) := by rw [cell_of_row wr _ 5 _ _ (0, 0) hr.e]; rfl
      have x6 : wr.cell? ⟨gt, 6, none⟩ = some (.bool ud) := by rw [cell_of_row wr _ 6 _ _ (0, 0) hr.e]; rfl
      have x7 : wr.cell? ⟨gt, 7, none⟩ = some (.string ⟨dt.toArray⟩) := by rw [cell_of_row wr _ 7 _ _ (0, 0) hr.e]; rfl
      go_wp2_with fail
      refine (rencodeE_any id k tk rf sp ty ud dt (by omega) wr).mono ?_
      rintro _ v ⟨rfl, b8⟩
      have E := hr.next b8
      clear hr x0 x1 x2 x3 x4 x5 x6 x7 b8
      have x0 : v.cell? ⟨gt, 0, none⟩ = some (.int .i64 id) := by rw [cell_of_row v _ 0 _ _ (0, 0) E.e]; rfl
      have x1 : v.cell? ⟨gt, 1, none⟩ = some (.int .i64 k) := by rw [cell_of_row v _ 1 _ _ (0, 0) E.e]; rfl
      have x2 : v.cell? ⟨gt, 2, none⟩ = some (.int .i64 tk) := by rw [cell_of_row v _ 2 _ _ (0, 0) E.e]; rfl
      have x3 : v.cell? ⟨gt, 3, none⟩ = some (.int .i64 rf) := by rw [cell_of_row v _ 3 _ _ (0, 0) E.e]; rfl
      have x4 : v.cell? ⟨gt, 4, none⟩ = some (.int .i64 sp) := by rw [cell_of_row v _ 4 _ _ (0, 0) E.e]; rfl
      have x5 : v.cell? ⟨gt, 5, none⟩ = some (.int .i64 ty) := by rw [cell_of_row v _ 5 _ _ (0, 0) E.e]; rfl
      have x6 : v.cell? ⟨gt, 6, none⟩ = some (.bool ud) := by rw [cell_of_row v _ 6 _ _ (0, 0) E.e]; rfl
      have x7 : v.cell? ⟨gt, 7, none⟩ = some (.string ⟨dt.toArray⟩) := by rw [cell_of_row v _ 7 _ _ (0, 0) E.e]; rfl
      have q0 : v.cell? ⟨gr, 0, none⟩ = some (.int .i64 0) := by rw [cell_of_row v _ 0 _ _ (0, 0) E.q]; rfl
      have q1 : v.cell? ⟨gr, 1, none⟩ = some (.int .i64 0) := by rw [cell_of_row v _ 1 _ _ (0, 0) E.q]; rfl
      have q2 : v.cell? ⟨gr, 2, none⟩ = some (.int .i64 0) := by rw [cell_of_row v _ 2 _ _ (0, 0) E.q]; rfl
      have q3 : v.cell? ⟨gr, 3, none⟩ = some (.int .i64 0) := by rw [cell_of_row v _ 3 _ _ (0, 0) E.q]; rfl
      have q4 : v.cell? ⟨gr, 4, none⟩ = some (.int .i64 0) := by rw [cell_of_row v _ 4 _ _ (0, 0) E.q]; rfl
      have q5 : v.cell? ⟨gr, 5, none⟩ = some (.int .i64 0) := by rw [cell_of_row v _ 5 _ _ (0, 0) E.q]; rfl
      have q6 : v.cell? ⟨gr, 6, none⟩ = some (.bool false) := by rw [cell_of_row v _ 6 _ _ (0, 0) E.q]; rfl
      have q7 : v.cell? ⟨gr, 7, none⟩ = some (.string ⟨#[]⟩) := by rw [cell_of_row v _ 7 _ _ (0, 0) E.q]; rfl
      have f0 : v.frozen? ⟨gr, 0, none⟩ = false := frozen_of_row v _ 0 _ _ E.q
      have f1 : v.frozen? ⟨gr, 1, none⟩ = false := frozen_of_row v _ 1 _ _ E.q
      have f2 : v.frozen? ⟨gr, 2, none⟩ = false := frozen_of_row v _ 2 _ _ E.q
      have f3 : v.frozen? ⟨gr, 3, none⟩ = false := frozen_of_row v _ 3 _ _ E.q
      have f4 : v.frozen? ⟨gr, 4, none⟩ = false := frozen_of_row v _ 4 _ _ E.q
      have f5 : v.frozen? ⟨gr, 5, none⟩ = false := frozen_of_row v _ 5 _ _ E.q
      have f6 : v.frozen? ⟨gr, 6, none⟩ = false := frozen_of_row v _ 6 _ _ E.q
      have f7 : v.frozen? ⟨gr, 7, none⟩ = false := frozen_of_row v _ 7 _ _ E.q
      by_cases hp : EvP (id, k, tk, rf, sp, ty, ud, dt)
      · have hE : encEV (id, k, tk, rf, sp, ty, ud, dt) = encE (id, k, tk, rf, sp, ty, ud, dt) := by unfold encEV; rw [if_pos hp]
        rw [ev_yes hp, hE]
        clear hE
        go_wp2_with fail
        refine (rend_any g r' b' v E.rd).mono ?_
        rintro _ w9 ⟨rfl, hw9⟩
        rw [hw9]
        clear hw9 w9
        by_cases he : endF r' b' = true
        · rw [he]
          by_cases hb : encE (id, k, tk, rf, sp, ty, ud, dt) = l
          · have HR := hid (show evF l = some (id, k, tk, rf, sp, ty, ud, dt) by rw [hF, if_pos ⟨hp, he, hb⟩])
            have hbb : (encE (id, k, tk, rf, sp, ty, ud, dt) == l) = true := by rw [beq_iff_eq]; exact hb
            generalize encE (id, k, tk, rf, sp, ty, ud, dt) = L at hbb
            clear hp he hb hF
            go_wp2_with fail
            refine bodyPost_ret (v := .tuple #[.agg #[.int .i64 id, .int .i64 k, .int .i64 tk, .int .i64 rf, .int .i64 sp, .int .i64 ty, .bool ud, .string ⟨dt.toArray⟩], .int .i64 0]) ?_ rfl ⟨(id, k, tk, rf, sp, ty, ud, dt), 0, rfl, At.below E.below ((((((((((At.refl gr v).set 0 _).set 1 _).set 2 _).set 3 _).set 4 _).set 5 _).set 6 _).set 7 _) : At gr v ((((((((v.setCell ⟨gr, 0, none⟩ (.int .i64 id)).setCell ⟨gr, 1, none⟩ (.int .i64 k)).setCell ⟨gr, 2, none⟩ (.int .i64 tk)).setCell ⟨gr, 3, none⟩ (.int .i64 rf)).setCell ⟨gr, 4, none⟩ (.int .i64 sp)).setCell ⟨gr, 5, none⟩ (.int .i64 ty)).setCell ⟨gr, 6, none⟩ (.bool ud)).setCell ⟨gr, 7, none⟩ (.string ⟨dt.toArray⟩))) n2.2.1, .inl ⟨HR.out, rfl⟩⟩
            rw [results_cell_tmp rfl]
            go_simp
          · have HR := hid (show evF l = none by rw [hF, if_neg (fun q => hb q.2.2)])
            have hbb : (encE (id, k, tk, rf, sp, ty, ud, dt) == l) = false := by rw [beq_eq_false_iff_ne]; exact hb
            generalize encE (id, k, tk, rf, sp, ty, ud, dt) = L at hbb
            clear hp he hb hF
            go_wp2_with fail
            refine bodyPost_ret (v := .tuple #[.agg #[.int .i64 0, .int .i64 0, .int .i64 0, .int .i64 0, .int .i64 0, .int .i64 0, .bool false, .string ⟨#[]⟩], .int .i64 60]) ?_ rfl ⟨zEv, 60, rfl, At.below E.below ((((((((((At.refl gr v).set 0 _).set 1 _).set 2 _).set 3 _).set 4 _).set 5 _).set 6 _).set 7 _) : At gr v ((((((((v.setCell ⟨gr, 0, none⟩ (.int .i64 0)).setCell ⟨gr, 1, none⟩ (.int .i64 0)).setCell ⟨gr, 2, none⟩ (.int .i64 0)).setCell ⟨gr, 3, none⟩ (.int .i64 0)).setCell ⟨gr, 4, none⟩ (.int .i64 0)).setCell ⟨gr, 5, none⟩ (.int .i64 0)).setCell ⟨gr, 6, none⟩ (.bool false)).setCell ⟨gr, 7, none⟩ (.string ⟨#[]⟩))) n2.2.1, .inr ⟨HR.out, rfl, rfl⟩⟩
            rw [results_cell_tmp rfl]
            go_simp
        · have he' : endF r' b' = false := by simpa using he
          have HR := hid (show evF l = none by rw [hF, if_neg (fun q => he q.2.1)])
          rw [he']
          generalize encE (id, k, tk, rf, sp, ty, ud, dt) = L
          clear hp he he' hF
          go_wp2_with fail
          refine bodyPost_ret (v := .tuple #[.agg #[.int .i64 0, .int .i64 0, .int .i64 0, .int .i64 0, .int .i64 0, .int .i64 0, .bool false, .string ⟨#[]⟩], .int .i64 60]) ?_ rfl ⟨zEv, 60, rfl, At.below E.below ((((((((((At.refl gr v).set 0 _).set 1 _).set 2 _).set 3 _).set 4 _).set 5 _).set 6 _).set 7 _) : At gr v ((((((((v.setCell ⟨gr, 0, none⟩ (.int .i64 0)).setCell ⟨gr, 1, none⟩ (.int .i64 0)).setCell ⟨gr, 2, none⟩ (.int .i64 0)).setCell ⟨gr, 3, none⟩ (.int .i64 0)).setCell ⟨gr, 4, none⟩ (.int .i64 0)).setCell ⟨gr, 5, none⟩ (.int .i64 0)).setCell ⟨gr, 6, none⟩ (.bool false)).setCell ⟨gr, 7, none⟩ (.string ⟨#[]⟩))) n2.2.1, .inr ⟨HR.out, rfl, rfl⟩⟩
          rw [results_cell_tmp rfl]
          go_simp
      · have HR := hid (show evF l = none by rw [hF, if_neg (fun q => hp q.1)])
        rw [ev_no hp]
        generalize encEV (id, k, tk, rf, sp, ty, ud, dt) = L
        clear hp hF
        go_wp2_with fail
        refine bodyPost_ret (v := .tuple #[.agg #[.int .i64 0, .int .i64 0, .int .i64 0, .int .i64 0, .int .i64 0, .int .i64 0, .bool false, .string ⟨#[]⟩], .int .i64 60]) ?_ rfl ⟨zEv, 60, rfl, At.below E.below ((((((((((At.refl gr v).set 0 _).set 1 _).set 2 _).set 3 _).set 4 _).set 5 _).set 6 _).set 7 _) : At gr v ((((((((v.setCell ⟨gr, 0, none⟩ (.int .i64 0)).setCell ⟨gr, 1, none⟩ (.int .i64 0)).setCell ⟨gr, 2, none⟩ (.int .i64 0)).setCell ⟨gr, 3, none⟩ (.int .i64 0)).setCell ⟨gr, 4, none⟩ (.int .i64 0)).setCell ⟨gr, 5, none⟩ (.int .i64 0)).setCell ⟨gr, 6, none⟩ (.bool false)).setCell ⟨gr, 7, none⟩ (.string ⟨#[]⟩))) n2.2.1, .inr ⟨HR.out, rfl, rfl⟩⟩
        rw [results_cell_tmp rfl]
        go_simp
end Go.Proofs.Ytjpbhdbmblalmaa
