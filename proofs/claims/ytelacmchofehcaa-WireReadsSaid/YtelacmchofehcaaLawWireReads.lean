/- WireReads: for every input the call returns true, and what came in reads as it did. No other condition. CONTRACT: the reference's Decode of an event. CONTRACT: the reference's Unpack. CONTRACT: the reference's Tasked. CONTRACT: the reference's Replied. CONTRACT: the reference's Requested. WALK: WireReads. -/
import Derived.Test.YtelacmchofehcaaWmJ
import Derived.Test.YtelacmchofehcaaEvtDec
import Derived.Test.YtelacmchofehcaaEvtUn
import Derived.Test.YtelacmchofehcaaRowTasked
import Derived.Test.YtelacmchofehcaaWmI
import Derived.Test.YtelacmchofehcaaFrameRNext
import Derived.RegionTactic
import Derived.Deep.DeepCutAuto
import Derived.Test.YtelacmchofehcaaWmH
import Derived.Test.YtelacmchofehcaaRows
import Derived.Test.YtelacmchofehcaaFrames
import Derived.ProofKit
import Derived.OpenShut
import Derived.ShutString
import Derived.SizedLaws
namespace Go.Proofs.Ytelacmchofehcaa
open Go.RowKit
set_option linter.unusedVariables false

def zEv : Ev := (0, 0, 0, 0, 0, 0, false, [])
/-- a reader, the result's block, an event's block -/
structure DS (w wr : World) (g gr gt n : Nat) (x : Ev) (r : List UInt8) (b : Bool) : Prop where
  rd : RRdr wr g r b
  q : wr.heap[gr]? = some (.cells (evC zEv) 82 (0, 0))
  e : wr.heap[gt]? = some (.cells (evC x) 82 (0, 0))
  below : Below w.heap.size w wr
  sane : Sane r b
  len : r.length ≤ n
theorem DS.read {w wr w' : World} {g gr gt n : Nat} {x : Ev} {r r' : List UInt8} {b b' : Bool} (h : DS w wr g gr gt n x r b) (a : At g wr w') (rd' : RRdr w' g r' b') (s' : Sane r' b') (l' : r'.length ≤ r.length) (n1 : gr ≠ g) (n3 : gt ≠ g) (hg : w.heap.size ≤ g) : DS w w' g gr gt n x r' b' :=
  ⟨rd', (a.block gr (Array.getElem?_eq_some_iff.1 h.q).1 (by simpa using n1)).trans h.q, (a.block gt (Array.getElem?_eq_some_iff.1 h.e).1 (by simpa using n3)).trans h.e, At.below h.below a hg, s', Nat.le_trans l' h.len⟩
theorem DS.next {w wr w' : World} {g gr gt n : Nat} {x : Ev} {r : List UInt8} {b : Bool} (h : DS w wr g gr gt n x r b) (k : Below wr.heap.size wr w') : DS w w' g gr gt n x r b :=
  ⟨h.rd.keep k, (k.block _ (Array.getElem?_eq_some_iff.1 h.q).1).trans h.q, (k.block _ (Array.getElem?_eq_some_iff.1 h.e).1).trans h.e, bnext h.below k, h.sane, h.len⟩
theorem DS.set {w wr : World} {g gr gt n : Nat} {x x' : Ev} {r : List UInt8} {b : Bool} (h : DS w wr g gr gt n x r b) (j : Nat) (u : Value) (n3 : gt ≠ g) (n4 : gr ≠ gt) (hg : w.heap.size ≤ gt) (hx : ∀ w2 : World, w2.heap[gt]? = some (.cells (evC x) 82 (0, 0)) → (w2.setCell ⟨gt, j, none⟩ u).heap[gt]? = some (.cells (evC x') 82 (0, 0))) : DS w (wr.setCell ⟨gt, j, none⟩ u) g gr gt n x' r b :=
  ⟨h.rd.grown ((At.refl gt wr).set j u) (Ne.symm n3), (((At.refl gt wr).set j u).block gr (Array.getElem?_eq_some_iff.1 h.q).1 (by simpa using n4)).trans h.q, hx wr h.e, At.below h.below ((At.refl gt wr).set j u) hg, h.sane, h.len⟩
/-- a letter's field, read -/
def rdE (y : Ev × RS) (c : UInt8) : Ev × RS :=
  if c = 114 then ((y.1.id, y.1.kd, y.1.tk, ((rdI 1000 y.2).1 : Int), y.1.sp, y.1.ty, y.1.ud, y.1.dt), (rdI 1000 y.2).2)
  else if c = 115 then ((y.1.id, y.1.kd, y.1.tk, y.1.rf, ((rdI 100 y.2).1 : Int), y.1.ty, y.1.ud, y.1.dt), (rdI 100 y.2).2)
  else if c = 116 then ((y.1.id, y.1.kd, y.1.tk, y.1.rf, y.1.sp, ((rdI 100 y.2).1 : Int), y.1.ud, y.1.dt), (rdI 100 y.2).2)
  else if c = 117 then ((y.1.id, y.1.kd, y.1.tk, y.1.rf, y.1.sp, y.1.ty, (rdI 1 y.2).1 == 1, y.1.dt), (rdI 1 y.2).2)
  else ((y.1.id, y.1.kd, y.1.tk, y.1.rf, y.1.sp, y.1.ty, y.1.ud, (tx2 y.2).1), (tx2 y.2).2)
theorem tailG_fold (i k a : Int) (s : RS) : tailG tx2 1000 100 100 i k a s = (evS k).foldl rdE ((i, k, a, 0, 0, 0, false, []), s) := by
  unfold tailG evS
  by_cases h1 : k = 1
  · rw [h1]; rfl
  by_cases h2 : k = 12
  · rw [h2]; rfl
  have h16 : ¬ evB k = 16 := fun h => by rcases (data16 k).1 h with h | h; exact h1 h; exact h2 h
  rw [if_neg h1, if_neg h2]
  rcases evB_cases k with e | e | e | e | e | e
  · exact absurd e h16
  all_goals (rw [e]; rfl)
theorem foldl_take {α β : Type} (f : β → α → β) (y : β) (l : List α) (j : Nat) (h : j < l.length) : (l.take (j + 1)).foldl f y = f ((l.take j).foldl f y) l[j] := by
  rw [List.take_succ_eq_append_getElem h, List.foldl_append]; rfl
theorem setj (w2 : World) (gt j : Nat) (row row' : Array Value) (u : Value) (hr : row.setIfInBounds j u = row') (h : w2.heap[gt]? = some (.cells row 82 (0, 0))) : (w2.setCell ⟨gt, j, none⟩ u).heap[gt]? = some (.cells row' 82 (0, 0)) := by
  rw [← hr]; exact heap_setCell_same w2 gt j _ _ u h
set_option maxHeartbeats 3200000 in
set_option maxRecDepth 100000 in
theorem rdecodeE_any (l : List UInt8) (hl : l.length ≤ 140737488355328) (w : World) :
    Calls Try.prog 70 #[.string ⟨l.toArray⟩] w fun e w' => ∃ (x : Ev) (er : Int), e = .returned (.tuple #[evV' x, .int .i64 er]) ∧ Below w.heap.size w w' ∧ ((evF l = some x ∧ er = 0) ∨ (evF l = none ∧ er = 60 ∧ x = zEv)) := by
  have hmx : maxLen = 9223372036854775807 := rfl
  go_enter Try.func70, Try.ntmps70
  go_wp2_with fail
  obtain ⟨w1, hw1⟩ : ∃ w1, w1 = ((w.alloc (.cells (evC zEv) 82)).alloc (.cells #[.string ⟨l.toArray⟩, .bool false] 94)).alloc (.cells (evC zEv) 82) := ⟨_, rfl⟩
  have hw1' := hw1
  unfold evC zEv at hw1'
  simp only [Ev.id, Ev.kd, Ev.tk, Ev.rf, Ev.sp, Ev.ty, Ev.ud, Ev.dt] at hw1'
  rw [← hw1']
  clear hw1'
  have s1 : (w.alloc (.cells (evC zEv) 82)).heap.size = w.heap.size + 1 := Array.size_push ..
  have s2 : ((w.alloc (.cells (evC zEv) 82)).alloc (.cells #[.string ⟨l.toArray⟩, .bool false] 94)).heap.size = w.heap.size + 1 + 1 := by rw [← s1]; exact Array.size_push ..
  have b1 : Below w.heap.size w (w.alloc (.cells (evC zEv) 82)) := (Below.refl _ _).alloc (Nat.le_refl _) _
  have b2 := (Below.refl (w.alloc (.cells (evC zEv) 82)).heap.size (w.alloc (.cells (evC zEv) 82))).alloc (Nat.le_refl _) (.cells #[.string ⟨l.toArray⟩, .bool false] 94)
  have b3 := (Below.refl ((w.alloc (.cells (evC zEv) 82)).alloc (.cells #[.string ⟨l.toArray⟩, .bool false] 94)).heap.size ((w.alloc (.cells (evC zEv) 82)).alloc (.cells #[.string ⟨l.toArray⟩, .bool false] 94))).alloc (Nat.le_refl _) (.cells (evC zEv) 82)
  have D1 : DS w w1 (w.heap.size + 1) w.heap.size (w.heap.size + 1 + 1) l.length zEv l false := by
    refine ⟨?_, ?_, ?_, ?_, fun h => (by cases h), Nat.le_refl _⟩
    · rw [hw1, ← s1]; exact (Obj2.new _ _ _ _).keep b3
    · rw [hw1]; exact (b3.block _ (by omega)).trans ((b2.block _ (by omega)).trans (heap_alloc_new w _))
    · rw [hw1, ← s2]; exact heap_alloc_new _ _
    · rw [hw1]; exact bnext (bnext b1 b2) b3
  clear hw1 s1 s2 b1 b2 b3
  obtain ⟨g, hg⟩ : ∃ g, g = w.heap.size + 1 := ⟨_, rfl⟩
  obtain ⟨gt, hgt⟩ : ∃ gt, gt = w.heap.size + 1 + 1 := ⟨_, rfl⟩
  obtain ⟨gr, hgr⟩ : ∃ gr, gr = w.heap.size := ⟨_, rfl⟩
  have n1 : gr ≠ g := by omega
  have n3 : gt ≠ g := by omega
  have n4 : gr ≠ gt := by omega
  have n2 : w.heap.size ≤ g ∧ w.heap.size ≤ gr ∧ w.heap.size ≤ gt := by omega
  rw [← hgt, ← hg, ← hgr] at D1
  rw [← hgt, ← hg, ← hgr]
  clear hg hgt hgr
  -- BEGIN
  have ln1 := D1.len
  refine (rint_any_r g l false 1000 w1 D1.rd D1.sane (by omega) (by omega) (by omega)).mono ?_
  rintro _ v1 ⟨rfl, hrv1, awv1⟩
  have E1 := D1.read awv1 hrv1 (sane_intF (1000) D1.sane) (intF_len l false 1000) n1 n3 n2.1
  obtain ⟨⟨I, r1, e1⟩, hx1⟩ : ∃ x, intF l false 1000 = x := ⟨_, rfl⟩
  rw [hx1] at E1 ⊢
  simp only at E1 ⊢
  clear hrv1 awv1 ln1
  have z : v1.frozen? ⟨gt, 0, none⟩ = false := frozen_of_row v1 _ 0 _ _ E1.e
  have u : v1.cell? ⟨gt, 0, none⟩ = some (.int .i64 0) := by rw [cell_of_row v1 _ 0 _ _ (0, 0) E1.e]; rfl
  obtain ⟨y1, hy1⟩ : ∃ y1, y1 = v1.setCell ⟨gt, 0, none⟩ (.int .i64 I) := ⟨_, rfl⟩
  have F1 : DS w y1 g gr gt l.length ((I : Int), 0, 0, 0, 0, 0, false, []) r1 e1 := by rw [hy1]; exact E1.set 0 _ n3 n4 n2.2.2 (fun w2 hw2 => setj w2 gt 0 _ _ _ rfl hw2)
  have HY1 := hid hy1
  clear hy1 E1 D1
  go_wp2_with fail
  rw [← HY1.out]
  clear z u HY1
  have ln2 := F1.len
  refine (rint_any_r g r1 e1 100 y1 F1.rd F1.sane (by omega) (by omega) (by omega)).mono ?_
  rintro _ v2 ⟨rfl, hrv2, awv2⟩
  have E2 := F1.read awv2 hrv2 (sane_intF (100) F1.sane) (intF_len r1 e1 100) n1 n3 n2.1
  obtain ⟨⟨K, r2, e2⟩, hx2⟩ : ∃ x, intF r1 e1 100 = x := ⟨_, rfl⟩
  rw [hx2] at E2 ⊢
  simp only at E2 ⊢
  clear hrv2 awv2 ln2
  have z : v2.frozen? ⟨gt, 1, none⟩ = false := frozen_of_row v2 _ 1 _ _ E2.e
  have u : v2.cell? ⟨gt, 1, none⟩ = some (.int .i64 0) := by rw [cell_of_row v2 _ 1 _ _ (0, 0) E2.e]; rfl
  obtain ⟨y2, hy2⟩ : ∃ y2, y2 = v2.setCell ⟨gt, 1, none⟩ (.int .i64 K) := ⟨_, rfl⟩
  have F2 : DS w y2 g gr gt l.length ((I : Int), (K : Int), 0, 0, 0, 0, false, []) r2 e2 := by rw [hy2]; exact E2.set 1 _ n3 n4 n2.2.2 (fun w2 hw2 => setj w2 gt 1 _ _ _ rfl hw2)
  have HY2 := hid hy2
  clear hy2 E2 F1
  go_wp2_with fail
  rw [← HY2.out]
  clear z u HY2
  have ln3 := F2.len
  refine (rint_any_r g r2 e2 1125899906842624 y2 F2.rd F2.sane (by omega) (by omega) (by omega)).mono ?_
  rintro _ v3 ⟨rfl, hrv3, awv3⟩
  have E3 := F2.read awv3 hrv3 (sane_intF (1125899906842624) F2.sane) (intF_len r2 e2 1125899906842624) n1 n3 n2.1
  obtain ⟨⟨T, r3, e3⟩, hx3⟩ : ∃ x, intF r2 e2 1125899906842624 = x := ⟨_, rfl⟩
  rw [hx3] at E3 ⊢
  simp only at E3 ⊢
  clear hrv3 awv3 ln3
  have u1 : v3.cell? ⟨gt, 1, none⟩ = some (.int .i64 K) := by rw [cell_of_row v3 _ 1 _ _ (0, 0) E3.e]; rfl
  have z : v3.frozen? ⟨gt, 2, none⟩ = false := frozen_of_row v3 _ 2 _ _ E3.e
  have u : v3.cell? ⟨gt, 2, none⟩ = some (.int .i64 0) := by rw [cell_of_row v3 _ 2 _ _ (0, 0) E3.e]; rfl
  obtain ⟨y3, hy3⟩ : ∃ y3, y3 = v3.setCell ⟨gt, 2, none⟩ (.int .i64 T) := ⟨_, rfl⟩
  have F3 : DS w y3 g gr gt l.length ((I : Int), (K : Int), (T : Int), 0, 0, 0, false, []) r3 e3 := by rw [hy3]; exact E3.set 2 _ n3 n4 n2.2.2 (fun w2 hw2 => setj w2 gt 2 _ _ _ rfl hw2)
  have HY3 := hid hy3
  clear hy3 E3 F2
  go_wp2_with fail
  rw [← HY3.out]
  clear z u u1 HY3
  refine (rfields_any (K : Int) _).mono ?_
  rintro _ w4 ⟨rfl, b4⟩
  have D4 := F3.next b4
  clear F3 b4
  have HG : Hid (ev2 (l, false) = (evS (K : Int)).foldl rdE (((I : Int), (K : Int), (T : Int), 0, 0, 0, false, []), (r3, e3))) := hid (by
    unfold ev2 evG
    simp only [rdI, hx1, hx2, hx3]
    exact tailG_fold _ _ _ _)
  clear hx1 hx2 hx3
  go_wp2_with fail
  have hs2 := evS_len (K : Int)
  have hmem := fun j (h : j < (evS (K : Int)).length) => evS_mem (List.getElem_mem h)
  obtain ⟨y0, hy0⟩ : ∃ y0 : Ev × RS, y0 = (((I : Int), (K : Int), (T : Int), 0, 0, 0, false, []), (r3, e3)) := ⟨_, rfl⟩
  have D5 : DS w w4 g gr gt l.length y0.1 y0.2.1 y0.2.2 := by rw [hy0]; exact D4
  rw [← hy0] at HG
  clear hy0 D4
  go_loopw [8] (fun i0 wr => ∃ j : Nat, j ≤ (evS (K : Int)).length ∧ i0 = .int .i64 j ∧ DS w wr g gr gt l.length (((evS (K : Int)).take j).foldl rdE y0).1 (((evS (K : Int)).take j).foldl rdE y0).2.1 (((evS (K : Int)).take j).foldl rdE y0).2.2) (fun i0 _ => (evS (K : Int)).length - (intOf i0).toNat)
  case atStart => exact ⟨0, Nat.zero_le _, rfl, D5⟩
  case round =>
    obtain ⟨j, hj, rfl, hr⟩ := hrel
    by_cases hlt : j < (evS (K : Int)).length
    · have hsucc := foldl_take rdE y0 (evS (K : Int)) j hlt
      have hm := hmem j hlt
      have hcc : (((⟨(evS (K : Int)).toArray⟩ : ByteArray)[j]'hlt).toNat : Int) = (((evS (K : Int))[j]'hlt).toNat : Int) := rfl
      generalize (evS (K : Int))[j] = c at hcc hm hsucc
      generalize ((evS (K : Int)).take j).foldl rdE y0 = y at *
      obtain ⟨⟨a0, a1, a2, a3, a4, a5, a6, a7⟩, r, b⟩ := y
      simp only at hr
      have HS := hid hsucc
      clear hsucc D5
      have ln := hr.len
      rcases hm with rfl | rfl | rfl | rfl | rfl | rfl
      · have hcc' : (((⟨(evS (K : Int)).toArray⟩ : ByteArray)[j]'hlt).toNat : Int) = 112 := hcc
        clear hcc
        go_wp2_with fail
        refine (rtext_full g r b wr hr.rd hr.sane (by omega)).mono ?_
        rintro _ v ⟨rfl, hrv, awv⟩
        have E := hr.read awv hrv (sane_rtextF hr.sane) (rtextF_len r b) n1 n3 n2.1
        obtain ⟨⟨n, r', b'⟩, hx⟩ : ∃ x, rtextF r b = x := ⟨_, rfl⟩
        rw [hx] at E ⊢
        simp only at E ⊢
        clear hrv awv ln
        have z : v.frozen? ⟨gt, 7, none⟩ = false := frozen_of_row v _ 7 _ _ E.e
        have u : v.cell? ⟨gt, 7, none⟩ = some (.string ⟨a7.toArray⟩) := by rw [cell_of_row v _ 7 _ _ (0, 0) E.e]; rfl
        have F := E.set (x' := (a0, a1, a2, a3, a4, a5, a6, n)) 7 (.string ⟨n.toArray⟩) n3 n4 n2.2.2 (fun w2 hw2 => setj w2 gt 7 _ _ _ rfl hw2)
        have hst : rdE ((a0, a1, a2, a3, a4, a5, a6, a7), r, b) 112 = ((a0, a1, a2, a3, a4, a5, a6, n), r', b') := by
          unfold rdE
          simp only [Ev.id, Ev.kd, Ev.tk, Ev.rf, Ev.sp, Ev.ty, Ev.ud, Ev.dt, rdI, tx2, hx]
          rfl
        have HT := hid (HS.out.trans hst)
        clear HS hst hx
        go_wp2_with fail
        go_roundw
        case rel => exact ⟨j + 1, by omega, by go_num, by rw [HT.out]; exact F⟩
        case measure => simp [intOf]; omega
      · have hcc' : (((⟨(evS (K : Int)).toArray⟩ : ByteArray)[j]'hlt).toNat : Int) = 110 := hcc
        clear hcc
        go_wp2_with fail
        refine (rtext_full g r b wr hr.rd hr.sane (by omega)).mono ?_
        rintro _ v ⟨rfl, hrv, awv⟩
        have E := hr.read awv hrv (sane_rtextF hr.sane) (rtextF_len r b) n1 n3 n2.1
        obtain ⟨⟨n, r', b'⟩, hx⟩ : ∃ x, rtextF r b = x := ⟨_, rfl⟩
        rw [hx] at E ⊢
        simp only at E ⊢
        clear hrv awv ln
        have z : v.frozen? ⟨gt, 7, none⟩ = false := frozen_of_row v _ 7 _ _ E.e
        have u : v.cell? ⟨gt, 7, none⟩ = some (.string ⟨a7.toArray⟩) := by rw [cell_of_row v _ 7 _ _ (0, 0) E.e]; rfl
        have F := E.set (x' := (a0, a1, a2, a3, a4, a5, a6, n)) 7 (.string ⟨n.toArray⟩) n3 n4 n2.2.2 (fun w2 hw2 => setj w2 gt 7 _ _ _ rfl hw2)
        have hst : rdE ((a0, a1, a2, a3, a4, a5, a6, a7), r, b) 110 = ((a0, a1, a2, a3, a4, a5, a6, n), r', b') := by
          unfold rdE
          simp only [Ev.id, Ev.kd, Ev.tk, Ev.rf, Ev.sp, Ev.ty, Ev.ud, Ev.dt, rdI, tx2, hx]
          rfl
        have HT := hid (HS.out.trans hst)
        clear HS hst hx
        go_wp2_with fail
        go_roundw
        case rel => exact ⟨j + 1, by omega, by go_num, by rw [HT.out]; exact F⟩
        case measure => simp [intOf]; omega
      · have hcc' : (((⟨(evS (K : Int)).toArray⟩ : ByteArray)[j]'hlt).toNat : Int) = 114 := hcc
        clear hcc
        go_wp2_with fail
        refine (rint_any_r g r b 1000 wr hr.rd hr.sane (by omega) (by omega) (by omega)).mono ?_
        rintro _ v ⟨rfl, hrv, awv⟩
        have E := hr.read awv hrv (sane_intF (1000) hr.sane) (intF_len r b 1000) n1 n3 n2.1
        obtain ⟨⟨n, r', b'⟩, hx⟩ : ∃ x, intF r b 1000 = x := ⟨_, rfl⟩
        rw [hx] at E ⊢
        simp only at E ⊢
        clear hrv awv ln
        have z : v.frozen? ⟨gt, 3, none⟩ = false := frozen_of_row v _ 3 _ _ E.e
        have u : v.cell? ⟨gt, 3, none⟩ = some (.int .i64 a3) := by rw [cell_of_row v _ 3 _ _ (0, 0) E.e]; rfl
        have F := E.set (x' := (a0, a1, a2, (n : Int), a4, a5, a6, a7)) 3 (.int .i64 n) n3 n4 n2.2.2 (fun w2 hw2 => setj w2 gt 3 _ _ _ rfl hw2)
        have hst : rdE ((a0, a1, a2, a3, a4, a5, a6, a7), r, b) 114 = ((a0, a1, a2, (n : Int), a4, a5, a6, a7), r', b') := by
          unfold rdE
          simp only [Ev.id, Ev.kd, Ev.tk, Ev.rf, Ev.sp, Ev.ty, Ev.ud, Ev.dt, rdI, tx2, hx]
          rfl
        have HT := hid (HS.out.trans hst)
        clear HS hst hx
        go_wp2_with fail
        go_roundw
        case rel => exact ⟨j + 1, by omega, by go_num, by rw [HT.out]; exact F⟩
        case measure => simp [intOf]; omega
      · have hcc' : (((⟨(evS (K : Int)).toArray⟩ : ByteArray)[j]'hlt).toNat : Int) = 115 := hcc
        clear hcc
        go_wp2_with fail
        refine (rint_any_r g r b 100 wr hr.rd hr.sane (by omega) (by omega) (by omega)).mono ?_
        rintro _ v ⟨rfl, hrv, awv⟩
        have E := hr.read awv hrv (sane_intF (100) hr.sane) (intF_len r b 100) n1 n3 n2.1
        obtain ⟨⟨n, r', b'⟩, hx⟩ : ∃ x, intF r b 100 = x := ⟨_, rfl⟩
        rw [hx] at E ⊢
        simp only at E ⊢
        clear hrv awv ln
        have z : v.frozen? ⟨gt, 4, none⟩ = false := frozen_of_row v _ 4 _ _ E.e
        have u : v.cell? ⟨gt, 4, none⟩ = some (.int .i64 a4) := by rw [cell_of_row v _ 4 _ _ (0, 0) E.e]; rfl
        have F := E.set (x' := (a0, a1, a2, a3, (n : Int), a5, a6, a7)) 4 (.int .i64 n) n3 n4 n2.2.2 (fun w2 hw2 => setj w2 gt 4 _ _ _ rfl hw2)
        have hst : rdE ((a0, a1, a2, a3, a4, a5, a6, a7), r, b) 115 = ((a0, a1, a2, a3, (n : Int), a5, a6, a7), r', b') := by
          unfold rdE
          simp only [Ev.id, Ev.kd, Ev.tk, Ev.rf, Ev.sp, Ev.ty, Ev.ud, Ev.dt, rdI, tx2, hx]
          rfl
        have HT := hid (HS.out.trans hst)
        clear HS hst hx
        go_wp2_with fail
        go_roundw
        case rel => exact ⟨j + 1, by omega, by go_num, by rw [HT.out]; exact F⟩
        case measure => simp [intOf]; omega
      · have hcc' : (((⟨(evS (K : Int)).toArray⟩ : ByteArray)[j]'hlt).toNat : Int) = 116 := hcc
        clear hcc
        go_wp2_with fail
        refine (rint_any_r g r b 100 wr hr.rd hr.sane (by omega) (by omega) (by omega)).mono ?_
        rintro _ v ⟨rfl, hrv, awv⟩
        have E := hr.read awv hrv (sane_intF (100) hr.sane) (intF_len r b 100) n1 n3 n2.1
        obtain ⟨⟨n, r', b'⟩, hx⟩ : ∃ x, intF r b 100 = x := ⟨_, rfl⟩
        rw [hx] at E ⊢
        simp only at E ⊢
        clear hrv awv ln
        have z : v.frozen? ⟨gt, 5, none⟩ = false := frozen_of_row v _ 5 _ _ E.e
        have u : v.cell? ⟨gt, 5, none⟩ = some (.int .i64 a5) := by rw [cell_of_row v _ 5 _ _ (0, 0) E.e]; rfl
        have F := E.set (x' := (a0, a1, a2, a3, a4, (n : Int), a6, a7)) 5 (.int .i64 n) n3 n4 n2.2.2 (fun w2 hw2 => setj w2 gt 5 _ _ _ rfl hw2)
        have hst : rdE ((a0, a1, a2, a3, a4, a5, a6, a7), r, b) 116 = ((a0, a1, a2, a3, a4, (n : Int), a6, a7), r', b') := by
          unfold rdE
          simp only [Ev.id, Ev.kd, Ev.tk, Ev.rf, Ev.sp, Ev.ty, Ev.ud, Ev.dt, rdI, tx2, hx]
          rfl
        have HT := hid (HS.out.trans hst)
        clear HS hst hx
        go_wp2_with fail
        go_roundw
        case rel => exact ⟨j + 1, by omega, by go_num, by rw [HT.out]; exact F⟩
        case measure => simp [intOf]; omega
      · have hcc' : (((⟨(evS (K : Int)).toArray⟩ : ByteArray)[j]'hlt).toNat : Int) = 117 := hcc
        clear hcc
        go_wp2_with fail
        refine (rint_any_r g r b 1 wr hr.rd hr.sane (by omega) (by omega) (by omega)).mono ?_
        rintro _ v ⟨rfl, hrv, awv⟩
        have E := hr.read awv hrv (sane_intF (1) hr.sane) (intF_len r b 1) n1 n3 n2.1
        obtain ⟨⟨n, r', b'⟩, hx⟩ : ∃ x, intF r b 1 = x := ⟨_, rfl⟩
        rw [hx] at E ⊢
        simp only at E ⊢
        clear hrv awv ln
        have hone := one_beq' n
        have z : v.frozen? ⟨gt, 6, none⟩ = false := frozen_of_row v _ 6 _ _ E.e
        have u : v.cell? ⟨gt, 6, none⟩ = some (.bool a6) := by rw [cell_of_row v _ 6 _ _ (0, 0) E.e]; rfl
        have F := E.set (x' := (a0, a1, a2, a3, a4, a5, (n == 1), a7)) 6 (.bool (n == 1)) n3 n4 n2.2.2 (fun w2 hw2 => setj w2 gt 6 _ _ _ rfl hw2)
        have hst : rdE ((a0, a1, a2, a3, a4, a5, a6, a7), r, b) 117 = ((a0, a1, a2, a3, a4, a5, (n == 1), a7), r', b') := by
          unfold rdE
          simp only [Ev.id, Ev.kd, Ev.tk, Ev.rf, Ev.sp, Ev.ty, Ev.ud, Ev.dt, rdI, tx2, hx]
          rfl
        have HT := hid (HS.out.trans hst)
        clear HS hst hx
        go_wp2_with fail
        go_roundw
        case rel => exact ⟨j + 1, by omega, by go_num, by rw [HT.out]; exact F⟩
        case measure => simp [intOf]; omega
    · obtain rfl : j = (evS (K : Int)).length := by omega
      rw [List.take_length] at hr
      rw [← HG.out] at hr
      clear D5 hlt hj HG
      have hdl : (ev2 (l, false)).1.dt.length ≤ l.length := evG_dt tx2_fst _ _ _ _ _ _ (l, false)
      have hF : evF l = (if EvP (ev2 (l, false)).1 ∧ endF (ev2 (l, false)).2.1 (ev2 (l, false)).2.2 = true ∧ encE (ev2 (l, false)).1 = l then some (ev2 (l, false)).1 else none) := ev_same l
      obtain ⟨⟨⟨id, k, tk, rf, sp, ty, ud, dt⟩, r', b'⟩, hx⟩ : ∃ x, ev2 (l, false) = x := ⟨_, rfl⟩
      rw [hx] at hr hdl hF
      simp only [Ev.dt] at hr hdl hF
      clear hx
      have x0 : wr.cell? ⟨gt, 0, none⟩ = some (.int .i64 id) := by rw [cell_of_row wr _ 0 _ _ (0, 0) hr.e]; rfl
      have x1 : wr.cell? ⟨gt, 1, none⟩ = some (.int .i64 k) := by rw [cell_of_row wr _ 1 _ _ (0, 0) hr.e]; rfl
      have x2 : wr.cell? ⟨gt, 2, none⟩ = some (.int .i64 tk) := by rw [cell_of_row wr _ 2 _ _ (0, 0) hr.e]; rfl
      have x3 : wr.cell? ⟨gt, 3, none⟩ = some (.int .i64 rf) := by rw [cell_of_row wr _ 3 _ _ (0, 0) hr.e]; rfl
      have x4 : wr.cell? ⟨gt, 4, none⟩ = some (.int .i64 sp) := by rw [cell_of_row wr _ 4 _ _ (0, 0) hr.e]; rfl
      have x5 : wr.cell? ⟨gt, 5, none⟩ = some (.int .i64 ty) := by rw [cell_of_row wr _ 5 _ _ (0, 0) hr.e]; rfl
      have x6 : wr.cell? ⟨gt, 6, none⟩ = some (.bool ud) := by rw [cell_of_row wr _ 6 _ _ (0, 0) hr.e]; rfl
      have x7 : wr.cell? ⟨gt, 7, none⟩ = some (.string ⟨dt.toArray⟩) := by rw [cell_of_row wr _ 7 _ _ (0, 0) hr.e]; rfl
      go_wp2_with fail
      refine (rencodeE_any id k tk rf sp ty ud dt (by omega) wr).mono ?_
      rintro _ v ⟨rfl, b8⟩
      have E := hr.next b8
      clear hr x0 x1 x2 x3 x4 x5 x6 x7 b8
      have x0 : v.cell? ⟨gt, 0, none⟩ = some (.int .i64 id) := by rw [cell_of_row v _ 0 _ _ (0, 0) E.e]; rfl
      have x1 : v.cell? ⟨gt, 1, none⟩ = some (.int .i64 k) := by rw [cell_of_row v _ 1 _ _ (0, 0) E.e]; rfl
      have x2 : v.cell? ⟨gt, 2, none⟩ = some (.int .i64 tk) := by rw [cell_of_row v _ 2 _ _ (0, 0) E.e]; rfl
      have x3 : v.cell? ⟨gt, 3, none⟩ = some (.int .i64 rf) := by rw [cell_of_row v _ 3 _ _ (0, 0) E.e]; rfl
      have x4 : v.cell? ⟨gt, 4, none⟩ = some (.int .i64 sp) := by rw [cell_of_row v _ 4 _ _ (0, 0) E.e]; rfl
      have x5 : v.cell? ⟨gt, 5, none⟩ = some (.int .i64 ty) := by rw [cell_of_row v _ 5 _ _ (0, 0) E.e]; rfl
      have x6 : v.cell? ⟨gt, 6, none⟩ = some (.bool ud) := by rw [cell_of_row v _ 6 _ _ (0, 0) E.e]; rfl
      have x7 : v.cell? ⟨gt, 7, none⟩ = some (.string ⟨dt.toArray⟩) := by rw [cell_of_row v _ 7 _ _ (0, 0) E.e]; rfl
      have q0 : v.cell? ⟨gr, 0, none⟩ = some (.int .i64 0) := by rw [cell_of_row v _ 0 _ _ (0, 0) E.q]; rfl
      have q1 : v.cell? ⟨gr, 1, none⟩ = some (.int .i64 0) := by rw [cell_of_row v _ 1 _ _ (0, 0) E.q]; rfl
      have q2 : v.cell? ⟨gr, 2, none⟩ = some (.int .i64 0) := by rw [cell_of_row v _ 2 _ _ (0, 0) E.q]; rfl
      have q3 : v.cell? ⟨gr, 3, none⟩ = some (.int .i64 0) := by rw [cell_of_row v _ 3 _ _ (0, 0) E.q]; rfl
      have q4 : v.cell? ⟨gr, 4, none⟩ = some (.int .i64 0) := by rw [cell_of_row v _ 4 _ _ (0, 0) E.q]; rfl
      have q5 : v.cell? ⟨gr, 5, none⟩ = some (.int .i64 0) := by rw [cell_of_row v _ 5 _ _ (0, 0) E.q]; rfl
      have q6 : v.cell? ⟨gr, 6, none⟩ = some (.bool false) := by rw [cell_of_row v _ 6 _ _ (0, 0) E.q]; rfl
      have q7 : v.cell? ⟨gr, 7, none⟩ = some (.string ⟨#[]⟩) := by rw [cell_of_row v _ 7 _ _ (0, 0) E.q]; rfl
      have f0 : v.frozen? ⟨gr, 0, none⟩ = false := frozen_of_row v _ 0 _ _ E.q
      have f1 : v.frozen? ⟨gr, 1, none⟩ = false := frozen_of_row v _ 1 _ _ E.q
      have f2 : v.frozen? ⟨gr, 2, none⟩ = false := frozen_of_row v _ 2 _ _ E.q
      have f3 : v.frozen? ⟨gr, 3, none⟩ = false := frozen_of_row v _ 3 _ _ E.q
      have f4 : v.frozen? ⟨gr, 4, none⟩ = false := frozen_of_row v _ 4 _ _ E.q
      have f5 : v.frozen? ⟨gr, 5, none⟩ = false := frozen_of_row v _ 5 _ _ E.q
      have f6 : v.frozen? ⟨gr, 6, none⟩ = false := frozen_of_row v _ 6 _ _ E.q
      have f7 : v.frozen? ⟨gr, 7, none⟩ = false := frozen_of_row v _ 7 _ _ E.q
      by_cases hp : EvP (id, k, tk, rf, sp, ty, ud, dt)
      · have hE : encEV (id, k, tk, rf, sp, ty, ud, dt) = encE (id, k, tk, rf, sp, ty, ud, dt) := by unfold encEV; rw [if_pos hp]
        rw [ev_yes hp, hE]
        clear hE
        go_wp2_with fail
        refine (rend_any g r' b' v E.rd).mono ?_
        rintro _ w9 ⟨rfl, hw9⟩
        rw [hw9]
        clear hw9 w9
        by_cases he : endF r' b' = true
        · rw [he]
          by_cases hb : encE (id, k, tk, rf, sp, ty, ud, dt) = l
          · have HR := hid (show evF l = some (id, k, tk, rf, sp, ty, ud, dt) by rw [hF, if_pos ⟨hp, he, hb⟩])
            have hbb : (encE (id, k, tk, rf, sp, ty, ud, dt) == l) = true := by rw [beq_iff_eq]; exact hb
            generalize encE (id, k, tk, rf, sp, ty, ud, dt) = L at hbb
            clear hp he hb hF
            go_wp2_with fail
            refine bodyPost_ret (v := .tuple #[.agg #[.int .i64 id, .int .i64 k, .int .i64 tk, .int .i64 rf, .int .i64 sp, .int .i64 ty, .bool ud, .string ⟨dt.toArray⟩], .int .i64 0]) ?_ rfl ⟨(id, k, tk, rf, sp, ty, ud, dt), 0, rfl, At.below E.below ((((((((((At.refl gr v).set 0 _).set 1 _).set 2 _).set 3 _).set 4 _).set 5 _).set 6 _).set 7 _) : At gr v ((((((((v.setCell ⟨gr, 0, none⟩ (.int .i64 id)).setCell ⟨gr, 1, none⟩ (.int .i64 k)).setCell ⟨gr, 2, none⟩ (.int .i64 tk)).setCell ⟨gr, 3, none⟩ (.int .i64 rf)).setCell ⟨gr, 4, none⟩ (.int .i64 sp)).setCell ⟨gr, 5, none⟩ (.int .i64 ty)).setCell ⟨gr, 6, none⟩ (.bool ud)).setCell ⟨gr, 7, none⟩ (.string ⟨dt.toArray⟩))) n2.2.1, .inl ⟨HR.out, rfl⟩⟩
            rw [results_cell_tmp rfl]
            go_simp
          · have HR := hid (show evF l = none by rw [hF, if_neg (fun q => hb q.2.2)])
            have hbb : (encE (id, k, tk, rf, sp, ty, ud, dt) == l) = false := by rw [beq_eq_false_iff_ne]; exact hb
            generalize encE (id, k, tk, rf, sp, ty, ud, dt) = L at hbb
            clear hp he hb hF
            go_wp2_with fail
            refine bodyPost_ret (v := .tuple #[.agg #[.int .i64 0, .int .i64 0, .int .i64 0, .int .i64 0, .int .i64 0, .int .i64 0, .bool false, .string ⟨#[]⟩], .int .i64 60]) ?_ rfl ⟨zEv, 60, rfl, At.below E.below ((((((((((At.refl gr v).set 0 _).set 1 _).set 2 _).set 3 _).set 4 _).set 5 _).set 6 _).set 7 _) : At gr v ((((((((v.setCell ⟨gr, 0, none⟩ (.int .i64 0)).setCell ⟨gr, 1, none⟩ (.int .i64 0)).setCell ⟨gr, 2, none⟩ (.int .i64 0)).setCell ⟨gr, 3, none⟩ (.int .i64 0)).setCell ⟨gr, 4, none⟩ (.int .i64 0)).setCell ⟨gr, 5, none⟩ (.int .i64 0)).setCell ⟨gr, 6, none⟩ (.bool false)).setCell ⟨gr, 7, none⟩ (.string ⟨#[]⟩))) n2.2.1, .inr ⟨HR.out, rfl, rfl⟩⟩
            rw [results_cell_tmp rfl]
            go_simp
        · have he' : endF r' b' = false := by simpa using he
          have HR := hid (show evF l = none by rw [hF, if_neg (fun q => he q.2.1)])
          rw [he']
          generalize encE (id, k, tk, rf, sp, ty, ud, dt) = L
          clear hp he he' hF
          go_wp2_with fail
          refine bodyPost_ret (v := .tuple #[.agg #[.int .i64 0, .int .i64 0, .int .i64 0, .int .i64 0, .int .i64 0, .int .i64 0, .bool false, .string ⟨#[]⟩], .int .i64 60]) ?_ rfl ⟨zEv, 60, rfl, At.below E.below ((((((((((At.refl gr v).set 0 _).set 1 _).set 2 _).set 3 _).set 4 _).set 5 _).set 6 _).set 7 _) : At gr v ((((((((v.setCell ⟨gr, 0, none⟩ (.int .i64 0)).setCell ⟨gr, 1, none⟩ (.int .i64 0)).setCell ⟨gr, 2, none⟩ (.int .i64 0)).setCell ⟨gr, 3, none⟩ (.int .i64 0)).setCell ⟨gr, 4, none⟩ (.int .i64 0)).setCell ⟨gr, 5, none⟩ (.int .i64 0)).setCell ⟨gr, 6, none⟩ (.bool false)).setCell ⟨gr, 7, none⟩ (.string ⟨#[]⟩))) n2.2.1, .inr ⟨HR.out, rfl, rfl⟩⟩
          rw [results_cell_tmp rfl]
          go_simp
      · have HR := hid (show evF l = none by rw [hF, if_neg (fun q => hp q.1)])
        rw [ev_no hp]
        generalize encEV (id, k, tk, rf, sp, ty, ud, dt) = L
        clear hp hF
        go_wp2_with fail
        refine bodyPost_ret (v := .tuple #[.agg #[.int .i64 0, .int .i64 0, .int .i64 0, .int .i64 0, .int .i64 0, .int .i64 0, .bool false, .string ⟨#[]⟩], .int .i64 60]) ?_ rfl ⟨zEv, 60, rfl, At.below E.below ((((((((((At.refl gr v).set 0 _).set 1 _).set 2 _).set 3 _).set 4 _).set 5 _).set 6 _).set 7 _) : At gr v ((((((((v.setCell ⟨gr, 0, none⟩ (.int .i64 0)).setCell ⟨gr, 1, none⟩ (.int .i64 0)).setCell ⟨gr, 2, none⟩ (.int .i64 0)).setCell ⟨gr, 3, none⟩ (.int .i64 0)).setCell ⟨gr, 4, none⟩ (.int .i64 0)).setCell ⟨gr, 5, none⟩ (.int .i64 0)).setCell ⟨gr, 6, none⟩ (.bool false)).setCell ⟨gr, 7, none⟩ (.string ⟨#[]⟩))) n2.2.1, .inr ⟨HR.out, rfl, rfl⟩⟩
        rw [results_cell_tmp rfl]
        go_simp
end Go.Proofs.Ytelacmchofehcaa
namespace Go.Proofs.Ytelacmchofehcaa
open Go.RowKit
set_option linter.unusedVariables false

set_option maxHeartbeats 3200000 in
set_option maxRecDepth 100000 in
theorem runpack_any (l : List UInt8) (hl : l.length ≤ 140737488355328) (w : World) :
    Calls Try.prog 49 #[.string ⟨l.toArray⟩] w fun e w' => ∃ (v : Value) (xs : List Ev) (er : Int), e = .returned (.tuple #[v, .int .i64 er]) ∧ Sl w' v 8 xs.length (xs.flatMap evc) ∧ FitE xs ∧ Below w.heap.size w w' ∧ ((unF l = some xs ∧ er = 0) ∨ (unF l = none ∧ er = 60 ∧ xs = [])) := by
  have hinfo : (Try.prog.info? 82).map (fun i => (i.zero, i.size, i.bytes)) = some (some (.agg #[.int .i64 0, .int .i64 0, .int .i64 0, .int .i64 0, .int .i64 0, .int .i64 0, .bool false, .string .empty]), 8, 72) := by kernel_rfl
  have hmx : maxLen = 9223372036854775807 := rfl
  go_enter Try.func49, Try.ntmps49
  go_wp2_with fail
  obtain ⟨w1, hw1⟩ : ∃ w1, w1 = w.alloc (.cells #[.string ⟨l.toArray⟩, .bool false] 94) := ⟨_, rfl⟩
  rw [← hw1]
  have hr1 : RRdr w1 w.heap.size l false := by rw [hw1]; exact Obj2.new _ _ _ _
  have b1 : Below w.heap.size w w1 := by rw [hw1]; exact (Below.refl _ _).alloc (Nat.le_refl _) _
  have sn1 : Sane l false := fun h => by cases h
  clear hw1
  obtain ⟨g, hg⟩ : ∃ g, g = w.heap.size := ⟨_, rfl⟩
  rw [← hg] at hr1 ⊢
  have n2 : w.heap.size ≤ g := by omega
  clear hg
  refine (rint_any_r g l false 500 w1 hr1 sn1 (by omega) (by omega) (by omega)).mono ?_
  rintro _ w2 ⟨rfl, hr2, a2⟩
  have b2 := At.below b1 a2 n2
  have sn2 := sane_intF (500) sn1
  have hN := intF_le (r := l) (b := false) (m := 500) (by decide)
  have hll := intF_len l false 500
  have hU : unF l = (unG tx2 evF (intF l false 500).1 (intF l false 500).2).bind fun y => if endF y.2.1 y.2.2 = true then some y.1 else none := by
    rw [un_same]
    unfold runF
    rw [show revF = evF from funext fun l => (ev_same l).symm]
    rfl
  obtain ⟨⟨N, r2, e2⟩, hx1⟩ : ∃ x, intF l false 500 = x := ⟨_, rfl⟩
  rw [hx1] at hr2 sn2 hN hll hU ⊢
  simp only at hr2 sn2 hN hll hU ⊢
  clear hr1 b1 a2 hx1 sn1
  go_wp2_with fail
  obtain ⟨S0, hS0⟩ : ∃ S0 : RS, S0 = (r2, e2) := ⟨_, rfl⟩
  rw [← hS0] at hU
  have HU := hid hU
  clear hU
  go_loopw [6, 7] (fun v0 n0 wr => ∃ (k : Nat) (xs : List Ev) (r : List UInt8) (b : Bool), k ≤ N ∧ n0 = .int .i64 k ∧ (RRdr wr g r b ∧ Sane r b) ∧ r.length ≤ l.length ∧ wr.ownsRow w.heap.size 82 8 v0 k (xs.flatMap evc) ∧ FitE xs ∧ xs.length = k ∧ unG tx2 evF N S0 = (unG tx2 evF (N - k) (r, b)).map (fun y => (xs ++ y.1, y.2)) ∧ Below w.heap.size w wr) (fun _ n0 _ => N - (intOf n0).toNat)
  case atStart => exact ⟨0, [], r2, e2, by omega, rfl, ⟨hr2, sn2⟩, hll, World.ownsRow_nil _ _ _ _, (by intro x hx; cases hx), rfl, by rw [hS0]; simp, b2⟩
  case round =>
    clear hr2 sn2 b2 hll
    obtain ⟨k, xs, r, b, hk, rfl, ⟨hr, sn⟩, hrl, ho, hfit, hxl, hun, hb⟩ := hrel
    obtain ⟨a0, cc0, rfl⟩ := ownsRow_slice ho
    by_cases hlt : k < N
    · have HSK := hid (show N - k = (N - (k + 1)) + 1 by omega)
      have HN := hid hun
      clear hun
      go_wp2_with fail
      refine (rtext_full g r b wr hr sn (by omega)).mono ?_
      rintro _ w5 ⟨rfl, hr5, a5⟩
      have ho5 := own_at_other ho hr (by decide) a5
      have hb5 := At.below hb a5 n2
      have sn5 := sane_rtextF sn
      have hl5 := rtextF_len r b
      have ht5 : (rtextF r b).1.length ≤ r.length := Nat.le_trans (takeF_fst' _ _ _) (numF_len r b)
      have htx : tx2 (r, b) = rtextF r b := rfl
      obtain ⟨⟨t, r', b'⟩, hx⟩ : ∃ x, rtextF r b = x := ⟨_, rfl⟩
      rw [hx] at hr5 sn5 hl5 ht5 htx ⊢
      simp only at hr5 sn5 hl5 ht5 ⊢
      clear hr sn ho hb a5 hx
      go_wp2_with fail
      refine (rdecodeE_any t (by omega) w5).mono ?_
      rintro _ w6 ⟨x, er, rfl, b6, hres⟩
      have hr6 := hr5.keep b6
      have ho6 := own_new ho5 b6
      have hb6 := bnext hb5 b6
      clear hr5 ho5 hb5 b6
      obtain ⟨id, kd, tk, rf, sp, ty, ud, dt⟩ := x
      rw [show evV' (id, kd, tk, rf, sp, ty, ud, dt) = .agg #[.int .i64 id, .int .i64 kd, .int .i64 tk, .int .i64 rf, .int .i64 sp, .int .i64 ty, .bool ud, .string ⟨dt.toArray⟩] from rfl]
      rcases hres with ⟨g1, rfl⟩ | ⟨g1, rfl, _⟩
      · have hun' := HN.out
        rw [HSK.out, unG_some (s := (r, b)) (x := (id, kd, tk, rf, sp, ty, ud, dt)) (by rw [htx]; exact g1), htx] at hun'
        have HM := hid hun'
        have hdl := dataP_len (evF_iff.1 g1).1.2.2.2.2.2.2.2
        simp only [Ev.dt] at hdl
        clear hun' g1 HN htx
        have bW : Below w6.heap.size w6 (w6.alloc (.cells #[.int .i64 id, .int .i64 kd, .int .i64 tk, .int .i64 rf, .int .i64 sp, .int .i64 ty, .bool ud, .string ⟨dt.toArray⟩] 82)) := (Below.refl _ _).alloc (Nat.le_refl _) _
        have bZ : Below (w6.alloc (.cells #[.int .i64 id, .int .i64 kd, .int .i64 tk, .int .i64 rf, .int .i64 sp, .int .i64 ty, .bool ud, .string ⟨dt.toArray⟩] 82)).heap.size (w6.alloc (.cells #[.int .i64 id, .int .i64 kd, .int .i64 tk, .int .i64 rf, .int .i64 sp, .int .i64 ty, .bool ud, .string ⟨dt.toArray⟩] 82)) ((w6.alloc (.cells #[.int .i64 id, .int .i64 kd, .int .i64 tk, .int .i64 rf, .int .i64 sp, .int .i64 ty, .bool ud, .string ⟨dt.toArray⟩] 82)).alloc (.cells #[.int .i64 id, .int .i64 kd, .int .i64 tk, .int .i64 rf, .int .i64 sp, .int .i64 ty, .bool ud, .string ⟨dt.toArray⟩] 82)) := (Below.refl _ _).alloc (Nat.le_refl _) _
        have oZ := own_new (own_new ho6 bW) bZ
        have rZ := (hr6.keep bW).keep bZ
        have bb := bnext (bnext hb6 bW) bZ
        have sW : (w6.alloc (.cells #[.int .i64 id, .int .i64 kd, .int .i64 tk, .int .i64 rf, .int .i64 sp, .int .i64 ty, .bool ud, .string ⟨dt.toArray⟩] 82)).heap.size = w6.heap.size + 1 := Array.size_push ..
        have hy : ∀ (j : Nat) (q9 : Value), (evc (id, kd, tk, rf, sp, ty, ud, dt))[j]? = some q9 → ((w6.alloc (.cells #[.int .i64 id, .int .i64 kd, .int .i64 tk, .int .i64 rf, .int .i64 sp, .int .i64 ty, .bool ud, .string ⟨dt.toArray⟩] 82)).alloc (.cells #[.int .i64 id, .int .i64 kd, .int .i64 tk, .int .i64 rf, .int .i64 sp, .int .i64 ty, .bool ud, .string ⟨dt.toArray⟩] 82)).cell? ⟨(w6.heap.size + 1), j, none⟩ = some q9 := by
          intro j u hu
          refine (World.cell?_alloc_at _ _ _ _ sW.symm).trans ?_
          rw [← hu]
          exact List.getElem?_toArray
        have hB9 : w.heap.size ≤ ((w6.alloc (.cells #[.int .i64 id, .int .i64 kd, .int .i64 tk, .int .i64 rf, .int .i64 sp, .int .i64 ty, .bool ud, .string ⟨dt.toArray⟩] 82)).alloc (.cells #[.int .i64 id, .int .i64 kd, .int .i64 tk, .int .i64 rf, .int .i64 sp, .int .i64 ty, .bool ud, .string ⟨dt.toArray⟩] 82)).heap.size := bb.size
        clear sW hr6 ho6
        go_wp2_with ((at_builtin; go_must (refine wpList_append_row _ rfl _ _ 31 rfl evc 8 (by decide) evc_len evc_one w.heap.size 82 (.agg #[.int .i64 0, .int .i64 0, .int .i64 0, .int .i64 0, .int .i64 0, .int .i64 0, .bool false, .string .empty]) 72 Try.underlying31 hinfo rfl _ k xs rfl oZ (w6.heap.size + 1) 1 rfl ((id, kd, tk, rf, sp, ty, ud, dt) : Ev) hy (by omega) (by omega) hB9 ?_)))
        intro a' c' w' hown hgrow
        have rZ' := obj_grown oZ hgrow rZ (by decide)
        have bZ' := below_grown bb oZ hgrow (Nat.le_refl _)
        clear hy bW bZ oZ rZ bb hB9
        go_wp2_with fail
        go_roundw
        case rel =>
          refine ⟨k + 1, xs ++ [(id, kd, tk, rf, sp, ty, ud, dt)], r', b', by omega, by go_num, ⟨rZ', sn5⟩, by omega, (by simpa using hown), ?_, by simp [hxl], ?_, bZ'⟩
          · intro x hx
            rcases List.mem_append.1 hx with h | h
            · exact hfit x h
            · simp at h; rw [h]; simp only [Ev.dt]; omega
          · rw [HM.out, Option.map_map]
            congr 1
            funext y
            simp
        case measure => simp [intOf]; omega
      · have hun' := HN.out
        rw [HSK.out, unG_none (s := (r, b)) (by rw [htx]; exact g1)] at hun'
        have HF : Hid (unF l = none) := hid (by rw [HU.out, hun']; rfl)
        clear hun' g1 HN htx hr6 ho6
        go_wp2_with fail
        go_ret2
        exact ⟨_, [], 60, rfl, Sl.none _ _, (by intro x hx; cases hx), hb6.alloc hb6.size _, .inr ⟨HF.out, rfl, rfl⟩⟩
    · obtain rfl : k = N := by omega
      have hun' := hun
      rw [Nat.sub_self] at hun'
      have hfin : unF l = if endF r b = true then some xs else none := by
        rw [HU.out, hun']
        simp [unG]
      have HF := hid hfin
      have hsl := Sl.of_own ho (by omega)
      rw [← hxl] at hsl
      clear hun hun' hfin
      go_wp2_with fail
      refine (rend_any g r b wr hr).mono ?_
      rintro _ w9 ⟨rfl, hw9⟩
      rw [hw9]
      clear hw9 w9
      cases he : endF r b
      · have HE := hid he
        clear he
        go_wp2_with fail
        go_ret2
        exact ⟨_, [], 60, rfl, Sl.none _ _, (by intro x hx; cases hx), hb, .inr ⟨by rw [HF.out, HE.out]; rfl, rfl, rfl⟩⟩
      · have HE := hid he
        clear he
        go_wp2_with fail
        go_ret2
        exact ⟨_, xs, 0, rfl, by rw [← hxl]; exact hsl, hfit, hb, .inl ⟨by rw [HF.out, HE.out]; rfl, rfl⟩⟩
end Go.Proofs.Ytelacmchofehcaa
namespace Go.Proofs.Ytelacmchofehcaa
open Go.RowKit
set_option linter.unusedVariables false

set_option maxHeartbeats 1600000 in
set_option maxRecDepth 100000 in
theorem rtasked_any (l : List UInt8) (hl : l.length ≤ 140737488355328) (w : World) :
    Calls Try.prog 50 #[.string ⟨l.toArray⟩] w fun e w' => ∃ (x : Tk) (er : Int), e = .returned (.tuple #[tkV' x, .int .i64 er]) ∧ Below w.heap.size w w' ∧ ((rtaskF l = some x ∧ er = 0) ∨ (rtaskF l = none ∧ er = 60 ∧ x = (0, [], 0, 0))) := by
  go_enter Try.func50, Try.ntmps50
  go_wp2_with fail
  obtain ⟨w1, hw1⟩ : ∃ w1, w1 = ((w.alloc (.cells #[.int .i64 0, .string ⟨#[]⟩, .int .i64 0, .int .i64 0] 30)).alloc (.cells #[.string ⟨l.toArray⟩, .bool false] 94)).alloc (.cells #[.int .i64 0, .string ⟨#[]⟩, .int .i64 0, .int .i64 0] 30) := ⟨_, rfl⟩
  rw [← hw1]
  have s1 : (w.alloc (.cells #[.int .i64 0, .string ⟨#[]⟩, .int .i64 0, .int .i64 0] 30)).heap.size = w.heap.size + 1 := Array.size_push ..
  have s2 : ((w.alloc (.cells #[.int .i64 0, .string ⟨#[]⟩, .int .i64 0, .int .i64 0] 30)).alloc (.cells #[.string ⟨l.toArray⟩, .bool false] 94)).heap.size = w.heap.size + 1 + 1 := by rw [← s1]; exact Array.size_push ..
  have b1 : Below w.heap.size w (w.alloc (.cells #[.int .i64 0, .string ⟨#[]⟩, .int .i64 0, .int .i64 0] 30)) := (Below.refl _ _).alloc (Nat.le_refl _) _
  have b2 : Below (w.alloc (.cells #[.int .i64 0, .string ⟨#[]⟩, .int .i64 0, .int .i64 0] 30)).heap.size (w.alloc (.cells #[.int .i64 0, .string ⟨#[]⟩, .int .i64 0, .int .i64 0] 30)) ((w.alloc (.cells #[.int .i64 0, .string ⟨#[]⟩, .int .i64 0, .int .i64 0] 30)).alloc (.cells #[.string ⟨l.toArray⟩, .bool false] 94)) := (Below.refl _ _).alloc (Nat.le_refl _) _
  have b3 : Below ((w.alloc (.cells #[.int .i64 0, .string ⟨#[]⟩, .int .i64 0, .int .i64 0] 30)).alloc (.cells #[.string ⟨l.toArray⟩, .bool false] 94)).heap.size ((w.alloc (.cells #[.int .i64 0, .string ⟨#[]⟩, .int .i64 0, .int .i64 0] 30)).alloc (.cells #[.string ⟨l.toArray⟩, .bool false] 94)) (((w.alloc (.cells #[.int .i64 0, .string ⟨#[]⟩, .int .i64 0, .int .i64 0] 30)).alloc (.cells #[.string ⟨l.toArray⟩, .bool false] 94)).alloc (.cells #[.int .i64 0, .string ⟨#[]⟩, .int .i64 0, .int .i64 0] 30)) := (Below.refl _ _).alloc (Nat.le_refl _) _
  have hbw1 : Below w.heap.size w w1 := by rw [hw1]; exact bnext (bnext b1 b2) b3
  have hQw1 : w1.heap[w.heap.size]? = some (.cells #[.int .i64 0, .string ⟨#[]⟩, .int .i64 0, .int .i64 0] 30 (0, 0)) := by
    rw [hw1]
    exact (b3.block _ (by omega)).trans ((b2.block _ (by omega)).trans (heap_alloc_new w _))
  have hrw1 : RRdr w1 (w.heap.size + 1) l false := by rw [hw1, ← s1]; exact (Obj2.new _ _ _ _).keep b3
  have hTw1 : w1.heap[w.heap.size + 1 + 1]? = some (.cells #[.int .i64 0, .string ⟨#[]⟩, .int .i64 0, .int .i64 0] 30 (0, 0)) := by rw [hw1, ← s2]; exact heap_alloc_new _ _
  have snw1 : Sane l false := fun h => by cases h
  clear hw1 s1 s2 b1 b2 b3
  obtain ⟨g, hg⟩ : ∃ g, g = w.heap.size + 1 := ⟨_, rfl⟩
  obtain ⟨gt, hgt⟩ : ∃ gt, gt = w.heap.size + 1 + 1 := ⟨_, rfl⟩
  obtain ⟨gr, hgr⟩ : ∃ gr, gr = w.heap.size := ⟨_, rfl⟩
  have n1 : gr ≠ g := by omega
  have n3 : gt ≠ g := by omega
  have n4 : gr ≠ gt := by omega
  have n2 : w.heap.size ≤ g ∧ w.heap.size ≤ gr ∧ w.heap.size ≤ gt := by omega
  rw [← hgt] at hTw1 ⊢
  rw [← hg] at hrw1 ⊢
  rw [← hgr] at hQw1 ⊢
  clear hg hgt hgr
  refine (rint_any_r g l false 100 w1 hrw1 snw1 (by unfold maxLen; omega) (by omega) (by omega)).mono ?_
  rintro _ w2 ⟨rfl, hrw2, aw2⟩
  have hQw2 := (aw2.block gr (Array.getElem?_eq_some_iff.1 hQw1).1 (by simpa using n1)).trans hQw1
  have hTw2 := (aw2.block gt (Array.getElem?_eq_some_iff.1 hTw1).1 (by simpa using n3)).trans hTw1
  have hbw2 := At.below hbw1 aw2 n2.1
  have hlw2 := intF_len l false 100
  have snw2 : Sane (intF l false 100).2.1 (intF l false 100).2.2 := sane_intF (100) snw1
  obtain ⟨⟨k, r1, e1⟩, hxw2⟩ : ∃ x, intF l false 100 = x := ⟨_, rfl⟩
  rw [hxw2] at hrw2 hlw2 snw2 ⊢
  simp only at hrw2 hlw2 snw2 ⊢
  clear hrw1 hQw1 hTw1 hbw1 snw1 aw2
  have z0 : w2.frozen? ⟨gt, 0, none⟩ = false := frozen_of_row w2 _ 0 _ _ hTw2
  have u0 : w2.cell? ⟨gt, 0, none⟩ = some (.int .i64 0) := by rw [cell_of_row w2 _ 0 _ _ (0, 0) hTw2]; rfl
  obtain ⟨w3, hww3⟩ : ∃ w3, w3 = w2.setCell ⟨gt, 0, none⟩ (.int .i64 k) := ⟨_, rfl⟩
  have aw3 : At gt w2 w3 := by rw [hww3]; exact (At.refl _ _).set 0 _
  have hrw3 := hrw2.grown aw3 (Ne.symm n3)
  have hQw3 := (aw3.block gr (Array.getElem?_eq_some_iff.1 hQw2).1 (by simpa using n4)).trans hQw2
  have hTw3 : w3.heap[gt]? = some (.cells #[.int .i64 k, .string ⟨#[]⟩, .int .i64 0, .int .i64 0] 30 (0, 0)) := by rw [hww3]; exact heap_setCell_same w2 gt 0 _ _ (.int .i64 k) hTw2
  have hbw3 := At.below hbw2 aw3 n2.2.2
  have snw3 := snw2
  have hXw3 : Hid (w3 = w2.setCell ⟨gt, 0, none⟩ (.int .i64 k)) := hww3
  clear hww3 aw3 hrw2 hQw2 hTw2 hbw2 snw2
  go_wp2_with (rw [← hXw3.out])
  clear z0 u0 hXw3
  refine (rtext_full g r1 e1 w3 hrw3 snw3 (by omega)).mono ?_
  rintro _ w4 ⟨rfl, hrw4, aw4⟩
  have hQw4 := (aw4.block gr (Array.getElem?_eq_some_iff.1 hQw3).1 (by simpa using n1)).trans hQw3
  have hTw4 := (aw4.block gt (Array.getElem?_eq_some_iff.1 hTw3).1 (by simpa using n3)).trans hTw3
  have hbw4 := At.below hbw3 aw4 n2.1
  have hlw4 := rtextF_len r1 e1
  have snw4 : Sane (rtextF r1 e1).2.1 (rtextF r1 e1).2.2 := sane_rtextF  snw3
  have hfw4 := rtextF_fst r1 e1
  obtain ⟨⟨n, r2, e2⟩, hxw4⟩ : ∃ x, rtextF r1 e1 = x := ⟨_, rfl⟩
  rw [hxw4] at hrw4 hlw4 snw4 hfw4 ⊢
  simp only at hrw4 hlw4 snw4 hfw4 ⊢
  clear hrw3 hQw3 hTw3 hbw3 snw3 aw4
  have z1 : w4.frozen? ⟨gt, 1, none⟩ = false := frozen_of_row w4 _ 1 _ _ hTw4
  have u1 : w4.cell? ⟨gt, 1, none⟩ = some (.string ⟨#[]⟩) := by rw [cell_of_row w4 _ 1 _ _ (0, 0) hTw4]; rfl
  obtain ⟨w5, hww5⟩ : ∃ w5, w5 = w4.setCell ⟨gt, 1, none⟩ (.string ⟨n.toArray⟩) := ⟨_, rfl⟩
  have aw5 : At gt w4 w5 := by rw [hww5]; exact (At.refl _ _).set 1 _
  have hrw5 := hrw4.grown aw5 (Ne.symm n3)
  have hQw5 := (aw5.block gr (Array.getElem?_eq_some_iff.1 hQw4).1 (by simpa using n4)).trans hQw4
  have hTw5 : w5.heap[gt]? = some (.cells #[.int .i64 k, .string ⟨n.toArray⟩, .int .i64 0, .int .i64 0] 30 (0, 0)) := by rw [hww5]; exact heap_setCell_same w4 gt 1 _ _ (.string ⟨n.toArray⟩) hTw4
  have hbw5 := At.below hbw4 aw5 n2.2.2
  have snw5 := snw4
  have hXw5 : Hid (w5 = w4.setCell ⟨gt, 1, none⟩ (.string ⟨n.toArray⟩)) := hww5
  clear hww5 aw5 hrw4 hQw4 hTw4 hbw4 snw4
  go_wp2_with (rw [← hXw5.out])
  clear z1 u1 hXw5
  refine (rint_any_r g r2 e2 1000 w5 hrw5 snw5 (by unfold maxLen; omega) (by omega) (by omega)).mono ?_
  rintro _ w6 ⟨rfl, hrw6, aw6⟩
  have hQw6 := (aw6.block gr (Array.getElem?_eq_some_iff.1 hQw5).1 (by simpa using n1)).trans hQw5
  have hTw6 := (aw6.block gt (Array.getElem?_eq_some_iff.1 hTw5).1 (by simpa using n3)).trans hTw5
  have hbw6 := At.below hbw5 aw6 n2.1
  have hlw6 := intF_len r2 e2 1000
  have snw6 : Sane (intF r2 e2 1000).2.1 (intF r2 e2 1000).2.2 := sane_intF (1000) snw5
  obtain ⟨⟨r, r3, e3⟩, hxw6⟩ : ∃ x, intF r2 e2 1000 = x := ⟨_, rfl⟩
  rw [hxw6] at hrw6 hlw6 snw6 ⊢
  simp only at hrw6 hlw6 snw6 ⊢
  clear hrw5 hQw5 hTw5 hbw5 snw5 aw6
  have z2 : w6.frozen? ⟨gt, 2, none⟩ = false := frozen_of_row w6 _ 2 _ _ hTw6
  have u2 : w6.cell? ⟨gt, 2, none⟩ = some (.int .i64 0) := by rw [cell_of_row w6 _ 2 _ _ (0, 0) hTw6]; rfl
  obtain ⟨w7, hww7⟩ : ∃ w7, w7 = w6.setCell ⟨gt, 2, none⟩ (.int .i64 r) := ⟨_, rfl⟩
  have aw7 : At gt w6 w7 := by rw [hww7]; exact (At.refl _ _).set 2 _
  have hrw7 := hrw6.grown aw7 (Ne.symm n3)
  have hQw7 := (aw7.block gr (Array.getElem?_eq_some_iff.1 hQw6).1 (by simpa using n4)).trans hQw6
  have hTw7 : w7.heap[gt]? = some (.cells #[.int .i64 k, .string ⟨n.toArray⟩, .int .i64 r, .int .i64 0] 30 (0, 0)) := by rw [hww7]; exact heap_setCell_same w6 gt 2 _ _ (.int .i64 r) hTw6
  have hbw7 := At.below hbw6 aw7 n2.2.2
  have snw7 := snw6
  have hXw7 : Hid (w7 = w6.setCell ⟨gt, 2, none⟩ (.int .i64 r)) := hww7
  clear hww7 aw7 hrw6 hQw6 hTw6 hbw6 snw6
  go_wp2_with (rw [← hXw7.out])
  clear z2 u2 hXw7
  refine (rint_any_r g r3 e3 100 w7 hrw7 snw7 (by unfold maxLen; omega) (by omega) (by omega)).mono ?_
  rintro _ w8 ⟨rfl, hrw8, aw8⟩
  have hQw8 := (aw8.block gr (Array.getElem?_eq_some_iff.1 hQw7).1 (by simpa using n1)).trans hQw7
  have hTw8 := (aw8.block gt (Array.getElem?_eq_some_iff.1 hTw7).1 (by simpa using n3)).trans hTw7
  have hbw8 := At.below hbw7 aw8 n2.1
  have hlw8 := intF_len r3 e3 100
  have snw8 : Sane (intF r3 e3 100).2.1 (intF r3 e3 100).2.2 := sane_intF (100) snw7
  obtain ⟨⟨t, r4, e4⟩, hxw8⟩ : ∃ x, intF r3 e3 100 = x := ⟨_, rfl⟩
  rw [hxw8] at hrw8 hlw8 snw8 ⊢
  simp only at hrw8 hlw8 snw8 ⊢
  clear hrw7 hQw7 hTw7 hbw7 snw7 aw8
  have z3 : w8.frozen? ⟨gt, 3, none⟩ = false := frozen_of_row w8 _ 3 _ _ hTw8
  have u3 : w8.cell? ⟨gt, 3, none⟩ = some (.int .i64 0) := by rw [cell_of_row w8 _ 3 _ _ (0, 0) hTw8]; rfl
  obtain ⟨w9, hww9⟩ : ∃ w9, w9 = w8.setCell ⟨gt, 3, none⟩ (.int .i64 t) := ⟨_, rfl⟩
  have aw9 : At gt w8 w9 := by rw [hww9]; exact (At.refl _ _).set 3 _
  have hrw9 := hrw8.grown aw9 (Ne.symm n3)
  have hQw9 := (aw9.block gr (Array.getElem?_eq_some_iff.1 hQw8).1 (by simpa using n4)).trans hQw8
  have hTw9 : w9.heap[gt]? = some (.cells #[.int .i64 k, .string ⟨n.toArray⟩, .int .i64 r, .int .i64 t] 30 (0, 0)) := by rw [hww9]; exact heap_setCell_same w8 gt 3 _ _ (.int .i64 t) hTw8
  have hbw9 := At.below hbw8 aw9 n2.2.2
  have snw9 := snw8
  have hXw9 : Hid (w9 = w8.setCell ⟨gt, 3, none⟩ (.int .i64 t)) := hww9
  clear hww9 aw9 hrw8 hQw8 hTw8 hbw8 snw8
  have x0 : w9.cell? ⟨gt, 0, none⟩ = some (.int .i64 k) := by rw [cell_of_row w9 _ 0 _ _ (0, 0) hTw9]; rfl
  have x1 : w9.cell? ⟨gt, 1, none⟩ = some (.string ⟨n.toArray⟩) := by rw [cell_of_row w9 _ 1 _ _ (0, 0) hTw9]; rfl
  have x2 : w9.cell? ⟨gt, 2, none⟩ = some (.int .i64 r) := by rw [cell_of_row w9 _ 2 _ _ (0, 0) hTw9]; rfl
  have x3 : w9.cell? ⟨gt, 3, none⟩ = some (.int .i64 t) := by rw [cell_of_row w9 _ 3 _ _ (0, 0) hTw9]; rfl
  go_wp2_with (rw [← hXw9.out])
  clear z3 u3 hXw9
  have hG : taskG tx2 100 1000 100 (l, false) = ((((k : Int), n, (r : Int), (t : Int)) : Tk), r4, e4) := by
    simp only [taskG, rdI, tx2, hxw2, hxw4, hxw6, hxw8]
  have hF : rtaskF l = (if TaskP ((k : Int), n, (r : Int), (t : Int)) ∧ endF r4 e4 = true ∧ encT ((k : Int), n, (r : Int), (t : Int)) = l then some ((k : Int), n, (r : Int), (t : Int)) else none) := by
    unfold rtaskF
    rw [hG]
  have hnm : n.length ≤ maxLen := by unfold maxLen; omega
  clear hG hxw2 hxw4 hxw6 hxw8 hlw2 hlw4 hlw6 hlw8 hfw4
  refine (rtask_any (k : Int) n (r : Int) (t : Int) hnm w9).mono ?_
  rintro _ w10 ⟨rfl, b10⟩
  have hrw10 := hrw9.keep b10
  have hQw10 := (b10.block _ (Array.getElem?_eq_some_iff.1 hQw9).1).trans hQw9
  have hTw10 := (b10.block _ (Array.getElem?_eq_some_iff.1 hTw9).1).trans hTw9
  have hbw10 := bnext hbw9 b10
  clear x0 x1 x2 x3
  have x0 : w10.cell? ⟨gt, 0, none⟩ = some (.int .i64 k) := by rw [cell_of_row w10 _ 0 _ _ (0, 0) hTw10]; rfl
  have x1 : w10.cell? ⟨gt, 1, none⟩ = some (.string ⟨n.toArray⟩) := by rw [cell_of_row w10 _ 1 _ _ (0, 0) hTw10]; rfl
  have x2 : w10.cell? ⟨gt, 2, none⟩ = some (.int .i64 r) := by rw [cell_of_row w10 _ 2 _ _ (0, 0) hTw10]; rfl
  have x3 : w10.cell? ⟨gt, 3, none⟩ = some (.int .i64 t) := by rw [cell_of_row w10 _ 3 _ _ (0, 0) hTw10]; rfl
  have q0 : w10.cell? ⟨gr, 0, none⟩ = some (.int .i64 0) := by rw [cell_of_row w10 _ 0 _ _ (0, 0) hQw10]; rfl
  have f0 : w10.frozen? ⟨gr, 0, none⟩ = false := frozen_of_row w10 _ 0 _ _ hQw10
  have q1 : w10.cell? ⟨gr, 1, none⟩ = some (.string ⟨#[]⟩) := by rw [cell_of_row w10 _ 1 _ _ (0, 0) hQw10]; rfl
  have f1 : w10.frozen? ⟨gr, 1, none⟩ = false := frozen_of_row w10 _ 1 _ _ hQw10
  have q2 : w10.cell? ⟨gr, 2, none⟩ = some (.int .i64 0) := by rw [cell_of_row w10 _ 2 _ _ (0, 0) hQw10]; rfl
  have f2 : w10.frozen? ⟨gr, 2, none⟩ = false := frozen_of_row w10 _ 2 _ _ hQw10
  have q3 : w10.cell? ⟨gr, 3, none⟩ = some (.int .i64 0) := by rw [cell_of_row w10 _ 3 _ _ (0, 0) hQw10]; rfl
  have f3 : w10.frozen? ⟨gr, 3, none⟩ = false := frozen_of_row w10 _ 3 _ _ hQw10
  clear hrw9 hQw9 hTw9 hbw9 b10
  by_cases hp : TaskP ((k : Int), n, (r : Int), (t : Int))
  · rw [show tkV ((k : Int), n, (r : Int), (t : Int)) = 0 by unfold tkV; rw [if_pos hp], show encTV ((k : Int), n, (r : Int), (t : Int)) = encT ((k : Int), n, (r : Int), (t : Int)) by unfold encTV; rw [if_pos hp]]
    by_cases he : endF r4 e4 = true
    · by_cases hs : encT ((k : Int), n, (r : Int), (t : Int)) = l
      · have HR := hid (show rtaskF l = some ((k : Int), n, (r : Int), (t : Int)) by rw [hF, if_pos ⟨hp, he, hs⟩])
        have HE := he
        rw [hs]
        clear hp he hF hs
        go_wp2_with fail
        refine (rend_any g r4 e4 w10 hrw10).mono ?_
        rintro _ w11 ⟨rfl, hw11⟩
        rw [hw11, HE]
        clear hw11 w11
        go_wp2_with fail
        refine bodyPost_ret (v := .tuple #[.agg #[.int .i64 k, .string ⟨n.toArray⟩, .int .i64 r, .int .i64 t], .int .i64 0]) ?_ rfl ⟨((k : Int), n, (r : Int), (t : Int)), 0, rfl, At.below hbw10 (((((At.refl gr w10).set 0 _).set 1 _).set 2 _).set 3 _ : At gr w10 ((((w10.setCell ⟨gr, 0, none⟩ (.int .i64 k)).setCell ⟨gr, 1, none⟩ (.string ⟨n.toArray⟩)).setCell ⟨gr, 2, none⟩ (.int .i64 r)).setCell ⟨gr, 3, none⟩ (.int .i64 t))) n2.2.1, .inl ⟨HR.out, rfl⟩⟩
        rw [results_cell_tmp rfl]
        go_simp
      · have HR := hid (show rtaskF l = none by rw [hF, if_neg (fun q => hs q.2.2)])
        have HE := he
        have hs' : (encT ((k : Int), n, (r : Int), (t : Int)) == l) = false := by simpa using hs
        generalize encT ((k : Int), n, (r : Int), (t : Int)) = E at *
        clear hp he hF hs
        go_wp2_with fail
        refine (rend_any g r4 e4 w10 hrw10).mono ?_
        rintro _ w11 ⟨rfl, hw11⟩
        rw [hw11, HE]
        clear hw11 w11
        go_wp2_with fail
        refine bodyPost_ret (v := .tuple #[.agg #[.int .i64 0, .string ⟨#[]⟩, .int .i64 0, .int .i64 0], .int .i64 60]) ?_ rfl ⟨(0, [], 0, 0), 60, rfl, At.below hbw10 (((((At.refl gr w10).set 0 _).set 1 _).set 2 _).set 3 _ : At gr w10 ((((w10.setCell ⟨gr, 0, none⟩ (.int .i64 0)).setCell ⟨gr, 1, none⟩ (.string ⟨#[]⟩)).setCell ⟨gr, 2, none⟩ (.int .i64 0)).setCell ⟨gr, 3, none⟩ (.int .i64 0))) n2.2.1, .inr ⟨HR.out, rfl, rfl⟩⟩
        rw [results_cell_tmp rfl]
        go_simp
    · have HR := hid (show rtaskF l = none by rw [hF, if_neg (fun q => he q.2.1)])
      have HE : endF r4 e4 = false := by simpa using he
      clear hp he hF
      go_wp2_with fail
      refine (rend_any g r4 e4 w10 hrw10).mono ?_
      rintro _ w11 ⟨rfl, hw11⟩
      rw [hw11, HE]
      clear hw11 w11
      go_wp2_with fail
      refine bodyPost_ret (v := .tuple #[.agg #[.int .i64 0, .string ⟨#[]⟩, .int .i64 0, .int .i64 0], .int .i64 60]) ?_ rfl ⟨(0, [], 0, 0), 60, rfl, At.below hbw10 (((((At.refl gr w10).set 0 _).set 1 _).set 2 _).set 3 _ : At gr w10 ((((w10.setCell ⟨gr, 0, none⟩ (.int .i64 0)).setCell ⟨gr, 1, none⟩ (.string ⟨#[]⟩)).setCell ⟨gr, 2, none⟩ (.int .i64 0)).setCell ⟨gr, 3, none⟩ (.int .i64 0))) n2.2.1, .inr ⟨HR.out, rfl, rfl⟩⟩
      rw [results_cell_tmp rfl]
      go_simp
  · rw [show tkV ((k : Int), n, (r : Int), (t : Int)) = 1 by unfold tkV; rw [if_neg hp]]
    have HR := hid (show rtaskF l = none by rw [hF, if_neg (fun q => hp q.1)])
    clear hp hF
    go_wp2_with fail
    refine bodyPost_ret (v := .tuple #[.agg #[.int .i64 0, .string ⟨#[]⟩, .int .i64 0, .int .i64 0], .int .i64 60]) ?_ rfl ⟨(0, [], 0, 0), 60, rfl, At.below hbw10 (((((At.refl gr w10).set 0 _).set 1 _).set 2 _).set 3 _ : At gr w10 ((((w10.setCell ⟨gr, 0, none⟩ (.int .i64 0)).setCell ⟨gr, 1, none⟩ (.string ⟨#[]⟩)).setCell ⟨gr, 2, none⟩ (.int .i64 0)).setCell ⟨gr, 3, none⟩ (.int .i64 0))) n2.2.1, .inr ⟨HR.out, rfl, rfl⟩⟩
    rw [results_cell_tmp rfl]
    go_simp
end Go.Proofs.Ytelacmchofehcaa
namespace Go.Proofs.Ytelacmchofehcaa
open Go.RowKit
set_option linter.unusedVariables false
set_option linter.unusedSimpArgs false

/-- what the reference's Replied knows of the task -/
def RTk (t : List UInt8) (tk : Tk) (f : Int) : Prop := (t = [] ∧ tk = tk0 ∧ f = 0) ∨ (t ≠ [] ∧ ((rtaskF t = some tk ∧ f = 0) ∨ (rtaskF t = none ∧ f = 60 ∧ tk = (0, [], 0, 0))))
theorem rtk_len {t : List UInt8} {a c d : Int} {b : List UInt8} {f : Int} (h : RTk t (a, b, c, d) f) : b.length ≤ 140737488355328 := by
  rcases h with ⟨-, h, -⟩ | ⟨-, ⟨h, -⟩ | ⟨-, -, h⟩⟩
  · rw [tk0, Prod.mk.injEq, Prod.mk.injEq] at h
    rw [h.2.1]; decide
  · rw [← task_same] at h
    have := (taskF_iff.1 h).1.2.1.2
    simp only at this
    omega
  · rw [Prod.mk.injEq, Prod.mk.injEq] at h
    rw [h.2.1]; decide
def RpOK (rest : List UInt8) (n0 : Nat) (F : Int) (en : Bool) (E : Int) (V l : List UInt8) : Prop := rest = [] ∧ n0 = 1 ∧ F = 0 ∧ en = true ∧ E = 0 ∧ V = l
theorem rrp_all {l body rest : List UInt8} {n0 n1 n2 n3 n4 : Nat} {t5 t6 t7 r0 r1 r2 r3 r4 r5 r6 r7 : List UInt8} {b0 b1 b2 b3 b4 b5 b6 b7 : Bool} {ev : List Ev} {tk : Tk} {f1 f2 F : Int}
    (hn : nextF l = (body, rest, 0)) (h0 : intF body false 9 = (n0, r0, b0)) (h1 : intF r0 b0 1099511627776 = (n1, r1, b1)) (h2 : intF r1 b1 9999 = (n2, r2, b2)) (h3 : intF r2 b2 99 = (n3, r3, b3)) (h4 : intF r3 b3 9999 = (n4, r4, b4)) (h5 : rtextF r4 b4 = (t5, r5, b5)) (h6 : rtextF r5 b5 = (t6, r6, b6)) (h7 : rtextF r6 b6 = (t7, r7, b7))
    (hu : (unF t7 = some ev ∧ f1 = 0) ∨ (unF t7 = none ∧ f1 = 60 ∧ ev = [])) (ht : RTk t5 tk f2) (hF : F = f1 + f2) : ∀ i y, RpP i y → l = wrapL (encRp i y) → RpOK rest n0 F (endF r7 b7) (rpE n1 ⟨n2, n3, n4, tk, t6, ev⟩) (rpV n1 ⟨n2, n3, n4, tk, t6, ev⟩) l := by
  intro i y hP e
  have hw := next_wrap (encRp i y) [] (by have := encRp_len hP; omega)
  rw [List.append_nil, ← e, hn] at hw
  simp only [Prod.mk.injEq, and_true] at hw
  obtain ⟨rfl, rfl⟩ := hw
  obtain ⟨q0, q1, q2, q3, q4, q5, q6, q7, q8, q9⟩ := rp_put (tx := tx2) tx2_long (by decide) (by decide) (by decide) (by decide) (by decide) hP h0 h1 h2 h3 h4 h5 h6 h7
  have hue := unF_iff.2 ⟨hP.2.2, q7⟩
  have g1 : ev = y.ev ∧ f1 = 0 := by
    rcases hu with ⟨h, h'⟩ | ⟨h, -⟩
    · rw [hue] at h; injection h with h; exact ⟨h.symm, h'⟩
    · rw [hue] at h; cases h
  have g2 : tk = y.tk ∧ f2 = 0 := by
    rcases hP.2.1 with hz | hz
    · have : t5 = [] := by rw [q5]; unfold taskB; rw [if_pos hz]
      rcases ht with ⟨-, h, h'⟩ | ⟨h, -⟩
      · exact ⟨h.trans hz.symm, h'⟩
      · exact absurd this h
    · have hnz : y.tk ≠ tk0 := fun q => tk0_no (by rw [← q]; exact hz)
      have h9 : taskF t5 = some y.tk := taskF_iff.2 ⟨hz, by rw [q5]; unfold taskB; rw [if_neg hnz]⟩
      have hne : t5 ≠ [] := by
        intro q
        rw [q] at q5
        unfold taskB at q5
        rw [if_neg hnz] at q5
        have h1 := putL_pos y.tk.1.toNat
        have := congrArg List.length q5
        unfold encT at this
        rw [List.length_append, List.length_nil] at this
        omega
      rcases ht with ⟨h, -⟩ | ⟨-, ⟨h, h'⟩ | ⟨h, -⟩⟩
      · exact absurd h hne
      · rw [← task_same, h9] at h; injection h with h; exact ⟨h.symm, h'⟩
      · rw [← task_same, h9] at h; cases h
  obtain ⟨rfl, rfl⟩ := g1
  obtain ⟨rfl, rfl⟩ := g2
  have hy : (⟨(n2 : Int), n3, n4, y.tk, t6, y.ev⟩ : Rp) = y := by
    obtain ⟨⟨-, k1, k2, k3, -⟩, -, -⟩ := hP
    obtain ⟨er, st, nx, tk, nm, ev⟩ := y
    simp only at *
    rw [Rp.mk.injEq]
    exact ⟨by omega, by omega, by omega, rfl, q6, rfl⟩
  have hi : (n1 : Int) = i := by have := hP.1.1; omega
  rw [hy, hi]
  refine ⟨rfl, q0, hF, endF_iff.2 ⟨q8, q9⟩, by unfold rpE; rw [if_pos hP], by unfold rpV; rw [if_pos hP]; exact e.symm⟩
theorem rrp_rej {α β : Type} {P : α → β → Prop} {f : α → β → List UInt8} {l rest : List UInt8} {n0 : Nat} {F : Int} {en : Bool} {E : Int} {V : List UInt8} (h : ∀ i y, P i y → l = f i y → RpOK rest n0 F en E V l) (hn : ¬ RpOK rest n0 F en E V l) : ∀ i y, P i y → l ≠ f i y := fun i y hP e => hn (h i y hP e)
theorem rrp_acc {id : Int} {x : Rp} {l : List UInt8} (he : rpE id x = 0) (hv : rpV id x = l) : RpP id x ∧ l = wrapL (encRp id x) := by
  by_cases h : RpP id x
  · refine ⟨h, ?_⟩
    rw [← hv]; unfold rpV; rw [if_pos h]
  · exact absurd he (rpE_no h)

set_option maxHeartbeats 3200000 in
set_option maxRecDepth 100000 in
theorem rreplied_any (l : List UInt8) (hl : l.length ≤ 140737488355328) (w : World) :
    Calls Try.prog 18 #[.string ⟨l.toArray⟩] w fun e w' => ∃ (id : Int) (x : Rp) (v : Value) (er : Int), e = .returned (.tuple #[.int .i64 id, rpVal x v, .int .i64 er]) ∧ Sl w' v 8 x.ev.length (x.ev.flatMap evc) ∧ FitE x.ev ∧ Below w.heap.size w w' ∧
      ((er = 0 ∧ RpP id x ∧ l = wrapL (encRp id x)) ∨ (er = erF l ∧ id = 0 ∧ x = rp0 ∧ v = .slice none 0 0 ∧ ∀ i y, RpP i y → l ≠ wrapL (encRp i y))) := by
  go_enter Try.func18, Try.ntmps18
  go_wp2_with fail
  obtain ⟨w0, hw0⟩ : ∃ w0, w0 = w.alloc (.cells #[.int .i64 0, .int .i64 0, .int .i64 0, .int .i64 0, .string ⟨#[]⟩, .int .i64 0, .int .i64 0, .string ⟨#[]⟩, .slice none 0 0] 33) := ⟨_, rfl⟩
  rw [← hw0]
  have hQ0 : w0.heap[w.heap.size]? = some (.cells #[.int .i64 0, .int .i64 0, .int .i64 0, .int .i64 0, .string ⟨#[]⟩, .int .i64 0, .int .i64 0, .string ⟨#[]⟩, .slice none 0 0] 33 (0, 0)) := by rw [hw0]; exact heap_alloc_new w _
  have b0 : Below w.heap.size w w0 := by rw [hw0]; exact (Below.refl _ _).alloc (Nat.le_refl _) _
  have l0 : w.heap.size < w0.heap.size := (Array.getElem?_eq_some_iff.1 hQ0).1
  clear hw0
  have hnl := next_len l
  refine (rnext_any l (by unfold maxLen; omega) w0).mono ?_
  rintro _ w1 ⟨rfl, b1⟩
  have hQ1 := (b1.block _ l0).trans hQ0
  have hb1 := bnext b0 b1
  obtain ⟨gr, hgr⟩ : ∃ gr, gr = w.heap.size := ⟨_, rfl⟩
  have n2 : w.heap.size ≤ gr := by omega
  rw [← hgr] at hQ1 l0 ⊢
  clear hQ0 b0 b1
  have herF : Hid (erF l = if (nextF l).2.2 = 0 then 60 else (nextF l).2.2) := hid rfl
  have hNo : Hid (NoMsg l ↔ ((nextF l).2.2 ≠ 0 ∨ (nextF l).2.1 ≠ [] ∨ (intF (nextF l).1 false 1).1 ≠ 1)) := hid Iff.rfl
  obtain ⟨⟨body, rest, er⟩, hx⟩ : ∃ x, nextF l = x := ⟨_, rfl⟩
  rw [hx] at hnl herF hNo ⊢
  simp only at hnl herF hNo ⊢
  have HNX := hid hx
  clear hx
  have hlb : body.length ≤ 140737488355328 := by omega
  by_cases he : er = 0
  case neg =>
    have HE := hid (show er = erF l by rw [herF.out, if_neg he])
    have hnm := hNo.out.2 (.inl he)
    have HNO := hid (show ∀ i y, RpP i y → l ≠ wrapL (encRp i y) from fun i y hP => noMsg hnm _ (by have := encRp_len hP; unfold encRp at this; omega))
    clear herF hNo hnm hgr l0
    have q0 : w1.cell? ⟨gr, 0, none⟩ = some (.int .i64 0) := by rw [cell_of_row w1 _ 0 _ _ (0, 0) hQ1]; rfl
    have qz0 : w1.frozen? ⟨gr, 0, none⟩ = false := frozen_of_row w1 _ 0 _ _ hQ1
    have q1 : w1.cell? ⟨gr, 1, none⟩ = some (.int .i64 0) := by rw [cell_of_row w1 _ 1 _ _ (0, 0) hQ1]; rfl
    have qz1 : w1.frozen? ⟨gr, 1, none⟩ = false := frozen_of_row w1 _ 1 _ _ hQ1
    have q2 : w1.cell? ⟨gr, 2, none⟩ = some (.int .i64 0) := by rw [cell_of_row w1 _ 2 _ _ (0, 0) hQ1]; rfl
    have qz2 : w1.frozen? ⟨gr, 2, none⟩ = false := frozen_of_row w1 _ 2 _ _ hQ1
    have q3 : w1.cell? ⟨gr, 3, none⟩ = some (.int .i64 0) := by rw [cell_of_row w1 _ 3 _ _ (0, 0) hQ1]; rfl
    have qz3 : w1.frozen? ⟨gr, 3, none⟩ = false := frozen_of_row w1 _ 3 _ _ hQ1
    have q4 : w1.cell? ⟨gr, 4, none⟩ = some (.string ⟨#[]⟩) := by rw [cell_of_row w1 _ 4 _ _ (0, 0) hQ1]; rfl
    have qz4 : w1.frozen? ⟨gr, 4, none⟩ = false := frozen_of_row w1 _ 4 _ _ hQ1
    have q5 : w1.cell? ⟨gr, 5, none⟩ = some (.int .i64 0) := by rw [cell_of_row w1 _ 5 _ _ (0, 0) hQ1]; rfl
    have qz5 : w1.frozen? ⟨gr, 5, none⟩ = false := frozen_of_row w1 _ 5 _ _ hQ1
    have q6 : w1.cell? ⟨gr, 6, none⟩ = some (.int .i64 0) := by rw [cell_of_row w1 _ 6 _ _ (0, 0) hQ1]; rfl
    have qz6 : w1.frozen? ⟨gr, 6, none⟩ = false := frozen_of_row w1 _ 6 _ _ hQ1
    have q7 : w1.cell? ⟨gr, 7, none⟩ = some (.string ⟨#[]⟩) := by rw [cell_of_row w1 _ 7 _ _ (0, 0) hQ1]; rfl
    have qz7 : w1.frozen? ⟨gr, 7, none⟩ = false := frozen_of_row w1 _ 7 _ _ hQ1
    have q8 : w1.cell? ⟨gr, 8, none⟩ = some (.slice none 0 0) := by rw [cell_of_row w1 _ 8 _ _ (0, 0) hQ1]; rfl
    have qz8 : w1.frozen? ⟨gr, 8, none⟩ = false := frozen_of_row w1 _ 8 _ _ hQ1
    go_wp2_with fail
    refine bodyPost_ret (v := .tuple #[.int .i64 0, .agg #[.int .i64 0, .int .i64 0, .int .i64 0, .int .i64 0, .string ⟨#[]⟩, .int .i64 0, .int .i64 0, .string ⟨#[]⟩, .slice none 0 0], .int .i64 er]) ?_ rfl ⟨0, rp0, .slice none 0 0, er, rfl, Sl.none _ _, (by intro x hx; cases hx), At.below hb1 (((((((((((At.refl gr w1).set 0 _).set 1 _).set 2 _).set 3 _).set 4 _).set 5 _).set 6 _).set 7 _).set 8 _) : At gr w1 (((((((((w1.setCell ⟨gr, 0, none⟩ (.int .i64 0)).setCell ⟨gr, 1, none⟩ (.int .i64 0)).setCell ⟨gr, 2, none⟩ (.int .i64 0)).setCell ⟨gr, 3, none⟩ (.int .i64 0)).setCell ⟨gr, 4, none⟩ (.string ⟨#[]⟩)).setCell ⟨gr, 5, none⟩ (.int .i64 0)).setCell ⟨gr, 6, none⟩ (.int .i64 0)).setCell ⟨gr, 7, none⟩ (.string ⟨#[]⟩)).setCell ⟨gr, 8, none⟩ (.slice none 0 0))) n2, .inr ⟨HE.out, rfl, rfl, rfl, HNO.out⟩⟩
    rw [results_tct rfl]
    go_simp
  subst he
  have HERF := hid (show erF l = 60 by rw [herF.out, if_pos rfl])
  have bR : Below w1.heap.size w1 (w1.alloc (.cells #[.string ⟨body.toArray⟩, .bool false] 94)) := (Below.refl _ _).alloc (Nat.le_refl _) _
  obtain ⟨w2, hw2⟩ : ∃ x, x = w1.alloc (.cells #[.string ⟨body.toArray⟩, .bool false] 94) := ⟨_, rfl⟩
  have hr2 : RRdr w2 w1.heap.size body false := by rw [hw2]; exact Obj2.new _ _ _ _
  rw [← hw2] at bR
  have HW2 := hid hw2
  have sn2 : Sane body false := fun h => by cases h
  have hQ2 := (bR.block _ (Array.getElem?_eq_some_iff.1 hQ1).1).trans hQ1
  have hb2 := bnext hb1 bR
  obtain ⟨g, hg⟩ : ∃ g, g = w1.heap.size := ⟨_, rfl⟩
  have n1 : gr ≠ g := by have := (Array.getElem?_eq_some_iff.1 hQ1).1; omega
  have n3 : w.heap.size ≤ g := by have := hb1.size; omega
  clear hw2 bR hQ1 hb1 herF hNo
  go_wp2_with fail
  rw [← HW2.out]
  rw [← hg] at hr2 ⊢
  clear hg l0 hgr HW2
  refine (rint_any_r g body false 9 w2 hr2 sn2 (by unfold maxLen; omega) (by omega) (by omega)).mono ?_
  rintro _ w3 ⟨rfl, hr3, aw⟩
  have hQ3 := (aw.block gr (Array.getElem?_eq_some_iff.1 hQ2).1 (by simpa using n1)).trans hQ2
  have sn3 : Sane (intF body false 9).2.1 (intF body false 9).2.2 := sane_intF (9) sn2
  have hb3 := At.below hb2 aw n3
  have hl3 := intF_len body false 9
  obtain ⟨⟨n0', r0, e0⟩, hxn0'⟩ : ∃ x, intF body false 9 = x := ⟨_, rfl⟩
  rw [hxn0'] at hr3 hl3 sn3 ⊢
  simp only at hr3 hl3 sn3 ⊢
  have HXn0' := hid hxn0'
  clear hxn0' hr2 hQ2 hb2 sn2 aw
  go_wp2_with fail
  refine (rint_any_r g r0 e0 1099511627776 w3 hr3 sn3 (by unfold maxLen; omega) (by omega) (by omega)).mono ?_
  rintro _ w4 ⟨rfl, hr4, aw⟩
  have hQ4 := (aw.block gr (Array.getElem?_eq_some_iff.1 hQ3).1 (by simpa using n1)).trans hQ3
  have sn4 : Sane (intF r0 e0 1099511627776).2.1 (intF r0 e0 1099511627776).2.2 := sane_intF (1099511627776) sn3
  have hb4 := At.below hb3 aw n3
  have hl4 := intF_len r0 e0 1099511627776
  obtain ⟨⟨n1', r1, e1⟩, hxn1'⟩ : ∃ x, intF r0 e0 1099511627776 = x := ⟨_, rfl⟩
  rw [hxn1'] at hr4 hl4 sn4 ⊢
  simp only at hr4 hl4 sn4 ⊢
  have HXn1' := hid hxn1'
  clear hxn1' hr3 hQ3 hb3 sn3 aw
  go_wp2_with fail
  obtain ⟨w5, hw5⟩ : ∃ x, x = w4.alloc (.cells #[.int .i64 0, .int .i64 0, .int .i64 0, .int .i64 0, .string ⟨#[]⟩, .int .i64 0, .int .i64 0, .string ⟨#[]⟩, .slice none 0 0] 33) := ⟨_, rfl⟩
  have hX5 : w5.heap[w4.heap.size]? = some (.cells #[.int .i64 0, .int .i64 0, .int .i64 0, .int .i64 0, .string ⟨#[]⟩, .int .i64 0, .int .i64 0, .string ⟨#[]⟩, .slice none 0 0] 33 (0, 0)) := by rw [hw5]; exact heap_alloc_new w4 _
  have bx : Below w4.heap.size w4 w5 := by rw [hw5]; exact (Below.refl _ _).alloc (Nat.le_refl _) _
  rw [← hw5]
  obtain ⟨gx, hgx⟩ : ∃ gx, gx = w4.heap.size := ⟨_, rfl⟩
  have nx : gx ≠ g := by have := hr4.lt; omega
  have nq : gr ≠ gx := by have := (Array.getElem?_eq_some_iff.1 hQ4).1; omega
  have n4 : w.heap.size ≤ gx := by have := hb4.size; omega
  rw [← hgx] at hX5 ⊢
  clear hw5 hgx
  have hr5 := hr4.keep bx
  have hQ5 := (bx.block _ (Array.getElem?_eq_some_iff.1 hQ4).1).trans hQ4
  have hb5 := bnext hb4 bx
  clear hr4 hQ4 hb4
  have sn5 := sn4
  clear sn4
  refine (rint_any_r g r1 e1 9999 w5 hr5 sn5 (by unfold maxLen; omega) (by omega) (by omega)).mono ?_
  rintro _ w6 ⟨rfl, hr6, aw⟩
  have hQ6 := (aw.block gr (Array.getElem?_eq_some_iff.1 hQ5).1 (by simpa using n1)).trans hQ5
  have sn6 : Sane (intF r1 e1 9999).2.1 (intF r1 e1 9999).2.2 := sane_intF (9999) sn5
  have hX6 := (aw.block gx (Array.getElem?_eq_some_iff.1 hX5).1 (by simpa using nx)).trans hX5
  have hb6 := At.below hb5 aw n3
  have hl6 := intF_len r1 e1 9999
  obtain ⟨⟨n2', r2, e2⟩, hxn2'⟩ : ∃ x, intF r1 e1 9999 = x := ⟨_, rfl⟩
  rw [hxn2'] at hr6 hl6 sn6 ⊢
  simp only at hr6 hl6 sn6 ⊢
  have HXn2' := hid hxn2'
  clear hxn2' hr5 hQ5 hb5 sn5 aw hX5
  have x0 : w6.cell? ⟨gx, 0, none⟩ = some (.int .i64 0) := by rw [cell_of_row w6 _ 0 _ _ (0, 0) hX6]; rfl
  have xz0 : w6.frozen? ⟨gx, 0, none⟩ = false := frozen_of_row w6 _ 0 _ _ hX6
  go_wp2_with fail
  clear x0 xz0
  obtain ⟨w7, hw7⟩ : ∃ x, x = (w6.setCell ⟨gx, 0, none⟩ (.int .i64 (n2' : Int))) := ⟨_, rfl⟩
  have aw : At gx w6 w7 := by rw [hw7]; exact ((At.refl gx w6).set 0 _)
  have hy0 := heap_setCell_same w6 gx 0 _ _ (.int .i64 (n2' : Int)) hX6
  have hX7 : w7.heap[gx]? = some (.cells #[.int .i64 (n2' : Int), .int .i64 0, .int .i64 0, .int .i64 0, .string ⟨#[]⟩, .int .i64 0, .int .i64 0, .string ⟨#[]⟩, .slice none 0 0] 33 (0, 0)) := by rw [hw7]; exact hy0
  rw [← hw7]
  have hr7 := hr6.grown aw (Ne.symm nx)
  have hQ7 := (aw.block gr (Array.getElem?_eq_some_iff.1 hQ6).1 (by simpa using nq)).trans hQ6
  have hb7 := At.below hb6 aw n4
  clear hw7 aw hr6 hQ6 hb6 hX6 hy0
  have sn7 := sn6
  clear sn6
  refine (rint_any_r g r2 e2 99 w7 hr7 sn7 (by unfold maxLen; omega) (by omega) (by omega)).mono ?_
  rintro _ w8 ⟨rfl, hr8, aw⟩
  have hQ8 := (aw.block gr (Array.getElem?_eq_some_iff.1 hQ7).1 (by simpa using n1)).trans hQ7
  have sn8 : Sane (intF r2 e2 99).2.1 (intF r2 e2 99).2.2 := sane_intF (99) sn7
  have hX8 := (aw.block gx (Array.getElem?_eq_some_iff.1 hX7).1 (by simpa using nx)).trans hX7
  have hb8 := At.below hb7 aw n3
  have hl8 := intF_len r2 e2 99
  obtain ⟨⟨n3', r3, e3⟩, hxn3'⟩ : ∃ x, intF r2 e2 99 = x := ⟨_, rfl⟩
  rw [hxn3'] at hr8 hl8 sn8 ⊢
  simp only at hr8 hl8 sn8 ⊢
  have HXn3' := hid hxn3'
  clear hxn3' hr7 hQ7 hb7 sn7 aw hX7
  have x1 : w8.cell? ⟨gx, 1, none⟩ = some (.int .i64 0) := by rw [cell_of_row w8 _ 1 _ _ (0, 0) hX8]; rfl
  have xz1 : w8.frozen? ⟨gx, 1, none⟩ = false := frozen_of_row w8 _ 1 _ _ hX8
  go_wp2_with fail
  clear x1 xz1
  obtain ⟨w9, hw9⟩ : ∃ x, x = (w8.setCell ⟨gx, 1, none⟩ (.int .i64 (n3' : Int))) := ⟨_, rfl⟩
  have aw : At gx w8 w9 := by rw [hw9]; exact ((At.refl gx w8).set 1 _)
  have hy0 := heap_setCell_same w8 gx 1 _ _ (.int .i64 (n3' : Int)) hX8
  have hX9 : w9.heap[gx]? = some (.cells #[.int .i64 (n2' : Int), .int .i64 (n3' : Int), .int .i64 0, .int .i64 0, .string ⟨#[]⟩, .int .i64 0, .int .i64 0, .string ⟨#[]⟩, .slice none 0 0] 33 (0, 0)) := by rw [hw9]; exact hy0
  rw [← hw9]
  have hr9 := hr8.grown aw (Ne.symm nx)
  have hQ9 := (aw.block gr (Array.getElem?_eq_some_iff.1 hQ8).1 (by simpa using nq)).trans hQ8
  have hb9 := At.below hb8 aw n4
  clear hw9 aw hr8 hQ8 hb8 hX8 hy0
  have sn9 := sn8
  clear sn8
  refine (rint_any_r g r3 e3 9999 w9 hr9 sn9 (by unfold maxLen; omega) (by omega) (by omega)).mono ?_
  rintro _ w10 ⟨rfl, hr10, aw⟩
  have hQ10 := (aw.block gr (Array.getElem?_eq_some_iff.1 hQ9).1 (by simpa using n1)).trans hQ9
  have sn10 : Sane (intF r3 e3 9999).2.1 (intF r3 e3 9999).2.2 := sane_intF (9999) sn9
  have hX10 := (aw.block gx (Array.getElem?_eq_some_iff.1 hX9).1 (by simpa using nx)).trans hX9
  have hb10 := At.below hb9 aw n3
  have hl10 := intF_len r3 e3 9999
  obtain ⟨⟨n4', r4, e4⟩, hxn4'⟩ : ∃ x, intF r3 e3 9999 = x := ⟨_, rfl⟩
  rw [hxn4'] at hr10 hl10 sn10 ⊢
  simp only at hr10 hl10 sn10 ⊢
  have HXn4' := hid hxn4'
  clear hxn4' hr9 hQ9 hb9 sn9 aw hX9
  have x2 : w10.cell? ⟨gx, 2, none⟩ = some (.int .i64 0) := by rw [cell_of_row w10 _ 2 _ _ (0, 0) hX10]; rfl
  have xz2 : w10.frozen? ⟨gx, 2, none⟩ = false := frozen_of_row w10 _ 2 _ _ hX10
  go_wp2_with fail
  clear x2 xz2
  obtain ⟨w11, hw11⟩ : ∃ x, x = (w10.setCell ⟨gx, 2, none⟩ (.int .i64 (n4' : Int))) := ⟨_, rfl⟩
  have aw : At gx w10 w11 := by rw [hw11]; exact ((At.refl gx w10).set 2 _)
  have hy0 := heap_setCell_same w10 gx 2 _ _ (.int .i64 (n4' : Int)) hX10
  have hX11 : w11.heap[gx]? = some (.cells #[.int .i64 (n2' : Int), .int .i64 (n3' : Int), .int .i64 (n4' : Int), .int .i64 0, .string ⟨#[]⟩, .int .i64 0, .int .i64 0, .string ⟨#[]⟩, .slice none 0 0] 33 (0, 0)) := by rw [hw11]; exact hy0
  rw [← hw11]
  have hr11 := hr10.grown aw (Ne.symm nx)
  have hQ11 := (aw.block gr (Array.getElem?_eq_some_iff.1 hQ10).1 (by simpa using nq)).trans hQ10
  have hb11 := At.below hb10 aw n4
  clear hw11 aw hr10 hQ10 hb10 hX10 hy0
  have sn11 := sn10
  clear sn10
  refine (rtext_full g r4 e4 w11 hr11 sn11 (by omega)).mono ?_
  rintro _ w12 ⟨rfl, hr12, aw⟩
  have hQ12 := (aw.block gr (Array.getElem?_eq_some_iff.1 hQ11).1 (by simpa using n1)).trans hQ11
  have sn12 : Sane (rtextF r4 e4).2.1 (rtextF r4 e4).2.2 := sane_rtextF sn11
  have hX12 := (aw.block gx (Array.getElem?_eq_some_iff.1 hX11).1 (by simpa using nx)).trans hX11
  have hb12 := At.below hb11 aw n3
  have hl12 := rtextF_len r4 e4
  have hf12 := rtextF_fst r4 e4
  obtain ⟨⟨t5, r5, e5⟩, hxt5⟩ : ∃ x, rtextF r4 e4 = x := ⟨_, rfl⟩
  rw [hxt5] at hr12 hl12 sn12 hf12 ⊢
  simp only at hr12 hl12 sn12 hf12 ⊢
  have HXt5 := hid hxt5
  clear hxt5 hr11 hQ11 hb11 sn11 aw hX11
  go_wp2_with fail
  refine (rtext_full g r5 e5 w12 hr12 sn12 (by omega)).mono ?_
  rintro _ w13 ⟨rfl, hr13, aw⟩
  have hQ13 := (aw.block gr (Array.getElem?_eq_some_iff.1 hQ12).1 (by simpa using n1)).trans hQ12
  have sn13 : Sane (rtextF r5 e5).2.1 (rtextF r5 e5).2.2 := sane_rtextF sn12
  have hX13 := (aw.block gx (Array.getElem?_eq_some_iff.1 hX12).1 (by simpa using nx)).trans hX12
  have hb13 := At.below hb12 aw n3
  have hl13 := rtextF_len r5 e5
  have hf13 := rtextF_fst r5 e5
  obtain ⟨⟨t6, r6, e6⟩, hxt6⟩ : ∃ x, rtextF r5 e5 = x := ⟨_, rfl⟩
  rw [hxt6] at hr13 hl13 sn13 hf13 ⊢
  simp only at hr13 hl13 sn13 hf13 ⊢
  have HXt6 := hid hxt6
  clear hxt6 hr12 hQ12 hb12 sn12 aw hX12
  have x7 : w13.cell? ⟨gx, 7, none⟩ = some (.string ⟨#[]⟩) := by rw [cell_of_row w13 _ 7 _ _ (0, 0) hX13]; rfl
  have xz7 : w13.frozen? ⟨gx, 7, none⟩ = false := frozen_of_row w13 _ 7 _ _ hX13
  go_wp2_with fail
  clear x7 xz7
  obtain ⟨w14, hw14⟩ : ∃ x, x = (w13.setCell ⟨gx, 7, none⟩ (.string ⟨t6.toArray⟩)) := ⟨_, rfl⟩
  have aw : At gx w13 w14 := by rw [hw14]; exact ((At.refl gx w13).set 7 _)
  have hy0 := heap_setCell_same w13 gx 7 _ _ (.string ⟨t6.toArray⟩) hX13
  have hX14 : w14.heap[gx]? = some (.cells #[.int .i64 (n2' : Int), .int .i64 (n3' : Int), .int .i64 (n4' : Int), .int .i64 0, .string ⟨#[]⟩, .int .i64 0, .int .i64 0, .string ⟨t6.toArray⟩, .slice none 0 0] 33 (0, 0)) := by rw [hw14]; exact hy0
  rw [← hw14]
  have hr14 := hr13.grown aw (Ne.symm nx)
  have hQ14 := (aw.block gr (Array.getElem?_eq_some_iff.1 hQ13).1 (by simpa using nq)).trans hQ13
  have hb14 := At.below hb13 aw n4
  clear hw14 aw hr13 hQ13 hb13 hX13 hy0
  have sn14 := sn13
  clear sn13
  refine (rtext_full g r6 e6 w14 hr14 sn14 (by omega)).mono ?_
  rintro _ w15 ⟨rfl, hr15, aw⟩
  have hQ15 := (aw.block gr (Array.getElem?_eq_some_iff.1 hQ14).1 (by simpa using n1)).trans hQ14
  have sn15 : Sane (rtextF r6 e6).2.1 (rtextF r6 e6).2.2 := sane_rtextF sn14
  have hX15 := (aw.block gx (Array.getElem?_eq_some_iff.1 hX14).1 (by simpa using nx)).trans hX14
  have hb15 := At.below hb14 aw n3
  have hl15 := rtextF_len r6 e6
  have hf15 := rtextF_fst r6 e6
  obtain ⟨⟨t7, r7, e7⟩, hxt7⟩ : ∃ x, rtextF r6 e6 = x := ⟨_, rfl⟩
  rw [hxt7] at hr15 hl15 sn15 hf15 ⊢
  simp only at hr15 hl15 sn15 hf15 ⊢
  have HXt7 := hid hxt7
  clear hxt7 hr14 hQ14 hb14 sn14 aw hX14
  go_wp2_with fail
  refine (runpack_any t7 (by omega) w15).mono ?_
  rintro _ w16 ⟨v, ev, f1, rfl, hsl, hfit, bu, hu⟩
  obtain ⟨av, cv, rfl⟩ : ∃ a c, v = .slice a ev.length c := by
    obtain ⟨_, _, a, c, h, _⟩ := hsl
    exact ⟨a, c, h⟩
  have HU := hid hu
  have hf1 : 0 ≤ f1 ∧ f1 ≤ 60 := by rcases hu with ⟨-, rfl⟩ | ⟨-, rfl, -⟩ <;> decide
  clear hu
  have hr16 := hr15.keep bu
  have hQ16 := (bu.block _ (Array.getElem?_eq_some_iff.1 hQ15).1).trans hQ15
  have hb16 := bnext hb15 bu
  have hX16 := (bu.block _ (Array.getElem?_eq_some_iff.1 hX15).1).trans hX15
  clear hr15 hQ15 hb15 hX15
  have sn16 := sn15
  clear sn15
  have x8 : w16.cell? ⟨gx, 8, none⟩ = some (.slice none 0 0) := by rw [cell_of_row w16 _ 8 _ _ (0, 0) hX16]; rfl
  have xz8 : w16.frozen? ⟨gx, 8, none⟩ = false := frozen_of_row w16 _ 8 _ _ hX16
  go_upto_region 15 with (fail)
  clear x8 xz8
  obtain ⟨w17, hw17⟩ : ∃ x, x = (w16.setCell ⟨gx, 8, none⟩ (.slice av ev.length cv)) := ⟨_, rfl⟩
  have aw : At gx w16 w17 := by rw [hw17]; exact ((At.refl gx w16).set 8 _)
  have hy0 := heap_setCell_same w16 gx 8 _ _ (.slice av ev.length cv) hX16
  have hX17 : w17.heap[gx]? = some (.cells #[.int .i64 (n2' : Int), .int .i64 (n3' : Int), .int .i64 (n4' : Int), .int .i64 0, .string ⟨#[]⟩, .int .i64 0, .int .i64 0, .string ⟨t6.toArray⟩, .slice av ev.length cv] 33 (0, 0)) := by rw [hw17]; exact hy0
  have hsl := hsl.at aw (events_apart hX16)
  rw [← hw17]
  have hr17 := hr16.grown aw (Ne.symm nx)
  have hQ17 := (aw.block gr (Array.getElem?_eq_some_iff.1 hQ16).1 (by simpa using nq)).trans hQ16
  have hb17 := At.below hb16 aw n4
  clear hw17 aw hr16 hQ16 hb16 hX16 hy0
  have sn17 := sn16
  clear sn16
  by_cases ht : t5 = []
  · subst ht
    have htb : ([] : List UInt8).length ≤ 140737488355328 := by decide
    have HT : Hid (RTk [] (0, [], 0, 0) 0) := hid (.inl ⟨rfl, rfl, rfl⟩)
    have HF : Hid (f1 = f1 + 0) := hid (by omega)
    have x0 : w17.cell? ⟨gx, 0, none⟩ = some (.int .i64 (n2' : Int)) := by rw [cell_of_row w17 _ 0 _ _ (0, 0) hX17]; rfl
    have xz0 : w17.frozen? ⟨gx, 0, none⟩ = false := frozen_of_row w17 _ 0 _ _ hX17
    have x1 : w17.cell? ⟨gx, 1, none⟩ = some (.int .i64 (n3' : Int)) := by rw [cell_of_row w17 _ 1 _ _ (0, 0) hX17]; rfl
    have xz1 : w17.frozen? ⟨gx, 1, none⟩ = false := frozen_of_row w17 _ 1 _ _ hX17
    have x2 : w17.cell? ⟨gx, 2, none⟩ = some (.int .i64 (n4' : Int)) := by rw [cell_of_row w17 _ 2 _ _ (0, 0) hX17]; rfl
    have xz2 : w17.frozen? ⟨gx, 2, none⟩ = false := frozen_of_row w17 _ 2 _ _ hX17
    have x3 : w17.cell? ⟨gx, 3, none⟩ = some (.int .i64 0) := by rw [cell_of_row w17 _ 3 _ _ (0, 0) hX17]; rfl
    have xz3 : w17.frozen? ⟨gx, 3, none⟩ = false := frozen_of_row w17 _ 3 _ _ hX17
    have x4 : w17.cell? ⟨gx, 4, none⟩ = some (.string ⟨#[]⟩) := by rw [cell_of_row w17 _ 4 _ _ (0, 0) hX17]; rfl
    have xz4 : w17.frozen? ⟨gx, 4, none⟩ = false := frozen_of_row w17 _ 4 _ _ hX17
    have x5 : w17.cell? ⟨gx, 5, none⟩ = some (.int .i64 0) := by rw [cell_of_row w17 _ 5 _ _ (0, 0) hX17]; rfl
    have xz5 : w17.frozen? ⟨gx, 5, none⟩ = false := frozen_of_row w17 _ 5 _ _ hX17
    have x6 : w17.cell? ⟨gx, 6, none⟩ = some (.int .i64 0) := by rw [cell_of_row w17 _ 6 _ _ (0, 0) hX17]; rfl
    have xz6 : w17.frozen? ⟨gx, 6, none⟩ = false := frozen_of_row w17 _ 6 _ _ hX17
    have x7 : w17.cell? ⟨gx, 7, none⟩ = some (.string ⟨t6.toArray⟩) := by rw [cell_of_row w17 _ 7 _ _ (0, 0) hX17]; rfl
    have xz7 : w17.frozen? ⟨gx, 7, none⟩ = false := frozen_of_row w17 _ 7 _ _ hX17
    have x8 : w17.cell? ⟨gx, 8, none⟩ = some (.slice av ev.length cv) := by rw [cell_of_row w17 _ 8 _ _ (0, 0) hX17]; rfl
    have xz8 : w17.frozen? ⟨gx, 8, none⟩ = false := frozen_of_row w17 _ 8 _ _ hX17
    go_wp2_with fail
    clear x0 xz0 x1 xz1 x2 xz2 x3 xz3 x4 xz4 x5 xz5 x6 xz6 x7 xz7 x8 xz8
    refine (rreply_any n1' n2' n3' n4' 0 [] 0 0 t6 htb (by omega) _ ev _ hsl hfit).mono ?_
    rintro _ w18 ⟨rfl, bq⟩
    have hsl := hsl.below bq
    have hr18 := hr17.keep bq
    have hQ18 := (bq.block _ (Array.getElem?_eq_some_iff.1 hQ17).1).trans hQ17
    have hb18 := bnext hb17 bq
    have hX18 := (bq.block _ (Array.getElem?_eq_some_iff.1 hX17).1).trans hX17
    clear hr17 hQ17 hb17 hX17
    have sn18 := sn17
    clear sn17
    have HALL := hid (rrp_all HNX.out HXn0'.out HXn1'.out HXn2'.out HXn3'.out HXn4'.out HXt5.out HXt6.out HXt7.out HU.out HT.out HF.out)
    obtain ⟨V, hV⟩ : ∃ V, V = rpV n1' ⟨(n2' : Int), n3', n4', (0, [], 0, 0), t6, ev⟩ := ⟨_, rfl⟩
    obtain ⟨E, hE⟩ : ∃ E, E = rpE n1' ⟨(n2' : Int), n3', n4', (0, [], 0, 0), t6, ev⟩ := ⟨_, rfl⟩
    rw [← hV, ← hE] at HALL ⊢
    have HV := hid hV
    have HE := hid hE
    clear hV hE HU HT HF
    by_cases c1 : rest = []
    case neg =>
      have HNO := hid (rrp_rej HALL.out (fun q => c1 q.1))
      have hq1 : (rest == []) = false := by cases rest with | nil => exact absurd rfl c1 | cons _ _ => rfl
      have hq2 : ([] == rest) = false := by cases rest with | nil => exact absurd rfl c1 | cons _ _ => rfl
      have hq3 : ¬ rest.length = 0 := fun h => c1 (List.eq_nil_of_length_eq_zero h)
      clear HALL hsl hfit
      have q0 : w18.cell? ⟨gr, 0, none⟩ = some (.int .i64 0) := by rw [cell_of_row w18 _ 0 _ _ (0, 0) hQ18]; rfl
      have qz0 : w18.frozen? ⟨gr, 0, none⟩ = false := frozen_of_row w18 _ 0 _ _ hQ18
      have q1 : w18.cell? ⟨gr, 1, none⟩ = some (.int .i64 0) := by rw [cell_of_row w18 _ 1 _ _ (0, 0) hQ18]; rfl
      have qz1 : w18.frozen? ⟨gr, 1, none⟩ = false := frozen_of_row w18 _ 1 _ _ hQ18
      have q2 : w18.cell? ⟨gr, 2, none⟩ = some (.int .i64 0) := by rw [cell_of_row w18 _ 2 _ _ (0, 0) hQ18]; rfl
      have qz2 : w18.frozen? ⟨gr, 2, none⟩ = false := frozen_of_row w18 _ 2 _ _ hQ18
      have q3 : w18.cell? ⟨gr, 3, none⟩ = some (.int .i64 0) := by rw [cell_of_row w18 _ 3 _ _ (0, 0) hQ18]; rfl
      have qz3 : w18.frozen? ⟨gr, 3, none⟩ = false := frozen_of_row w18 _ 3 _ _ hQ18
      have q4 : w18.cell? ⟨gr, 4, none⟩ = some (.string ⟨#[]⟩) := by rw [cell_of_row w18 _ 4 _ _ (0, 0) hQ18]; rfl
      have qz4 : w18.frozen? ⟨gr, 4, none⟩ = false := frozen_of_row w18 _ 4 _ _ hQ18
      have q5 : w18.cell? ⟨gr, 5, none⟩ = some (.int .i64 0) := by rw [cell_of_row w18 _ 5 _ _ (0, 0) hQ18]; rfl
      have qz5 : w18.frozen? ⟨gr, 5, none⟩ = false := frozen_of_row w18 _ 5 _ _ hQ18
      have q6 : w18.cell? ⟨gr, 6, none⟩ = some (.int .i64 0) := by rw [cell_of_row w18 _ 6 _ _ (0, 0) hQ18]; rfl
      have qz6 : w18.frozen? ⟨gr, 6, none⟩ = false := frozen_of_row w18 _ 6 _ _ hQ18
      have q7 : w18.cell? ⟨gr, 7, none⟩ = some (.string ⟨#[]⟩) := by rw [cell_of_row w18 _ 7 _ _ (0, 0) hQ18]; rfl
      have qz7 : w18.frozen? ⟨gr, 7, none⟩ = false := frozen_of_row w18 _ 7 _ _ hQ18
      have q8 : w18.cell? ⟨gr, 8, none⟩ = some (.slice none 0 0) := by rw [cell_of_row w18 _ 8 _ _ (0, 0) hQ18]; rfl
      have qz8 : w18.frozen? ⟨gr, 8, none⟩ = false := frozen_of_row w18 _ 8 _ _ hQ18
      go_wp2_with fail
      refine bodyPost_ret (v := .tuple #[.int .i64 0, .agg #[.int .i64 0, .int .i64 0, .int .i64 0, .int .i64 0, .string ⟨#[]⟩, .int .i64 0, .int .i64 0, .string ⟨#[]⟩, .slice none 0 0], .int .i64 60]) ?_ rfl ⟨0, rp0, .slice none 0 0, 60, rfl, Sl.none _ _, (by intro x hx; cases hx), At.below hb18 (((((((((((At.refl gr w18).set 0 _).set 1 _).set 2 _).set 3 _).set 4 _).set 5 _).set 6 _).set 7 _).set 8 _) : At gr w18 (((((((((w18.setCell ⟨gr, 0, none⟩ (.int .i64 0)).setCell ⟨gr, 1, none⟩ (.int .i64 0)).setCell ⟨gr, 2, none⟩ (.int .i64 0)).setCell ⟨gr, 3, none⟩ (.int .i64 0)).setCell ⟨gr, 4, none⟩ (.string ⟨#[]⟩)).setCell ⟨gr, 5, none⟩ (.int .i64 0)).setCell ⟨gr, 6, none⟩ (.int .i64 0)).setCell ⟨gr, 7, none⟩ (.string ⟨#[]⟩)).setCell ⟨gr, 8, none⟩ (.slice none 0 0))) n2, .inr ⟨HERF.out.symm, rfl, rfl, rfl, HNO.out⟩⟩
      rw [results_tct rfl]
      go_simp
    subst c1
    by_cases c2 : n0' = 1
    case neg =>
      have HNO := hid (rrp_rej HALL.out (fun q => c2 q.2.1))
      have hq1 : ¬ (n0' : Int) = 1 := by omega
      clear HALL hsl hfit
      have q0 : w18.cell? ⟨gr, 0, none⟩ = some (.int .i64 0) := by rw [cell_of_row w18 _ 0 _ _ (0, 0) hQ18]; rfl
      have qz0 : w18.frozen? ⟨gr, 0, none⟩ = false := frozen_of_row w18 _ 0 _ _ hQ18
      have q1 : w18.cell? ⟨gr, 1, none⟩ = some (.int .i64 0) := by rw [cell_of_row w18 _ 1 _ _ (0, 0) hQ18]; rfl
      have qz1 : w18.frozen? ⟨gr, 1, none⟩ = false := frozen_of_row w18 _ 1 _ _ hQ18
      have q2 : w18.cell? ⟨gr, 2, none⟩ = some (.int .i64 0) := by rw [cell_of_row w18 _ 2 _ _ (0, 0) hQ18]; rfl
      have qz2 : w18.frozen? ⟨gr, 2, none⟩ = false := frozen_of_row w18 _ 2 _ _ hQ18
      have q3 : w18.cell? ⟨gr, 3, none⟩ = some (.int .i64 0) := by rw [cell_of_row w18 _ 3 _ _ (0, 0) hQ18]; rfl
      have qz3 : w18.frozen? ⟨gr, 3, none⟩ = false := frozen_of_row w18 _ 3 _ _ hQ18
      have q4 : w18.cell? ⟨gr, 4, none⟩ = some (.string ⟨#[]⟩) := by rw [cell_of_row w18 _ 4 _ _ (0, 0) hQ18]; rfl
      have qz4 : w18.frozen? ⟨gr, 4, none⟩ = false := frozen_of_row w18 _ 4 _ _ hQ18
      have q5 : w18.cell? ⟨gr, 5, none⟩ = some (.int .i64 0) := by rw [cell_of_row w18 _ 5 _ _ (0, 0) hQ18]; rfl
      have qz5 : w18.frozen? ⟨gr, 5, none⟩ = false := frozen_of_row w18 _ 5 _ _ hQ18
      have q6 : w18.cell? ⟨gr, 6, none⟩ = some (.int .i64 0) := by rw [cell_of_row w18 _ 6 _ _ (0, 0) hQ18]; rfl
      have qz6 : w18.frozen? ⟨gr, 6, none⟩ = false := frozen_of_row w18 _ 6 _ _ hQ18
      have q7 : w18.cell? ⟨gr, 7, none⟩ = some (.string ⟨#[]⟩) := by rw [cell_of_row w18 _ 7 _ _ (0, 0) hQ18]; rfl
      have qz7 : w18.frozen? ⟨gr, 7, none⟩ = false := frozen_of_row w18 _ 7 _ _ hQ18
      have q8 : w18.cell? ⟨gr, 8, none⟩ = some (.slice none 0 0) := by rw [cell_of_row w18 _ 8 _ _ (0, 0) hQ18]; rfl
      have qz8 : w18.frozen? ⟨gr, 8, none⟩ = false := frozen_of_row w18 _ 8 _ _ hQ18
      go_wp2_with fail
      refine bodyPost_ret (v := .tuple #[.int .i64 0, .agg #[.int .i64 0, .int .i64 0, .int .i64 0, .int .i64 0, .string ⟨#[]⟩, .int .i64 0, .int .i64 0, .string ⟨#[]⟩, .slice none 0 0], .int .i64 60]) ?_ rfl ⟨0, rp0, .slice none 0 0, 60, rfl, Sl.none _ _, (by intro x hx; cases hx), At.below hb18 (((((((((((At.refl gr w18).set 0 _).set 1 _).set 2 _).set 3 _).set 4 _).set 5 _).set 6 _).set 7 _).set 8 _) : At gr w18 (((((((((w18.setCell ⟨gr, 0, none⟩ (.int .i64 0)).setCell ⟨gr, 1, none⟩ (.int .i64 0)).setCell ⟨gr, 2, none⟩ (.int .i64 0)).setCell ⟨gr, 3, none⟩ (.int .i64 0)).setCell ⟨gr, 4, none⟩ (.string ⟨#[]⟩)).setCell ⟨gr, 5, none⟩ (.int .i64 0)).setCell ⟨gr, 6, none⟩ (.int .i64 0)).setCell ⟨gr, 7, none⟩ (.string ⟨#[]⟩)).setCell ⟨gr, 8, none⟩ (.slice none 0 0))) n2, .inr ⟨HERF.out.symm, rfl, rfl, rfl, HNO.out⟩⟩
      rw [results_tct rfl]
      go_simp
    subst c2
    by_cases c3 : f1 = 0
    case neg =>
      have HNO := hid (rrp_rej HALL.out (fun q => c3 q.2.2.1))
      clear HALL hsl hfit
      have q0 : w18.cell? ⟨gr, 0, none⟩ = some (.int .i64 0) := by rw [cell_of_row w18 _ 0 _ _ (0, 0) hQ18]; rfl
      have qz0 : w18.frozen? ⟨gr, 0, none⟩ = false := frozen_of_row w18 _ 0 _ _ hQ18
      have q1 : w18.cell? ⟨gr, 1, none⟩ = some (.int .i64 0) := by rw [cell_of_row w18 _ 1 _ _ (0, 0) hQ18]; rfl
      have qz1 : w18.frozen? ⟨gr, 1, none⟩ = false := frozen_of_row w18 _ 1 _ _ hQ18
      have q2 : w18.cell? ⟨gr, 2, none⟩ = some (.int .i64 0) := by rw [cell_of_row w18 _ 2 _ _ (0, 0) hQ18]; rfl
      have qz2 : w18.frozen? ⟨gr, 2, none⟩ = false := frozen_of_row w18 _ 2 _ _ hQ18
      have q3 : w18.cell? ⟨gr, 3, none⟩ = some (.int .i64 0) := by rw [cell_of_row w18 _ 3 _ _ (0, 0) hQ18]; rfl
      have qz3 : w18.frozen? ⟨gr, 3, none⟩ = false := frozen_of_row w18 _ 3 _ _ hQ18
      have q4 : w18.cell? ⟨gr, 4, none⟩ = some (.string ⟨#[]⟩) := by rw [cell_of_row w18 _ 4 _ _ (0, 0) hQ18]; rfl
      have qz4 : w18.frozen? ⟨gr, 4, none⟩ = false := frozen_of_row w18 _ 4 _ _ hQ18
      have q5 : w18.cell? ⟨gr, 5, none⟩ = some (.int .i64 0) := by rw [cell_of_row w18 _ 5 _ _ (0, 0) hQ18]; rfl
      have qz5 : w18.frozen? ⟨gr, 5, none⟩ = false := frozen_of_row w18 _ 5 _ _ hQ18
      have q6 : w18.cell? ⟨gr, 6, none⟩ = some (.int .i64 0) := by rw [cell_of_row w18 _ 6 _ _ (0, 0) hQ18]; rfl
      have qz6 : w18.frozen? ⟨gr, 6, none⟩ = false := frozen_of_row w18 _ 6 _ _ hQ18
      have q7 : w18.cell? ⟨gr, 7, none⟩ = some (.string ⟨#[]⟩) := by rw [cell_of_row w18 _ 7 _ _ (0, 0) hQ18]; rfl
      have qz7 : w18.frozen? ⟨gr, 7, none⟩ = false := frozen_of_row w18 _ 7 _ _ hQ18
      have q8 : w18.cell? ⟨gr, 8, none⟩ = some (.slice none 0 0) := by rw [cell_of_row w18 _ 8 _ _ (0, 0) hQ18]; rfl
      have qz8 : w18.frozen? ⟨gr, 8, none⟩ = false := frozen_of_row w18 _ 8 _ _ hQ18
      go_wp2_with fail
      refine bodyPost_ret (v := .tuple #[.int .i64 0, .agg #[.int .i64 0, .int .i64 0, .int .i64 0, .int .i64 0, .string ⟨#[]⟩, .int .i64 0, .int .i64 0, .string ⟨#[]⟩, .slice none 0 0], .int .i64 60]) ?_ rfl ⟨0, rp0, .slice none 0 0, 60, rfl, Sl.none _ _, (by intro x hx; cases hx), At.below hb18 (((((((((((At.refl gr w18).set 0 _).set 1 _).set 2 _).set 3 _).set 4 _).set 5 _).set 6 _).set 7 _).set 8 _) : At gr w18 (((((((((w18.setCell ⟨gr, 0, none⟩ (.int .i64 0)).setCell ⟨gr, 1, none⟩ (.int .i64 0)).setCell ⟨gr, 2, none⟩ (.int .i64 0)).setCell ⟨gr, 3, none⟩ (.int .i64 0)).setCell ⟨gr, 4, none⟩ (.string ⟨#[]⟩)).setCell ⟨gr, 5, none⟩ (.int .i64 0)).setCell ⟨gr, 6, none⟩ (.int .i64 0)).setCell ⟨gr, 7, none⟩ (.string ⟨#[]⟩)).setCell ⟨gr, 8, none⟩ (.slice none 0 0))) n2, .inr ⟨HERF.out.symm, rfl, rfl, rfl, HNO.out⟩⟩
      rw [results_tct rfl]
      go_simp
    subst c3
    go_wp2_with fail
    refine (rend_any g r7 e7 w18 hr18).mono ?_
    rintro _ w99 ⟨rfl, hw9⟩
    rw [hw9]
    clear hw9 w99
    by_cases c4 : endF r7 e7 = true
    case neg =>
      have HNO := hid (rrp_rej HALL.out (fun q => c4 q.2.2.2.1))
      have c4' : endF r7 e7 = false := by simpa using c4
      rw [c4']
      clear HALL hsl hfit
      have q0 : w18.cell? ⟨gr, 0, none⟩ = some (.int .i64 0) := by rw [cell_of_row w18 _ 0 _ _ (0, 0) hQ18]; rfl
      have qz0 : w18.frozen? ⟨gr, 0, none⟩ = false := frozen_of_row w18 _ 0 _ _ hQ18
      have q1 : w18.cell? ⟨gr, 1, none⟩ = some (.int .i64 0) := by rw [cell_of_row w18 _ 1 _ _ (0, 0) hQ18]; rfl
      have qz1 : w18.frozen? ⟨gr, 1, none⟩ = false := frozen_of_row w18 _ 1 _ _ hQ18
      have q2 : w18.cell? ⟨gr, 2, none⟩ = some (.int .i64 0) := by rw [cell_of_row w18 _ 2 _ _ (0, 0) hQ18]; rfl
      have qz2 : w18.frozen? ⟨gr, 2, none⟩ = false := frozen_of_row w18 _ 2 _ _ hQ18
      have q3 : w18.cell? ⟨gr, 3, none⟩ = some (.int .i64 0) := by rw [cell_of_row w18 _ 3 _ _ (0, 0) hQ18]; rfl
      have qz3 : w18.frozen? ⟨gr, 3, none⟩ = false := frozen_of_row w18 _ 3 _ _ hQ18
      have q4 : w18.cell? ⟨gr, 4, none⟩ = some (.string ⟨#[]⟩) := by rw [cell_of_row w18 _ 4 _ _ (0, 0) hQ18]; rfl
      have qz4 : w18.frozen? ⟨gr, 4, none⟩ = false := frozen_of_row w18 _ 4 _ _ hQ18
      have q5 : w18.cell? ⟨gr, 5, none⟩ = some (.int .i64 0) := by rw [cell_of_row w18 _ 5 _ _ (0, 0) hQ18]; rfl
      have qz5 : w18.frozen? ⟨gr, 5, none⟩ = false := frozen_of_row w18 _ 5 _ _ hQ18
      have q6 : w18.cell? ⟨gr, 6, none⟩ = some (.int .i64 0) := by rw [cell_of_row w18 _ 6 _ _ (0, 0) hQ18]; rfl
      have qz6 : w18.frozen? ⟨gr, 6, none⟩ = false := frozen_of_row w18 _ 6 _ _ hQ18
      have q7 : w18.cell? ⟨gr, 7, none⟩ = some (.string ⟨#[]⟩) := by rw [cell_of_row w18 _ 7 _ _ (0, 0) hQ18]; rfl
      have qz7 : w18.frozen? ⟨gr, 7, none⟩ = false := frozen_of_row w18 _ 7 _ _ hQ18
      have q8 : w18.cell? ⟨gr, 8, none⟩ = some (.slice none 0 0) := by rw [cell_of_row w18 _ 8 _ _ (0, 0) hQ18]; rfl
      have qz8 : w18.frozen? ⟨gr, 8, none⟩ = false := frozen_of_row w18 _ 8 _ _ hQ18
      go_wp2_with fail
      refine bodyPost_ret (v := .tuple #[.int .i64 0, .agg #[.int .i64 0, .int .i64 0, .int .i64 0, .int .i64 0, .string ⟨#[]⟩, .int .i64 0, .int .i64 0, .string ⟨#[]⟩, .slice none 0 0], .int .i64 60]) ?_ rfl ⟨0, rp0, .slice none 0 0, 60, rfl, Sl.none _ _, (by intro x hx; cases hx), At.below hb18 (((((((((((At.refl gr w18).set 0 _).set 1 _).set 2 _).set 3 _).set 4 _).set 5 _).set 6 _).set 7 _).set 8 _) : At gr w18 (((((((((w18.setCell ⟨gr, 0, none⟩ (.int .i64 0)).setCell ⟨gr, 1, none⟩ (.int .i64 0)).setCell ⟨gr, 2, none⟩ (.int .i64 0)).setCell ⟨gr, 3, none⟩ (.int .i64 0)).setCell ⟨gr, 4, none⟩ (.string ⟨#[]⟩)).setCell ⟨gr, 5, none⟩ (.int .i64 0)).setCell ⟨gr, 6, none⟩ (.int .i64 0)).setCell ⟨gr, 7, none⟩ (.string ⟨#[]⟩)).setCell ⟨gr, 8, none⟩ (.slice none 0 0))) n2, .inr ⟨HERF.out.symm, rfl, rfl, rfl, HNO.out⟩⟩
      rw [results_tct rfl]
      go_simp
    rw [c4]
    by_cases c5 : E = 0
    case neg =>
      have HNO := hid (rrp_rej HALL.out (fun q => c5 q.2.2.2.2.1))
      clear HALL hsl hfit
      have q0 : w18.cell? ⟨gr, 0, none⟩ = some (.int .i64 0) := by rw [cell_of_row w18 _ 0 _ _ (0, 0) hQ18]; rfl
      have qz0 : w18.frozen? ⟨gr, 0, none⟩ = false := frozen_of_row w18 _ 0 _ _ hQ18
      have q1 : w18.cell? ⟨gr, 1, none⟩ = some (.int .i64 0) := by rw [cell_of_row w18 _ 1 _ _ (0, 0) hQ18]; rfl
      have qz1 : w18.frozen? ⟨gr, 1, none⟩ = false := frozen_of_row w18 _ 1 _ _ hQ18
      have q2 : w18.cell? ⟨gr, 2, none⟩ = some (.int .i64 0) := by rw [cell_of_row w18 _ 2 _ _ (0, 0) hQ18]; rfl
      have qz2 : w18.frozen? ⟨gr, 2, none⟩ = false := frozen_of_row w18 _ 2 _ _ hQ18
      have q3 : w18.cell? ⟨gr, 3, none⟩ = some (.int .i64 0) := by rw [cell_of_row w18 _ 3 _ _ (0, 0) hQ18]; rfl
      have qz3 : w18.frozen? ⟨gr, 3, none⟩ = false := frozen_of_row w18 _ 3 _ _ hQ18
      have q4 : w18.cell? ⟨gr, 4, none⟩ = some (.string ⟨#[]⟩) := by rw [cell_of_row w18 _ 4 _ _ (0, 0) hQ18]; rfl
      have qz4 : w18.frozen? ⟨gr, 4, none⟩ = false := frozen_of_row w18 _ 4 _ _ hQ18
      have q5 : w18.cell? ⟨gr, 5, none⟩ = some (.int .i64 0) := by rw [cell_of_row w18 _ 5 _ _ (0, 0) hQ18]; rfl
      have qz5 : w18.frozen? ⟨gr, 5, none⟩ = false := frozen_of_row w18 _ 5 _ _ hQ18
      have q6 : w18.cell? ⟨gr, 6, none⟩ = some (.int .i64 0) := by rw [cell_of_row w18 _ 6 _ _ (0, 0) hQ18]; rfl
      have qz6 : w18.frozen? ⟨gr, 6, none⟩ = false := frozen_of_row w18 _ 6 _ _ hQ18
      have q7 : w18.cell? ⟨gr, 7, none⟩ = some (.string ⟨#[]⟩) := by rw [cell_of_row w18 _ 7 _ _ (0, 0) hQ18]; rfl
      have qz7 : w18.frozen? ⟨gr, 7, none⟩ = false := frozen_of_row w18 _ 7 _ _ hQ18
      have q8 : w18.cell? ⟨gr, 8, none⟩ = some (.slice none 0 0) := by rw [cell_of_row w18 _ 8 _ _ (0, 0) hQ18]; rfl
      have qz8 : w18.frozen? ⟨gr, 8, none⟩ = false := frozen_of_row w18 _ 8 _ _ hQ18
      go_wp2_with fail
      refine bodyPost_ret (v := .tuple #[.int .i64 0, .agg #[.int .i64 0, .int .i64 0, .int .i64 0, .int .i64 0, .string ⟨#[]⟩, .int .i64 0, .int .i64 0, .string ⟨#[]⟩, .slice none 0 0], .int .i64 60]) ?_ rfl ⟨0, rp0, .slice none 0 0, 60, rfl, Sl.none _ _, (by intro x hx; cases hx), At.below hb18 (((((((((((At.refl gr w18).set 0 _).set 1 _).set 2 _).set 3 _).set 4 _).set 5 _).set 6 _).set 7 _).set 8 _) : At gr w18 (((((((((w18.setCell ⟨gr, 0, none⟩ (.int .i64 0)).setCell ⟨gr, 1, none⟩ (.int .i64 0)).setCell ⟨gr, 2, none⟩ (.int .i64 0)).setCell ⟨gr, 3, none⟩ (.int .i64 0)).setCell ⟨gr, 4, none⟩ (.string ⟨#[]⟩)).setCell ⟨gr, 5, none⟩ (.int .i64 0)).setCell ⟨gr, 6, none⟩ (.int .i64 0)).setCell ⟨gr, 7, none⟩ (.string ⟨#[]⟩)).setCell ⟨gr, 8, none⟩ (.slice none 0 0))) n2, .inr ⟨HERF.out.symm, rfl, rfl, rfl, HNO.out⟩⟩
      rw [results_tct rfl]
      go_simp
    by_cases c6 : V = l
    case neg =>
      have HNO := hid (rrp_rej HALL.out (fun q => c6 q.2.2.2.2.2))
      have hq1 : (V == l) = false := by simpa using c6
      clear HALL hsl hfit
      have q0 : w18.cell? ⟨gr, 0, none⟩ = some (.int .i64 0) := by rw [cell_of_row w18 _ 0 _ _ (0, 0) hQ18]; rfl
      have qz0 : w18.frozen? ⟨gr, 0, none⟩ = false := frozen_of_row w18 _ 0 _ _ hQ18
      have q1 : w18.cell? ⟨gr, 1, none⟩ = some (.int .i64 0) := by rw [cell_of_row w18 _ 1 _ _ (0, 0) hQ18]; rfl
      have qz1 : w18.frozen? ⟨gr, 1, none⟩ = false := frozen_of_row w18 _ 1 _ _ hQ18
      have q2 : w18.cell? ⟨gr, 2, none⟩ = some (.int .i64 0) := by rw [cell_of_row w18 _ 2 _ _ (0, 0) hQ18]; rfl
      have qz2 : w18.frozen? ⟨gr, 2, none⟩ = false := frozen_of_row w18 _ 2 _ _ hQ18
      have q3 : w18.cell? ⟨gr, 3, none⟩ = some (.int .i64 0) := by rw [cell_of_row w18 _ 3 _ _ (0, 0) hQ18]; rfl
      have qz3 : w18.frozen? ⟨gr, 3, none⟩ = false := frozen_of_row w18 _ 3 _ _ hQ18
      have q4 : w18.cell? ⟨gr, 4, none⟩ = some (.string ⟨#[]⟩) := by rw [cell_of_row w18 _ 4 _ _ (0, 0) hQ18]; rfl
      have qz4 : w18.frozen? ⟨gr, 4, none⟩ = false := frozen_of_row w18 _ 4 _ _ hQ18
      have q5 : w18.cell? ⟨gr, 5, none⟩ = some (.int .i64 0) := by rw [cell_of_row w18 _ 5 _ _ (0, 0) hQ18]; rfl
      have qz5 : w18.frozen? ⟨gr, 5, none⟩ = false := frozen_of_row w18 _ 5 _ _ hQ18
      have q6 : w18.cell? ⟨gr, 6, none⟩ = some (.int .i64 0) := by rw [cell_of_row w18 _ 6 _ _ (0, 0) hQ18]; rfl
      have qz6 : w18.frozen? ⟨gr, 6, none⟩ = false := frozen_of_row w18 _ 6 _ _ hQ18
      have q7 : w18.cell? ⟨gr, 7, none⟩ = some (.string ⟨#[]⟩) := by rw [cell_of_row w18 _ 7 _ _ (0, 0) hQ18]; rfl
      have qz7 : w18.frozen? ⟨gr, 7, none⟩ = false := frozen_of_row w18 _ 7 _ _ hQ18
      have q8 : w18.cell? ⟨gr, 8, none⟩ = some (.slice none 0 0) := by rw [cell_of_row w18 _ 8 _ _ (0, 0) hQ18]; rfl
      have qz8 : w18.frozen? ⟨gr, 8, none⟩ = false := frozen_of_row w18 _ 8 _ _ hQ18
      go_wp2_with fail
      refine bodyPost_ret (v := .tuple #[.int .i64 0, .agg #[.int .i64 0, .int .i64 0, .int .i64 0, .int .i64 0, .string ⟨#[]⟩, .int .i64 0, .int .i64 0, .string ⟨#[]⟩, .slice none 0 0], .int .i64 60]) ?_ rfl ⟨0, rp0, .slice none 0 0, 60, rfl, Sl.none _ _, (by intro x hx; cases hx), At.below hb18 (((((((((((At.refl gr w18).set 0 _).set 1 _).set 2 _).set 3 _).set 4 _).set 5 _).set 6 _).set 7 _).set 8 _) : At gr w18 (((((((((w18.setCell ⟨gr, 0, none⟩ (.int .i64 0)).setCell ⟨gr, 1, none⟩ (.int .i64 0)).setCell ⟨gr, 2, none⟩ (.int .i64 0)).setCell ⟨gr, 3, none⟩ (.int .i64 0)).setCell ⟨gr, 4, none⟩ (.string ⟨#[]⟩)).setCell ⟨gr, 5, none⟩ (.int .i64 0)).setCell ⟨gr, 6, none⟩ (.int .i64 0)).setCell ⟨gr, 7, none⟩ (.string ⟨#[]⟩)).setCell ⟨gr, 8, none⟩ (.slice none 0 0))) n2, .inr ⟨HERF.out.symm, rfl, rfl, rfl, HNO.out⟩⟩
      rw [results_tct rfl]
      go_simp
    have HACC := hid (rrp_acc (HE.out.symm.trans c5) (HV.out.symm.trans c6))
    have hsl9 := (hsl.at (((((((((((At.refl gr w18).set 0 _).set 1 _).set 2 _).set 3 _).set 4 _).set 5 _).set 6 _).set 7 _).set 8 _) : At gr w18 (((((((((w18.setCell ⟨gr, 0, none⟩ (.int .i64 (n2' : Int))).setCell ⟨gr, 1, none⟩ (.int .i64 (n3' : Int))).setCell ⟨gr, 2, none⟩ (.int .i64 (n4' : Int))).setCell ⟨gr, 3, none⟩ (.int .i64 0)).setCell ⟨gr, 4, none⟩ (.string ⟨#[]⟩)).setCell ⟨gr, 5, none⟩ (.int .i64 0)).setCell ⟨gr, 6, none⟩ (.int .i64 0)).setCell ⟨gr, 7, none⟩ (.string ⟨t6.toArray⟩)).setCell ⟨gr, 8, none⟩ (.slice av ev.length cv))) (events_apart hQ18)).below (below_drewN _ _ 1)
    have hbf := below_to_drew (At.below hb18 (((((((((((At.refl gr w18).set 0 _).set 1 _).set 2 _).set 3 _).set 4 _).set 5 _).set 6 _).set 7 _).set 8 _) : At gr w18 (((((((((w18.setCell ⟨gr, 0, none⟩ (.int .i64 (n2' : Int))).setCell ⟨gr, 1, none⟩ (.int .i64 (n3' : Int))).setCell ⟨gr, 2, none⟩ (.int .i64 (n4' : Int))).setCell ⟨gr, 3, none⟩ (.int .i64 0)).setCell ⟨gr, 4, none⟩ (.string ⟨#[]⟩)).setCell ⟨gr, 5, none⟩ (.int .i64 0)).setCell ⟨gr, 6, none⟩ (.int .i64 0)).setCell ⟨gr, 7, none⟩ (.string ⟨t6.toArray⟩)).setCell ⟨gr, 8, none⟩ (.slice av ev.length cv))) n2)
    clear hsl HALL
    subst c6
    have x0 : w18.cell? ⟨gx, 0, none⟩ = some (.int .i64 (n2' : Int)) := by rw [cell_of_row w18 _ 0 _ _ (0, 0) hX18]; rfl
    have xz0 : w18.frozen? ⟨gx, 0, none⟩ = false := frozen_of_row w18 _ 0 _ _ hX18
    have x1 : w18.cell? ⟨gx, 1, none⟩ = some (.int .i64 (n3' : Int)) := by rw [cell_of_row w18 _ 1 _ _ (0, 0) hX18]; rfl
    have xz1 : w18.frozen? ⟨gx, 1, none⟩ = false := frozen_of_row w18 _ 1 _ _ hX18
    have x2 : w18.cell? ⟨gx, 2, none⟩ = some (.int .i64 (n4' : Int)) := by rw [cell_of_row w18 _ 2 _ _ (0, 0) hX18]; rfl
    have xz2 : w18.frozen? ⟨gx, 2, none⟩ = false := frozen_of_row w18 _ 2 _ _ hX18
    have x3 : w18.cell? ⟨gx, 3, none⟩ = some (.int .i64 0) := by rw [cell_of_row w18 _ 3 _ _ (0, 0) hX18]; rfl
    have xz3 : w18.frozen? ⟨gx, 3, none⟩ = false := frozen_of_row w18 _ 3 _ _ hX18
    have x4 : w18.cell? ⟨gx, 4, none⟩ = some (.string ⟨#[]⟩) := by rw [cell_of_row w18 _ 4 _ _ (0, 0) hX18]; rfl
    have xz4 : w18.frozen? ⟨gx, 4, none⟩ = false := frozen_of_row w18 _ 4 _ _ hX18
    have x5 : w18.cell? ⟨gx, 5, none⟩ = some (.int .i64 0) := by rw [cell_of_row w18 _ 5 _ _ (0, 0) hX18]; rfl
    have xz5 : w18.frozen? ⟨gx, 5, none⟩ = false := frozen_of_row w18 _ 5 _ _ hX18
    have x6 : w18.cell? ⟨gx, 6, none⟩ = some (.int .i64 0) := by rw [cell_of_row w18 _ 6 _ _ (0, 0) hX18]; rfl
    have xz6 : w18.frozen? ⟨gx, 6, none⟩ = false := frozen_of_row w18 _ 6 _ _ hX18
    have x7 : w18.cell? ⟨gx, 7, none⟩ = some (.string ⟨t6.toArray⟩) := by rw [cell_of_row w18 _ 7 _ _ (0, 0) hX18]; rfl
    have xz7 : w18.frozen? ⟨gx, 7, none⟩ = false := frozen_of_row w18 _ 7 _ _ hX18
    have x8 : w18.cell? ⟨gx, 8, none⟩ = some (.slice av ev.length cv) := by rw [cell_of_row w18 _ 8 _ _ (0, 0) hX18]; rfl
    have xz8 : w18.frozen? ⟨gx, 8, none⟩ = false := frozen_of_row w18 _ 8 _ _ hX18
    have q0 : w18.cell? ⟨gr, 0, none⟩ = some (.int .i64 0) := by rw [cell_of_row w18 _ 0 _ _ (0, 0) hQ18]; rfl
    have qz0 : w18.frozen? ⟨gr, 0, none⟩ = false := frozen_of_row w18 _ 0 _ _ hQ18
    have q1 : w18.cell? ⟨gr, 1, none⟩ = some (.int .i64 0) := by rw [cell_of_row w18 _ 1 _ _ (0, 0) hQ18]; rfl
    have qz1 : w18.frozen? ⟨gr, 1, none⟩ = false := frozen_of_row w18 _ 1 _ _ hQ18
    have q2 : w18.cell? ⟨gr, 2, none⟩ = some (.int .i64 0) := by rw [cell_of_row w18 _ 2 _ _ (0, 0) hQ18]; rfl
    have qz2 : w18.frozen? ⟨gr, 2, none⟩ = false := frozen_of_row w18 _ 2 _ _ hQ18
    have q3 : w18.cell? ⟨gr, 3, none⟩ = some (.int .i64 0) := by rw [cell_of_row w18 _ 3 _ _ (0, 0) hQ18]; rfl
    have qz3 : w18.frozen? ⟨gr, 3, none⟩ = false := frozen_of_row w18 _ 3 _ _ hQ18
    have q4 : w18.cell? ⟨gr, 4, none⟩ = some (.string ⟨#[]⟩) := by rw [cell_of_row w18 _ 4 _ _ (0, 0) hQ18]; rfl
    have qz4 : w18.frozen? ⟨gr, 4, none⟩ = false := frozen_of_row w18 _ 4 _ _ hQ18
    have q5 : w18.cell? ⟨gr, 5, none⟩ = some (.int .i64 0) := by rw [cell_of_row w18 _ 5 _ _ (0, 0) hQ18]; rfl
    have qz5 : w18.frozen? ⟨gr, 5, none⟩ = false := frozen_of_row w18 _ 5 _ _ hQ18
    have q6 : w18.cell? ⟨gr, 6, none⟩ = some (.int .i64 0) := by rw [cell_of_row w18 _ 6 _ _ (0, 0) hQ18]; rfl
    have qz6 : w18.frozen? ⟨gr, 6, none⟩ = false := frozen_of_row w18 _ 6 _ _ hQ18
    have q7 : w18.cell? ⟨gr, 7, none⟩ = some (.string ⟨#[]⟩) := by rw [cell_of_row w18 _ 7 _ _ (0, 0) hQ18]; rfl
    have qz7 : w18.frozen? ⟨gr, 7, none⟩ = false := frozen_of_row w18 _ 7 _ _ hQ18
    have q8 : w18.cell? ⟨gr, 8, none⟩ = some (.slice none 0 0) := by rw [cell_of_row w18 _ 8 _ _ (0, 0) hQ18]; rfl
    have qz8 : w18.frozen? ⟨gr, 8, none⟩ = false := frozen_of_row w18 _ 8 _ _ hQ18
    go_wp2_with fail
    go_region
    go_wp2_with fail
    refine bodyPost_ret (v := .tuple #[.int .i64 n1', .agg #[.int .i64 (n2' : Int), .int .i64 (n3' : Int), .int .i64 (n4' : Int), .int .i64 0, .string ⟨#[]⟩, .int .i64 0, .int .i64 0, .string ⟨t6.toArray⟩, .slice av ev.length cv], .int .i64 0]) ?_ rfl ⟨n1', ⟨(n2' : Int), n3', n4', (0, [], 0, 0), t6, ev⟩, .slice av ev.length cv, 0, rfl, hsl9, hfit, hbf, .inl ⟨rfl, HACC.out.1, HACC.out.2⟩⟩
    rw [results_tct rfl]
    go_simp
  · have hq1 : (t5 == []) = false := by cases t5 with | nil => exact absurd rfl ht | cons _ _ => rfl
    have hq2 : ([] == t5) = false := by cases t5 with | nil => exact absurd rfl ht | cons _ _ => rfl
    have hq3 : ¬ t5.length = 0 := fun h => ht (List.eq_nil_of_length_eq_zero h)
    go_wp2_with fail
    refine (rtasked_any t5 (by omega) w17).mono ?_
    rintro _ w18 ⟨⟨ta, tb, tc, td⟩, f2, rfl, bt, hres⟩
    rw [show tkV' (ta, tb, tc, td) = .agg #[.int .i64 ta, .string ⟨tb.toArray⟩, .int .i64 tc, .int .i64 td] from rfl]
    have HT : Hid (RTk t5 (ta, tb, tc, td) f2) := hid (.inr ⟨ht, hres⟩)
    have hf2 : 0 ≤ f2 ∧ f2 ≤ 60 := by rcases hres with ⟨-, rfl⟩ | ⟨-, rfl, -⟩ <;> decide
    have htb : tb.length ≤ 140737488355328 := rtk_len HT.out
    clear hres hq1 hq2 hq3 ht
    have hsl := hsl.below bt
    have hr18 := hr17.keep bt
    have hQ18 := (bt.block _ (Array.getElem?_eq_some_iff.1 hQ17).1).trans hQ17
    have hb18 := bnext hb17 bt
    have hX18 := (bt.block _ (Array.getElem?_eq_some_iff.1 hX17).1).trans hX17
    clear hr17 hQ17 hb17 hX17
    have sn18 := sn17
    clear sn17
    obtain ⟨w19, hw19⟩ : ∃ x, x = w18.alloc (.cells #[.int .i64 ta, .string ⟨tb.toArray⟩, .int .i64 tc, .int .i64 td] 30) := ⟨_, rfl⟩
    have bp : Below w18.heap.size w18 w19 := by rw [hw19]; exact (Below.refl _ _).alloc (Nat.le_refl _) _
    have hsl := hsl.below bp
    have HW := hid hw19
    clear hw19
    have hr19 := hr18.keep bp
    have hQ19 := (bp.block _ (Array.getElem?_eq_some_iff.1 hQ18).1).trans hQ18
    have hb19 := bnext hb18 bp
    have hX19 := (bp.block _ (Array.getElem?_eq_some_iff.1 hX18).1).trans hX18
    clear hr18 hQ18 hb18 hX18
    have sn19 := sn18
    clear sn18
    have x3 : w19.cell? ⟨gx, 3, none⟩ = some (.int .i64 0) := by rw [cell_of_row w19 _ 3 _ _ (0, 0) hX19]; rfl
    have xz3 : w19.frozen? ⟨gx, 3, none⟩ = false := frozen_of_row w19 _ 3 _ _ hX19
    have x4 : w19.cell? ⟨gx, 4, none⟩ = some (.string ⟨#[]⟩) := by rw [cell_of_row w19 _ 4 _ _ (0, 0) hX19]; rfl
    have xz4 : w19.frozen? ⟨gx, 4, none⟩ = false := frozen_of_row w19 _ 4 _ _ hX19
    have x5 : w19.cell? ⟨gx, 5, none⟩ = some (.int .i64 0) := by rw [cell_of_row w19 _ 5 _ _ (0, 0) hX19]; rfl
    have xz5 : w19.frozen? ⟨gx, 5, none⟩ = false := frozen_of_row w19 _ 5 _ _ hX19
    have x6 : w19.cell? ⟨gx, 6, none⟩ = some (.int .i64 0) := by rw [cell_of_row w19 _ 6 _ _ (0, 0) hX19]; rfl
    have xz6 : w19.frozen? ⟨gx, 6, none⟩ = false := frozen_of_row w19 _ 6 _ _ hX19
    rw [HW.out] at x3
    rw [HW.out] at xz3
    rw [HW.out] at x4
    rw [HW.out] at xz4
    rw [HW.out] at x5
    rw [HW.out] at xz5
    rw [HW.out] at x6
    rw [HW.out] at xz6
    go_upto_region 19 with (fail)
    rw [← HW.out]
    clear x3 xz3 x4 xz4 x5 xz5 x6 xz6
    obtain ⟨w20, hw20⟩ : ∃ x, x = ((((w19.setCell ⟨gx, 3, none⟩ (.int .i64 ta)).setCell ⟨gx, 4, none⟩ (.string ⟨tb.toArray⟩)).setCell ⟨gx, 5, none⟩ (.int .i64 tc)).setCell ⟨gx, 6, none⟩ (.int .i64 td)) := ⟨_, rfl⟩
    have aw : At gx w19 w20 := by rw [hw20]; exact (((((At.refl gx w19).set 3 _).set 4 _).set 5 _).set 6 _)
    have hy0 := heap_setCell_same w19 gx 3 _ _ (.int .i64 ta) hX19
    have hy1 := heap_setCell_same _ gx 4 _ _ (.string ⟨tb.toArray⟩) hy0
    have hy2 := heap_setCell_same _ gx 5 _ _ (.int .i64 tc) hy1
    have hy3 := heap_setCell_same _ gx 6 _ _ (.int .i64 td) hy2
    have hX20 : w20.heap[gx]? = some (.cells #[.int .i64 (n2' : Int), .int .i64 (n3' : Int), .int .i64 (n4' : Int), .int .i64 ta, .string ⟨tb.toArray⟩, .int .i64 tc, .int .i64 td, .string ⟨t6.toArray⟩, .slice av ev.length cv] 33 (0, 0)) := by rw [hw20]; exact hy3
    have hsl := hsl.at aw (events_apart hX19)
    rw [← hw20]
    have hr20 := hr19.grown aw (Ne.symm nx)
    have hQ20 := (aw.block gr (Array.getElem?_eq_some_iff.1 hQ19).1 (by simpa using nq)).trans hQ19
    have hb20 := At.below hb19 aw n4
    clear hw20 aw hr19 hQ19 hb19 hX19 hy0 hy1 hy2 hy3
    have sn20 := sn19
    clear sn19
    obtain ⟨F, hF⟩ : ∃ F, F = f1 + f2 := ⟨_, rfl⟩
    rw [← hF]
    have HF := hid hF
    clear hF HW
    have x0 : w20.cell? ⟨gx, 0, none⟩ = some (.int .i64 (n2' : Int)) := by rw [cell_of_row w20 _ 0 _ _ (0, 0) hX20]; rfl
    have xz0 : w20.frozen? ⟨gx, 0, none⟩ = false := frozen_of_row w20 _ 0 _ _ hX20
    have x1 : w20.cell? ⟨gx, 1, none⟩ = some (.int .i64 (n3' : Int)) := by rw [cell_of_row w20 _ 1 _ _ (0, 0) hX20]; rfl
    have xz1 : w20.frozen? ⟨gx, 1, none⟩ = false := frozen_of_row w20 _ 1 _ _ hX20
    have x2 : w20.cell? ⟨gx, 2, none⟩ = some (.int .i64 (n4' : Int)) := by rw [cell_of_row w20 _ 2 _ _ (0, 0) hX20]; rfl
    have xz2 : w20.frozen? ⟨gx, 2, none⟩ = false := frozen_of_row w20 _ 2 _ _ hX20
    have x3 : w20.cell? ⟨gx, 3, none⟩ = some (.int .i64 ta) := by rw [cell_of_row w20 _ 3 _ _ (0, 0) hX20]; rfl
    have xz3 : w20.frozen? ⟨gx, 3, none⟩ = false := frozen_of_row w20 _ 3 _ _ hX20
    have x4 : w20.cell? ⟨gx, 4, none⟩ = some (.string ⟨tb.toArray⟩) := by rw [cell_of_row w20 _ 4 _ _ (0, 0) hX20]; rfl
    have xz4 : w20.frozen? ⟨gx, 4, none⟩ = false := frozen_of_row w20 _ 4 _ _ hX20
    have x5 : w20.cell? ⟨gx, 5, none⟩ = some (.int .i64 tc) := by rw [cell_of_row w20 _ 5 _ _ (0, 0) hX20]; rfl
    have xz5 : w20.frozen? ⟨gx, 5, none⟩ = false := frozen_of_row w20 _ 5 _ _ hX20
    have x6 : w20.cell? ⟨gx, 6, none⟩ = some (.int .i64 td) := by rw [cell_of_row w20 _ 6 _ _ (0, 0) hX20]; rfl
    have xz6 : w20.frozen? ⟨gx, 6, none⟩ = false := frozen_of_row w20 _ 6 _ _ hX20
    have x7 : w20.cell? ⟨gx, 7, none⟩ = some (.string ⟨t6.toArray⟩) := by rw [cell_of_row w20 _ 7 _ _ (0, 0) hX20]; rfl
    have xz7 : w20.frozen? ⟨gx, 7, none⟩ = false := frozen_of_row w20 _ 7 _ _ hX20
    have x8 : w20.cell? ⟨gx, 8, none⟩ = some (.slice av ev.length cv) := by rw [cell_of_row w20 _ 8 _ _ (0, 0) hX20]; rfl
    have xz8 : w20.frozen? ⟨gx, 8, none⟩ = false := frozen_of_row w20 _ 8 _ _ hX20
    go_wp2_with fail
    clear x0 xz0 x1 xz1 x2 xz2 x3 xz3 x4 xz4 x5 xz5 x6 xz6 x7 xz7 x8 xz8
    refine (rreply_any n1' n2' n3' n4' ta tb tc td t6 htb (by omega) _ ev _ hsl hfit).mono ?_
    rintro _ w21 ⟨rfl, bq⟩
    have hsl := hsl.below bq
    have hr21 := hr20.keep bq
    have hQ21 := (bq.block _ (Array.getElem?_eq_some_iff.1 hQ20).1).trans hQ20
    have hb21 := bnext hb20 bq
    have hX21 := (bq.block _ (Array.getElem?_eq_some_iff.1 hX20).1).trans hX20
    clear hr20 hQ20 hb20 hX20
    have sn21 := sn20
    clear sn20
    have HALL := hid (rrp_all HNX.out HXn0'.out HXn1'.out HXn2'.out HXn3'.out HXn4'.out HXt5.out HXt6.out HXt7.out HU.out HT.out HF.out)
    obtain ⟨V, hV⟩ : ∃ V, V = rpV n1' ⟨(n2' : Int), n3', n4', (ta, tb, tc, td), t6, ev⟩ := ⟨_, rfl⟩
    obtain ⟨E, hE⟩ : ∃ E, E = rpE n1' ⟨(n2' : Int), n3', n4', (ta, tb, tc, td), t6, ev⟩ := ⟨_, rfl⟩
    rw [← hV, ← hE] at HALL ⊢
    have HV := hid hV
    have HE := hid hE
    clear hV hE HU HT HF
    by_cases c1 : rest = []
    case neg =>
      have HNO := hid (rrp_rej HALL.out (fun q => c1 q.1))
      have hq1 : (rest == []) = false := by cases rest with | nil => exact absurd rfl c1 | cons _ _ => rfl
      have hq2 : ([] == rest) = false := by cases rest with | nil => exact absurd rfl c1 | cons _ _ => rfl
      have hq3 : ¬ rest.length = 0 := fun h => c1 (List.eq_nil_of_length_eq_zero h)
      clear HALL hsl hfit
      have q0 : w21.cell? ⟨gr, 0, none⟩ = some (.int .i64 0) := by rw [cell_of_row w21 _ 0 _ _ (0, 0) hQ21]; rfl
      have qz0 : w21.frozen? ⟨gr, 0, none⟩ = false := frozen_of_row w21 _ 0 _ _ hQ21
      have q1 : w21.cell? ⟨gr, 1, none⟩ = some (.int .i64 0) := by rw [cell_of_row w21 _ 1 _ _ (0, 0) hQ21]; rfl
      have qz1 : w21.frozen? ⟨gr, 1, none⟩ = false := frozen_of_row w21 _ 1 _ _ hQ21
      have q2 : w21.cell? ⟨gr, 2, none⟩ = some (.int .i64 0) := by rw [cell_of_row w21 _ 2 _ _ (0, 0) hQ21]; rfl
      have qz2 : w21.frozen? ⟨gr, 2, none⟩ = false := frozen_of_row w21 _ 2 _ _ hQ21
      have q3 : w21.cell? ⟨gr, 3, none⟩ = some (.int .i64 0) := by rw [cell_of_row w21 _ 3 _ _ (0, 0) hQ21]; rfl
      have qz3 : w21.frozen? ⟨gr, 3, none⟩ = false := frozen_of_row w21 _ 3 _ _ hQ21
      have q4 : w21.cell? ⟨gr, 4, none⟩ = some (.string ⟨#[]⟩) := by rw [cell_of_row w21 _ 4 _ _ (0, 0) hQ21]; rfl
      have qz4 : w21.frozen? ⟨gr, 4, none⟩ = false := frozen_of_row w21 _ 4 _ _ hQ21
      have q5 : w21.cell? ⟨gr, 5, none⟩ = some (.int .i64 0) := by rw [cell_of_row w21 _ 5 _ _ (0, 0) hQ21]; rfl
      have qz5 : w21.frozen? ⟨gr, 5, none⟩ = false := frozen_of_row w21 _ 5 _ _ hQ21
      have q6 : w21.cell? ⟨gr, 6, none⟩ = some (.int .i64 0) := by rw [cell_of_row w21 _ 6 _ _ (0, 0) hQ21]; rfl
      have qz6 : w21.frozen? ⟨gr, 6, none⟩ = false := frozen_of_row w21 _ 6 _ _ hQ21
      have q7 : w21.cell? ⟨gr, 7, none⟩ = some (.string ⟨#[]⟩) := by rw [cell_of_row w21 _ 7 _ _ (0, 0) hQ21]; rfl
      have qz7 : w21.frozen? ⟨gr, 7, none⟩ = false := frozen_of_row w21 _ 7 _ _ hQ21
      have q8 : w21.cell? ⟨gr, 8, none⟩ = some (.slice none 0 0) := by rw [cell_of_row w21 _ 8 _ _ (0, 0) hQ21]; rfl
      have qz8 : w21.frozen? ⟨gr, 8, none⟩ = false := frozen_of_row w21 _ 8 _ _ hQ21
      go_wp2_with fail
      refine bodyPost_ret (v := .tuple #[.int .i64 0, .agg #[.int .i64 0, .int .i64 0, .int .i64 0, .int .i64 0, .string ⟨#[]⟩, .int .i64 0, .int .i64 0, .string ⟨#[]⟩, .slice none 0 0], .int .i64 60]) ?_ rfl ⟨0, rp0, .slice none 0 0, 60, rfl, Sl.none _ _, (by intro x hx; cases hx), At.below hb21 (((((((((((At.refl gr w21).set 0 _).set 1 _).set 2 _).set 3 _).set 4 _).set 5 _).set 6 _).set 7 _).set 8 _) : At gr w21 (((((((((w21.setCell ⟨gr, 0, none⟩ (.int .i64 0)).setCell ⟨gr, 1, none⟩ (.int .i64 0)).setCell ⟨gr, 2, none⟩ (.int .i64 0)).setCell ⟨gr, 3, none⟩ (.int .i64 0)).setCell ⟨gr, 4, none⟩ (.string ⟨#[]⟩)).setCell ⟨gr, 5, none⟩ (.int .i64 0)).setCell ⟨gr, 6, none⟩ (.int .i64 0)).setCell ⟨gr, 7, none⟩ (.string ⟨#[]⟩)).setCell ⟨gr, 8, none⟩ (.slice none 0 0))) n2, .inr ⟨HERF.out.symm, rfl, rfl, rfl, HNO.out⟩⟩
      rw [results_tct rfl]
      go_simp
    subst c1
    by_cases c2 : n0' = 1
    case neg =>
      have HNO := hid (rrp_rej HALL.out (fun q => c2 q.2.1))
      have hq1 : ¬ (n0' : Int) = 1 := by omega
      clear HALL hsl hfit
      have q0 : w21.cell? ⟨gr, 0, none⟩ = some (.int .i64 0) := by rw [cell_of_row w21 _ 0 _ _ (0, 0) hQ21]; rfl
      have qz0 : w21.frozen? ⟨gr, 0, none⟩ = false := frozen_of_row w21 _ 0 _ _ hQ21
      have q1 : w21.cell? ⟨gr, 1, none⟩ = some (.int .i64 0) := by rw [cell_of_row w21 _ 1 _ _ (0, 0) hQ21]; rfl
      have qz1 : w21.frozen? ⟨gr, 1, none⟩ = false := frozen_of_row w21 _ 1 _ _ hQ21
      have q2 : w21.cell? ⟨gr, 2, none⟩ = some (.int .i64 0) := by rw [cell_of_row w21 _ 2 _ _ (0, 0) hQ21]; rfl
      have qz2 : w21.frozen? ⟨gr, 2, none⟩ = false := frozen_of_row w21 _ 2 _ _ hQ21
      have q3 : w21.cell? ⟨gr, 3, none⟩ = some (.int .i64 0) := by rw [cell_of_row w21 _ 3 _ _ (0, 0) hQ21]; rfl
      have qz3 : w21.frozen? ⟨gr, 3, none⟩ = false := frozen_of_row w21 _ 3 _ _ hQ21
      have q4 : w21.cell? ⟨gr, 4, none⟩ = some (.string ⟨#[]⟩) := by rw [cell_of_row w21 _ 4 _ _ (0, 0) hQ21]; rfl
      have qz4 : w21.frozen? ⟨gr, 4, none⟩ = false := frozen_of_row w21 _ 4 _ _ hQ21
      have q5 : w21.cell? ⟨gr, 5, none⟩ = some (.int .i64 0) := by rw [cell_of_row w21 _ 5 _ _ (0, 0) hQ21]; rfl
      have qz5 : w21.frozen? ⟨gr, 5, none⟩ = false := frozen_of_row w21 _ 5 _ _ hQ21
      have q6 : w21.cell? ⟨gr, 6, none⟩ = some (.int .i64 0) := by rw [cell_of_row w21 _ 6 _ _ (0, 0) hQ21]; rfl
      have qz6 : w21.frozen? ⟨gr, 6, none⟩ = false := frozen_of_row w21 _ 6 _ _ hQ21
      have q7 : w21.cell? ⟨gr, 7, none⟩ = some (.string ⟨#[]⟩) := by rw [cell_of_row w21 _ 7 _ _ (0, 0) hQ21]; rfl
      have qz7 : w21.frozen? ⟨gr, 7, none⟩ = false := frozen_of_row w21 _ 7 _ _ hQ21
      have q8 : w21.cell? ⟨gr, 8, none⟩ = some (.slice none 0 0) := by rw [cell_of_row w21 _ 8 _ _ (0, 0) hQ21]; rfl
      have qz8 : w21.frozen? ⟨gr, 8, none⟩ = false := frozen_of_row w21 _ 8 _ _ hQ21
      go_wp2_with fail
      refine bodyPost_ret (v := .tuple #[.int .i64 0, .agg #[.int .i64 0, .int .i64 0, .int .i64 0, .int .i64 0, .string ⟨#[]⟩, .int .i64 0, .int .i64 0, .string ⟨#[]⟩, .slice none 0 0], .int .i64 60]) ?_ rfl ⟨0, rp0, .slice none 0 0, 60, rfl, Sl.none _ _, (by intro x hx; cases hx), At.below hb21 (((((((((((At.refl gr w21).set 0 _).set 1 _).set 2 _).set 3 _).set 4 _).set 5 _).set 6 _).set 7 _).set 8 _) : At gr w21 (((((((((w21.setCell ⟨gr, 0, none⟩ (.int .i64 0)).setCell ⟨gr, 1, none⟩ (.int .i64 0)).setCell ⟨gr, 2, none⟩ (.int .i64 0)).setCell ⟨gr, 3, none⟩ (.int .i64 0)).setCell ⟨gr, 4, none⟩ (.string ⟨#[]⟩)).setCell ⟨gr, 5, none⟩ (.int .i64 0)).setCell ⟨gr, 6, none⟩ (.int .i64 0)).setCell ⟨gr, 7, none⟩ (.string ⟨#[]⟩)).setCell ⟨gr, 8, none⟩ (.slice none 0 0))) n2, .inr ⟨HERF.out.symm, rfl, rfl, rfl, HNO.out⟩⟩
      rw [results_tct rfl]
      go_simp
    subst c2
    by_cases c3 : F = 0
    case neg =>
      have HNO := hid (rrp_rej HALL.out (fun q => c3 q.2.2.1))
      clear HALL hsl hfit
      have q0 : w21.cell? ⟨gr, 0, none⟩ = some (.int .i64 0) := by rw [cell_of_row w21 _ 0 _ _ (0, 0) hQ21]; rfl
      have qz0 : w21.frozen? ⟨gr, 0, none⟩ = false := frozen_of_row w21 _ 0 _ _ hQ21
      have q1 : w21.cell? ⟨gr, 1, none⟩ = some (.int .i64 0) := by rw [cell_of_row w21 _ 1 _ _ (0, 0) hQ21]; rfl
      have qz1 : w21.frozen? ⟨gr, 1, none⟩ = false := frozen_of_row w21 _ 1 _ _ hQ21
      have q2 : w21.cell? ⟨gr, 2, none⟩ = some (.int .i64 0) := by rw [cell_of_row w21 _ 2 _ _ (0, 0) hQ21]; rfl
      have qz2 : w21.frozen? ⟨gr, 2, none⟩ = false := frozen_of_row w21 _ 2 _ _ hQ21
      have q3 : w21.cell? ⟨gr, 3, none⟩ = some (.int .i64 0) := by rw [cell_of_row w21 _ 3 _ _ (0, 0) hQ21]; rfl
      have qz3 : w21.frozen? ⟨gr, 3, none⟩ = false := frozen_of_row w21 _ 3 _ _ hQ21
      have q4 : w21.cell? ⟨gr, 4, none⟩ = some (.string ⟨#[]⟩) := by rw [cell_of_row w21 _ 4 _ _ (0, 0) hQ21]; rfl
      have qz4 : w21.frozen? ⟨gr, 4, none⟩ = false := frozen_of_row w21 _ 4 _ _ hQ21
      have q5 : w21.cell? ⟨gr, 5, none⟩ = some (.int .i64 0) := by rw [cell_of_row w21 _ 5 _ _ (0, 0) hQ21]; rfl
      have qz5 : w21.frozen? ⟨gr, 5, none⟩ = false := frozen_of_row w21 _ 5 _ _ hQ21
      have q6 : w21.cell? ⟨gr, 6, none⟩ = some (.int .i64 0) := by rw [cell_of_row w21 _ 6 _ _ (0, 0) hQ21]; rfl
      have qz6 : w21.frozen? ⟨gr, 6, none⟩ = false := frozen_of_row w21 _ 6 _ _ hQ21
      have q7 : w21.cell? ⟨gr, 7, none⟩ = some (.string ⟨#[]⟩) := by rw [cell_of_row w21 _ 7 _ _ (0, 0) hQ21]; rfl
      have qz7 : w21.frozen? ⟨gr, 7, none⟩ = false := frozen_of_row w21 _ 7 _ _ hQ21
      have q8 : w21.cell? ⟨gr, 8, none⟩ = some (.slice none 0 0) := by rw [cell_of_row w21 _ 8 _ _ (0, 0) hQ21]; rfl
      have qz8 : w21.frozen? ⟨gr, 8, none⟩ = false := frozen_of_row w21 _ 8 _ _ hQ21
      go_wp2_with fail
      refine bodyPost_ret (v := .tuple #[.int .i64 0, .agg #[.int .i64 0, .int .i64 0, .int .i64 0, .int .i64 0, .string ⟨#[]⟩, .int .i64 0, .int .i64 0, .string ⟨#[]⟩, .slice none 0 0], .int .i64 60]) ?_ rfl ⟨0, rp0, .slice none 0 0, 60, rfl, Sl.none _ _, (by intro x hx; cases hx), At.below hb21 (((((((((((At.refl gr w21).set 0 _).set 1 _).set 2 _).set 3 _).set 4 _).set 5 _).set 6 _).set 7 _).set 8 _) : At gr w21 (((((((((w21.setCell ⟨gr, 0, none⟩ (.int .i64 0)).setCell ⟨gr, 1, none⟩ (.int .i64 0)).setCell ⟨gr, 2, none⟩ (.int .i64 0)).setCell ⟨gr, 3, none⟩ (.int .i64 0)).setCell ⟨gr, 4, none⟩ (.string ⟨#[]⟩)).setCell ⟨gr, 5, none⟩ (.int .i64 0)).setCell ⟨gr, 6, none⟩ (.int .i64 0)).setCell ⟨gr, 7, none⟩ (.string ⟨#[]⟩)).setCell ⟨gr, 8, none⟩ (.slice none 0 0))) n2, .inr ⟨HERF.out.symm, rfl, rfl, rfl, HNO.out⟩⟩
      rw [results_tct rfl]
      go_simp
    subst c3
    go_wp2_with fail
    refine (rend_any g r7 e7 w21 hr21).mono ?_
    rintro _ w99 ⟨rfl, hw9⟩
    rw [hw9]
    clear hw9 w99
    by_cases c4 : endF r7 e7 = true
    case neg =>
      have HNO := hid (rrp_rej HALL.out (fun q => c4 q.2.2.2.1))
      have c4' : endF r7 e7 = false := by simpa using c4
      rw [c4']
      clear HALL hsl hfit
      have q0 : w21.cell? ⟨gr, 0, none⟩ = some (.int .i64 0) := by rw [cell_of_row w21 _ 0 _ _ (0, 0) hQ21]; rfl
      have qz0 : w21.frozen? ⟨gr, 0, none⟩ = false := frozen_of_row w21 _ 0 _ _ hQ21
      have q1 : w21.cell? ⟨gr, 1, none⟩ = some (.int .i64 0) := by rw [cell_of_row w21 _ 1 _ _ (0, 0) hQ21]; rfl
      have qz1 : w21.frozen? ⟨gr, 1, none⟩ = false := frozen_of_row w21 _ 1 _ _ hQ21
      have q2 : w21.cell? ⟨gr, 2, none⟩ = some (.int .i64 0) := by rw [cell_of_row w21 _ 2 _ _ (0, 0) hQ21]; rfl
      have qz2 : w21.frozen? ⟨gr, 2, none⟩ = false := frozen_of_row w21 _ 2 _ _ hQ21
      have q3 : w21.cell? ⟨gr, 3, none⟩ = some (.int .i64 0) := by rw [cell_of_row w21 _ 3 _ _ (0, 0) hQ21]; rfl
      have qz3 : w21.frozen? ⟨gr, 3, none⟩ = false := frozen_of_row w21 _ 3 _ _ hQ21
      have q4 : w21.cell? ⟨gr, 4, none⟩ = some (.string ⟨#[]⟩) := by rw [cell_of_row w21 _ 4 _ _ (0, 0) hQ21]; rfl
      have qz4 : w21.frozen? ⟨gr, 4, none⟩ = false := frozen_of_row w21 _ 4 _ _ hQ21
      have q5 : w21.cell? ⟨gr, 5, none⟩ = some (.int .i64 0) := by rw [cell_of_row w21 _ 5 _ _ (0, 0) hQ21]; rfl
      have qz5 : w21.frozen? ⟨gr, 5, none⟩ = false := frozen_of_row w21 _ 5 _ _ hQ21
      have q6 : w21.cell? ⟨gr, 6, none⟩ = some (.int .i64 0) := by rw [cell_of_row w21 _ 6 _ _ (0, 0) hQ21]; rfl
      have qz6 : w21.frozen? ⟨gr, 6, none⟩ = false := frozen_of_row w21 _ 6 _ _ hQ21
      have q7 : w21.cell? ⟨gr, 7, none⟩ = some (.string ⟨#[]⟩) := by rw [cell_of_row w21 _ 7 _ _ (0, 0) hQ21]; rfl
      have qz7 : w21.frozen? ⟨gr, 7, none⟩ = false := frozen_of_row w21 _ 7 _ _ hQ21
      have q8 : w21.cell? ⟨gr, 8, none⟩ = some (.slice none 0 0) := by rw [cell_of_row w21 _ 8 _ _ (0, 0) hQ21]; rfl
      have qz8 : w21.frozen? ⟨gr, 8, none⟩ = false := frozen_of_row w21 _ 8 _ _ hQ21
      go_wp2_with fail
      refine bodyPost_ret (v := .tuple #[.int .i64 0, .agg #[.int .i64 0, .int .i64 0, .int .i64 0, .int .i64 0, .string ⟨#[]⟩, .int .i64 0, .int .i64 0, .string ⟨#[]⟩, .slice none 0 0], .int .i64 60]) ?_ rfl ⟨0, rp0, .slice none 0 0, 60, rfl, Sl.none _ _, (by intro x hx; cases hx), At.below hb21 (((((((((((At.refl gr w21).set 0 _).set 1 _).set 2 _).set 3 _).set 4 _).set 5 _).set 6 _).set 7 _).set 8 _) : At gr w21 (((((((((w21.setCell ⟨gr, 0, none⟩ (.int .i64 0)).setCell ⟨gr, 1, none⟩ (.int .i64 0)).setCell ⟨gr, 2, none⟩ (.int .i64 0)).setCell ⟨gr, 3, none⟩ (.int .i64 0)).setCell ⟨gr, 4, none⟩ (.string ⟨#[]⟩)).setCell ⟨gr, 5, none⟩ (.int .i64 0)).setCell ⟨gr, 6, none⟩ (.int .i64 0)).setCell ⟨gr, 7, none⟩ (.string ⟨#[]⟩)).setCell ⟨gr, 8, none⟩ (.slice none 0 0))) n2, .inr ⟨HERF.out.symm, rfl, rfl, rfl, HNO.out⟩⟩
      rw [results_tct rfl]
      go_simp
    rw [c4]
    by_cases c5 : E = 0
    case neg =>
      have HNO := hid (rrp_rej HALL.out (fun q => c5 q.2.2.2.2.1))
      clear HALL hsl hfit
      have q0 : w21.cell? ⟨gr, 0, none⟩ = some (.int .i64 0) := by rw [cell_of_row w21 _ 0 _ _ (0, 0) hQ21]; rfl
      have qz0 : w21.frozen? ⟨gr, 0, none⟩ = false := frozen_of_row w21 _ 0 _ _ hQ21
      have q1 : w21.cell? ⟨gr, 1, none⟩ = some (.int .i64 0) := by rw [cell_of_row w21 _ 1 _ _ (0, 0) hQ21]; rfl
      have qz1 : w21.frozen? ⟨gr, 1, none⟩ = false := frozen_of_row w21 _ 1 _ _ hQ21
      have q2 : w21.cell? ⟨gr, 2, none⟩ = some (.int .i64 0) := by rw [cell_of_row w21 _ 2 _ _ (0, 0) hQ21]; rfl
      have qz2 : w21.frozen? ⟨gr, 2, none⟩ = false := frozen_of_row w21 _ 2 _ _ hQ21
      have q3 : w21.cell? ⟨gr, 3, none⟩ = some (.int .i64 0) := by rw [cell_of_row w21 _ 3 _ _ (0, 0) hQ21]; rfl
      have qz3 : w21.frozen? ⟨gr, 3, none⟩ = false := frozen_of_row w21 _ 3 _ _ hQ21
      have q4 : w21.cell? ⟨gr, 4, none⟩ = some (.string ⟨#[]⟩) := by rw [cell_of_row w21 _ 4 _ _ (0, 0) hQ21]; rfl
      have qz4 : w21.frozen? ⟨gr, 4, none⟩ = false := frozen_of_row w21 _ 4 _ _ hQ21
      have q5 : w21.cell? ⟨gr, 5, none⟩ = some (.int .i64 0) := by rw [cell_of_row w21 _ 5 _ _ (0, 0) hQ21]; rfl
      have qz5 : w21.frozen? ⟨gr, 5, none⟩ = false := frozen_of_row w21 _ 5 _ _ hQ21
      have q6 : w21.cell? ⟨gr, 6, none⟩ = some (.int .i64 0) := by rw [cell_of_row w21 _ 6 _ _ (0, 0) hQ21]; rfl
      have qz6 : w21.frozen? ⟨gr, 6, none⟩ = false := frozen_of_row w21 _ 6 _ _ hQ21
      have q7 : w21.cell? ⟨gr, 7, none⟩ = some (.string ⟨#[]⟩) := by rw [cell_of_row w21 _ 7 _ _ (0, 0) hQ21]; rfl
      have qz7 : w21.frozen? ⟨gr, 7, none⟩ = false := frozen_of_row w21 _ 7 _ _ hQ21
      have q8 : w21.cell? ⟨gr, 8, none⟩ = some (.slice none 0 0) := by rw [cell_of_row w21 _ 8 _ _ (0, 0) hQ21]; rfl
      have qz8 : w21.frozen? ⟨gr, 8, none⟩ = false := frozen_of_row w21 _ 8 _ _ hQ21
      go_wp2_with fail
      refine bodyPost_ret (v := .tuple #[.int .i64 0, .agg #[.int .i64 0, .int .i64 0, .int .i64 0, .int .i64 0, .string ⟨#[]⟩, .int .i64 0, .int .i64 0, .string ⟨#[]⟩, .slice none 0 0], .int .i64 60]) ?_ rfl ⟨0, rp0, .slice none 0 0, 60, rfl, Sl.none _ _, (by intro x hx; cases hx), At.below hb21 (((((((((((At.refl gr w21).set 0 _).set 1 _).set 2 _).set 3 _).set 4 _).set 5 _).set 6 _).set 7 _).set 8 _) : At gr w21 (((((((((w21.setCell ⟨gr, 0, none⟩ (.int .i64 0)).setCell ⟨gr, 1, none⟩ (.int .i64 0)).setCell ⟨gr, 2, none⟩ (.int .i64 0)).setCell ⟨gr, 3, none⟩ (.int .i64 0)).setCell ⟨gr, 4, none⟩ (.string ⟨#[]⟩)).setCell ⟨gr, 5, none⟩ (.int .i64 0)).setCell ⟨gr, 6, none⟩ (.int .i64 0)).setCell ⟨gr, 7, none⟩ (.string ⟨#[]⟩)).setCell ⟨gr, 8, none⟩ (.slice none 0 0))) n2, .inr ⟨HERF.out.symm, rfl, rfl, rfl, HNO.out⟩⟩
      rw [results_tct rfl]
      go_simp
    by_cases c6 : V = l
    case neg =>
      have HNO := hid (rrp_rej HALL.out (fun q => c6 q.2.2.2.2.2))
      have hq1 : (V == l) = false := by simpa using c6
      clear HALL hsl hfit
      have q0 : w21.cell? ⟨gr, 0, none⟩ = some (.int .i64 0) := by rw [cell_of_row w21 _ 0 _ _ (0, 0) hQ21]; rfl
      have qz0 : w21.frozen? ⟨gr, 0, none⟩ = false := frozen_of_row w21 _ 0 _ _ hQ21
      have q1 : w21.cell? ⟨gr, 1, none⟩ = some (.int .i64 0) := by rw [cell_of_row w21 _ 1 _ _ (0, 0) hQ21]; rfl
      have qz1 : w21.frozen? ⟨gr, 1, none⟩ = false := frozen_of_row w21 _ 1 _ _ hQ21
      have q2 : w21.cell? ⟨gr, 2, none⟩ = some (.int .i64 0) := by rw [cell_of_row w21 _ 2 _ _ (0, 0) hQ21]; rfl
      have qz2 : w21.frozen? ⟨gr, 2, none⟩ = false := frozen_of_row w21 _ 2 _ _ hQ21
      have q3 : w21.cell? ⟨gr, 3, none⟩ = some (.int .i64 0) := by rw [cell_of_row w21 _ 3 _ _ (0, 0) hQ21]; rfl
      have qz3 : w21.frozen? ⟨gr, 3, none⟩ = false := frozen_of_row w21 _ 3 _ _ hQ21
      have q4 : w21.cell? ⟨gr, 4, none⟩ = some (.string ⟨#[]⟩) := by rw [cell_of_row w21 _ 4 _ _ (0, 0) hQ21]; rfl
      have qz4 : w21.frozen? ⟨gr, 4, none⟩ = false := frozen_of_row w21 _ 4 _ _ hQ21
      have q5 : w21.cell? ⟨gr, 5, none⟩ = some (.int .i64 0) := by rw [cell_of_row w21 _ 5 _ _ (0, 0) hQ21]; rfl
      have qz5 : w21.frozen? ⟨gr, 5, none⟩ = false := frozen_of_row w21 _ 5 _ _ hQ21
      have q6 : w21.cell? ⟨gr, 6, none⟩ = some (.int .i64 0) := by rw [cell_of_row w21 _ 6 _ _ (0, 0) hQ21]; rfl
      have qz6 : w21.frozen? ⟨gr, 6, none⟩ = false := frozen_of_row w21 _ 6 _ _ hQ21
      have q7 : w21.cell? ⟨gr, 7, none⟩ = some (.string ⟨#[]⟩) := by rw [cell_of_row w21 _ 7 _ _ (0, 0) hQ21]; rfl
      have qz7 : w21.frozen? ⟨gr, 7, none⟩ = false := frozen_of_row w21 _ 7 _ _ hQ21
      have q8 : w21.cell? ⟨gr, 8, none⟩ = some (.slice none 0 0) := by rw [cell_of_row w21 _ 8 _ _ (0, 0) hQ21]; rfl
      have qz8 : w21.frozen? ⟨gr, 8, none⟩ = false := frozen_of_row w21 _ 8 _ _ hQ21
      go_wp2_with fail
      refine bodyPost_ret (v := .tuple #[.int .i64 0, .agg #[.int .i64 0, .int .i64 0, .int .i64 0, .int .i64 0, .string ⟨#[]⟩, .int .i64 0, .int .i64 0, .string ⟨#[]⟩, .slice none 0 0], .int .i64 60]) ?_ rfl ⟨0, rp0, .slice none 0 0, 60, rfl, Sl.none _ _, (by intro x hx; cases hx), At.below hb21 (((((((((((At.refl gr w21).set 0 _).set 1 _).set 2 _).set 3 _).set 4 _).set 5 _).set 6 _).set 7 _).set 8 _) : At gr w21 (((((((((w21.setCell ⟨gr, 0, none⟩ (.int .i64 0)).setCell ⟨gr, 1, none⟩ (.int .i64 0)).setCell ⟨gr, 2, none⟩ (.int .i64 0)).setCell ⟨gr, 3, none⟩ (.int .i64 0)).setCell ⟨gr, 4, none⟩ (.string ⟨#[]⟩)).setCell ⟨gr, 5, none⟩ (.int .i64 0)).setCell ⟨gr, 6, none⟩ (.int .i64 0)).setCell ⟨gr, 7, none⟩ (.string ⟨#[]⟩)).setCell ⟨gr, 8, none⟩ (.slice none 0 0))) n2, .inr ⟨HERF.out.symm, rfl, rfl, rfl, HNO.out⟩⟩
      rw [results_tct rfl]
      go_simp
    have HACC := hid (rrp_acc (HE.out.symm.trans c5) (HV.out.symm.trans c6))
    have hsl9 := (hsl.at (((((((((((At.refl gr w21).set 0 _).set 1 _).set 2 _).set 3 _).set 4 _).set 5 _).set 6 _).set 7 _).set 8 _) : At gr w21 (((((((((w21.setCell ⟨gr, 0, none⟩ (.int .i64 (n2' : Int))).setCell ⟨gr, 1, none⟩ (.int .i64 (n3' : Int))).setCell ⟨gr, 2, none⟩ (.int .i64 (n4' : Int))).setCell ⟨gr, 3, none⟩ (.int .i64 ta)).setCell ⟨gr, 4, none⟩ (.string ⟨tb.toArray⟩)).setCell ⟨gr, 5, none⟩ (.int .i64 tc)).setCell ⟨gr, 6, none⟩ (.int .i64 td)).setCell ⟨gr, 7, none⟩ (.string ⟨t6.toArray⟩)).setCell ⟨gr, 8, none⟩ (.slice av ev.length cv))) (events_apart hQ21)).below (below_drewN _ _ 1)
    have hbf := below_to_drew (At.below hb21 (((((((((((At.refl gr w21).set 0 _).set 1 _).set 2 _).set 3 _).set 4 _).set 5 _).set 6 _).set 7 _).set 8 _) : At gr w21 (((((((((w21.setCell ⟨gr, 0, none⟩ (.int .i64 (n2' : Int))).setCell ⟨gr, 1, none⟩ (.int .i64 (n3' : Int))).setCell ⟨gr, 2, none⟩ (.int .i64 (n4' : Int))).setCell ⟨gr, 3, none⟩ (.int .i64 ta)).setCell ⟨gr, 4, none⟩ (.string ⟨tb.toArray⟩)).setCell ⟨gr, 5, none⟩ (.int .i64 tc)).setCell ⟨gr, 6, none⟩ (.int .i64 td)).setCell ⟨gr, 7, none⟩ (.string ⟨t6.toArray⟩)).setCell ⟨gr, 8, none⟩ (.slice av ev.length cv))) n2)
    clear hsl HALL
    subst c6
    have x0 : w21.cell? ⟨gx, 0, none⟩ = some (.int .i64 (n2' : Int)) := by rw [cell_of_row w21 _ 0 _ _ (0, 0) hX21]; rfl
    have xz0 : w21.frozen? ⟨gx, 0, none⟩ = false := frozen_of_row w21 _ 0 _ _ hX21
    have x1 : w21.cell? ⟨gx, 1, none⟩ = some (.int .i64 (n3' : Int)) := by rw [cell_of_row w21 _ 1 _ _ (0, 0) hX21]; rfl
    have xz1 : w21.frozen? ⟨gx, 1, none⟩ = false := frozen_of_row w21 _ 1 _ _ hX21
    have x2 : w21.cell? ⟨gx, 2, none⟩ = some (.int .i64 (n4' : Int)) := by rw [cell_of_row w21 _ 2 _ _ (0, 0) hX21]; rfl
    have xz2 : w21.frozen? ⟨gx, 2, none⟩ = false := frozen_of_row w21 _ 2 _ _ hX21
    have x3 : w21.cell? ⟨gx, 3, none⟩ = some (.int .i64 ta) := by rw [cell_of_row w21 _ 3 _ _ (0, 0) hX21]; rfl
    have xz3 : w21.frozen? ⟨gx, 3, none⟩ = false := frozen_of_row w21 _ 3 _ _ hX21
    have x4 : w21.cell? ⟨gx, 4, none⟩ = some (.string ⟨tb.toArray⟩) := by rw [cell_of_row w21 _ 4 _ _ (0, 0) hX21]; rfl
    have xz4 : w21.frozen? ⟨gx, 4, none⟩ = false := frozen_of_row w21 _ 4 _ _ hX21
    have x5 : w21.cell? ⟨gx, 5, none⟩ = some (.int .i64 tc) := by rw [cell_of_row w21 _ 5 _ _ (0, 0) hX21]; rfl
    have xz5 : w21.frozen? ⟨gx, 5, none⟩ = false := frozen_of_row w21 _ 5 _ _ hX21
    have x6 : w21.cell? ⟨gx, 6, none⟩ = some (.int .i64 td) := by rw [cell_of_row w21 _ 6 _ _ (0, 0) hX21]; rfl
    have xz6 : w21.frozen? ⟨gx, 6, none⟩ = false := frozen_of_row w21 _ 6 _ _ hX21
    have x7 : w21.cell? ⟨gx, 7, none⟩ = some (.string ⟨t6.toArray⟩) := by rw [cell_of_row w21 _ 7 _ _ (0, 0) hX21]; rfl
    have xz7 : w21.frozen? ⟨gx, 7, none⟩ = false := frozen_of_row w21 _ 7 _ _ hX21
    have x8 : w21.cell? ⟨gx, 8, none⟩ = some (.slice av ev.length cv) := by rw [cell_of_row w21 _ 8 _ _ (0, 0) hX21]; rfl
    have xz8 : w21.frozen? ⟨gx, 8, none⟩ = false := frozen_of_row w21 _ 8 _ _ hX21
    have q0 : w21.cell? ⟨gr, 0, none⟩ = some (.int .i64 0) := by rw [cell_of_row w21 _ 0 _ _ (0, 0) hQ21]; rfl
    have qz0 : w21.frozen? ⟨gr, 0, none⟩ = false := frozen_of_row w21 _ 0 _ _ hQ21
    have q1 : w21.cell? ⟨gr, 1, none⟩ = some (.int .i64 0) := by rw [cell_of_row w21 _ 1 _ _ (0, 0) hQ21]; rfl
    have qz1 : w21.frozen? ⟨gr, 1, none⟩ = false := frozen_of_row w21 _ 1 _ _ hQ21
    have q2 : w21.cell? ⟨gr, 2, none⟩ = some (.int .i64 0) := by rw [cell_of_row w21 _ 2 _ _ (0, 0) hQ21]; rfl
    have qz2 : w21.frozen? ⟨gr, 2, none⟩ = false := frozen_of_row w21 _ 2 _ _ hQ21
    have q3 : w21.cell? ⟨gr, 3, none⟩ = some (.int .i64 0) := by rw [cell_of_row w21 _ 3 _ _ (0, 0) hQ21]; rfl
    have qz3 : w21.frozen? ⟨gr, 3, none⟩ = false := frozen_of_row w21 _ 3 _ _ hQ21
    have q4 : w21.cell? ⟨gr, 4, none⟩ = some (.string ⟨#[]⟩) := by rw [cell_of_row w21 _ 4 _ _ (0, 0) hQ21]; rfl
    have qz4 : w21.frozen? ⟨gr, 4, none⟩ = false := frozen_of_row w21 _ 4 _ _ hQ21
    have q5 : w21.cell? ⟨gr, 5, none⟩ = some (.int .i64 0) := by rw [cell_of_row w21 _ 5 _ _ (0, 0) hQ21]; rfl
    have qz5 : w21.frozen? ⟨gr, 5, none⟩ = false := frozen_of_row w21 _ 5 _ _ hQ21
    have q6 : w21.cell? ⟨gr, 6, none⟩ = some (.int .i64 0) := by rw [cell_of_row w21 _ 6 _ _ (0, 0) hQ21]; rfl
    have qz6 : w21.frozen? ⟨gr, 6, none⟩ = false := frozen_of_row w21 _ 6 _ _ hQ21
    have q7 : w21.cell? ⟨gr, 7, none⟩ = some (.string ⟨#[]⟩) := by rw [cell_of_row w21 _ 7 _ _ (0, 0) hQ21]; rfl
    have qz7 : w21.frozen? ⟨gr, 7, none⟩ = false := frozen_of_row w21 _ 7 _ _ hQ21
    have q8 : w21.cell? ⟨gr, 8, none⟩ = some (.slice none 0 0) := by rw [cell_of_row w21 _ 8 _ _ (0, 0) hQ21]; rfl
    have qz8 : w21.frozen? ⟨gr, 8, none⟩ = false := frozen_of_row w21 _ 8 _ _ hQ21
    go_wp2_with fail
    go_region
    go_wp2_with fail
    refine bodyPost_ret (v := .tuple #[.int .i64 n1', .agg #[.int .i64 (n2' : Int), .int .i64 (n3' : Int), .int .i64 (n4' : Int), .int .i64 ta, .string ⟨tb.toArray⟩, .int .i64 tc, .int .i64 td, .string ⟨t6.toArray⟩, .slice av ev.length cv], .int .i64 0]) ?_ rfl ⟨n1', ⟨(n2' : Int), n3', n4', (ta, tb, tc, td), t6, ev⟩, .slice av ev.length cv, 0, rfl, hsl9, hfit, hbf, .inl ⟨rfl, HACC.out.1, HACC.out.2⟩⟩
    rw [results_tct rfl]
    go_simp
end Go.Proofs.Ytelacmchofehcaa
namespace Go.Proofs.Ytelacmchofehcaa
open Go.RowKit
set_option linter.unusedVariables false
set_option linter.unusedSimpArgs false

structure RRqSt (w0 wL w : World) (g gr gx : Nat) (Z X : Array Value) (t : TypeId) (r : List UInt8) (b : Bool) : Prop where
  hr : RRdr w g r b
  sn : Sane r b
  hQ : w.heap[gr]? = some (.cells Z t (0, 0))
  hX : w.heap[gx]? = some (.cells X t (0, 0))
  hb : Below w0.heap.size w0 w
  len : r.length ≤ 140737488355328
  hk : ∀ j, j < wL.heap.size → j ≠ g → j ≠ gx → w.heap[j]? = wL.heap[j]?
  hsz : wL.heap.size ≤ w.heap.size
section
variable {w0 wL w w' : World} {g gr gx : Nat} {Z X : Array Value} {t : TypeId} {r r' : List UInt8} {b b' : Bool}
theorem RRqSt.cell (h : RRqSt w0 wL w g gr gx Z X t r b) {j : Nat} {v : Value} (hv : X[j]? = some v) : w.cell? ⟨gx, j, none⟩ = some v := by rw [row_cell h.hX]; exact hv
theorem RRqSt.frozen (h : RRqSt w0 wL w g gr gx Z X t r b) (j : Nat) : w.frozen? ⟨gx, j, none⟩ = false := frozen_of_row w _ j _ _ h.hX
theorem RRqSt.rd (h : RRqSt w0 wL w g gr gx Z X t r b) (hr' : RRdr w' g r' b') (sn' : Sane r' b') (a : At g w w') (hl : r'.length ≤ r.length) (n1 : gr ≠ g) (nx : gx ≠ g) (n3 : w0.heap.size ≤ g) : RRqSt w0 wL w' g gr gx Z X t r' b' :=
  ⟨hr', sn', (a.block gr (Array.getElem?_eq_some_iff.1 h.hQ).1 (by simpa using n1)).trans h.hQ, (a.block gx (Array.getElem?_eq_some_iff.1 h.hX).1 (by simpa using nx)).trans h.hX, At.below h.hb a n3, Nat.le_trans hl h.len,
    fun j hj j1 j2 => (a.block j (Nat.lt_of_lt_of_le hj h.hsz) (by simpa using j1)).trans (h.hk j hj j1 j2), Nat.le_trans h.hsz a.size⟩
theorem RRqSt.other (h : RRqSt w0 wL w g gr gx Z X t r b) {k : Nat} (a : At k w w') (hk : wL.heap.size ≤ k) (hg' : g < wL.heap.size) (hgr : gr < wL.heap.size) (hgx : gx < wL.heap.size) (h0 : w0.heap.size ≤ wL.heap.size) : RRqSt w0 wL w' g gr gx Z X t r b := by
  have hl : ∀ j, j < wL.heap.size → w'.heap[j]? = w.heap[j]? := fun j hj => a.block j (Nat.lt_of_lt_of_le hj h.hsz) (by simp; omega)
  exact ⟨(hl g hg').trans h.hr, h.sn, (hl gr hgr).trans h.hQ, (hl gx hgx).trans h.hX, At.below h.hb a (by omega), h.len, fun j hj j1 j2 => (hl j hj).trans (h.hk j hj j1 j2), Nat.le_trans h.hsz a.size⟩
theorem RRqSt.below (h : RRqSt w0 wL w g gr gx Z X t r b) (k : Below w.heap.size w w') : RRqSt w0 wL w' g gr gx Z X t r b :=
  ⟨h.hr.keep k, h.sn, (k.block _ (Array.getElem?_eq_some_iff.1 h.hQ).1).trans h.hQ, (k.block _ (Array.getElem?_eq_some_iff.1 h.hX).1).trans h.hX, bnext h.hb k, h.len,
    fun j hj j1 j2 => (k.block j (Nat.lt_of_lt_of_le hj h.hsz)).trans (h.hk j hj j1 j2), Nat.le_trans h.hsz k.size⟩
theorem RRqSt.grown (h : RRqSt w0 wL w g gr gx Z X t r b) {e : TypeId} {k n : Nat} {u : Value} {xs : List Value} (ho : w.ownsRow wL.heap.size e k u n xs) (hg : w.grownBy w' u.ownBlock) (hg' : g < wL.heap.size) (hgr : gr < wL.heap.size) (hgx : gx < wL.heap.size) (h0 : w0.heap.size ≤ wL.heap.size) : RRqSt w0 wL w' g gr gx Z X t r b := by
  have hl : ∀ j, j < wL.heap.size → w'.heap[j]? = w.heap[j]? := fun j hj => hg.block j (Nat.lt_of_lt_of_le hj h.hsz) (by
    cases hv : u.ownBlock with
    | none => simp
    | some q => have := (ho.lt q hv).1; simp; omega)
  exact ⟨(hl g hg').trans h.hr, h.sn, (hl gr hgr).trans h.hQ, (hl gx hgx).trans h.hX, below_grown h.hb ho hg h0, h.len, fun j hj j1 j2 => (hl j hj).trans (h.hk j hj j1 j2), Nat.le_trans h.hsz hg.size⟩
theorem RRqSt.store (h : RRqSt w0 wL w g gr gx Z X t r b) (j : Nat) (v : Value) (n1 : g ≠ gx) (nq : gr ≠ gx) (n4 : w0.heap.size ≤ gx) : RRqSt w0 wL (w.setCell ⟨gx, j, none⟩ v) g gr gx Z (X.setIfInBounds j v) t r b := by
  have a := (At.refl gx w).set j v
  exact ⟨h.hr.grown a n1, h.sn, (a.block gr (Array.getElem?_eq_some_iff.1 h.hQ).1 (by simpa using nq)).trans h.hQ, heap_setCell_same w gx j _ _ v h.hX, At.below h.hb a n4, h.len,
    fun i hi j1 j2 => (a.block i (Nat.lt_of_lt_of_le hi h.hsz) (by simpa using j2)).trans (h.hk i hi j1 j2), Nat.le_trans h.hsz a.size⟩
theorem RRqSt.sl (h : RRqSt w0 wL w g gr gx Z X t r b) {v : Value} {k n : Nat} {cells : List Value} (hs : Sl wL v k n cells) (h1 : n ≠ 0 → ∀ off, ¬ (∀ j (_ : j < cells.length), wL.cell? ⟨g, off + j, none⟩ = some cells[j])) (h2 : n ≠ 0 → ∀ off, ¬ (∀ j (_ : j < cells.length), wL.cell? ⟨gx, off + j, none⟩ = some cells[j])) : Sl w v k n cells := by
  obtain ⟨g1, g2, ad, cap, g3, g4⟩ := hs
  refine ⟨g1, g2, ad, cap, g3, ?_⟩
  by_cases hn : n = 0
  · exact .inl hn
  · obtain ⟨q, off, rfl, hlt, hc⟩ := g4.resolve_left hn
    refine .inr ⟨q, off, rfl, Nat.lt_of_lt_of_le hlt h.hsz, fun j hj => ?_⟩
    have e1 : q ≠ g := by rintro rfl; exact h1 hn off hc
    have e2 : q ≠ gx := by rintro rfl; exact h2 hn off hc
    rw [← hc j hj]
    exact World.cell?_of_block (w := wL) (h.hk q hlt e1 e2)
end
theorem rrdr_apart {w : World} {g : Nat} {l : List St} {r : List UInt8} {b : Bool} (h : RRdr w g r b) :
    l.length ≠ 0 → ∀ off, ¬ (∀ j (_ : j < (l.flatMap stC).length), w.cell? ⟨g, off + j, none⟩ = some (l.flatMap stC)[j]) := by
  intro hn off hall
  cases l with
  | nil => exact hn rfl
  | cons x r =>
    have hl : 6 ≤ ((x :: r : List St).flatMap stC).length := by rw [List.flatMap_cons, List.length_append]; simp [stC]
    have h5 := hall 5 (by omega)
    rw [row_cell h] at h5
    have : off + 5 < 2 := (Array.getElem?_eq_some_iff.1 h5).1
    omega
theorem manyG_step' {c1 c2 : Int} {n k : Nat} {s0 s : RS} {cs : List Cm} (h : manyG (cmG c1 c2) n s0 = (cs ++ (manyG (cmG c1 c2) (n - k) s).1, (manyG (cmG c1 c2) (n - k) s).2)) (hk : k < n) :
    manyG (cmG c1 c2) n s0 = ((cs ++ [(cmG c1 c2 s).1]) ++ (manyG (cmG c1 c2) (n - (k + 1)) (cmG c1 c2 s).2).1, (manyG (cmG c1 c2) (n - (k + 1)) (cmG c1 c2 s).2).2) := by
  rw [h, show n - k = (n - (k + 1)) + 1 by omega]
  simp only [manyG, List.append_assoc, List.cons_append, List.nil_append]
theorem cmG_eq {m1 m2 : Int} {r ra rb rc : List UInt8} {b ba bb bc : Bool} {c0 c1 c2 : Nat} (h0 : intF r b m1 = (c0, ra, ba)) (h1 : intF ra ba m2 = (c1, rb, bb)) (h2 : intF rb bb 1 = (c2, rc, bc)) : cmG m1 m2 (r, b) = (((c0 : Int), (c1 : Int), ((c2 : Int) == 1)), rc, bc) := by
  simp only [cmG, rdI, h0, h1, h2]
  rfl
/-- what the reference's Requested knows of the program -/
def RPg (t : List UInt8) (lim : Int) (ss : List St) (f : Int) : Prop := (rprogF t = some (lim, ss) ∧ f = 0) ∨ (rprogF t = none ∧ f = 60 ∧ ss = [])
theorem rpg_fit {t : List UInt8} {lim : Int} {ss : List St} {f : Int} (h : RPg t lim ss f) : Fit ss := by
  rcases h with ⟨h, -⟩ | ⟨-, -, rfl⟩
  · have hp := (rprogF_iff.1 h).1
    intro x hx
    have hl : x.nm.length ≤ 16 ∧ x.un.length ≤ 16 := by
      rcases hp.2.2 x hx with ⟨_, h1, h2, _⟩ | ⟨_, h1, h2, _⟩ | ⟨_, h1, h2, _⟩
      · refine ⟨h2.2.1, ?_⟩
        rcases h1 with ⟨h, _⟩ | ⟨h, _⟩
        · rw [h]; simp
        · exact h.2.1
      · rw [h1, h2]; simp
      · exact ⟨h1.2.1, by rw [h2]; simp⟩
    unfold maxLen
    exact ⟨by omega, by omega⟩
  · intro x hx; cases hx
theorem rrq_all {l body rest : List UInt8} {n0 n1 n2 n7 n8 n9 n10 n11 n12 : Nat} {t3 t4 t5 t6 r0 r1 r2 r3 r4 r5 r6 r7 r8 r9 r10 r11 r12 r13 : List UInt8} {b0 b1 b2 b3 b4 b5 b6 b7 b8 b9 b10 b11 b12 b13 : Bool} {cs : List Cm} {lim : Int} {ss : List St} {F : Int}
    (hn : nextF l = (body, rest, 0)) (h0 : intF body false 9 = (n0, r0, b0)) (h1 : intF r0 b0 1099511627776 = (n1, r1, b1)) (h2 : intF r1 b1 99 = (n2, r2, b2)) (h3 : rtextF r2 b2 = (t3, r3, b3)) (h4 : rtextF r3 b3 = (t4, r4, b4)) (h5 : rtextF r4 b4 = (t5, r5, b5)) (h6 : rtextF r5 b5 = (t6, r6, b6))
    (h7 : intF r6 b6 9999 = (n7, r7, b7)) (h8 : intF r7 b7 9999 = (n8, r8, b8)) (h9 : intF r8 b8 9999 = (n9, r9, b9)) (h10 : intF r9 b9 99 = (n10, r10, b10)) (h11 : intF r10 b10 1 = (n11, r11, b11)) (h12 : intF r11 b11 4 = (n12, r12, b12)) (h13 : manyG (cmG 99 99) n12 (r12, b12) = (cs, r13, b13))
    (hp : RPg t6 lim ss F) : ∀ i y, RqP i y → l = wrapL (encRq i y) → RpOK rest n0 F (endF r13 b13) (rqE n1 ⟨n2, t3, t4, t5, ss, lim, cs, n7, n8, n9, n10, ((n11 : Int) == 1)⟩) (rqV n1 ⟨n2, t3, t4, t5, ss, lim, cs, n7, n8, n9, n10, ((n11 : Int) == 1)⟩) l := by
  intro i y hP e
  have hw := next_wrap (encRq i y) [] (by have := encRq_len hP; omega)
  rw [List.append_nil, ← e, hn] at hw
  simp only [Prod.mk.injEq, and_true] at hw
  obtain ⟨rfl, rfl⟩ := hw
  obtain ⟨q0, q1, q2, q3, q4, q5, q6, q7, q8, q9, q10, q11, q12, q13, q14⟩ := rq_put (tx := tx2) tx2_long (by decide) (by decide) (by decide) (by decide) (by decide) (by decide) (by decide) hP h0 h1 h2 h3 h4 h5 h6 h7 h8 h9 h10 h11 h12 h13
  have hpe := rprogF_iff.2 ⟨hP.2.1, q6⟩
  have g1 : (lim = y.lim ∧ ss = y.ss) ∧ F = 0 := by
    rcases hp with ⟨h, h'⟩ | ⟨h, -⟩
    · rw [hpe] at h; injection h with h; rw [Prod.mk.injEq] at h; exact ⟨⟨h.1.symm, h.2.symm⟩, h'⟩
    · rw [hpe] at h; cases h
  obtain ⟨⟨rfl, rfl⟩, rfl⟩ := g1
  have hgd : ((n11 : Int) == 1) = y.gd := by
    rw [q11]
    exact bit_put y.gd
  have hy : (⟨(n2 : Int), t3, t4, t5, y.ss, y.lim, cs, n7, n8, n9, n10, ((n11 : Int) == 1)⟩ : Rq) = y := by
    obtain ⟨⟨-, k1, -, ⟨k2, k3, k4⟩, k5, -⟩, -, -⟩ := hP
    rw [hgd]
    obtain ⟨kd, rq, wd, nm, ss, lim, cs1, rf, ty, fr, sh, gd⟩ := y
    simp only at *
    rw [Rq.mk.injEq]
    exact ⟨by omega, q3, q4, q5, rfl, rfl, q12, by omega, by omega, by omega, by omega, rfl⟩
  have hi : (n1 : Int) = i := by have := hP.1.1; omega
  rw [hy, hi]
  refine ⟨rfl, q0, rfl, endF_iff.2 ⟨q13, q14⟩, by unfold rqE; rw [if_pos hP], by unfold rqV; rw [if_pos hP]; exact e.symm⟩
theorem rrq_acc {id : Int} {x : Rq} {l : List UInt8} (he : rqE id x = 0) (hv : rqV id x = l) : RqP id x ∧ l = wrapL (encRq id x) := by
  by_cases h : RqP id x
  · refine ⟨h, ?_⟩
    rw [← hv]; unfold rqV; rw [if_pos h]
  · exact absurd he (rqE_no h)

set_option maxHeartbeats 3200000 in
set_option maxRecDepth 100000 in
theorem rrequested_any (l : List UInt8) (hl : l.length ≤ 140737488355328) (w : World) :
    Calls Try.prog 17 #[.string ⟨l.toArray⟩] w fun e w' => ∃ (id : Int) (q : Rq) (v u : Value) (er : Int), e = .returned (.tuple #[.int .i64 id, rqVal q v u, .int .i64 er]) ∧ Sl w' v 6 q.ss.length (q.ss.flatMap stC) ∧ Sl w' u 3 q.cs.length (q.cs.flatMap cmc) ∧ Below w.heap.size w w' ∧
      ((er = 0 ∧ RqP id q ∧ l = wrapL (encRq id q)) ∨ (er = erF l ∧ id = 0 ∧ q = rq0 ∧ v = .slice none 0 0 ∧ u = .slice none 0 0 ∧ ∀ i y, RqP i y → l ≠ wrapL (encRq i y))) := by
  go_enter Try.func17, Try.ntmps17
  go_wp2_with fail
  obtain ⟨w0, hw0⟩ : ∃ w0, w0 = w.alloc (.cells #[.int .i64 0, .string ⟨#[]⟩, .string ⟨#[]⟩, .string ⟨#[]⟩, .slice none 0 0, .int .i64 0, .slice none 0 0, .int .i64 0, .int .i64 0, .int .i64 0, .int .i64 0, .bool false] 27) := ⟨_, rfl⟩
  rw [← hw0]
  have hQ0 : w0.heap[w.heap.size]? = some (.cells #[.int .i64 0, .string ⟨#[]⟩, .string ⟨#[]⟩, .string ⟨#[]⟩, .slice none 0 0, .int .i64 0, .slice none 0 0, .int .i64 0, .int .i64 0, .int .i64 0, .int .i64 0, .bool false] 27 (0, 0)) := by rw [hw0]; exact heap_alloc_new w _
  have b0 : Below w.heap.size w w0 := by rw [hw0]; exact (Below.refl _ _).alloc (Nat.le_refl _) _
  have l0 : w.heap.size < w0.heap.size := (Array.getElem?_eq_some_iff.1 hQ0).1
  clear hw0
  have hnl := next_len l
  refine (rnext_any l (by unfold maxLen; omega) w0).mono ?_
  rintro _ w1 ⟨rfl, b1⟩
  have hQ1 := (b1.block _ l0).trans hQ0
  have hb1 := bnext b0 b1
  obtain ⟨gr, hgr⟩ : ∃ gr, gr = w.heap.size := ⟨_, rfl⟩
  have n2 : w.heap.size ≤ gr := by omega
  rw [← hgr] at hQ1 l0 ⊢
  clear hQ0 b0 b1
  have herF : Hid (erF l = if (nextF l).2.2 = 0 then 60 else (nextF l).2.2) := hid rfl
  have hNo : Hid (NoMsg l ↔ ((nextF l).2.2 ≠ 0 ∨ (nextF l).2.1 ≠ [] ∨ (intF (nextF l).1 false 1).1 ≠ 1)) := hid Iff.rfl
  obtain ⟨⟨body, rest, er⟩, hx⟩ : ∃ x, nextF l = x := ⟨_, rfl⟩
  rw [hx] at hnl herF hNo ⊢
  simp only at hnl herF hNo ⊢
  have HNX := hid hx
  clear hx
  have hlb : body.length ≤ 140737488355328 := by omega
  by_cases he : er = 0
  case neg =>
    have HE := hid (show er = erF l by rw [herF.out, if_neg he])
    have hnm := hNo.out.2 (.inl he)
    have HNO := hid (show ∀ i y, RqP i y → l ≠ wrapL (encRq i y) from fun i y hP => noMsg hnm _ (by have := encRq_len hP; unfold encRq at this; omega))
    clear herF hNo hnm hgr l0
    have q0 : w1.cell? ⟨gr, 0, none⟩ = some (.int .i64 0) := by rw [cell_of_row w1 _ 0 _ _ (0, 0) hQ1]; rfl
    have qz0 : w1.frozen? ⟨gr, 0, none⟩ = false := frozen_of_row w1 _ 0 _ _ hQ1
    have q1 : w1.cell? ⟨gr, 1, none⟩ = some (.string ⟨#[]⟩) := by rw [cell_of_row w1 _ 1 _ _ (0, 0) hQ1]; rfl
    have qz1 : w1.frozen? ⟨gr, 1, none⟩ = false := frozen_of_row w1 _ 1 _ _ hQ1
    have q2 : w1.cell? ⟨gr, 2, none⟩ = some (.string ⟨#[]⟩) := by rw [cell_of_row w1 _ 2 _ _ (0, 0) hQ1]; rfl
    have qz2 : w1.frozen? ⟨gr, 2, none⟩ = false := frozen_of_row w1 _ 2 _ _ hQ1
    have q3 : w1.cell? ⟨gr, 3, none⟩ = some (.string ⟨#[]⟩) := by rw [cell_of_row w1 _ 3 _ _ (0, 0) hQ1]; rfl
    have qz3 : w1.frozen? ⟨gr, 3, none⟩ = false := frozen_of_row w1 _ 3 _ _ hQ1
    have q4 : w1.cell? ⟨gr, 4, none⟩ = some (.slice none 0 0) := by rw [cell_of_row w1 _ 4 _ _ (0, 0) hQ1]; rfl
    have qz4 : w1.frozen? ⟨gr, 4, none⟩ = false := frozen_of_row w1 _ 4 _ _ hQ1
    have q5 : w1.cell? ⟨gr, 5, none⟩ = some (.int .i64 0) := by rw [cell_of_row w1 _ 5 _ _ (0, 0) hQ1]; rfl
    have qz5 : w1.frozen? ⟨gr, 5, none⟩ = false := frozen_of_row w1 _ 5 _ _ hQ1
    have q6 : w1.cell? ⟨gr, 6, none⟩ = some (.slice none 0 0) := by rw [cell_of_row w1 _ 6 _ _ (0, 0) hQ1]; rfl
    have qz6 : w1.frozen? ⟨gr, 6, none⟩ = false := frozen_of_row w1 _ 6 _ _ hQ1
    have q7 : w1.cell? ⟨gr, 7, none⟩ = some (.int .i64 0) := by rw [cell_of_row w1 _ 7 _ _ (0, 0) hQ1]; rfl
    have qz7 : w1.frozen? ⟨gr, 7, none⟩ = false := frozen_of_row w1 _ 7 _ _ hQ1
    have q8 : w1.cell? ⟨gr, 8, none⟩ = some (.int .i64 0) := by rw [cell_of_row w1 _ 8 _ _ (0, 0) hQ1]; rfl
    have qz8 : w1.frozen? ⟨gr, 8, none⟩ = false := frozen_of_row w1 _ 8 _ _ hQ1
    have q9 : w1.cell? ⟨gr, 9, none⟩ = some (.int .i64 0) := by rw [cell_of_row w1 _ 9 _ _ (0, 0) hQ1]; rfl
    have qz9 : w1.frozen? ⟨gr, 9, none⟩ = false := frozen_of_row w1 _ 9 _ _ hQ1
    have q10 : w1.cell? ⟨gr, 10, none⟩ = some (.int .i64 0) := by rw [cell_of_row w1 _ 10 _ _ (0, 0) hQ1]; rfl
    have qz10 : w1.frozen? ⟨gr, 10, none⟩ = false := frozen_of_row w1 _ 10 _ _ hQ1
    have q11 : w1.cell? ⟨gr, 11, none⟩ = some (.bool false) := by rw [cell_of_row w1 _ 11 _ _ (0, 0) hQ1]; rfl
    have qz11 : w1.frozen? ⟨gr, 11, none⟩ = false := frozen_of_row w1 _ 11 _ _ hQ1
    go_wp2_with fail
    refine bodyPost_ret (v := .tuple #[.int .i64 0, .agg #[.int .i64 0, .string ⟨#[]⟩, .string ⟨#[]⟩, .string ⟨#[]⟩, .slice none 0 0, .int .i64 0, .slice none 0 0, .int .i64 0, .int .i64 0, .int .i64 0, .int .i64 0, .bool false], .int .i64 er]) ?_ rfl ⟨0, rq0, .slice none 0 0, .slice none 0 0, er, rfl, Sl.none _ _, Sl.none _ _, At.below hb1 ((((((((((((((At.refl gr w1).set 0 _).set 1 _).set 2 _).set 3 _).set 4 _).set 5 _).set 6 _).set 7 _).set 8 _).set 9 _).set 10 _).set 11 _) : At gr w1 ((((((((((((w1.setCell ⟨gr, 0, none⟩ (.int .i64 0)).setCell ⟨gr, 1, none⟩ (.string ⟨#[]⟩)).setCell ⟨gr, 2, none⟩ (.string ⟨#[]⟩)).setCell ⟨gr, 3, none⟩ (.string ⟨#[]⟩)).setCell ⟨gr, 4, none⟩ (.slice none 0 0)).setCell ⟨gr, 5, none⟩ (.int .i64 0)).setCell ⟨gr, 6, none⟩ (.slice none 0 0)).setCell ⟨gr, 7, none⟩ (.int .i64 0)).setCell ⟨gr, 8, none⟩ (.int .i64 0)).setCell ⟨gr, 9, none⟩ (.int .i64 0)).setCell ⟨gr, 10, none⟩ (.int .i64 0)).setCell ⟨gr, 11, none⟩ (.bool false))) n2, .inr ⟨HE.out, rfl, rfl, rfl, rfl, HNO.out⟩⟩
    rw [results_tct rfl]
    go_simp
  subst he
  have HERF := hid (show erF l = 60 by rw [herF.out, if_pos rfl])
  have bR : Below w1.heap.size w1 (w1.alloc (.cells #[.string ⟨body.toArray⟩, .bool false] 94)) := (Below.refl _ _).alloc (Nat.le_refl _) _
  obtain ⟨w2, hw2⟩ : ∃ x, x = w1.alloc (.cells #[.string ⟨body.toArray⟩, .bool false] 94) := ⟨_, rfl⟩
  have hr2 : RRdr w2 w1.heap.size body false := by rw [hw2]; exact Obj2.new _ _ _ _
  rw [← hw2] at bR
  have HW2 := hid hw2
  have sn2 : Sane body false := fun h => by cases h
  have hQ2 := (bR.block _ (Array.getElem?_eq_some_iff.1 hQ1).1).trans hQ1
  have hb2 := bnext hb1 bR
  obtain ⟨g, hg⟩ : ∃ g, g = w1.heap.size := ⟨_, rfl⟩
  have n1 : gr ≠ g := by have := (Array.getElem?_eq_some_iff.1 hQ1).1; omega
  have n3 : w.heap.size ≤ g := by have := hb1.size; omega
  clear hw2 bR hQ1 hb1 herF hNo
  go_wp2_with fail
  rw [← HW2.out]
  rw [← hg] at hr2 ⊢
  clear hg l0 hgr HW2
  refine (rint_any_r g body false 9 w2 hr2 sn2 (by unfold maxLen; omega) (by omega) (by omega)).mono ?_
  rintro _ w3 ⟨rfl, hr3, aw⟩
  have hQ3 := (aw.block gr (Array.getElem?_eq_some_iff.1 hQ2).1 (by simpa using n1)).trans hQ2
  have sn3 : Sane (intF body false 9).2.1 (intF body false 9).2.2 := sane_intF (9) sn2
  have hb3 := At.below hb2 aw n3
  have hl3 := intF_len body false 9
  obtain ⟨⟨n0', r0, e0⟩, hxn0'⟩ : ∃ x, intF body false 9 = x := ⟨_, rfl⟩
  rw [hxn0'] at hr3 hl3 sn3 ⊢
  simp only at hr3 hl3 sn3 ⊢
  have HXn0' := hid hxn0'
  clear hxn0' hr2 hQ2 hb2 sn2 aw
  go_wp2_with fail
  refine (rint_any_r g r0 e0 1099511627776 w3 hr3 sn3 (by unfold maxLen; omega) (by omega) (by omega)).mono ?_
  rintro _ w4 ⟨rfl, hr4, aw⟩
  have hQ4 := (aw.block gr (Array.getElem?_eq_some_iff.1 hQ3).1 (by simpa using n1)).trans hQ3
  have sn4 : Sane (intF r0 e0 1099511627776).2.1 (intF r0 e0 1099511627776).2.2 := sane_intF (1099511627776) sn3
  have hb4 := At.below hb3 aw n3
  have hl4 := intF_len r0 e0 1099511627776
  obtain ⟨⟨n1', r1, e1⟩, hxn1'⟩ : ∃ x, intF r0 e0 1099511627776 = x := ⟨_, rfl⟩
  rw [hxn1'] at hr4 hl4 sn4 ⊢
  simp only at hr4 hl4 sn4 ⊢
  have HXn1' := hid hxn1'
  clear hxn1' hr3 hQ3 hb3 sn3 aw
  go_wp2_with fail
  obtain ⟨w5, hw5⟩ : ∃ x, x = w4.alloc (.cells #[.int .i64 0, .string ⟨#[]⟩, .string ⟨#[]⟩, .string ⟨#[]⟩, .slice none 0 0, .int .i64 0, .slice none 0 0, .int .i64 0, .int .i64 0, .int .i64 0, .int .i64 0, .bool false] 27) := ⟨_, rfl⟩
  have hX5 : w5.heap[w4.heap.size]? = some (.cells #[.int .i64 0, .string ⟨#[]⟩, .string ⟨#[]⟩, .string ⟨#[]⟩, .slice none 0 0, .int .i64 0, .slice none 0 0, .int .i64 0, .int .i64 0, .int .i64 0, .int .i64 0, .bool false] 27 (0, 0)) := by rw [hw5]; exact heap_alloc_new w4 _
  have bx : Below w4.heap.size w4 w5 := by rw [hw5]; exact (Below.refl _ _).alloc (Nat.le_refl _) _
  rw [← hw5]
  obtain ⟨gx, hgx⟩ : ∃ gx, gx = w4.heap.size := ⟨_, rfl⟩
  have nx : gx ≠ g := by have := hr4.lt; omega
  have nq : gr ≠ gx := by have := (Array.getElem?_eq_some_iff.1 hQ4).1; omega
  have n4 : w.heap.size ≤ gx := by have := hb4.size; omega
  rw [← hgx] at hX5 ⊢
  clear hw5 hgx
  have hr5 := hr4.keep bx
  have hQ5 := (bx.block _ (Array.getElem?_eq_some_iff.1 hQ4).1).trans hQ4
  have hb5 := bnext hb4 bx
  clear hr4 hQ4 hb4
  have sn5 := sn4
  clear sn4
  refine (rint_any_r g r1 e1 99 w5 hr5 sn5 (by unfold maxLen; omega) (by omega) (by omega)).mono ?_
  rintro _ w6 ⟨rfl, hr6, aw⟩
  have hQ6 := (aw.block gr (Array.getElem?_eq_some_iff.1 hQ5).1 (by simpa using n1)).trans hQ5
  have sn6 : Sane (intF r1 e1 99).2.1 (intF r1 e1 99).2.2 := sane_intF (99) sn5
  have hX6 := (aw.block gx (Array.getElem?_eq_some_iff.1 hX5).1 (by simpa using nx)).trans hX5
  have hb6 := At.below hb5 aw n3
  have hl6 := intF_len r1 e1 99
  obtain ⟨⟨n2', r2, e2⟩, hxn2'⟩ : ∃ x, intF r1 e1 99 = x := ⟨_, rfl⟩
  rw [hxn2'] at hr6 hl6 sn6 ⊢
  simp only at hr6 hl6 sn6 ⊢
  have HXn2' := hid hxn2'
  clear hxn2' hr5 hQ5 hb5 sn5 aw hX5
  have x0 : w6.cell? ⟨gx, 0, none⟩ = some (.int .i64 0) := by rw [cell_of_row w6 _ 0 _ _ (0, 0) hX6]; rfl
  have xz0 : w6.frozen? ⟨gx, 0, none⟩ = false := frozen_of_row w6 _ 0 _ _ hX6
  go_wp2_with fail
  clear x0 xz0
  obtain ⟨w7, hw7⟩ : ∃ x, x = (w6.setCell ⟨gx, 0, none⟩ (.int .i64 (n2' : Int))) := ⟨_, rfl⟩
  have aw : At gx w6 w7 := by rw [hw7]; exact ((At.refl gx w6).set 0 _)
  have hy0 := heap_setCell_same w6 gx 0 _ _ (.int .i64 (n2' : Int)) hX6
  have hX7 : w7.heap[gx]? = some (.cells #[.int .i64 (n2' : Int), .string ⟨#[]⟩, .string ⟨#[]⟩, .string ⟨#[]⟩, .slice none 0 0, .int .i64 0, .slice none 0 0, .int .i64 0, .int .i64 0, .int .i64 0, .int .i64 0, .bool false] 27 (0, 0)) := by rw [hw7]; exact hy0
  rw [← hw7]
  have hr7 := hr6.grown aw (Ne.symm nx)
  have hQ7 := (aw.block gr (Array.getElem?_eq_some_iff.1 hQ6).1 (by simpa using nq)).trans hQ6
  have hb7 := At.below hb6 aw n4
  clear hw7 aw hr6 hQ6 hb6 hX6 hy0
  have sn7 := sn6
  clear sn6
  refine (rtext_full g r2 e2 w7 hr7 sn7 (by omega)).mono ?_
  rintro _ w8 ⟨rfl, hr8, aw⟩
  have hQ8 := (aw.block gr (Array.getElem?_eq_some_iff.1 hQ7).1 (by simpa using n1)).trans hQ7
  have sn8 : Sane (rtextF r2 e2).2.1 (rtextF r2 e2).2.2 := sane_rtextF sn7
  have hX8 := (aw.block gx (Array.getElem?_eq_some_iff.1 hX7).1 (by simpa using nx)).trans hX7
  have hb8 := At.below hb7 aw n3
  have hl8 := rtextF_len r2 e2
  have hf8 := rtextF_fst r2 e2
  obtain ⟨⟨t3, r3, e3⟩, hxt3⟩ : ∃ x, rtextF r2 e2 = x := ⟨_, rfl⟩
  rw [hxt3] at hr8 hl8 sn8 hf8 ⊢
  simp only at hr8 hl8 sn8 hf8 ⊢
  have HXt3 := hid hxt3
  clear hxt3 hr7 hQ7 hb7 sn7 aw hX7
  have x1 : w8.cell? ⟨gx, 1, none⟩ = some (.string ⟨#[]⟩) := by rw [cell_of_row w8 _ 1 _ _ (0, 0) hX8]; rfl
  have xz1 : w8.frozen? ⟨gx, 1, none⟩ = false := frozen_of_row w8 _ 1 _ _ hX8
  go_wp2_with fail
  clear x1 xz1
  obtain ⟨w9, hw9⟩ : ∃ x, x = (w8.setCell ⟨gx, 1, none⟩ (.string ⟨t3.toArray⟩)) := ⟨_, rfl⟩
  have aw : At gx w8 w9 := by rw [hw9]; exact ((At.refl gx w8).set 1 _)
  have hy0 := heap_setCell_same w8 gx 1 _ _ (.string ⟨t3.toArray⟩) hX8
  have hX9 : w9.heap[gx]? = some (.cells #[.int .i64 (n2' : Int), .string ⟨t3.toArray⟩, .string ⟨#[]⟩, .string ⟨#[]⟩, .slice none 0 0, .int .i64 0, .slice none 0 0, .int .i64 0, .int .i64 0, .int .i64 0, .int .i64 0, .bool false] 27 (0, 0)) := by rw [hw9]; exact hy0
  rw [← hw9]
  have hr9 := hr8.grown aw (Ne.symm nx)
  have hQ9 := (aw.block gr (Array.getElem?_eq_some_iff.1 hQ8).1 (by simpa using nq)).trans hQ8
  have hb9 := At.below hb8 aw n4
  clear hw9 aw hr8 hQ8 hb8 hX8 hy0
  have sn9 := sn8
  clear sn8
  refine (rtext_full g r3 e3 w9 hr9 sn9 (by omega)).mono ?_
  rintro _ w10 ⟨rfl, hr10, aw⟩
  have hQ10 := (aw.block gr (Array.getElem?_eq_some_iff.1 hQ9).1 (by simpa using n1)).trans hQ9
  have sn10 : Sane (rtextF r3 e3).2.1 (rtextF r3 e3).2.2 := sane_rtextF sn9
  have hX10 := (aw.block gx (Array.getElem?_eq_some_iff.1 hX9).1 (by simpa using nx)).trans hX9
  have hb10 := At.below hb9 aw n3
  have hl10 := rtextF_len r3 e3
  have hf10 := rtextF_fst r3 e3
  obtain ⟨⟨t4, r4, e4⟩, hxt4⟩ : ∃ x, rtextF r3 e3 = x := ⟨_, rfl⟩
  rw [hxt4] at hr10 hl10 sn10 hf10 ⊢
  simp only at hr10 hl10 sn10 hf10 ⊢
  have HXt4 := hid hxt4
  clear hxt4 hr9 hQ9 hb9 sn9 aw hX9
  have x2 : w10.cell? ⟨gx, 2, none⟩ = some (.string ⟨#[]⟩) := by rw [cell_of_row w10 _ 2 _ _ (0, 0) hX10]; rfl
  have xz2 : w10.frozen? ⟨gx, 2, none⟩ = false := frozen_of_row w10 _ 2 _ _ hX10
  go_wp2_with fail
  clear x2 xz2
  obtain ⟨w11, hw11⟩ : ∃ x, x = (w10.setCell ⟨gx, 2, none⟩ (.string ⟨t4.toArray⟩)) := ⟨_, rfl⟩
  have aw : At gx w10 w11 := by rw [hw11]; exact ((At.refl gx w10).set 2 _)
  have hy0 := heap_setCell_same w10 gx 2 _ _ (.string ⟨t4.toArray⟩) hX10
  have hX11 : w11.heap[gx]? = some (.cells #[.int .i64 (n2' : Int), .string ⟨t3.toArray⟩, .string ⟨t4.toArray⟩, .string ⟨#[]⟩, .slice none 0 0, .int .i64 0, .slice none 0 0, .int .i64 0, .int .i64 0, .int .i64 0, .int .i64 0, .bool false] 27 (0, 0)) := by rw [hw11]; exact hy0
  rw [← hw11]
  have hr11 := hr10.grown aw (Ne.symm nx)
  have hQ11 := (aw.block gr (Array.getElem?_eq_some_iff.1 hQ10).1 (by simpa using nq)).trans hQ10
  have hb11 := At.below hb10 aw n4
  clear hw11 aw hr10 hQ10 hb10 hX10 hy0
  have sn11 := sn10
  clear sn10
  refine (rtext_full g r4 e4 w11 hr11 sn11 (by omega)).mono ?_
  rintro _ w12 ⟨rfl, hr12, aw⟩
  have hQ12 := (aw.block gr (Array.getElem?_eq_some_iff.1 hQ11).1 (by simpa using n1)).trans hQ11
  have sn12 : Sane (rtextF r4 e4).2.1 (rtextF r4 e4).2.2 := sane_rtextF sn11
  have hX12 := (aw.block gx (Array.getElem?_eq_some_iff.1 hX11).1 (by simpa using nx)).trans hX11
  have hb12 := At.below hb11 aw n3
  have hl12 := rtextF_len r4 e4
  have hf12 := rtextF_fst r4 e4
  obtain ⟨⟨t5, r5, e5⟩, hxt5⟩ : ∃ x, rtextF r4 e4 = x := ⟨_, rfl⟩
  rw [hxt5] at hr12 hl12 sn12 hf12 ⊢
  simp only at hr12 hl12 sn12 hf12 ⊢
  have HXt5 := hid hxt5
  clear hxt5 hr11 hQ11 hb11 sn11 aw hX11
  have x3 : w12.cell? ⟨gx, 3, none⟩ = some (.string ⟨#[]⟩) := by rw [cell_of_row w12 _ 3 _ _ (0, 0) hX12]; rfl
  have xz3 : w12.frozen? ⟨gx, 3, none⟩ = false := frozen_of_row w12 _ 3 _ _ hX12
  go_wp2_with fail
  clear x3 xz3
  obtain ⟨w13, hw13⟩ : ∃ x, x = (w12.setCell ⟨gx, 3, none⟩ (.string ⟨t5.toArray⟩)) := ⟨_, rfl⟩
  have aw : At gx w12 w13 := by rw [hw13]; exact ((At.refl gx w12).set 3 _)
  have hy0 := heap_setCell_same w12 gx 3 _ _ (.string ⟨t5.toArray⟩) hX12
  have hX13 : w13.heap[gx]? = some (.cells #[.int .i64 (n2' : Int), .string ⟨t3.toArray⟩, .string ⟨t4.toArray⟩, .string ⟨t5.toArray⟩, .slice none 0 0, .int .i64 0, .slice none 0 0, .int .i64 0, .int .i64 0, .int .i64 0, .int .i64 0, .bool false] 27 (0, 0)) := by rw [hw13]; exact hy0
  rw [← hw13]
  have hr13 := hr12.grown aw (Ne.symm nx)
  have hQ13 := (aw.block gr (Array.getElem?_eq_some_iff.1 hQ12).1 (by simpa using nq)).trans hQ12
  have hb13 := At.below hb12 aw n4
  clear hw13 aw hr12 hQ12 hb12 hX12 hy0
  have sn13 := sn12
  clear sn12
  refine (rtext_full g r5 e5 w13 hr13 sn13 (by omega)).mono ?_
  rintro _ w14 ⟨rfl, hr14, aw⟩
  have hQ14 := (aw.block gr (Array.getElem?_eq_some_iff.1 hQ13).1 (by simpa using n1)).trans hQ13
  have sn14 : Sane (rtextF r5 e5).2.1 (rtextF r5 e5).2.2 := sane_rtextF sn13
  have hX14 := (aw.block gx (Array.getElem?_eq_some_iff.1 hX13).1 (by simpa using nx)).trans hX13
  have hb14 := At.below hb13 aw n3
  have hl14 := rtextF_len r5 e5
  have hf14 := rtextF_fst r5 e5
  obtain ⟨⟨t6, r6, e6⟩, hxt6⟩ : ∃ x, rtextF r5 e5 = x := ⟨_, rfl⟩
  rw [hxt6] at hr14 hl14 sn14 hf14 ⊢
  simp only at hr14 hl14 sn14 hf14 ⊢
  have HXt6 := hid hxt6
  clear hxt6 hr13 hQ13 hb13 sn13 aw hX13
  go_wp2_with fail
  refine (rdecode_any t6 (by omega) w14).mono ?_
  rintro _ w15 ⟨v, lim, ss, f1, rfl, hsl, bd, hres⟩
  obtain ⟨av, cv, rfl⟩ : ∃ a c, v = .slice a ss.length c := by
    obtain ⟨_, _, a, c, h, _⟩ := hsl
    exact ⟨a, c, h⟩
  have HP := hid (show RPg t6 lim ss f1 from hres.elim (fun h => .inl h) (fun h => .inr ⟨h.1, h.2.1, h.2.2.2.2⟩))
  clear hres
  have hr15 := hr14.keep bd
  have hQ15 := (bd.block _ (Array.getElem?_eq_some_iff.1 hQ14).1).trans hQ14
  have hb15 := bnext hb14 bd
  have hX15 := (bd.block _ (Array.getElem?_eq_some_iff.1 hX14).1).trans hX14
  clear hr14 hQ14 hb14 hX14
  have sn15 := sn14
  clear sn14
  obtain ⟨w16, hw16⟩ : ∃ x, x = w15.alloc (.cells #[.slice av ss.length cv, .int .i64 lim] 24) := ⟨_, rfl⟩
  have bp : Below w15.heap.size w15 w16 := by rw [hw16]; exact (Below.refl _ _).alloc (Nat.le_refl _) _
  have hgp : w16.cell? ⟨w15.heap.size, 0, none⟩ = some (.slice av ss.length cv) ∧ w16.cell? ⟨w15.heap.size, 1, none⟩ = some (.int .i64 lim) := by
    rw [hw16]
    exact ⟨(World.cell?_alloc_at _ _ _ _ rfl).trans rfl, (World.cell?_alloc_at _ _ _ _ rfl).trans rfl⟩
  obtain ⟨hp0, hp1⟩ := hgp
  have hsl := hsl.below bp
  have HW := hid hw16
  clear hw16
  have hr16 := hr15.keep bp
  have hQ16 := (bp.block _ (Array.getElem?_eq_some_iff.1 hQ15).1).trans hQ15
  have hb16 := bnext hb15 bp
  have hX16 := (bp.block _ (Array.getElem?_eq_some_iff.1 hX15).1).trans hX15
  clear hr15 hQ15 hb15 hX15
  have sn16 := sn15
  clear sn15
  rw [HW.out] at hp0 hp1
  have x4 : w16.cell? ⟨gx, 4, none⟩ = some (.slice none 0 0) := by rw [cell_of_row w16 _ 4 _ _ (0, 0) hX16]; rfl
  have xz4 : w16.frozen? ⟨gx, 4, none⟩ = false := frozen_of_row w16 _ 4 _ _ hX16
  have x5 : w16.cell? ⟨gx, 5, none⟩ = some (.int .i64 0) := by rw [cell_of_row w16 _ 5 _ _ (0, 0) hX16]; rfl
  have xz5 : w16.frozen? ⟨gx, 5, none⟩ = false := frozen_of_row w16 _ 5 _ _ hX16
  rw [HW.out] at x4
  rw [HW.out] at xz4
  rw [HW.out] at x5
  rw [HW.out] at xz5
  go_upto_region 14 with (fail)
  rw [← HW.out]
  clear hp0 hp1 x4 xz4 x5 xz5
  obtain ⟨w17, hw17⟩ : ∃ x, x = ((w16.setCell ⟨gx, 4, none⟩ (.slice av ss.length cv)).setCell ⟨gx, 5, none⟩ (.int .i64 lim)) := ⟨_, rfl⟩
  have aw : At gx w16 w17 := by rw [hw17]; exact (((At.refl gx w16).set 4 _).set 5 _)
  have hy0 := heap_setCell_same w16 gx 4 _ _ (.slice av ss.length cv) hX16
  have hy1 := heap_setCell_same _ gx 5 _ _ (.int .i64 lim) hy0
  have hX17 : w17.heap[gx]? = some (.cells #[.int .i64 (n2' : Int), .string ⟨t3.toArray⟩, .string ⟨t4.toArray⟩, .string ⟨t5.toArray⟩, .slice av ss.length cv, .int .i64 lim, .slice none 0 0, .int .i64 0, .int .i64 0, .int .i64 0, .int .i64 0, .bool false] 27 (0, 0)) := by rw [hw17]; exact hy1
  have hsl := hsl.at aw (steps_apart hX16)
  rw [← hw17]
  have hr17 := hr16.grown aw (Ne.symm nx)
  have hQ17 := (aw.block gr (Array.getElem?_eq_some_iff.1 hQ16).1 (by simpa using nq)).trans hQ16
  have hb17 := At.below hb16 aw n4
  clear hw17 aw hr16 hQ16 hb16 hX16 hy0 hy1
  have sn17 := sn16
  clear sn16
  clear HW
  go_wp2_with fail
  refine (rint_any_r g r6 e6 9999 w17 hr17 sn17 (by unfold maxLen; omega) (by omega) (by omega)).mono ?_
  rintro _ w18 ⟨rfl, hr18, aw⟩
  have hQ18 := (aw.block gr (Array.getElem?_eq_some_iff.1 hQ17).1 (by simpa using n1)).trans hQ17
  have sn18 : Sane (intF r6 e6 9999).2.1 (intF r6 e6 9999).2.2 := sane_intF (9999) sn17
  have hX18 := (aw.block gx (Array.getElem?_eq_some_iff.1 hX17).1 (by simpa using nx)).trans hX17
  have hsl := hsl.at aw (rrdr_apart hr17)
  have hb18 := At.below hb17 aw n3
  have hl18 := intF_len r6 e6 9999
  obtain ⟨⟨n7', r7, e7⟩, hxn7'⟩ : ∃ x, intF r6 e6 9999 = x := ⟨_, rfl⟩
  rw [hxn7'] at hr18 hl18 sn18 ⊢
  simp only at hr18 hl18 sn18 ⊢
  have HXn7' := hid hxn7'
  clear hxn7' hr17 hQ17 hb17 sn17 aw hX17
  have x7 : w18.cell? ⟨gx, 7, none⟩ = some (.int .i64 0) := by rw [cell_of_row w18 _ 7 _ _ (0, 0) hX18]; rfl
  have xz7 : w18.frozen? ⟨gx, 7, none⟩ = false := frozen_of_row w18 _ 7 _ _ hX18
  go_wp2_with fail
  clear x7 xz7
  obtain ⟨w19, hw19⟩ : ∃ x, x = (w18.setCell ⟨gx, 7, none⟩ (.int .i64 (n7' : Int))) := ⟨_, rfl⟩
  have aw : At gx w18 w19 := by rw [hw19]; exact ((At.refl gx w18).set 7 _)
  have hy0 := heap_setCell_same w18 gx 7 _ _ (.int .i64 (n7' : Int)) hX18
  have hX19 : w19.heap[gx]? = some (.cells #[.int .i64 (n2' : Int), .string ⟨t3.toArray⟩, .string ⟨t4.toArray⟩, .string ⟨t5.toArray⟩, .slice av ss.length cv, .int .i64 lim, .slice none 0 0, .int .i64 (n7' : Int), .int .i64 0, .int .i64 0, .int .i64 0, .bool false] 27 (0, 0)) := by rw [hw19]; exact hy0
  have hsl := hsl.at aw (steps_apart hX18)
  rw [← hw19]
  have hr19 := hr18.grown aw (Ne.symm nx)
  have hQ19 := (aw.block gr (Array.getElem?_eq_some_iff.1 hQ18).1 (by simpa using nq)).trans hQ18
  have hb19 := At.below hb18 aw n4
  clear hw19 aw hr18 hQ18 hb18 hX18 hy0
  have sn19 := sn18
  clear sn18
  refine (rint_any_r g r7 e7 9999 w19 hr19 sn19 (by unfold maxLen; omega) (by omega) (by omega)).mono ?_
  rintro _ w20 ⟨rfl, hr20, aw⟩
  have hQ20 := (aw.block gr (Array.getElem?_eq_some_iff.1 hQ19).1 (by simpa using n1)).trans hQ19
  have sn20 : Sane (intF r7 e7 9999).2.1 (intF r7 e7 9999).2.2 := sane_intF (9999) sn19
  have hX20 := (aw.block gx (Array.getElem?_eq_some_iff.1 hX19).1 (by simpa using nx)).trans hX19
  have hsl := hsl.at aw (rrdr_apart hr19)
  have hb20 := At.below hb19 aw n3
  have hl20 := intF_len r7 e7 9999
  obtain ⟨⟨n8', r8, e8⟩, hxn8'⟩ : ∃ x, intF r7 e7 9999 = x := ⟨_, rfl⟩
  rw [hxn8'] at hr20 hl20 sn20 ⊢
  simp only at hr20 hl20 sn20 ⊢
  have HXn8' := hid hxn8'
  clear hxn8' hr19 hQ19 hb19 sn19 aw hX19
  have x8 : w20.cell? ⟨gx, 8, none⟩ = some (.int .i64 0) := by rw [cell_of_row w20 _ 8 _ _ (0, 0) hX20]; rfl
  have xz8 : w20.frozen? ⟨gx, 8, none⟩ = false := frozen_of_row w20 _ 8 _ _ hX20
  go_wp2_with fail
  clear x8 xz8
  obtain ⟨w21, hw21⟩ : ∃ x, x = (w20.setCell ⟨gx, 8, none⟩ (.int .i64 (n8' : Int))) := ⟨_, rfl⟩
  have aw : At gx w20 w21 := by rw [hw21]; exact ((At.refl gx w20).set 8 _)
  have hy0 := heap_setCell_same w20 gx 8 _ _ (.int .i64 (n8' : Int)) hX20
  have hX21 : w21.heap[gx]? = some (.cells #[.int .i64 (n2' : Int), .string ⟨t3.toArray⟩, .string ⟨t4.toArray⟩, .string ⟨t5.toArray⟩, .slice av ss.length cv, .int .i64 lim, .slice none 0 0, .int .i64 (n7' : Int), .int .i64 (n8' : Int), .int .i64 0, .int .i64 0, .bool false] 27 (0, 0)) := by rw [hw21]; exact hy0
  have hsl := hsl.at aw (steps_apart hX20)
  rw [← hw21]
  have hr21 := hr20.grown aw (Ne.symm nx)
  have hQ21 := (aw.block gr (Array.getElem?_eq_some_iff.1 hQ20).1 (by simpa using nq)).trans hQ20
  have hb21 := At.below hb20 aw n4
  clear hw21 aw hr20 hQ20 hb20 hX20 hy0
  have sn21 := sn20
  clear sn20
  refine (rint_any_r g r8 e8 9999 w21 hr21 sn21 (by unfold maxLen; omega) (by omega) (by omega)).mono ?_
  rintro _ w22 ⟨rfl, hr22, aw⟩
  have hQ22 := (aw.block gr (Array.getElem?_eq_some_iff.1 hQ21).1 (by simpa using n1)).trans hQ21
  have sn22 : Sane (intF r8 e8 9999).2.1 (intF r8 e8 9999).2.2 := sane_intF (9999) sn21
  have hX22 := (aw.block gx (Array.getElem?_eq_some_iff.1 hX21).1 (by simpa using nx)).trans hX21
  have hsl := hsl.at aw (rrdr_apart hr21)
  have hb22 := At.below hb21 aw n3
  have hl22 := intF_len r8 e8 9999
  obtain ⟨⟨n9', r9, e9⟩, hxn9'⟩ : ∃ x, intF r8 e8 9999 = x := ⟨_, rfl⟩
  rw [hxn9'] at hr22 hl22 sn22 ⊢
  simp only at hr22 hl22 sn22 ⊢
  have HXn9' := hid hxn9'
  clear hxn9' hr21 hQ21 hb21 sn21 aw hX21
  have x9 : w22.cell? ⟨gx, 9, none⟩ = some (.int .i64 0) := by rw [cell_of_row w22 _ 9 _ _ (0, 0) hX22]; rfl
  have xz9 : w22.frozen? ⟨gx, 9, none⟩ = false := frozen_of_row w22 _ 9 _ _ hX22
  go_wp2_with fail
  clear x9 xz9
  obtain ⟨w23, hw23⟩ : ∃ x, x = (w22.setCell ⟨gx, 9, none⟩ (.int .i64 (n9' : Int))) := ⟨_, rfl⟩
  have aw : At gx w22 w23 := by rw [hw23]; exact ((At.refl gx w22).set 9 _)
  have hy0 := heap_setCell_same w22 gx 9 _ _ (.int .i64 (n9' : Int)) hX22
  have hX23 : w23.heap[gx]? = some (.cells #[.int .i64 (n2' : Int), .string ⟨t3.toArray⟩, .string ⟨t4.toArray⟩, .string ⟨t5.toArray⟩, .slice av ss.length cv, .int .i64 lim, .slice none 0 0, .int .i64 (n7' : Int), .int .i64 (n8' : Int), .int .i64 (n9' : Int), .int .i64 0, .bool false] 27 (0, 0)) := by rw [hw23]; exact hy0
  have hsl := hsl.at aw (steps_apart hX22)
  rw [← hw23]
  have hr23 := hr22.grown aw (Ne.symm nx)
  have hQ23 := (aw.block gr (Array.getElem?_eq_some_iff.1 hQ22).1 (by simpa using nq)).trans hQ22
  have hb23 := At.below hb22 aw n4
  clear hw23 aw hr22 hQ22 hb22 hX22 hy0
  have sn23 := sn22
  clear sn22
  refine (rint_any_r g r9 e9 99 w23 hr23 sn23 (by unfold maxLen; omega) (by omega) (by omega)).mono ?_
  rintro _ w24 ⟨rfl, hr24, aw⟩
  have hQ24 := (aw.block gr (Array.getElem?_eq_some_iff.1 hQ23).1 (by simpa using n1)).trans hQ23
  have sn24 : Sane (intF r9 e9 99).2.1 (intF r9 e9 99).2.2 := sane_intF (99) sn23
  have hX24 := (aw.block gx (Array.getElem?_eq_some_iff.1 hX23).1 (by simpa using nx)).trans hX23
  have hsl := hsl.at aw (rrdr_apart hr23)
  have hb24 := At.below hb23 aw n3
  have hl24 := intF_len r9 e9 99
  obtain ⟨⟨n10', r10, e10⟩, hxn10'⟩ : ∃ x, intF r9 e9 99 = x := ⟨_, rfl⟩
  rw [hxn10'] at hr24 hl24 sn24 ⊢
  simp only at hr24 hl24 sn24 ⊢
  have HXn10' := hid hxn10'
  clear hxn10' hr23 hQ23 hb23 sn23 aw hX23
  have x10 : w24.cell? ⟨gx, 10, none⟩ = some (.int .i64 0) := by rw [cell_of_row w24 _ 10 _ _ (0, 0) hX24]; rfl
  have xz10 : w24.frozen? ⟨gx, 10, none⟩ = false := frozen_of_row w24 _ 10 _ _ hX24
  go_wp2_with fail
  clear x10 xz10
  obtain ⟨w25, hw25⟩ : ∃ x, x = (w24.setCell ⟨gx, 10, none⟩ (.int .i64 (n10' : Int))) := ⟨_, rfl⟩
  have aw : At gx w24 w25 := by rw [hw25]; exact ((At.refl gx w24).set 10 _)
  have hy0 := heap_setCell_same w24 gx 10 _ _ (.int .i64 (n10' : Int)) hX24
  have hX25 : w25.heap[gx]? = some (.cells #[.int .i64 (n2' : Int), .string ⟨t3.toArray⟩, .string ⟨t4.toArray⟩, .string ⟨t5.toArray⟩, .slice av ss.length cv, .int .i64 lim, .slice none 0 0, .int .i64 (n7' : Int), .int .i64 (n8' : Int), .int .i64 (n9' : Int), .int .i64 (n10' : Int), .bool false] 27 (0, 0)) := by rw [hw25]; exact hy0
  have hsl := hsl.at aw (steps_apart hX24)
  rw [← hw25]
  have hr25 := hr24.grown aw (Ne.symm nx)
  have hQ25 := (aw.block gr (Array.getElem?_eq_some_iff.1 hQ24).1 (by simpa using nq)).trans hQ24
  have hb25 := At.below hb24 aw n4
  clear hw25 aw hr24 hQ24 hb24 hX24 hy0
  have sn25 := sn24
  clear sn24
  refine (rint_any_r g r10 e10 1 w25 hr25 sn25 (by unfold maxLen; omega) (by omega) (by omega)).mono ?_
  rintro _ w26 ⟨rfl, hr26, aw⟩
  have hQ26 := (aw.block gr (Array.getElem?_eq_some_iff.1 hQ25).1 (by simpa using n1)).trans hQ25
  have sn26 : Sane (intF r10 e10 1).2.1 (intF r10 e10 1).2.2 := sane_intF (1) sn25
  have hX26 := (aw.block gx (Array.getElem?_eq_some_iff.1 hX25).1 (by simpa using nx)).trans hX25
  have hsl := hsl.at aw (rrdr_apart hr25)
  have hb26 := At.below hb25 aw n3
  have hl26 := intF_len r10 e10 1
  obtain ⟨⟨n11', r11, e11⟩, hxn11'⟩ : ∃ x, intF r10 e10 1 = x := ⟨_, rfl⟩
  rw [hxn11'] at hr26 hl26 sn26 ⊢
  simp only at hr26 hl26 sn26 ⊢
  have HXn11' := hid hxn11'
  clear hxn11' hr25 hQ25 hb25 sn25 aw hX25
  have x11 : w26.cell? ⟨gx, 11, none⟩ = some (.bool false) := by rw [cell_of_row w26 _ 11 _ _ (0, 0) hX26]; rfl
  have xz11 : w26.frozen? ⟨gx, 11, none⟩ = false := frozen_of_row w26 _ 11 _ _ hX26
  go_wp2_with fail
  clear x11 xz11
  obtain ⟨w27, hw27⟩ : ∃ x, x = (w26.setCell ⟨gx, 11, none⟩ (.bool ((n11' : Int) == 1))) := ⟨_, rfl⟩
  have aw : At gx w26 w27 := by rw [hw27]; exact ((At.refl gx w26).set 11 _)
  have hy0 := heap_setCell_same w26 gx 11 _ _ (.bool ((n11' : Int) == 1)) hX26
  have hX27 : w27.heap[gx]? = some (.cells #[.int .i64 (n2' : Int), .string ⟨t3.toArray⟩, .string ⟨t4.toArray⟩, .string ⟨t5.toArray⟩, .slice av ss.length cv, .int .i64 lim, .slice none 0 0, .int .i64 (n7' : Int), .int .i64 (n8' : Int), .int .i64 (n9' : Int), .int .i64 (n10' : Int), .bool ((n11' : Int) == 1)] 27 (0, 0)) := by rw [hw27]; exact hy0
  have hsl := hsl.at aw (steps_apart hX26)
  rw [← hw27]
  have hr27 := hr26.grown aw (Ne.symm nx)
  have hQ27 := (aw.block gr (Array.getElem?_eq_some_iff.1 hQ26).1 (by simpa using nq)).trans hQ26
  have hb27 := At.below hb26 aw n4
  clear hw27 aw hr26 hQ26 hb26 hX26 hy0
  have sn27 := sn26
  clear sn26
  refine (rint_any_r g r11 e11 4 w27 hr27 sn27 (by unfold maxLen; omega) (by omega) (by omega)).mono ?_
  rintro _ w28 ⟨rfl, hr28, aw⟩
  have hQ28 := (aw.block gr (Array.getElem?_eq_some_iff.1 hQ27).1 (by simpa using n1)).trans hQ27
  have sn28 : Sane (intF r11 e11 4).2.1 (intF r11 e11 4).2.2 := sane_intF (4) sn27
  have hX28 := (aw.block gx (Array.getElem?_eq_some_iff.1 hX27).1 (by simpa using nx)).trans hX27
  have hsl := hsl.at aw (rrdr_apart hr27)
  have hb28 := At.below hb27 aw n3
  have hl28 := intF_len r11 e11 4
  obtain ⟨⟨n12', r12, e12⟩, hxn12'⟩ : ∃ x, intF r11 e11 4 = x := ⟨_, rfl⟩
  rw [hxn12'] at hr28 hl28 sn28 ⊢
  simp only at hr28 hl28 sn28 ⊢
  have HXn12' := hid hxn12'
  clear hxn12' hr27 hQ27 hb27 sn27 aw hX27
  go_wp2_with fail
  have hN4 : n12' ≤ 4 := by
    have := intF_le (r := r11) (b := e11) (m := 4) (by decide)
    rw [HXn12'.out] at this
    simp only at this
    omega
  obtain ⟨wL, hwL⟩ : ∃ x, x = w28 := ⟨_, rfl⟩
  have st0 : RRqSt w wL w28 g gr gx #[.int .i64 0, .string ⟨#[]⟩, .string ⟨#[]⟩, .string ⟨#[]⟩, .slice none 0 0, .int .i64 0, .slice none 0 0, .int .i64 0, .int .i64 0, .int .i64 0, .int .i64 0, .bool false] #[.int .i64 (n2' : Int), .string ⟨t3.toArray⟩, .string ⟨t4.toArray⟩, .string ⟨t5.toArray⟩, .slice av ss.length cv, .int .i64 lim, .slice none 0 0, .int .i64 (n7' : Int), .int .i64 (n8' : Int), .int .i64 (n9' : Int), .int .i64 (n10' : Int), .bool ((n11' : Int) == 1)] 27 r12 e12 := ⟨hr28, sn28, hQ28, hX28, hb28, by omega, by rw [hwL]; intro _ _ _ _; rfl, by rw [hwL]; exact Nat.le_refl _⟩
  have hgL : g < wL.heap.size ∧ gr < wL.heap.size ∧ gx < wL.heap.size ∧ w.heap.size ≤ wL.heap.size := by
    rw [hwL]
    exact ⟨hr28.lt, (Array.getElem?_eq_some_iff.1 hQ28).1, (Array.getElem?_eq_some_iff.1 hX28).1, hb28.size⟩
  have hslL : Sl wL (.slice av ss.length cv) 6 ss.length (ss.flatMap stC) := by rw [hwL]; exact hsl
  have hap1 := fun (hn : ss.length ≠ 0) => rrdr_apart (l := ss) (by rw [hwL]; exact hr28 : RRdr wL g r12 e12) hn
  have hap2 := fun (hn : ss.length ≠ 0) => steps_apart (l := ss) (by rw [hwL]; exact hX28 : wL.heap[gx]? = some (.cells #[.int .i64 (n2' : Int), .string ⟨t3.toArray⟩, .string ⟨t4.toArray⟩, .string ⟨t5.toArray⟩, .slice av ss.length cv, .int .i64 lim, .slice none 0 0, .int .i64 (n7' : Int), .int .i64 (n8' : Int), .int .i64 (n9' : Int), .int .i64 (n10' : Int), .bool ((n11' : Int) == 1)] 27 (0, 0))) hn
  have HAP1 := hid hap1
  have HAP2 := hid hap2
  have hinfo : (Try.prog.info? 65).map (fun i => (i.zero, i.size, i.bytes)) = some (some (.agg #[.int .i64 0, .int .i64 0, .bool false]), 3, 24) := by kernel_rfl
  have hmx : maxLen = 9223372036854775807 := rfl
  clear hr28 sn28 hQ28 hX28 hb28 hsl hap1 hap2 hwL
  go_loopw [15] (fun n0 wr => ∃ (k : Nat) (ua : Option Addr) (uc : Nat) (cs : List Cm) (r : List UInt8) (b : Bool), k ≤ n12' ∧ n0 = .int .i64 (k : Int) ∧ RRqSt w wL wr g gr gx #[.int .i64 0, .string ⟨#[]⟩, .string ⟨#[]⟩, .string ⟨#[]⟩, .slice none 0 0, .int .i64 0, .slice none 0 0, .int .i64 0, .int .i64 0, .int .i64 0, .int .i64 0, .bool false] #[.int .i64 (n2' : Int), .string ⟨t3.toArray⟩, .string ⟨t4.toArray⟩, .string ⟨t5.toArray⟩, .slice av ss.length cv, .int .i64 lim, .slice ua k uc, .int .i64 (n7' : Int), .int .i64 (n8' : Int), .int .i64 (n9' : Int), .int .i64 (n10' : Int), .bool ((n11' : Int) == 1)] 27 r b ∧ wr.ownsRow wL.heap.size 65 3 (.slice ua k uc) k (cs.flatMap cmc) ∧ cs.length = k ∧ manyG (cmG 99 99) n12' (r12, e12) = (cs ++ (manyG (cmG 99 99) (n12' - k) (r, b)).1, (manyG (cmG 99 99) (n12' - k) (r, b)).2)) (fun n0 _ => n12' - (intOf n0).toNat)
  case atStart => exact ⟨0, none, 0, [], r12, e12, by omega, rfl, st0, World.ownsRow_nil _ _ _ _, rfl, by simp⟩
  case round =>
    clear st0
    obtain ⟨k, ua, uc, cs, r, b, hk, rfl, hst, ho, hcl, hmn⟩ := hrel
    have HMN := hid hmn
    clear hmn
    by_cases hlt : k < n12'
    · go_wp2_with fail
      obtain ⟨wa, hwa⟩ : ∃ x, x = wr.alloc (.cells #[.int .i64 0, .int .i64 0, .bool false] 65) := ⟨_, rfl⟩
      have ba : Below wr.heap.size wr wa := by rw [hwa]; exact (Below.refl _ _).alloc (Nat.le_refl _) _
      have hC0 : wa.heap[wr.heap.size]? = some (.cells #[.int .i64 0, .int .i64 0, .bool false] 65 (0, 0)) := by rw [hwa]; exact heap_alloc_new wr _
      have sta := hst.below ba
      have oa := own_new ho ba
      rw [← hwa]
      obtain ⟨gc, hgc⟩ : ∃ gc, gc = wr.heap.size := ⟨_, rfl⟩
      have ngc : wL.heap.size ≤ gc := by rw [hgc]; exact hst.hsz
      have nga : ∀ q, (Value.slice ua k uc).ownBlock = some q → q ≠ gc := fun q hq => by have := (ho.lt q hq).2; omega
      rw [← hgc] at hC0 ⊢
      clear hwa ba hst ho hgc
      refine (rint_any_r g r b 99 wa sta.hr sta.sn (by have := sta.len; unfold maxLen; omega) (by omega) (by omega)).mono ?_
      rintro _ wr0 ⟨rfl, hrz, az⟩
      have st0a := sta.rd hrz (sane_intF (99) sta.sn) az (intF_len r b 99) n1 nx n3
      have o0a := own_at_lt oa az hgL.1
      have hC0a := (az.block gc (Array.getElem?_eq_some_iff.1 hC0).1 (by have := hgL.1; simp; omega)).trans hC0
      obtain ⟨⟨c0, ra, ba'⟩, hxc⟩ : ∃ x, intF r b 99 = x := ⟨_, rfl⟩
      rw [hxc] at st0a ⊢
      simp only at st0a ⊢
      have HC0 := hid hxc
      clear hxc hrz az sta oa hC0
      have z0 : wr0.cell? ⟨gc, 0, none⟩ = some (.int .i64 0) := by rw [cell_of_row wr0 _ 0 _ _ (0, 0) hC0a]; rfl
      have zz0 : wr0.frozen? ⟨gc, 0, none⟩ = false := frozen_of_row wr0 _ 0 _ _ hC0a
      go_wp2_with fail
      clear z0 zz0
      obtain ⟨ws0, hw3⟩ : ∃ x, x = (wr0.setCell ⟨gc, 0, none⟩ (.int .i64 (c0 : Int))) := ⟨_, rfl⟩
      have aw : At gc wr0 ws0 := by rw [hw3]; exact ((At.refl gc wr0).set 0 _)
      have hy0 := heap_setCell_same wr0 gc 0 _ _ (.int .i64 (c0 : Int)) hC0a
      have hC0b : ws0.heap[gc]? = some (.cells #[.int .i64 (c0 : Int), .int .i64 0, .bool false] 65 (0, 0)) := by rw [hw3]; exact hy0
      rw [← hw3]
      have st0b := st0a.other aw ngc hgL.1 hgL.2.1 hgL.2.2.1 hgL.2.2.2
      have o0b := o0a.kept aw (by cases hv : (Value.slice ua k uc).ownBlock with | none => exact .inl rfl | some q => exact .inr (by have := nga q hv; simpa using this))
      clear hw3 aw hy0 hC0a st0a o0a
      refine (rint_any_r g ra ba' 99 ws0 st0b.hr st0b.sn (by have := st0b.len; unfold maxLen; omega) (by omega) (by omega)).mono ?_
      rintro _ wr1 ⟨rfl, hrz, az⟩
      have st1a := st0b.rd hrz (sane_intF (99) st0b.sn) az (intF_len ra ba' 99) n1 nx n3
      have o1a := own_at_lt o0b az hgL.1
      have hC1a := (az.block gc (Array.getElem?_eq_some_iff.1 hC0b).1 (by have := hgL.1; simp; omega)).trans hC0b
      obtain ⟨⟨c1, rb, bb'⟩, hxc⟩ : ∃ x, intF ra ba' 99 = x := ⟨_, rfl⟩
      rw [hxc] at st1a ⊢
      simp only at st1a ⊢
      have HC1 := hid hxc
      clear hxc hrz az st0b o0b hC0b
      have z1 : wr1.cell? ⟨gc, 1, none⟩ = some (.int .i64 0) := by rw [cell_of_row wr1 _ 1 _ _ (0, 0) hC1a]; rfl
      have zz1 : wr1.frozen? ⟨gc, 1, none⟩ = false := frozen_of_row wr1 _ 1 _ _ hC1a
      go_wp2_with fail
      clear z1 zz1
      obtain ⟨ws1, hw3⟩ : ∃ x, x = (wr1.setCell ⟨gc, 1, none⟩ (.int .i64 (c1 : Int))) := ⟨_, rfl⟩
      have aw : At gc wr1 ws1 := by rw [hw3]; exact ((At.refl gc wr1).set 1 _)
      have hy0 := heap_setCell_same wr1 gc 1 _ _ (.int .i64 (c1 : Int)) hC1a
      have hC1b : ws1.heap[gc]? = some (.cells #[.int .i64 (c0 : Int), .int .i64 (c1 : Int), .bool false] 65 (0, 0)) := by rw [hw3]; exact hy0
      rw [← hw3]
      have st1b := st1a.other aw ngc hgL.1 hgL.2.1 hgL.2.2.1 hgL.2.2.2
      have o1b := o1a.kept aw (by cases hv : (Value.slice ua k uc).ownBlock with | none => exact .inl rfl | some q => exact .inr (by have := nga q hv; simpa using this))
      clear hw3 aw hy0 hC1a st1a o1a
      refine (rint_any_r g rb bb' 1 ws1 st1b.hr st1b.sn (by have := st1b.len; unfold maxLen; omega) (by omega) (by omega)).mono ?_
      rintro _ wr2 ⟨rfl, hrz, az⟩
      have st2a := st1b.rd hrz (sane_intF (1) st1b.sn) az (intF_len rb bb' 1) n1 nx n3
      have o2a := own_at_lt o1b az hgL.1
      have hC2a := (az.block gc (Array.getElem?_eq_some_iff.1 hC1b).1 (by have := hgL.1; simp; omega)).trans hC1b
      obtain ⟨⟨c2, rc, bc'⟩, hxc⟩ : ∃ x, intF rb bb' 1 = x := ⟨_, rfl⟩
      rw [hxc] at st2a ⊢
      simp only at st2a ⊢
      have HC2 := hid hxc
      clear hxc hrz az st1b o1b hC1b
      have z2 : wr2.cell? ⟨gc, 2, none⟩ = some (.bool false) := by rw [cell_of_row wr2 _ 2 _ _ (0, 0) hC2a]; rfl
      have zz2 : wr2.frozen? ⟨gc, 2, none⟩ = false := frozen_of_row wr2 _ 2 _ _ hC2a
      go_upto_region 27 with (fail)
      clear z2 zz2
      obtain ⟨ws2, hw3⟩ : ∃ x, x = (wr2.setCell ⟨gc, 2, none⟩ (.bool ((c2 : Int) == 1))) := ⟨_, rfl⟩
      have aw : At gc wr2 ws2 := by rw [hw3]; exact ((At.refl gc wr2).set 2 _)
      have hy0 := heap_setCell_same wr2 gc 2 _ _ (.bool ((c2 : Int) == 1)) hC2a
      have hC2b : ws2.heap[gc]? = some (.cells #[.int .i64 (c0 : Int), .int .i64 (c1 : Int), .bool ((c2 : Int) == 1)] 65 (0, 0)) := by rw [hw3]; exact hy0
      rw [← hw3]
      have st2b := st2a.other aw ngc hgL.1 hgL.2.1 hgL.2.2.1 hgL.2.2.2
      have o2b := o2a.kept aw (by cases hv : (Value.slice ua k uc).ownBlock with | none => exact .inl rfl | some q => exact .inr (by have := nga q hv; simpa using this))
      clear hw3 aw hy0 hC2a st2a o2a
      have hcm : cmG 99 99 (r, b) = (((c0 : Int), (c1 : Int), ((c2 : Int) == 1)), rc, bc') := cmG_eq HC0.out HC1.out HC2.out
      have hmf := manyG_step' HMN.out hlt
      rw [hcm] at hmf
      have HMF := hid hmf
      clear hmf hcm HMN
      have bZ : Below ws2.heap.size ws2 (ws2.alloc (.cells #[.int .i64 (c0 : Int), .int .i64 (c1 : Int), .bool ((c2 : Int) == 1)] 65)) := (Below.refl _ _).alloc (Nat.le_refl _) _
      have oZ := own_new o2b bZ
      have stZ := st2b.below bZ
      have hy : ∀ (j : Nat) (q9 : Value), (cmc ((c0 : Int), (c1 : Int), ((c2 : Int) == 1)))[j]? = some q9 → (ws2.alloc (.cells #[.int .i64 (c0 : Int), .int .i64 (c1 : Int), .bool ((c2 : Int) == 1)] 65)).cell? ⟨ws2.heap.size, j, none⟩ = some q9 := by
        intro j u hu
        refine (World.cell?_alloc_at _ _ _ _ rfl).trans ?_
        rw [← hu]
        exact List.getElem?_toArray
      have z0 : ws2.cell? ⟨gc, 0, none⟩ = some (.int .i64 (c0 : Int)) := by rw [cell_of_row ws2 _ 0 _ _ (0, 0) hC2b]; rfl
      have z1 : ws2.cell? ⟨gc, 1, none⟩ = some (.int .i64 (c1 : Int)) := by rw [cell_of_row ws2 _ 1 _ _ (0, 0) hC2b]; rfl
      have z2 : ws2.cell? ⟨gc, 2, none⟩ = some (.bool ((c2 : Int) == 1)) := by rw [cell_of_row ws2 _ 2 _ _ (0, 0) hC2b]; rfl
      have x6 := st2b.cell (j := 6) (v := .slice ua k uc) rfl
      have xz6 := st2b.frozen 6
      have hB9 := stZ.hsz
      clear hC2b o2b
      go_wp2_with ((at_builtin; go_must (refine wpList_append_row _ rfl _ _ 25 rfl cmc 3 (by decide) cmc_len cmc_one wL.heap.size 65 (.agg #[.int .i64 0, .int .i64 0, .bool false]) 24 Try.underlying25 hinfo rfl _ k cs rfl oZ ws2.heap.size 1 rfl (((c0 : Int), (c1 : Int), ((c2 : Int) == 1)) : Cm) hy (by omega) (by omega) hB9 ?_)))
      intro a' c' w' hown hgrow
      have stf := stZ.grown oZ hgrow hgL.1 hgL.2.1 hgL.2.2.1 hgL.2.2.2
      have y6 := stf.cell (j := 6) (v := .slice ua k uc) rfl
      have yz6 := stf.frozen 6
      clear hy bZ oZ stZ hgrow hB9 st2b z0 z1 z2 x6 xz6
      have hstf := stf.store 6 (.slice a' (k + 1) c') (Ne.symm nx) nq n4
      have hof := own_at_lt hown ((At.refl gx w').set 6 (.slice a' (k + 1) c')) hgL.2.2.1
      clear hown
      have hnn : k + 1 ≤ n12' := hlt
      have hcl' : (cs ++ [(((c0 : Int), (c1 : Int), ((c2 : Int) == 1)) : Cm)]).length = k + 1 := by rw [List.length_append, hcl]; rfl
      have HF := hid (And.intro hstf hof)
      clear hstf hof stf
      go_wp2_with fail
      go_roundw
      case rel => first
        | exact ⟨k + 1, a', c', cs ++ [((c0 : Int), (c1 : Int), ((c2 : Int) == 1))], rc, bc', hnn, by go_num, HF.out.1, by simpa [List.flatMap_append] using HF.out.2, hcl', HMF.out⟩
        | ((repeat apply Exists.intro); exact ⟨⟨k + 1, a', c', cs ++ [((c0 : Int), (c1 : Int), ((c2 : Int) == 1))], rc, bc', hnn, by go_num, HF.out.1, by simpa [List.flatMap_append] using HF.out.2, hcl', HMF.out⟩, rfl⟩)
      case measure => simp [intOf]; omega
    · have h13 := HMN.out
      rw [show n12' - k = 0 by omega] at h13
      simp only [manyG, List.append_nil] at h13
      subst hcl
      have hcn : cs.length ≤ 4 := by omega
      have HX13 := hid h13
      clear h13 HMN
      have hu := Sl.of_own ho (by omega)
      have hsl := hst.sl hslL HAP1.out HAP2.out
      have x0 : wr.cell? ⟨gx, 0, none⟩ = some (.int .i64 (n2' : Int)) := (hst).cell rfl
      have xz0 : wr.frozen? ⟨gx, 0, none⟩ = false := (hst).frozen 0
      have x1 : wr.cell? ⟨gx, 1, none⟩ = some (.string ⟨t3.toArray⟩) := (hst).cell rfl
      have xz1 : wr.frozen? ⟨gx, 1, none⟩ = false := (hst).frozen 1
      have x2 : wr.cell? ⟨gx, 2, none⟩ = some (.string ⟨t4.toArray⟩) := (hst).cell rfl
      have xz2 : wr.frozen? ⟨gx, 2, none⟩ = false := (hst).frozen 2
      have x3 : wr.cell? ⟨gx, 3, none⟩ = some (.string ⟨t5.toArray⟩) := (hst).cell rfl
      have xz3 : wr.frozen? ⟨gx, 3, none⟩ = false := (hst).frozen 3
      have x4 : wr.cell? ⟨gx, 4, none⟩ = some (.slice av ss.length cv) := (hst).cell rfl
      have xz4 : wr.frozen? ⟨gx, 4, none⟩ = false := (hst).frozen 4
      have x5 : wr.cell? ⟨gx, 5, none⟩ = some (.int .i64 lim) := (hst).cell rfl
      have xz5 : wr.frozen? ⟨gx, 5, none⟩ = false := (hst).frozen 5
      have x6 : wr.cell? ⟨gx, 6, none⟩ = some (.slice ua cs.length uc) := (hst).cell rfl
      have xz6 : wr.frozen? ⟨gx, 6, none⟩ = false := (hst).frozen 6
      have x7 : wr.cell? ⟨gx, 7, none⟩ = some (.int .i64 (n7' : Int)) := (hst).cell rfl
      have xz7 : wr.frozen? ⟨gx, 7, none⟩ = false := (hst).frozen 7
      have x8 : wr.cell? ⟨gx, 8, none⟩ = some (.int .i64 (n8' : Int)) := (hst).cell rfl
      have xz8 : wr.frozen? ⟨gx, 8, none⟩ = false := (hst).frozen 8
      have x9 : wr.cell? ⟨gx, 9, none⟩ = some (.int .i64 (n9' : Int)) := (hst).cell rfl
      have xz9 : wr.frozen? ⟨gx, 9, none⟩ = false := (hst).frozen 9
      have x10 : wr.cell? ⟨gx, 10, none⟩ = some (.int .i64 (n10' : Int)) := (hst).cell rfl
      have xz10 : wr.frozen? ⟨gx, 10, none⟩ = false := (hst).frozen 10
      have x11 : wr.cell? ⟨gx, 11, none⟩ = some (.bool ((n11' : Int) == 1)) := (hst).cell rfl
      have xz11 : wr.frozen? ⟨gx, 11, none⟩ = false := (hst).frozen 11
      go_wp2_with fail
      clear x0 xz0 x1 xz1 x2 xz2 x3 xz3 x4 xz4 x5 xz5 x6 xz6 x7 xz7 x8 xz8 x9 xz9 x10 xz10 x11 xz11
      refine (rrequest_any n1' n2' t3 t4 t5 (by omega) (by omega) (by omega) _ lim ss ua uc cs n7' n8' n9' n10' _ wr hsl (rpg_fit HP.out) hu).mono ?_
      rintro _ wq ⟨rfl, bq⟩
      have hsl := hsl.below bq
      clear hu
      have st9 := hst.below bq
      have ho9 := own_new ho bq
      clear hst ho
      have HALL := hid (rrq_all HNX.out HXn0'.out HXn1'.out HXn2'.out HXt3.out HXt4.out HXt5.out HXt6.out HXn7'.out HXn8'.out HXn9'.out HXn10'.out HXn11'.out HXn12'.out HX13.out HP.out)
      obtain ⟨V, hV⟩ : ∃ V, V = rqV n1' ⟨(n2' : Int), t3, t4, t5, ss, lim, cs, n7', n8', n9', n10', ((n11' : Int) == 1)⟩ := ⟨_, rfl⟩
      obtain ⟨E, hE⟩ : ∃ E, E = rqE n1' ⟨(n2' : Int), t3, t4, t5, ss, lim, cs, n7', n8', n9', n10', ((n11' : Int) == 1)⟩ := ⟨_, rfl⟩
      have HV := hid hV
      have HE := hid hE
      rw [← HV.out, ← HE.out] at HALL ⊢
      clear hV hE HP
      by_cases c1 : rest = []
      case neg =>
        have HNO := hid (rrp_rej HALL.out (fun q => c1 q.1))
        have hq1 : (rest == []) = false := by cases rest with | nil => exact absurd rfl c1 | cons _ _ => rfl
        have hq2 : ([] == rest) = false := by cases rest with | nil => exact absurd rfl c1 | cons _ _ => rfl
        have hq3 : ¬ rest.length = 0 := fun h => c1 (List.eq_nil_of_length_eq_zero h)
        clear HALL hsl ho9
        have hQe := (st9).hQ
        have q0 : wq.cell? ⟨gr, 0, none⟩ = some (.int .i64 0) := by rw [cell_of_row wq _ 0 _ _ (0, 0) hQe]; rfl
        have qz0 : wq.frozen? ⟨gr, 0, none⟩ = false := frozen_of_row wq _ 0 _ _ hQe
        have q1 : wq.cell? ⟨gr, 1, none⟩ = some (.string ⟨#[]⟩) := by rw [cell_of_row wq _ 1 _ _ (0, 0) hQe]; rfl
        have qz1 : wq.frozen? ⟨gr, 1, none⟩ = false := frozen_of_row wq _ 1 _ _ hQe
        have q2 : wq.cell? ⟨gr, 2, none⟩ = some (.string ⟨#[]⟩) := by rw [cell_of_row wq _ 2 _ _ (0, 0) hQe]; rfl
        have qz2 : wq.frozen? ⟨gr, 2, none⟩ = false := frozen_of_row wq _ 2 _ _ hQe
        have q3 : wq.cell? ⟨gr, 3, none⟩ = some (.string ⟨#[]⟩) := by rw [cell_of_row wq _ 3 _ _ (0, 0) hQe]; rfl
        have qz3 : wq.frozen? ⟨gr, 3, none⟩ = false := frozen_of_row wq _ 3 _ _ hQe
        have q4 : wq.cell? ⟨gr, 4, none⟩ = some (.slice none 0 0) := by rw [cell_of_row wq _ 4 _ _ (0, 0) hQe]; rfl
        have qz4 : wq.frozen? ⟨gr, 4, none⟩ = false := frozen_of_row wq _ 4 _ _ hQe
        have q5 : wq.cell? ⟨gr, 5, none⟩ = some (.int .i64 0) := by rw [cell_of_row wq _ 5 _ _ (0, 0) hQe]; rfl
        have qz5 : wq.frozen? ⟨gr, 5, none⟩ = false := frozen_of_row wq _ 5 _ _ hQe
        have q6 : wq.cell? ⟨gr, 6, none⟩ = some (.slice none 0 0) := by rw [cell_of_row wq _ 6 _ _ (0, 0) hQe]; rfl
        have qz6 : wq.frozen? ⟨gr, 6, none⟩ = false := frozen_of_row wq _ 6 _ _ hQe
        have q7 : wq.cell? ⟨gr, 7, none⟩ = some (.int .i64 0) := by rw [cell_of_row wq _ 7 _ _ (0, 0) hQe]; rfl
        have qz7 : wq.frozen? ⟨gr, 7, none⟩ = false := frozen_of_row wq _ 7 _ _ hQe
        have q8 : wq.cell? ⟨gr, 8, none⟩ = some (.int .i64 0) := by rw [cell_of_row wq _ 8 _ _ (0, 0) hQe]; rfl
        have qz8 : wq.frozen? ⟨gr, 8, none⟩ = false := frozen_of_row wq _ 8 _ _ hQe
        have q9 : wq.cell? ⟨gr, 9, none⟩ = some (.int .i64 0) := by rw [cell_of_row wq _ 9 _ _ (0, 0) hQe]; rfl
        have qz9 : wq.frozen? ⟨gr, 9, none⟩ = false := frozen_of_row wq _ 9 _ _ hQe
        have q10 : wq.cell? ⟨gr, 10, none⟩ = some (.int .i64 0) := by rw [cell_of_row wq _ 10 _ _ (0, 0) hQe]; rfl
        have qz10 : wq.frozen? ⟨gr, 10, none⟩ = false := frozen_of_row wq _ 10 _ _ hQe
        have q11 : wq.cell? ⟨gr, 11, none⟩ = some (.bool false) := by rw [cell_of_row wq _ 11 _ _ (0, 0) hQe]; rfl
        have qz11 : wq.frozen? ⟨gr, 11, none⟩ = false := frozen_of_row wq _ 11 _ _ hQe
        have hbe := (st9).hb
        go_wp2_with fail
        refine bodyPost_ret (v := .tuple #[.int .i64 0, .agg #[.int .i64 0, .string ⟨#[]⟩, .string ⟨#[]⟩, .string ⟨#[]⟩, .slice none 0 0, .int .i64 0, .slice none 0 0, .int .i64 0, .int .i64 0, .int .i64 0, .int .i64 0, .bool false], .int .i64 60]) ?_ rfl ⟨0, rq0, .slice none 0 0, .slice none 0 0, 60, rfl, Sl.none _ _, Sl.none _ _, At.below hbe ((((((((((((((At.refl gr wq).set 0 _).set 1 _).set 2 _).set 3 _).set 4 _).set 5 _).set 6 _).set 7 _).set 8 _).set 9 _).set 10 _).set 11 _) : At gr wq ((((((((((((wq.setCell ⟨gr, 0, none⟩ (.int .i64 0)).setCell ⟨gr, 1, none⟩ (.string ⟨#[]⟩)).setCell ⟨gr, 2, none⟩ (.string ⟨#[]⟩)).setCell ⟨gr, 3, none⟩ (.string ⟨#[]⟩)).setCell ⟨gr, 4, none⟩ (.slice none 0 0)).setCell ⟨gr, 5, none⟩ (.int .i64 0)).setCell ⟨gr, 6, none⟩ (.slice none 0 0)).setCell ⟨gr, 7, none⟩ (.int .i64 0)).setCell ⟨gr, 8, none⟩ (.int .i64 0)).setCell ⟨gr, 9, none⟩ (.int .i64 0)).setCell ⟨gr, 10, none⟩ (.int .i64 0)).setCell ⟨gr, 11, none⟩ (.bool false))) n2, .inr ⟨HERF.out.symm, rfl, rfl, rfl, rfl, HNO.out⟩⟩
        rw [results_tct rfl]
        go_simp
      subst c1
      by_cases c2 : n0' = 1
      case neg =>
        have HNO := hid (rrp_rej HALL.out (fun q => c2 q.2.1))
        have hq1 : ¬ (n0' : Int) = 1 := by omega
        clear HALL hsl ho9
        have hQe := (st9).hQ
        have q0 : wq.cell? ⟨gr, 0, none⟩ = some (.int .i64 0) := by rw [cell_of_row wq _ 0 _ _ (0, 0) hQe]; rfl
        have qz0 : wq.frozen? ⟨gr, 0, none⟩ = false := frozen_of_row wq _ 0 _ _ hQe
        have q1 : wq.cell? ⟨gr, 1, none⟩ = some (.string ⟨#[]⟩) := by rw [cell_of_row wq _ 1 _ _ (0, 0) hQe]; rfl
        have qz1 : wq.frozen? ⟨gr, 1, none⟩ = false := frozen_of_row wq _ 1 _ _ hQe
        have q2 : wq.cell? ⟨gr, 2, none⟩ = some (.string ⟨#[]⟩) := by rw [cell_of_row wq _ 2 _ _ (0, 0) hQe]; rfl
        have qz2 : wq.frozen? ⟨gr, 2, none⟩ = false := frozen_of_row wq _ 2 _ _ hQe
        have q3 : wq.cell? ⟨gr, 3, none⟩ = some (.string ⟨#[]⟩) := by rw [cell_of_row wq _ 3 _ _ (0, 0) hQe]; rfl
        have qz3 : wq.frozen? ⟨gr, 3, none⟩ = false := frozen_of_row wq _ 3 _ _ hQe
        have q4 : wq.cell? ⟨gr, 4, none⟩ = some (.slice none 0 0) := by rw [cell_of_row wq _ 4 _ _ (0, 0) hQe]; rfl
        have qz4 : wq.frozen? ⟨gr, 4, none⟩ = false := frozen_of_row wq _ 4 _ _ hQe
        have q5 : wq.cell? ⟨gr, 5, none⟩ = some (.int .i64 0) := by rw [cell_of_row wq _ 5 _ _ (0, 0) hQe]; rfl
        have qz5 : wq.frozen? ⟨gr, 5, none⟩ = false := frozen_of_row wq _ 5 _ _ hQe
        have q6 : wq.cell? ⟨gr, 6, none⟩ = some (.slice none 0 0) := by rw [cell_of_row wq _ 6 _ _ (0, 0) hQe]; rfl
        have qz6 : wq.frozen? ⟨gr, 6, none⟩ = false := frozen_of_row wq _ 6 _ _ hQe
        have q7 : wq.cell? ⟨gr, 7, none⟩ = some (.int .i64 0) := by rw [cell_of_row wq _ 7 _ _ (0, 0) hQe]; rfl
        have qz7 : wq.frozen? ⟨gr, 7, none⟩ = false := frozen_of_row wq _ 7 _ _ hQe
        have q8 : wq.cell? ⟨gr, 8, none⟩ = some (.int .i64 0) := by rw [cell_of_row wq _ 8 _ _ (0, 0) hQe]; rfl
        have qz8 : wq.frozen? ⟨gr, 8, none⟩ = false := frozen_of_row wq _ 8 _ _ hQe
        have q9 : wq.cell? ⟨gr, 9, none⟩ = some (.int .i64 0) := by rw [cell_of_row wq _ 9 _ _ (0, 0) hQe]; rfl
        have qz9 : wq.frozen? ⟨gr, 9, none⟩ = false := frozen_of_row wq _ 9 _ _ hQe
        have q10 : wq.cell? ⟨gr, 10, none⟩ = some (.int .i64 0) := by rw [cell_of_row wq _ 10 _ _ (0, 0) hQe]; rfl
        have qz10 : wq.frozen? ⟨gr, 10, none⟩ = false := frozen_of_row wq _ 10 _ _ hQe
        have q11 : wq.cell? ⟨gr, 11, none⟩ = some (.bool false) := by rw [cell_of_row wq _ 11 _ _ (0, 0) hQe]; rfl
        have qz11 : wq.frozen? ⟨gr, 11, none⟩ = false := frozen_of_row wq _ 11 _ _ hQe
        have hbe := (st9).hb
        go_wp2_with fail
        refine bodyPost_ret (v := .tuple #[.int .i64 0, .agg #[.int .i64 0, .string ⟨#[]⟩, .string ⟨#[]⟩, .string ⟨#[]⟩, .slice none 0 0, .int .i64 0, .slice none 0 0, .int .i64 0, .int .i64 0, .int .i64 0, .int .i64 0, .bool false], .int .i64 60]) ?_ rfl ⟨0, rq0, .slice none 0 0, .slice none 0 0, 60, rfl, Sl.none _ _, Sl.none _ _, At.below hbe ((((((((((((((At.refl gr wq).set 0 _).set 1 _).set 2 _).set 3 _).set 4 _).set 5 _).set 6 _).set 7 _).set 8 _).set 9 _).set 10 _).set 11 _) : At gr wq ((((((((((((wq.setCell ⟨gr, 0, none⟩ (.int .i64 0)).setCell ⟨gr, 1, none⟩ (.string ⟨#[]⟩)).setCell ⟨gr, 2, none⟩ (.string ⟨#[]⟩)).setCell ⟨gr, 3, none⟩ (.string ⟨#[]⟩)).setCell ⟨gr, 4, none⟩ (.slice none 0 0)).setCell ⟨gr, 5, none⟩ (.int .i64 0)).setCell ⟨gr, 6, none⟩ (.slice none 0 0)).setCell ⟨gr, 7, none⟩ (.int .i64 0)).setCell ⟨gr, 8, none⟩ (.int .i64 0)).setCell ⟨gr, 9, none⟩ (.int .i64 0)).setCell ⟨gr, 10, none⟩ (.int .i64 0)).setCell ⟨gr, 11, none⟩ (.bool false))) n2, .inr ⟨HERF.out.symm, rfl, rfl, rfl, rfl, HNO.out⟩⟩
        rw [results_tct rfl]
        go_simp
      subst c2
      by_cases c3 : f1 = 0
      case neg =>
        have HNO := hid (rrp_rej HALL.out (fun q => c3 q.2.2.1))
        clear HALL hsl ho9
        have hQe := (st9).hQ
        have q0 : wq.cell? ⟨gr, 0, none⟩ = some (.int .i64 0) := by rw [cell_of_row wq _ 0 _ _ (0, 0) hQe]; rfl
        have qz0 : wq.frozen? ⟨gr, 0, none⟩ = false := frozen_of_row wq _ 0 _ _ hQe
        have q1 : wq.cell? ⟨gr, 1, none⟩ = some (.string ⟨#[]⟩) := by rw [cell_of_row wq _ 1 _ _ (0, 0) hQe]; rfl
        have qz1 : wq.frozen? ⟨gr, 1, none⟩ = false := frozen_of_row wq _ 1 _ _ hQe
        have q2 : wq.cell? ⟨gr, 2, none⟩ = some (.string ⟨#[]⟩) := by rw [cell_of_row wq _ 2 _ _ (0, 0) hQe]; rfl
        have qz2 : wq.frozen? ⟨gr, 2, none⟩ = false := frozen_of_row wq _ 2 _ _ hQe
        have q3 : wq.cell? ⟨gr, 3, none⟩ = some (.string ⟨#[]⟩) := by rw [cell_of_row wq _ 3 _ _ (0, 0) hQe]; rfl
        have qz3 : wq.frozen? ⟨gr, 3, none⟩ = false := frozen_of_row wq _ 3 _ _ hQe
        have q4 : wq.cell? ⟨gr, 4, none⟩ = some (.slice none 0 0) := by rw [cell_of_row wq _ 4 _ _ (0, 0) hQe]; rfl
        have qz4 : wq.frozen? ⟨gr, 4, none⟩ = false := frozen_of_row wq _ 4 _ _ hQe
        have q5 : wq.cell? ⟨gr, 5, none⟩ = some (.int .i64 0) := by rw [cell_of_row wq _ 5 _ _ (0, 0) hQe]; rfl
        have qz5 : wq.frozen? ⟨gr, 5, none⟩ = false := frozen_of_row wq _ 5 _ _ hQe
        have q6 : wq.cell? ⟨gr, 6, none⟩ = some (.slice none 0 0) := by rw [cell_of_row wq _ 6 _ _ (0, 0) hQe]; rfl
        have qz6 : wq.frozen? ⟨gr, 6, none⟩ = false := frozen_of_row wq _ 6 _ _ hQe
        have q7 : wq.cell? ⟨gr, 7, none⟩ = some (.int .i64 0) := by rw [cell_of_row wq _ 7 _ _ (0, 0) hQe]; rfl
        have qz7 : wq.frozen? ⟨gr, 7, none⟩ = false := frozen_of_row wq _ 7 _ _ hQe
        have q8 : wq.cell? ⟨gr, 8, none⟩ = some (.int .i64 0) := by rw [cell_of_row wq _ 8 _ _ (0, 0) hQe]; rfl
        have qz8 : wq.frozen? ⟨gr, 8, none⟩ = false := frozen_of_row wq _ 8 _ _ hQe
        have q9 : wq.cell? ⟨gr, 9, none⟩ = some (.int .i64 0) := by rw [cell_of_row wq _ 9 _ _ (0, 0) hQe]; rfl
        have qz9 : wq.frozen? ⟨gr, 9, none⟩ = false := frozen_of_row wq _ 9 _ _ hQe
        have q10 : wq.cell? ⟨gr, 10, none⟩ = some (.int .i64 0) := by rw [cell_of_row wq _ 10 _ _ (0, 0) hQe]; rfl
        have qz10 : wq.frozen? ⟨gr, 10, none⟩ = false := frozen_of_row wq _ 10 _ _ hQe
        have q11 : wq.cell? ⟨gr, 11, none⟩ = some (.bool false) := by rw [cell_of_row wq _ 11 _ _ (0, 0) hQe]; rfl
        have qz11 : wq.frozen? ⟨gr, 11, none⟩ = false := frozen_of_row wq _ 11 _ _ hQe
        have hbe := (st9).hb
        go_wp2_with fail
        refine bodyPost_ret (v := .tuple #[.int .i64 0, .agg #[.int .i64 0, .string ⟨#[]⟩, .string ⟨#[]⟩, .string ⟨#[]⟩, .slice none 0 0, .int .i64 0, .slice none 0 0, .int .i64 0, .int .i64 0, .int .i64 0, .int .i64 0, .bool false], .int .i64 60]) ?_ rfl ⟨0, rq0, .slice none 0 0, .slice none 0 0, 60, rfl, Sl.none _ _, Sl.none _ _, At.below hbe ((((((((((((((At.refl gr wq).set 0 _).set 1 _).set 2 _).set 3 _).set 4 _).set 5 _).set 6 _).set 7 _).set 8 _).set 9 _).set 10 _).set 11 _) : At gr wq ((((((((((((wq.setCell ⟨gr, 0, none⟩ (.int .i64 0)).setCell ⟨gr, 1, none⟩ (.string ⟨#[]⟩)).setCell ⟨gr, 2, none⟩ (.string ⟨#[]⟩)).setCell ⟨gr, 3, none⟩ (.string ⟨#[]⟩)).setCell ⟨gr, 4, none⟩ (.slice none 0 0)).setCell ⟨gr, 5, none⟩ (.int .i64 0)).setCell ⟨gr, 6, none⟩ (.slice none 0 0)).setCell ⟨gr, 7, none⟩ (.int .i64 0)).setCell ⟨gr, 8, none⟩ (.int .i64 0)).setCell ⟨gr, 9, none⟩ (.int .i64 0)).setCell ⟨gr, 10, none⟩ (.int .i64 0)).setCell ⟨gr, 11, none⟩ (.bool false))) n2, .inr ⟨HERF.out.symm, rfl, rfl, rfl, rfl, HNO.out⟩⟩
        rw [results_tct rfl]
        go_simp
      subst c3
      go_wp2_with fail
      refine (rend_any g r b wq st9.hr).mono ?_
      rintro _ w99 ⟨rfl, hw9⟩
      rw [hw9]
      clear hw9 w99
      by_cases c4 : endF r b = true
      case neg =>
        have HNO := hid (rrp_rej HALL.out (fun q => c4 q.2.2.2.1))
        have c4' : endF r b = false := by simpa using c4
        rw [c4']
        clear HALL hsl ho9
        have hQe := (st9).hQ
        have q0 : wq.cell? ⟨gr, 0, none⟩ = some (.int .i64 0) := by rw [cell_of_row wq _ 0 _ _ (0, 0) hQe]; rfl
        have qz0 : wq.frozen? ⟨gr, 0, none⟩ = false := frozen_of_row wq _ 0 _ _ hQe
        have q1 : wq.cell? ⟨gr, 1, none⟩ = some (.string ⟨#[]⟩) := by rw [cell_of_row wq _ 1 _ _ (0, 0) hQe]; rfl
        have qz1 : wq.frozen? ⟨gr, 1, none⟩ = false := frozen_of_row wq _ 1 _ _ hQe
        have q2 : wq.cell? ⟨gr, 2, none⟩ = some (.string ⟨#[]⟩) := by rw [cell_of_row wq _ 2 _ _ (0, 0) hQe]; rfl
        have qz2 : wq.frozen? ⟨gr, 2, none⟩ = false := frozen_of_row wq _ 2 _ _ hQe
        have q3 : wq.cell? ⟨gr, 3, none⟩ = some (.string ⟨#[]⟩) := by rw [cell_of_row wq _ 3 _ _ (0, 0) hQe]; rfl
        have qz3 : wq.frozen? ⟨gr, 3, none⟩ = false := frozen_of_row wq _ 3 _ _ hQe
        have q4 : wq.cell? ⟨gr, 4, none⟩ = some (.slice none 0 0) := by rw [cell_of_row wq _ 4 _ _ (0, 0) hQe]; rfl
        have qz4 : wq.frozen? ⟨gr, 4, none⟩ = false := frozen_of_row wq _ 4 _ _ hQe
        have q5 : wq.cell? ⟨gr, 5, none⟩ = some (.int .i64 0) := by rw [cell_of_row wq _ 5 _ _ (0, 0) hQe]; rfl
        have qz5 : wq.frozen? ⟨gr, 5, none⟩ = false := frozen_of_row wq _ 5 _ _ hQe
        have q6 : wq.cell? ⟨gr, 6, none⟩ = some (.slice none 0 0) := by rw [cell_of_row wq _ 6 _ _ (0, 0) hQe]; rfl
        have qz6 : wq.frozen? ⟨gr, 6, none⟩ = false := frozen_of_row wq _ 6 _ _ hQe
        have q7 : wq.cell? ⟨gr, 7, none⟩ = some (.int .i64 0) := by rw [cell_of_row wq _ 7 _ _ (0, 0) hQe]; rfl
        have qz7 : wq.frozen? ⟨gr, 7, none⟩ = false := frozen_of_row wq _ 7 _ _ hQe
        have q8 : wq.cell? ⟨gr, 8, none⟩ = some (.int .i64 0) := by rw [cell_of_row wq _ 8 _ _ (0, 0) hQe]; rfl
        have qz8 : wq.frozen? ⟨gr, 8, none⟩ = false := frozen_of_row wq _ 8 _ _ hQe
        have q9 : wq.cell? ⟨gr, 9, none⟩ = some (.int .i64 0) := by rw [cell_of_row wq _ 9 _ _ (0, 0) hQe]; rfl
        have qz9 : wq.frozen? ⟨gr, 9, none⟩ = false := frozen_of_row wq _ 9 _ _ hQe
        have q10 : wq.cell? ⟨gr, 10, none⟩ = some (.int .i64 0) := by rw [cell_of_row wq _ 10 _ _ (0, 0) hQe]; rfl
        have qz10 : wq.frozen? ⟨gr, 10, none⟩ = false := frozen_of_row wq _ 10 _ _ hQe
        have q11 : wq.cell? ⟨gr, 11, none⟩ = some (.bool false) := by rw [cell_of_row wq _ 11 _ _ (0, 0) hQe]; rfl
        have qz11 : wq.frozen? ⟨gr, 11, none⟩ = false := frozen_of_row wq _ 11 _ _ hQe
        have hbe := (st9).hb
        go_wp2_with fail
        refine bodyPost_ret (v := .tuple #[.int .i64 0, .agg #[.int .i64 0, .string ⟨#[]⟩, .string ⟨#[]⟩, .string ⟨#[]⟩, .slice none 0 0, .int .i64 0, .slice none 0 0, .int .i64 0, .int .i64 0, .int .i64 0, .int .i64 0, .bool false], .int .i64 60]) ?_ rfl ⟨0, rq0, .slice none 0 0, .slice none 0 0, 60, rfl, Sl.none _ _, Sl.none _ _, At.below hbe ((((((((((((((At.refl gr wq).set 0 _).set 1 _).set 2 _).set 3 _).set 4 _).set 5 _).set 6 _).set 7 _).set 8 _).set 9 _).set 10 _).set 11 _) : At gr wq ((((((((((((wq.setCell ⟨gr, 0, none⟩ (.int .i64 0)).setCell ⟨gr, 1, none⟩ (.string ⟨#[]⟩)).setCell ⟨gr, 2, none⟩ (.string ⟨#[]⟩)).setCell ⟨gr, 3, none⟩ (.string ⟨#[]⟩)).setCell ⟨gr, 4, none⟩ (.slice none 0 0)).setCell ⟨gr, 5, none⟩ (.int .i64 0)).setCell ⟨gr, 6, none⟩ (.slice none 0 0)).setCell ⟨gr, 7, none⟩ (.int .i64 0)).setCell ⟨gr, 8, none⟩ (.int .i64 0)).setCell ⟨gr, 9, none⟩ (.int .i64 0)).setCell ⟨gr, 10, none⟩ (.int .i64 0)).setCell ⟨gr, 11, none⟩ (.bool false))) n2, .inr ⟨HERF.out.symm, rfl, rfl, rfl, rfl, HNO.out⟩⟩
        rw [results_tct rfl]
        go_simp
      rw [c4]
      by_cases c5 : E = 0
      case neg =>
        have HNO := hid (rrp_rej HALL.out (fun q => c5 q.2.2.2.2.1))
        clear HALL hsl ho9
        have hQe := (st9).hQ
        have q0 : wq.cell? ⟨gr, 0, none⟩ = some (.int .i64 0) := by rw [cell_of_row wq _ 0 _ _ (0, 0) hQe]; rfl
        have qz0 : wq.frozen? ⟨gr, 0, none⟩ = false := frozen_of_row wq _ 0 _ _ hQe
        have q1 : wq.cell? ⟨gr, 1, none⟩ = some (.string ⟨#[]⟩) := by rw [cell_of_row wq _ 1 _ _ (0, 0) hQe]; rfl
        have qz1 : wq.frozen? ⟨gr, 1, none⟩ = false := frozen_of_row wq _ 1 _ _ hQe
        have q2 : wq.cell? ⟨gr, 2, none⟩ = some (.string ⟨#[]⟩) := by rw [cell_of_row wq _ 2 _ _ (0, 0) hQe]; rfl
        have qz2 : wq.frozen? ⟨gr, 2, none⟩ = false := frozen_of_row wq _ 2 _ _ hQe
        have q3 : wq.cell? ⟨gr, 3, none⟩ = some (.string ⟨#[]⟩) := by rw [cell_of_row wq _ 3 _ _ (0, 0) hQe]; rfl
        have qz3 : wq.frozen? ⟨gr, 3, none⟩ = false := frozen_of_row wq _ 3 _ _ hQe
        have q4 : wq.cell? ⟨gr, 4, none⟩ = some (.slice none 0 0) := by rw [cell_of_row wq _ 4 _ _ (0, 0) hQe]; rfl
        have qz4 : wq.frozen? ⟨gr, 4, none⟩ = false := frozen_of_row wq _ 4 _ _ hQe
        have q5 : wq.cell? ⟨gr, 5, none⟩ = some (.int .i64 0) := by rw [cell_of_row wq _ 5 _ _ (0, 0) hQe]; rfl
        have qz5 : wq.frozen? ⟨gr, 5, none⟩ = false := frozen_of_row wq _ 5 _ _ hQe
        have q6 : wq.cell? ⟨gr, 6, none⟩ = some (.slice none 0 0) := by rw [cell_of_row wq _ 6 _ _ (0, 0) hQe]; rfl
        have qz6 : wq.frozen? ⟨gr, 6, none⟩ = false := frozen_of_row wq _ 6 _ _ hQe
        have q7 : wq.cell? ⟨gr, 7, none⟩ = some (.int .i64 0) := by rw [cell_of_row wq _ 7 _ _ (0, 0) hQe]; rfl
        have qz7 : wq.frozen? ⟨gr, 7, none⟩ = false := frozen_of_row wq _ 7 _ _ hQe
        have q8 : wq.cell? ⟨gr, 8, none⟩ = some (.int .i64 0) := by rw [cell_of_row wq _ 8 _ _ (0, 0) hQe]; rfl
        have qz8 : wq.frozen? ⟨gr, 8, none⟩ = false := frozen_of_row wq _ 8 _ _ hQe
        have q9 : wq.cell? ⟨gr, 9, none⟩ = some (.int .i64 0) := by rw [cell_of_row wq _ 9 _ _ (0, 0) hQe]; rfl
        have qz9 : wq.frozen? ⟨gr, 9, none⟩ = false := frozen_of_row wq _ 9 _ _ hQe
        have q10 : wq.cell? ⟨gr, 10, none⟩ = some (.int .i64 0) := by rw [cell_of_row wq _ 10 _ _ (0, 0) hQe]; rfl
        have qz10 : wq.frozen? ⟨gr, 10, none⟩ = false := frozen_of_row wq _ 10 _ _ hQe
        have q11 : wq.cell? ⟨gr, 11, none⟩ = some (.bool false) := by rw [cell_of_row wq _ 11 _ _ (0, 0) hQe]; rfl
        have qz11 : wq.frozen? ⟨gr, 11, none⟩ = false := frozen_of_row wq _ 11 _ _ hQe
        have hbe := (st9).hb
        go_wp2_with fail
        refine bodyPost_ret (v := .tuple #[.int .i64 0, .agg #[.int .i64 0, .string ⟨#[]⟩, .string ⟨#[]⟩, .string ⟨#[]⟩, .slice none 0 0, .int .i64 0, .slice none 0 0, .int .i64 0, .int .i64 0, .int .i64 0, .int .i64 0, .bool false], .int .i64 60]) ?_ rfl ⟨0, rq0, .slice none 0 0, .slice none 0 0, 60, rfl, Sl.none _ _, Sl.none _ _, At.below hbe ((((((((((((((At.refl gr wq).set 0 _).set 1 _).set 2 _).set 3 _).set 4 _).set 5 _).set 6 _).set 7 _).set 8 _).set 9 _).set 10 _).set 11 _) : At gr wq ((((((((((((wq.setCell ⟨gr, 0, none⟩ (.int .i64 0)).setCell ⟨gr, 1, none⟩ (.string ⟨#[]⟩)).setCell ⟨gr, 2, none⟩ (.string ⟨#[]⟩)).setCell ⟨gr, 3, none⟩ (.string ⟨#[]⟩)).setCell ⟨gr, 4, none⟩ (.slice none 0 0)).setCell ⟨gr, 5, none⟩ (.int .i64 0)).setCell ⟨gr, 6, none⟩ (.slice none 0 0)).setCell ⟨gr, 7, none⟩ (.int .i64 0)).setCell ⟨gr, 8, none⟩ (.int .i64 0)).setCell ⟨gr, 9, none⟩ (.int .i64 0)).setCell ⟨gr, 10, none⟩ (.int .i64 0)).setCell ⟨gr, 11, none⟩ (.bool false))) n2, .inr ⟨HERF.out.symm, rfl, rfl, rfl, rfl, HNO.out⟩⟩
        rw [results_tct rfl]
        go_simp
      by_cases c6 : V = l
      case neg =>
        have HNO := hid (rrp_rej HALL.out (fun q => c6 q.2.2.2.2.2))
        have hq1 : (V == l) = false := by simpa using c6
        clear HALL hsl ho9
        have hQe := (st9).hQ
        have q0 : wq.cell? ⟨gr, 0, none⟩ = some (.int .i64 0) := by rw [cell_of_row wq _ 0 _ _ (0, 0) hQe]; rfl
        have qz0 : wq.frozen? ⟨gr, 0, none⟩ = false := frozen_of_row wq _ 0 _ _ hQe
        have q1 : wq.cell? ⟨gr, 1, none⟩ = some (.string ⟨#[]⟩) := by rw [cell_of_row wq _ 1 _ _ (0, 0) hQe]; rfl
        have qz1 : wq.frozen? ⟨gr, 1, none⟩ = false := frozen_of_row wq _ 1 _ _ hQe
        have q2 : wq.cell? ⟨gr, 2, none⟩ = some (.string ⟨#[]⟩) := by rw [cell_of_row wq _ 2 _ _ (0, 0) hQe]; rfl
        have qz2 : wq.frozen? ⟨gr, 2, none⟩ = false := frozen_of_row wq _ 2 _ _ hQe
        have q3 : wq.cell? ⟨gr, 3, none⟩ = some (.string ⟨#[]⟩) := by rw [cell_of_row wq _ 3 _ _ (0, 0) hQe]; rfl
        have qz3 : wq.frozen? ⟨gr, 3, none⟩ = false := frozen_of_row wq _ 3 _ _ hQe
        have q4 : wq.cell? ⟨gr, 4, none⟩ = some (.slice none 0 0) := by rw [cell_of_row wq _ 4 _ _ (0, 0) hQe]; rfl
        have qz4 : wq.frozen? ⟨gr, 4, none⟩ = false := frozen_of_row wq _ 4 _ _ hQe
        have q5 : wq.cell? ⟨gr, 5, none⟩ = some (.int .i64 0) := by rw [cell_of_row wq _ 5 _ _ (0, 0) hQe]; rfl
        have qz5 : wq.frozen? ⟨gr, 5, none⟩ = false := frozen_of_row wq _ 5 _ _ hQe
        have q6 : wq.cell? ⟨gr, 6, none⟩ = some (.slice none 0 0) := by rw [cell_of_row wq _ 6 _ _ (0, 0) hQe]; rfl
        have qz6 : wq.frozen? ⟨gr, 6, none⟩ = false := frozen_of_row wq _ 6 _ _ hQe
        have q7 : wq.cell? ⟨gr, 7, none⟩ = some (.int .i64 0) := by rw [cell_of_row wq _ 7 _ _ (0, 0) hQe]; rfl
        have qz7 : wq.frozen? ⟨gr, 7, none⟩ = false := frozen_of_row wq _ 7 _ _ hQe
        have q8 : wq.cell? ⟨gr, 8, none⟩ = some (.int .i64 0) := by rw [cell_of_row wq _ 8 _ _ (0, 0) hQe]; rfl
        have qz8 : wq.frozen? ⟨gr, 8, none⟩ = false := frozen_of_row wq _ 8 _ _ hQe
        have q9 : wq.cell? ⟨gr, 9, none⟩ = some (.int .i64 0) := by rw [cell_of_row wq _ 9 _ _ (0, 0) hQe]; rfl
        have qz9 : wq.frozen? ⟨gr, 9, none⟩ = false := frozen_of_row wq _ 9 _ _ hQe
        have q10 : wq.cell? ⟨gr, 10, none⟩ = some (.int .i64 0) := by rw [cell_of_row wq _ 10 _ _ (0, 0) hQe]; rfl
        have qz10 : wq.frozen? ⟨gr, 10, none⟩ = false := frozen_of_row wq _ 10 _ _ hQe
        have q11 : wq.cell? ⟨gr, 11, none⟩ = some (.bool false) := by rw [cell_of_row wq _ 11 _ _ (0, 0) hQe]; rfl
        have qz11 : wq.frozen? ⟨gr, 11, none⟩ = false := frozen_of_row wq _ 11 _ _ hQe
        have hbe := (st9).hb
        go_wp2_with fail
        refine bodyPost_ret (v := .tuple #[.int .i64 0, .agg #[.int .i64 0, .string ⟨#[]⟩, .string ⟨#[]⟩, .string ⟨#[]⟩, .slice none 0 0, .int .i64 0, .slice none 0 0, .int .i64 0, .int .i64 0, .int .i64 0, .int .i64 0, .bool false], .int .i64 60]) ?_ rfl ⟨0, rq0, .slice none 0 0, .slice none 0 0, 60, rfl, Sl.none _ _, Sl.none _ _, At.below hbe ((((((((((((((At.refl gr wq).set 0 _).set 1 _).set 2 _).set 3 _).set 4 _).set 5 _).set 6 _).set 7 _).set 8 _).set 9 _).set 10 _).set 11 _) : At gr wq ((((((((((((wq.setCell ⟨gr, 0, none⟩ (.int .i64 0)).setCell ⟨gr, 1, none⟩ (.string ⟨#[]⟩)).setCell ⟨gr, 2, none⟩ (.string ⟨#[]⟩)).setCell ⟨gr, 3, none⟩ (.string ⟨#[]⟩)).setCell ⟨gr, 4, none⟩ (.slice none 0 0)).setCell ⟨gr, 5, none⟩ (.int .i64 0)).setCell ⟨gr, 6, none⟩ (.slice none 0 0)).setCell ⟨gr, 7, none⟩ (.int .i64 0)).setCell ⟨gr, 8, none⟩ (.int .i64 0)).setCell ⟨gr, 9, none⟩ (.int .i64 0)).setCell ⟨gr, 10, none⟩ (.int .i64 0)).setCell ⟨gr, 11, none⟩ (.bool false))) n2, .inr ⟨HERF.out.symm, rfl, rfl, rfl, rfl, HNO.out⟩⟩
        rw [results_tct rfl]
        go_simp
      have HACC := hid (rrq_acc (HE.out.symm.trans c5) (HV.out.symm.trans c6))
      have hQe := st9.hQ
      have hsl9 := (hsl.at ((((((((((((((At.refl gr wq).set 0 _).set 1 _).set 2 _).set 3 _).set 4 _).set 5 _).set 6 _).set 7 _).set 8 _).set 9 _).set 10 _).set 11 _) : At gr wq ((((((((((((wq.setCell ⟨gr, 0, none⟩ (.int .i64 (n2' : Int))).setCell ⟨gr, 1, none⟩ (.string ⟨t3.toArray⟩)).setCell ⟨gr, 2, none⟩ (.string ⟨t4.toArray⟩)).setCell ⟨gr, 3, none⟩ (.string ⟨t5.toArray⟩)).setCell ⟨gr, 4, none⟩ (.slice av ss.length cv)).setCell ⟨gr, 5, none⟩ (.int .i64 lim)).setCell ⟨gr, 6, none⟩ (.slice ua cs.length uc)).setCell ⟨gr, 7, none⟩ (.int .i64 (n7' : Int))).setCell ⟨gr, 8, none⟩ (.int .i64 (n8' : Int))).setCell ⟨gr, 9, none⟩ (.int .i64 (n9' : Int))).setCell ⟨gr, 10, none⟩ (.int .i64 (n10' : Int))).setCell ⟨gr, 11, none⟩ (.bool ((n11' : Int) == 1)))) (steps_apart hQe)).below (below_drewN _ _ 1)
      have hu9 := Sl.of_own (own_new (own_at_lt ho9 ((((((((((((((At.refl gr wq).set 0 _).set 1 _).set 2 _).set 3 _).set 4 _).set 5 _).set 6 _).set 7 _).set 8 _).set 9 _).set 10 _).set 11 _) : At gr wq ((((((((((((wq.setCell ⟨gr, 0, none⟩ (.int .i64 (n2' : Int))).setCell ⟨gr, 1, none⟩ (.string ⟨t3.toArray⟩)).setCell ⟨gr, 2, none⟩ (.string ⟨t4.toArray⟩)).setCell ⟨gr, 3, none⟩ (.string ⟨t5.toArray⟩)).setCell ⟨gr, 4, none⟩ (.slice av ss.length cv)).setCell ⟨gr, 5, none⟩ (.int .i64 lim)).setCell ⟨gr, 6, none⟩ (.slice ua cs.length uc)).setCell ⟨gr, 7, none⟩ (.int .i64 (n7' : Int))).setCell ⟨gr, 8, none⟩ (.int .i64 (n8' : Int))).setCell ⟨gr, 9, none⟩ (.int .i64 (n9' : Int))).setCell ⟨gr, 10, none⟩ (.int .i64 (n10' : Int))).setCell ⟨gr, 11, none⟩ (.bool ((n11' : Int) == 1)))) hgL.2.1) (below_drewN _ _ 1)) (by omega)
      have hbf := below_to_drew (At.below st9.hb ((((((((((((((At.refl gr wq).set 0 _).set 1 _).set 2 _).set 3 _).set 4 _).set 5 _).set 6 _).set 7 _).set 8 _).set 9 _).set 10 _).set 11 _) : At gr wq ((((((((((((wq.setCell ⟨gr, 0, none⟩ (.int .i64 (n2' : Int))).setCell ⟨gr, 1, none⟩ (.string ⟨t3.toArray⟩)).setCell ⟨gr, 2, none⟩ (.string ⟨t4.toArray⟩)).setCell ⟨gr, 3, none⟩ (.string ⟨t5.toArray⟩)).setCell ⟨gr, 4, none⟩ (.slice av ss.length cv)).setCell ⟨gr, 5, none⟩ (.int .i64 lim)).setCell ⟨gr, 6, none⟩ (.slice ua cs.length uc)).setCell ⟨gr, 7, none⟩ (.int .i64 (n7' : Int))).setCell ⟨gr, 8, none⟩ (.int .i64 (n8' : Int))).setCell ⟨gr, 9, none⟩ (.int .i64 (n9' : Int))).setCell ⟨gr, 10, none⟩ (.int .i64 (n10' : Int))).setCell ⟨gr, 11, none⟩ (.bool ((n11' : Int) == 1)))) n2)
      clear hsl HALL ho9
      subst c6
      have x0 : wq.cell? ⟨gx, 0, none⟩ = some (.int .i64 (n2' : Int)) := (st9).cell rfl
      have xz0 : wq.frozen? ⟨gx, 0, none⟩ = false := (st9).frozen 0
      have x1 : wq.cell? ⟨gx, 1, none⟩ = some (.string ⟨t3.toArray⟩) := (st9).cell rfl
      have xz1 : wq.frozen? ⟨gx, 1, none⟩ = false := (st9).frozen 1
      have x2 : wq.cell? ⟨gx, 2, none⟩ = some (.string ⟨t4.toArray⟩) := (st9).cell rfl
      have xz2 : wq.frozen? ⟨gx, 2, none⟩ = false := (st9).frozen 2
      have x3 : wq.cell? ⟨gx, 3, none⟩ = some (.string ⟨t5.toArray⟩) := (st9).cell rfl
      have xz3 : wq.frozen? ⟨gx, 3, none⟩ = false := (st9).frozen 3
      have x4 : wq.cell? ⟨gx, 4, none⟩ = some (.slice av ss.length cv) := (st9).cell rfl
      have xz4 : wq.frozen? ⟨gx, 4, none⟩ = false := (st9).frozen 4
      have x5 : wq.cell? ⟨gx, 5, none⟩ = some (.int .i64 lim) := (st9).cell rfl
      have xz5 : wq.frozen? ⟨gx, 5, none⟩ = false := (st9).frozen 5
      have x6 : wq.cell? ⟨gx, 6, none⟩ = some (.slice ua cs.length uc) := (st9).cell rfl
      have xz6 : wq.frozen? ⟨gx, 6, none⟩ = false := (st9).frozen 6
      have x7 : wq.cell? ⟨gx, 7, none⟩ = some (.int .i64 (n7' : Int)) := (st9).cell rfl
      have xz7 : wq.frozen? ⟨gx, 7, none⟩ = false := (st9).frozen 7
      have x8 : wq.cell? ⟨gx, 8, none⟩ = some (.int .i64 (n8' : Int)) := (st9).cell rfl
      have xz8 : wq.frozen? ⟨gx, 8, none⟩ = false := (st9).frozen 8
      have x9 : wq.cell? ⟨gx, 9, none⟩ = some (.int .i64 (n9' : Int)) := (st9).cell rfl
      have xz9 : wq.frozen? ⟨gx, 9, none⟩ = false := (st9).frozen 9
      have x10 : wq.cell? ⟨gx, 10, none⟩ = some (.int .i64 (n10' : Int)) := (st9).cell rfl
      have xz10 : wq.frozen? ⟨gx, 10, none⟩ = false := (st9).frozen 10
      have x11 : wq.cell? ⟨gx, 11, none⟩ = some (.bool ((n11' : Int) == 1)) := (st9).cell rfl
      have xz11 : wq.frozen? ⟨gx, 11, none⟩ = false := (st9).frozen 11
      have q0 : wq.cell? ⟨gr, 0, none⟩ = some (.int .i64 0) := by rw [cell_of_row wq _ 0 _ _ (0, 0) hQe]; rfl
      have qz0 : wq.frozen? ⟨gr, 0, none⟩ = false := frozen_of_row wq _ 0 _ _ hQe
      have q1 : wq.cell? ⟨gr, 1, none⟩ = some (.string ⟨#[]⟩) := by rw [cell_of_row wq _ 1 _ _ (0, 0) hQe]; rfl
      have qz1 : wq.frozen? ⟨gr, 1, none⟩ = false := frozen_of_row wq _ 1 _ _ hQe
      have q2 : wq.cell? ⟨gr, 2, none⟩ = some (.string ⟨#[]⟩) := by rw [cell_of_row wq _ 2 _ _ (0, 0) hQe]; rfl
      have qz2 : wq.frozen? ⟨gr, 2, none⟩ = false := frozen_of_row wq _ 2 _ _ hQe
      have q3 : wq.cell? ⟨gr, 3, none⟩ = some (.string ⟨#[]⟩) := by rw [cell_of_row wq _ 3 _ _ (0, 0) hQe]; rfl
      have qz3 : wq.frozen? ⟨gr, 3, none⟩ = false := frozen_of_row wq _ 3 _ _ hQe
      have q4 : wq.cell? ⟨gr, 4, none⟩ = some (.slice none 0 0) := by rw [cell_of_row wq _ 4 _ _ (0, 0) hQe]; rfl
      have qz4 : wq.frozen? ⟨gr, 4, none⟩ = false := frozen_of_row wq _ 4 _ _ hQe
      have q5 : wq.cell? ⟨gr, 5, none⟩ = some (.int .i64 0) := by rw [cell_of_row wq _ 5 _ _ (0, 0) hQe]; rfl
      have qz5 : wq.frozen? ⟨gr, 5, none⟩ = false := frozen_of_row wq _ 5 _ _ hQe
      have q6 : wq.cell? ⟨gr, 6, none⟩ = some (.slice none 0 0) := by rw [cell_of_row wq _ 6 _ _ (0, 0) hQe]; rfl
      have qz6 : wq.frozen? ⟨gr, 6, none⟩ = false := frozen_of_row wq _ 6 _ _ hQe
      have q7 : wq.cell? ⟨gr, 7, none⟩ = some (.int .i64 0) := by rw [cell_of_row wq _ 7 _ _ (0, 0) hQe]; rfl
      have qz7 : wq.frozen? ⟨gr, 7, none⟩ = false := frozen_of_row wq _ 7 _ _ hQe
      have q8 : wq.cell? ⟨gr, 8, none⟩ = some (.int .i64 0) := by rw [cell_of_row wq _ 8 _ _ (0, 0) hQe]; rfl
      have qz8 : wq.frozen? ⟨gr, 8, none⟩ = false := frozen_of_row wq _ 8 _ _ hQe
      have q9 : wq.cell? ⟨gr, 9, none⟩ = some (.int .i64 0) := by rw [cell_of_row wq _ 9 _ _ (0, 0) hQe]; rfl
      have qz9 : wq.frozen? ⟨gr, 9, none⟩ = false := frozen_of_row wq _ 9 _ _ hQe
      have q10 : wq.cell? ⟨gr, 10, none⟩ = some (.int .i64 0) := by rw [cell_of_row wq _ 10 _ _ (0, 0) hQe]; rfl
      have qz10 : wq.frozen? ⟨gr, 10, none⟩ = false := frozen_of_row wq _ 10 _ _ hQe
      have q11 : wq.cell? ⟨gr, 11, none⟩ = some (.bool false) := by rw [cell_of_row wq _ 11 _ _ (0, 0) hQe]; rfl
      have qz11 : wq.frozen? ⟨gr, 11, none⟩ = false := frozen_of_row wq _ 11 _ _ hQe
      go_wp2_with fail
      go_region
      go_wp2_with fail
      refine bodyPost_ret (v := .tuple #[.int .i64 n1', .agg #[.int .i64 (n2' : Int), .string ⟨t3.toArray⟩, .string ⟨t4.toArray⟩, .string ⟨t5.toArray⟩, .slice av ss.length cv, .int .i64 lim, .slice ua cs.length uc, .int .i64 (n7' : Int), .int .i64 (n8' : Int), .int .i64 (n9' : Int), .int .i64 (n10' : Int), .bool ((n11' : Int) == 1)], .int .i64 0]) ?_ rfl ⟨n1', ⟨(n2' : Int), t3, t4, t5, ss, lim, cs, n7', n8', n9', n10', ((n11' : Int) == 1)⟩, .slice av ss.length cv, .slice ua cs.length uc, 0, rfl, hsl9, hu9, hbf, .inl ⟨rfl, HACC.out.1, HACC.out.2⟩⟩
      rw [results_tct rfl]
      go_simp
end Go.Proofs.Ytelacmchofehcaa
namespace Go.Proofs.Ytelacmchofehcaa
open Go.RowKit
set_option linter.unusedVariables false
set_option linter.unusedSimpArgs false

theorem rq_read_same {l : List UInt8} {id id' er er' : Int} {q q' : Rq} {A B C D : Prop}
    (h : (er = 0 ∧ RqP id q ∧ l = wrapL (encRq id q)) ∨ (er = erF l ∧ id = 0 ∧ q = rq0 ∧ A ∧ B ∧ ∀ i y, RqP i y → l ≠ wrapL (encRq i y)))
    (h' : (er' = 0 ∧ RqP id' q' ∧ l = wrapL (encRq id' q')) ∨ (er' = erF l ∧ id' = 0 ∧ q' = rq0 ∧ C ∧ D ∧ ∀ i y, RqP i y → l ≠ wrapL (encRq i y))) :
    id' = id ∧ q' = q ∧ er' = er ∧ q.rq.length ≤ 140737488355328 ∧ q.wd.length ≤ 140737488355328 ∧ q.nm.length ≤ 140737488355328 := by
  rcases h with ⟨rfl, hP, hl⟩ | ⟨rfl, rfl, rfl, -, -, hno⟩
  · have hb := hP.1.2.2.1
    rcases h' with ⟨rfl, hP', hl'⟩ | ⟨-, -, -, -, -, hno'⟩
    · obtain ⟨g1, g2⟩ := wrapRq_inj hP hP' (hl.symm.trans hl')
      exact ⟨g1.symm, g2.symm, rfl, by omega, by omega, by omega⟩
    · exact absurd hl (hno' _ _ hP)
  · rcases h' with ⟨rfl, hP', hl'⟩ | ⟨rfl, rfl, rfl, -, -, -⟩
    · exact absurd hl' (hno _ _ hP')
    · exact ⟨rfl, rfl, rfl, by decide, by decide, by decide⟩
theorem rp_read_same {l : List UInt8} {id id' er er' : Int} {q q' : Rp} {A C : Prop}
    (h : (er = 0 ∧ RpP id q ∧ l = wrapL (encRp id q)) ∨ (er = erF l ∧ id = 0 ∧ q = rp0 ∧ A ∧ ∀ i y, RpP i y → l ≠ wrapL (encRp i y)))
    (h' : (er' = 0 ∧ RpP id' q' ∧ l = wrapL (encRp id' q')) ∨ (er' = erF l ∧ id' = 0 ∧ q' = rp0 ∧ C ∧ ∀ i y, RpP i y → l ≠ wrapL (encRp i y))) :
    id' = id ∧ q' = q ∧ er' = er ∧ q.nm.length ≤ 140737488355328 := by
  rcases h with ⟨rfl, hP, hl⟩ | ⟨rfl, rfl, rfl, -, hno⟩
  · have hb := hP.1.2.2.2.2
    rcases h' with ⟨rfl, hP', hl'⟩ | ⟨-, -, -, -, hno'⟩
    · obtain ⟨g1, g2⟩ := wrapRp_inj hP hP' (hl.symm.trans hl')
      exact ⟨g1.symm, g2.symm, rfl, by omega⟩
    · exact absurd hl (hno' _ _ hP)
  · rcases h' with ⟨rfl, hP', hl'⟩ | ⟨rfl, rfl, rfl, -, -⟩
    · exact absurd hl' (hno _ _ hP')
    · exact ⟨rfl, rfl, rfl, by decide⟩

set_option maxHeartbeats 3200000 in
set_option maxRecDepth 100000 in
theorem wireReads_walk (l : List UInt8) (hl0 : l.length ≤ 140737488351232) (w : World) :
    Calls Try.prog 7 #[.string ⟨l.toArray⟩] w fun e w' => e = .returned (.bool true) ∧ Below w.heap.size w w' := by
  have hl : l.length ≤ 140737488355328 := by omega
  go_enter Try.func7, Try.ntmps7
  go_wp2_with fail
  refine (wawake_any w).mono ?_
  rintro _ w1 ⟨rfl, b1⟩
  go_wp2_with fail
  refine (requested_any l hl w1).mono ?_
  rintro _ w2 ⟨id, q, v, u, e1, rfl, hv, hu, b2, hres⟩
  obtain ⟨au, cu, rfl⟩ := hv.shape
  obtain ⟨bu, du, rfl⟩ := hu.shape
  obtain ⟨kd, rq, wd, nm, ss, lim, cs, rf, ty, fr, sh, gd⟩ := q
  simp only at hv hu
  rw [show rqVal ⟨kd, rq, wd, nm, ss, lim, cs, rf, ty, fr, sh, gd⟩ (.slice au ss.length cu) (.slice bu cs.length du) = .agg #[.int .i64 kd, .string ⟨rq.toArray⟩, .string ⟨wd.toArray⟩, .string ⟨nm.toArray⟩, .slice au ss.length cu, .int .i64 lim, .slice bu cs.length du, .int .i64 rf, .int .i64 ty, .int .i64 fr, .int .i64 sh, .bool gd] from rfl]
  have m0 := H12.new w2 27 (.int .i64 kd) (.string ⟨rq.toArray⟩) (.string ⟨wd.toArray⟩) (.string ⟨nm.toArray⟩) (.slice au ss.length cu) (.int .i64 lim) (.slice bu cs.length du) (.int .i64 rf) (.int .i64 ty) (.int .i64 fr) (.int .i64 sh) (.bool gd)
  obtain ⟨V2, hV2⟩ : ∃ X, X = w2.alloc (.cells #[.int .i64 kd, .string ⟨rq.toArray⟩, .string ⟨wd.toArray⟩, .string ⟨nm.toArray⟩, .slice au ss.length cu, .int .i64 lim, .slice bu cs.length du, .int .i64 rf, .int .i64 ty, .int .i64 fr, .int .i64 sh, .bool gd] 27) := ⟨_, rfl⟩
  rw [← hV2] at m0
  have HV2 := hid hV2
  clear hV2
  have HR := hid hres
  clear hres
  have hb2 := bnext (bnext b1 b2) m0.below
  have hv2 := hv.below m0.below
  have hu2 := hu.below m0.below
  go_wp2_with fail
  rw [← HV2.out]
  refine (rrequested_any l hl V2).mono ?_
  rintro _ w3 ⟨id', q', v', u', e2, rfl, hv', hu', b3, hres⟩
  obtain ⟨q0, q1, q2, q3, q4, q5⟩ := rq_read_same HR.out hres
  subst q0
  subst q1
  subst q2
  obtain ⟨av, cv, rfl⟩ := hv'.shape
  obtain ⟨bv, dv, rfl⟩ := hu'.shape
  simp only at hv' hu'
  clear hres HR
  have m1 := m0.next b3
  have hb3 := bnext hb2 b3
  have hv3 := hv2.below b3
  have hu3 := hu2.below b3
  rw [show rqVal ⟨kd, rq, wd, nm, ss, lim, cs, rf, ty, fr, sh, gd⟩ (.slice av ss.length cv) (.slice bv cs.length dv) = .agg #[.int .i64 kd, .string ⟨rq.toArray⟩, .string ⟨wd.toArray⟩, .string ⟨nm.toArray⟩, .slice av ss.length cv, .int .i64 lim, .slice bv cs.length dv, .int .i64 rf, .int .i64 ty, .int .i64 fr, .int .i64 sh, .bool gd] from rfl]
  have n0 := H12.new w3 27 (.int .i64 kd) (.string ⟨rq.toArray⟩) (.string ⟨wd.toArray⟩) (.string ⟨nm.toArray⟩) (.slice av ss.length cv) (.int .i64 lim) (.slice bv cs.length dv) (.int .i64 rf) (.int .i64 ty) (.int .i64 fr) (.int .i64 sh) (.bool gd)
  obtain ⟨V3, hV3⟩ : ∃ X, X = w3.alloc (.cells #[.int .i64 kd, .string ⟨rq.toArray⟩, .string ⟨wd.toArray⟩, .string ⟨nm.toArray⟩, .slice av ss.length cv, .int .i64 lim, .slice bv cs.length dv, .int .i64 rf, .int .i64 ty, .int .i64 fr, .int .i64 sh, .bool gd] 27) := ⟨_, rfl⟩
  rw [← hV3] at n0
  have HV3 := hid hV3
  clear hV3
  have m2 := m1.next n0.below
  have hb4 := bnext hb3 n0.below
  have hv4 := hv3.below n0.below
  have hu4 := hu3.below n0.below
  have hv4' := hv'.below n0.below
  have hu4' := hu'.below n0.below
  go_wp2_with fail
  rw [← HV3.out]
  refine (replied_any l hl V3).mono ?_
  rintro _ w4 ⟨k, x, v9, e3, rfl, hx, hf, b4, hres⟩
  obtain ⟨ax, cx, rfl⟩ := hx.shape
  obtain ⟨er, st, nx, ⟨tn, tw, tr, tt⟩, nx2, ev⟩ := x
  simp only at hx hf
  rw [show rpVal ⟨er, st, nx, (tn, tw, tr, tt), nx2, ev⟩ (.slice ax ev.length cx) = .agg #[.int .i64 er, .int .i64 st, .int .i64 nx, .int .i64 tn, .string ⟨tw.toArray⟩, .int .i64 tr, .int .i64 tt, .string ⟨nx2.toArray⟩, .slice ax ev.length cx] from rfl]
  have r0 := H9.new w4 33 (.int .i64 er) (.int .i64 st) (.int .i64 nx) (.int .i64 tn) (.string ⟨tw.toArray⟩) (.int .i64 tr) (.int .i64 tt) (.string ⟨nx2.toArray⟩) (.slice ax ev.length cx)
  obtain ⟨V4, hV4⟩ : ∃ X, X = w4.alloc (.cells #[.int .i64 er, .int .i64 st, .int .i64 nx, .int .i64 tn, .string ⟨tw.toArray⟩, .int .i64 tr, .int .i64 tt, .string ⟨nx2.toArray⟩, .slice ax ev.length cx] 33) := ⟨_, rfl⟩
  rw [← hV4] at r0
  have HV4 := hid hV4
  clear hV4
  have HR := hid hres
  clear hres
  have m3 := (m2.next b4).next r0.below
  have n3 := (n0.next b4).next r0.below
  have hb5 := bnext (bnext hb4 b4) r0.below
  have hv5 := (hv4.below b4).below r0.below
  have hu5 := (hu4.below b4).below r0.below
  have hv5' := (hv4'.below b4).below r0.below
  have hu5' := (hu4'.below b4).below r0.below
  have hx5 := hx.below r0.below
  go_wp2_with fail
  rw [← HV4.out]
  refine (rreplied_any l hl V4).mono ?_
  rintro _ w5 ⟨k', x', v9', e4, rfl, hx', hf', b5, hres⟩
  obtain ⟨q0, q1, q2, q6⟩ := rp_read_same HR.out hres
  subst q0
  subst q1
  subst q2
  obtain ⟨ay, cy, rfl⟩ := hx'.shape
  simp only at hx'
  clear hres HR
  rw [show rpVal ⟨er, st, nx, (tn, tw, tr, tt), nx2, ev⟩ (.slice ay ev.length cy) = .agg #[.int .i64 er, .int .i64 st, .int .i64 nx, .int .i64 tn, .string ⟨tw.toArray⟩, .int .i64 tr, .int .i64 tt, .string ⟨nx2.toArray⟩, .slice ay ev.length cy] from rfl]
  have s0 := H9.new w5 33 (.int .i64 er) (.int .i64 st) (.int .i64 nx) (.int .i64 tn) (.string ⟨tw.toArray⟩) (.int .i64 tr) (.int .i64 tt) (.string ⟨nx2.toArray⟩) (.slice ay ev.length cy)
  obtain ⟨V5, hV5⟩ : ∃ X, X = w5.alloc (.cells #[.int .i64 er, .int .i64 st, .int .i64 nx, .int .i64 tn, .string ⟨tw.toArray⟩, .int .i64 tr, .int .i64 tt, .string ⟨nx2.toArray⟩, .slice ay ev.length cy] 33) := ⟨_, rfl⟩
  rw [← hV5] at s0
  have HV5 := hid hV5
  clear hV5
  have m4 := (m3.next b5).next s0.below
  have n4 := (n3.next b5).next s0.below
  have r4 := (r0.next b5).next s0.below
  have hb6 := bnext (bnext hb5 b5) s0.below
  have hv6 := (hv5.below b5).below s0.below
  have hu6 := (hu5.below b5).below s0.below
  have hv6' := (hv5'.below b5).below s0.below
  have hu6' := (hu5'.below b5).below s0.below
  have hx6 := (hx5.below b5).below s0.below
  have hx6' := hx'.below s0.below
  have m4r := m4
  have n4r := n4
  rw [HV5.out] at m4r n4r
  obtain ⟨p0, p1, p2, p3, p4, p5, p6, p7, p8, p9, p10, p11, _, _⟩ := m4r
  obtain ⟨t0, t1, t2, t3, t4, t5, t6, t7, t8, t9, t10, t11, _, _⟩ := n4r
  clear m0 m1 m2 m3 n0 n3 r0
  go_wp2_with fail
  rw [← HV5.out]
  clear p0 p1 p2 p3 p4 p5 p6 p7 p8 p9 p10 p11 t0 t1 t2 t3 t4 t5 t6 t7 t8 t9 t10 t11
  refine (qsame_any kd rq wd nm q3 q4 q5 (.slice au ss.length cu) (.slice av ss.length cv) lim ss bu bv du dv cs rf ty fr sh gd V5 hv6 hv6' hu6 hu6').mono ?_
  rintro _ w6 ⟨rfl, b6⟩
  have r6 := r4.next b6
  have s6 := s0.next b6
  have hb7 := bnext hb6 b6
  obtain ⟨p0, p1, p2, p3, p4, p5, p6, p7, p8, _, _⟩ := r6
  obtain ⟨t0, t1, t2, t3, t4, t5, t6, t7, t8, _, _⟩ := s6
  clear m4 n4 r4 s0 HV2 HV3 HV4 HV5
  go_wp2_with fail
  clear p0 p1 p2 p3 p4 p5 p6 p7 p8 t0 t1 t2 t3 t4 t5 t6 t7 t8
  refine (xsame_any er st nx tn tw tr tt nx2 q6 ax ay cx cy ev w6 (hx6.below b6) (hx6'.below b6)).mono ?_
  rintro _ w7 ⟨rfl, b7⟩
  have hb8 := bnext hb7 b7
  go_wp2_with fail
  go_ret
  exact ⟨rfl, hb8⟩
end Go.Proofs.Ytelacmchofehcaa
namespace Go.Proofs.Ytelacmchofehcaa.lawWireReads
open Go.ChangeShapes Go.WideShapes Go.ChangeAt Go.RowKit
open Go.ChangeMaps (open_string shut_string)
set_option linter.unusedVariables false

theorem own : ownKnob Try.prog.godebug = none := by kernel_rfl
theorem laidOutP : laidOutB Try.prog = true := by kernel_rfl

set_option maxRecDepth 100000 in
theorem contract (H : Type) (enc : TypeId × Value → H) (W : World) (base : Nat) (args : Array Value) (ds gs : List (DataW H)) (before : List MemPlace)
    (hval0 : ∀ (j : Nat) t v, Try.f7.params[j]? = some t → args[j]? = some v → Value.okWide Try.prog W .any base t v)
    (hW : DataW.Whole enc Try.prog Try.f7.params.toList Rows.wireReadsSpec.vars false W args.toList ds gs before)
    (hsz0 : (DataW.weightsEach Try.prog (Try.f7.params.toList ++ []) (ds ++ gs)).all (· ≤ reachBytes) = true) :
    Calls Try.prog 7 args W fun e W' => ∃ v, e = .returned v ∧ Rows.wireReadsSpec.post enc Try.prog Try.f7 false true false false W args v W' := by
  have hval : ∀ (j : Nat) t v, Try.f7.params[j]? = some t → args[j]? = some v → Value.okWide Try.prog W .any base t v := hval0
  have hsz : (DataW.weightsEach Try.prog (Try.f7.params.toList ++ []) (ds ++ gs)).all (· ≤ reachBytes) = true := hsz0
  have hW' := hW
  obtain ⟨p, q, hA0, hV, rfl, hfz, hnd⟩ := hW
  have hA : DataW.TrodAll enc Try.prog W 0 (fun _ => true) true Try.f7.params.toList args.toList ds p := hA0
  rw [Try.params7] at hA hval hsz
  obtain ⟨v0, vs0, d0, ds0, p0, q0, hargs, rfl, rfl, h0, r0'⟩ := trodAll_cons hA
  obtain ⟨rfl, rfl, rfl⟩ := trodAll_nil r0'
  obtain rfl : args = #[v0] := by cases args; simp_all
  obtain ⟨rfl, rfl⟩ := trodVars_none hV
  obtain ⟨s0, rfl, rfl, rfl, m0⟩ := open_string Try.underlying9 (hval 0 9 v0 rfl rfl) h0
  have b0 : s0.data.toList.length ≤ 140737488351232 := sized_string hsz (j := 0) (t := 9) rfl rfl
  clear hA0 hval0 hsz0
  have hwalk := wireReads_walk s0.data.toList b0 W 
  rw [Lib.mk_data s0] at hwalk
  refine hwalk.mono fun e W' ⟨he, bel⟩ => ?_
  subst he
  exact ⟨_, rfl, _, _, _, [], _, [], hW', trodAll_mk1 (shut_bool Try.underlying4 _), (trodAll_cons_mk (shut_string Try.underlying9 m0) trodAll_mk0), rfl, bel.frame _, fun h => by cases h⟩

set_option maxRecDepth 100000 in
theorem lifted (os : Os) (started : os.Started) (H : Type) (enc : TypeId × Value → H) :
    ReturnsInHanded {} Try.checked os 7 .any (Rows.wireReadsSpec.pre6 enc Try.prog Try.f7 Rows.wireReadsRow.domain false) (Rows.wireReadsSpec.post enc Try.prog Try.f7 false true false false) := by
  refine returnsInHanded_of_change_sized (C := Try.checked) own started (by kernel_rfl) Try.func7
    (ChangeSpec.witness6 (enc := enc) (C := Try.checked) false ⟨#[], #[.string .empty], []⟩ 8 (by kernel_rfl) (by kernel_rfl) (by kernel_rfl) (by kernel_rfl)) ?_
  intro W base args ds gs before hval hW _ hsz _
  exact contract H enc W base args ds gs before hval hW hsz

theorem proved : Rows.WireReadsSaid :=
  OpenClaim.holds_of_wide 7 Try.f7 rfl rfl rfl rfl rfl rfl rfl ⟨rfl, rfl, rfl, rfl, rfl⟩ rfl rfl rfl rfl rfl (by kernel_rfl) Try.func7 (by kernel_rfl)
    (of_decide_eq_true (by kernel_rfl)) (by unfold Func.isWrapper; first | (rw [if_pos (by decide +kernel)]; kernel_rfl) | (rw [if_neg (by decide +kernel)]; exact ⟨rfl, rfl⟩))
    (fun os started H enc _ => lifted os started H enc)
#print axioms proved
end Go.Proofs.Ytelacmchofehcaa.lawWireReads
