/- CONTRACT: table.Open. -/
import Derived.Test.YtfdbcnpbjabjoaaTabPairs
import Derived.Test.YtfdbcnpbjabjoaaTabOpenP
import Derived.Test.YtfdbcnpbjabjoaaTabScan2
import Derived.Test.YtfdbcnpbjabjoaaBloomHas
import Derived.Deep.RegionHeld3
namespace Go.Proofs.Ytfdbcnpbjabjoaa
open Go.RowKit
set_option linter.unusedVariables false
set_option linter.unusedSimpArgs false

theorem has_any (f k : List UInt8) (hf : f.length ≤ maxLen) (hk : k.length ≤ maxLen) (w : World) :
    Calls Try.prog 55 #[.string ⟨f.toArray⟩, .string ⟨k.toArray⟩] w fun e w' => e = .returned (.bool (hasL f k)) ∧ w' = w := by
  by_cases h0 : f = [] ∨ 8192 < f.length
  · exact has_no f k h0 hf w
  · simp only [not_or] at h0
    exact has_yes f k (by have := List.length_pos_iff.2 h0.1; omega) (by omega) hk w
theorem Sl.take {w : World} {a : Option Addr} {n cap : Nat} {cells : List Value} (h : Sl w (.slice a n cap) 1 n cells) {k : Nat} (hk : k ≤ n) : Sl w (.slice a k cap) 1 k (cells.take k) := by
  obtain ⟨h1, ⟨h2, h3⟩, a', cap', e, h4⟩ := h
  cases e
  refine ⟨by simp; omega, ⟨by omega, fun m c e => ?_⟩, a, cap, rfl, ?_⟩
  · cases e; exact h3 _ _ rfl
  · by_cases h0 : k = 0
    · exact .inl h0
    · rcases h4 with h4 | ⟨b, off, rfl, hb, hc⟩
      · omega
      · exact .inr ⟨b, off, rfl, hb, fun j hj => by
          have hj' : j < cells.length := by have := hj; simp at this; omega
          rw [hc j hj', List.getElem_take]⟩
theorem infoStr : (Try.prog.info? 9).map (fun i => (i.zero, i.size, i.bytes)) = some (some (.string .empty), 1, 16) := by kernel_rfl
/-- a table that lies in block g -/
structure TabAt (w : World) (g : Nat) (t : Tb) : Prop where
  row : ∃ fa fc ba bc, w.heap[g]? = some (.cells #[.slice fa t.fs.length fc, .slice ba t.bs.length bc, .string ⟨t.fl.toArray⟩, .int .i64 (t.ps.length : Int)] 116 (0, 0)) ∧ Sl w (.slice fa t.fs.length fc) 1 t.fs.length (t.fs.map strV) ∧ Sl w (.slice ba t.bs.length bc) 1 t.bs.length (t.bs.map strV) ∧ t.bs.length ≤ bc
theorem TabAt.below {w w' : World} {g : Nat} {t : Tb} (h : TabAt w g t) (b : Below w.heap.size w w') : TabAt w' g t := by
  obtain ⟨fa, fc, ba, bc, h1, h2, h3, h4⟩ := h.row
  exact ⟨fa, fc, ba, bc, (b.block g (Array.getElem?_eq_some_iff.1 h1).1).trans h1, h2.below b, h3.below b, h4⟩
def OpenPost (o : Option Tb) (B : Nat) (e : Ending) (w' : World) : Prop :=
  match o with
  | some t => ∃ g, e = .returned (.tuple #[.pointer (some ⟨g, 0, none⟩), .int .i64 0]) ∧ TabAt w' g t ∧ B ≤ g
  | none => e = .returned (.tuple #[.pointer none, .int .i64 60])
theorem openP_none {s : List UInt8} (h : (scanL s).2 ≠ [] ∨ (scanL s).1.length < 2) : openP s = none := by unfold openP; rw [if_pos h]
/-- what is read behind the scan -/
def openQ (bs : List (List UInt8)) (ft : List UInt8) : Option Tb :=
  if (intF ft false bs.length).1 ≠ bs.length then none else
  let t := textsF bs.length (intF ft false bs.length).2.1 (intF ft false bs.length).2.2
  let c := intF t.2.1 t.2.2 ((bs.length * 8 : Nat) : Int)
  let f := textF c.2.1 c.2.2
  if endF f.2.1 f.2.2 = false ∨ f.1 = [] ∨ 8192 < f.1.length then none else
  match chkBlocks f.1 [] t.1 bs with
  | none => none
  | some l => if l.length ≠ c.1 then none else some ⟨t.1, bs, f.1, l⟩
theorem openP_go {s : List UInt8} {bs : List (List UInt8)} {ft : List UInt8} (h : scanL s = (bs ++ [ft], [])) (hb : bs ≠ []) : openP s = openQ bs ft := by
  unfold openP openQ
  have h1 : ¬ ((scanL s).2 ≠ [] ∨ (scanL s).1.length < 2) := by
    rw [h]; have := List.length_pos_iff.2 hb
    simp; omega
  rw [if_neg h1]
  simp only [h, List.dropLast_concat, List.getLast?_concat, Option.getD_some]
  rfl
theorem textF_out' (r : List UInt8) (b : Bool) : (textF r b).1.length ≤ r.length := by
  have h := numF_len r b
  unfold textF takeF
  split
  · simp
  · split
    · simp
    · rw [List.length_take]; omega
def openQ2 (fs bs : List (List UInt8)) (fl : List UInt8) (cn : Nat) (r6 : List UInt8) (b6 : Bool) : Option Tb :=
  if endF r6 b6 = false ∨ fl = [] ∨ 8192 < fl.length then none else
  match chkBlocks fl [] fs bs with
  | none => none
  | some l => if l.length ≠ cn then none else some ⟨fs, bs, fl, l⟩
theorem openQ_go {bs fs : List (List UInt8)} {ft r0 r r5 fl r6 : List UInt8} {b0 b b5 b6 : Bool} {k cn : Nat} (hk : k = bs.length) (h0 : intF ft false (k : Int) = (k, r0, b0)) (h1 : textsF k r0 b0 = (fs, r, b)) (h2 : intF r b ((k : Int) * 8) = (cn, r5, b5)) (h3 : textF r5 b5 = (fl, r6, b6)) : openQ bs ft = openQ2 fs bs fl cn r6 b6 := by
  subst hk
  have e : ((bs.length * 8 : Nat) : Int) = (bs.length : Int) * 8 := by omega
  unfold openQ openQ2
  simp only [h0, h1, e, h2, h3, ne_eq, not_true_eq_false, if_false]
def sC (l : List UInt8) : List Value := [strV l]
theorem sC_len (l : List UInt8) : (sC l).length = 1 := rfl
theorem sC_one (l : List UInt8) : ∀ u ∈ sC l, u.oneCell' = true := by intro u hu; simp [sC] at hu; subst hu; rfl
theorem sC_map (l : List (List UInt8)) : l.flatMap sC = l.map strV := flatMap_one strV l
/-- while a table is being read: the reader in block g, the table in block tb -/
structure OSt (w1 W : World) (g tb : Nat) (fv bv flv nv : Value) (r : List UInt8) (b : Bool) (fs : List (List UInt8)) : Prop where
  rd : Rdr W g r b
  tr : W.heap[tb]? = some (.cells #[fv, bv, flv, nv] 116 (0, 0))
  own : W.ownsRow w1.heap.size 9 1 fv fs.length (fs.flatMap sC)
  bl : Below w1.heap.size w1 W
  ge : w1.heap.size ≤ g ∧ w1.heap.size ≤ tb ∧ g ≠ tb
section
variable {w1 W W' : World} {g tb : Nat} {fv bv flv nv : Value} {r : List UInt8} {b : Bool} {fs : List (List UInt8)}
theorem OSt.shape (h : OSt w1 W g tb fv bv flv nv r b fs) : ∃ a c, fv = .slice a fs.length c := ownsRow_slice h.own
theorem OSt.cells (h : OSt w1 W g tb fv bv flv nv r b fs) : W.cell? ⟨tb, 0, none⟩ = some fv ∧ W.cell? ⟨tb, 1, none⟩ = some bv ∧ W.cell? ⟨tb, 2, none⟩ = some flv ∧ W.cell? ⟨tb, 3, none⟩ = some nv ∧ ∀ j, W.frozen? ⟨tb, j, none⟩ = false :=
  ⟨by rw [cell_of_row _ _ 0 _ _ (0, 0) h.tr]; rfl, by rw [cell_of_row _ _ 1 _ _ (0, 0) h.tr]; rfl, by rw [cell_of_row _ _ 2 _ _ (0, 0) h.tr]; rfl, by rw [cell_of_row _ _ 3 _ _ (0, 0) h.tr]; rfl, fun j => frozen_of_row W tb j _ _ h.tr⟩
theorem OSt.of_below (h : OSt w1 W g tb fv bv flv nv r b fs) (q : Below W.heap.size W W') : OSt w1 W' g tb fv bv flv nv r b fs :=
  ⟨h.rd.keep q, (q.block _ (Array.getElem?_eq_some_iff.1 h.tr).1).trans h.tr, own_new h.own q, h.bl.trans (q.mono h.bl.size), h.ge⟩
theorem OSt.read {r' : List UInt8} {b' : Bool} (h : OSt w1 W g tb fv bv flv nv r b fs) (a : At g W W') (q : Rdr W' g r' b') : OSt w1 W' g tb fv bv flv nv r' b' fs :=
  ⟨q, row_at h.tr a (fun e => h.ge.2.2 e.symm), own_at_other h.own h.rd (by decide) a, At.below h.bl a h.ge.1, h.ge⟩
theorem own_row_other {w w' : World} {B k n tb : Nat} {e T : TypeId} {v : Value} {xs c : List Value} {cs : Array Value} (h : w.ownsRow B e k v n xs) (ht : w.heap[tb]? = some (.cells cs T (0, 0))) (hT : T ≠ e) (a : At tb w w') : w'.ownsRow B e k v n xs := by
  refine h.kept a ?_
  rcases h.2 with ⟨rfl, _⟩ | ⟨b, cap, cur, rfl, _, hb, _⟩
  · exact .inl rfl
  · right
    simp only [Value.ownBlock, ne_eq, Option.some.injEq]
    rintro rfl
    rw [ht] at hb
    simp only [Option.some.injEq, Obj.cells.injEq] at hb
    exact hT hb.2.1
theorem OSt.setT (h : OSt w1 W g tb fv bv flv nv r b fs) (j : Nat) (u : Value) {fv' bv' flv' nv' : Value} (e : (#[fv, bv, flv, nv] : Array Value).setIfInBounds j u = #[fv', bv', flv', nv']) (ho : (W.setCell ⟨tb, j, none⟩ u).ownsRow w1.heap.size 9 1 fv' fs.length (fs.flatMap sC)) : OSt w1 (W.setCell ⟨tb, j, none⟩ u) g tb fv' bv' flv' nv' r b fs :=
  have a : At tb W (W.setCell ⟨tb, j, none⟩ u) := (At.refl _ _).set _ _
  ⟨h.rd.of_block (a.block _ h.rd.lt (by simpa using h.ge.2.2)), by have := heap_setCell_same W tb j _ _ u h.tr; rw [e] at this; exact this, ho, At.below h.bl a h.ge.2.1, h.ge⟩
theorem OSt.set2 (h : OSt w1 W g tb fv bv flv nv r b fs) (u : Value) : OSt w1 (W.setCell ⟨tb, 2, none⟩ u) g tb fv bv u nv r b fs :=
  h.setT 2 u rfl (own_row_other (c := []) h.own h.tr (by decide) ((At.refl _ _).set _ _))
theorem OSt.set3 (h : OSt w1 W g tb fv bv flv nv r b fs) (u : Value) : OSt w1 (W.setCell ⟨tb, 3, none⟩ u) g tb fv bv flv u r b fs :=
  h.setT 3 u rfl (own_row_other (c := []) h.own h.tr (by decide) ((At.refl _ _).set _ _))
theorem OSt.rowA (h : OSt w1 W g tb fv bv flv nv r b fs) (q : W.grownBy W' fv.ownBlock) : W'.heap[tb]? = some (.cells #[fv, bv, flv, nv] 116 (0, 0)) := by
  refine (q.block _ (Array.getElem?_eq_some_iff.1 h.tr).1 (fun e => ?_)).trans h.tr
  rcases h.own.2 with ⟨rfl, _⟩ | ⟨b, cap, cur, rfl, _, hb, _⟩
  · cases e
  · simp only [Value.ownBlock, Option.some.injEq] at e
    subst e
    rw [h.tr] at hb
    simp only [Option.some.injEq, Obj.cells.injEq] at hb
    exact absurd hb.2.1 (by decide)
theorem OSt.cellA (h : OSt w1 W g tb fv bv flv nv r b fs) (q : W.grownBy W' fv.ownBlock) : W'.cell? ⟨tb, 0, none⟩ = some fv ∧ W'.frozen? ⟨tb, 0, none⟩ = false :=
  ⟨by rw [cell_of_row _ _ 0 _ _ (0, 0) (h.rowA q)]; rfl, frozen_of_row W' tb 0 _ _ (h.rowA q)⟩
/-- one text more among the first keys -/
theorem OSt.push {t : List UInt8} {a' : Option Addr} {c' : Nat} (h : OSt w1 W g tb fv bv flv nv r b fs) (o : W'.ownsRow w1.heap.size 9 1 (.slice a' (fs.length + 1) c') (fs.length + 1) ((fs ++ [t]).flatMap sC)) (q : W.grownBy W' fv.ownBlock) :
    OSt w1 (W'.setCell ⟨tb, 0, none⟩ (.slice a' (fs.length + 1) c')) g tb (.slice a' (fs.length + 1) c') bv flv nv r b (fs ++ [t]) := by
  have hr := obj_grown h.own q h.rd (by decide)
  have ht : W'.heap[tb]? = some (.cells #[fv, bv, flv, nv] 116 (0, 0)) := by
    refine (q.block _ (Array.getElem?_eq_some_iff.1 h.tr).1 (fun e => ?_)).trans h.tr
    rcases h.own.2 with ⟨rfl, _⟩ | ⟨b, cap, cur, rfl, _, hb, _⟩
    · cases e
    · simp only [Value.ownBlock, Option.some.injEq] at e
      subst e
      rw [h.tr] at hb
      simp only [Option.some.injEq, Obj.cells.injEq] at hb
      exact absurd hb.2.1 (by decide)
  have hb := below_grown h.bl h.own q (Nat.le_refl _)
  have a : At tb W' (W'.setCell ⟨tb, 0, none⟩ (.slice a' (fs.length + 1) c')) := (At.refl _ _).set _ _
  refine ⟨hr.of_block (a.block _ hr.lt (by simpa using h.ge.2.2)), heap_setCell_same W' tb 0 _ _ _ ht, ?_, At.below hb a h.ge.2.1, h.ge⟩
  rw [List.length_append]
  exact own_row_other (c := []) o ht (by decide) a
end
theorem binOp_leq_tab (t : TypeId) (a b : ByteArray) : binOp .leq t (.string a) (.string b) = pure (.bool (Op.bytesLess a.toList b.toList || a.toList == b.toList)) := by simp [binOp, Op.stringOp]
attribute [local go_sem] binOp_leq_tab
set_option maxHeartbeats 64000000 in
set_option maxRecDepth 100000 in
theorem open_any (s : List UInt8) (hs : s.length ≤ 5242880) (w : World) : Calls Try.prog 24 #[.string ⟨s.toArray⟩] w fun e w' => OpenPost (openP s) w.heap.size e w' ∧ Below w.heap.size w w' := by
  go_enter Try.func24, Try.ntmps24
  go_wp2_with fail
  refine (scan_any s (by omega) w).mono ?_
  rintro _ w1 ⟨v1, rfl, ho1, hcnt, b1⟩
  obtain ⟨a1, c1, rfl⟩ := ownsRow_slice ho1
  rw [List.length_map] at *
  have hsc := scan_count s.length s (Nat.le_refl _)
  by_cases hbad : (scanL s).2 ≠ [] ∨ (scanL s).1.length < 2
  · have HN := hid (openP_none hbad)
    have HB := hid b1
    have hd : (scanL s).2.length ≠ 0 ∨ (scanL s).1.length < 2 := hbad.imp (fun q e => q (List.eq_nil_of_length_eq_zero e)) id
    have hle := hsc.1
    clear hbad hcnt ho1 b1 hsc
    generalize (scanL s).2.length = lr at *
    generalize (scanL s).1.length = M at *
    by_cases hr : lr = 0
    · have hM2 : (M : Int) < 2 := by omega
      have he : (((s.length - lr : Nat) : Int) != (s.length : Int)) = false := by simp; omega
      clear hd hr hle
      go_wp2_with fail
      go_ret2
      exact ⟨by rw [HN.out]; rfl, HB.out⟩
    · have he : (((s.length - lr : Nat) : Int) != (s.length : Int)) = true := by simp; omega
      clear hd hr hle
      go_wp2_with fail
      go_ret2
      exact ⟨by rw [HN.out]; rfl, HB.out⟩
  · simp only [not_or, Decidable.not_not] at hbad
    obtain ⟨hr0, hM2⟩ := hbad
    obtain ⟨bs, ft, hbf⟩ : ∃ bs ft, (scanL s).1 = bs ++ [ft] := by
      refine ⟨(scanL s).1.dropLast, (scanL s).1.getLast (fun e => by rw [e] at hM2; simp at hM2), ?_⟩
      rw [List.dropLast_concat_getLast]
    have hsp : scanL s = (bs ++ [ft], []) := Prod.ext hbf hr0
    have hM : (scanL s).1.length = bs.length + 1 := by rw [hbf]; simp
    have hb0 : bs ≠ [] := fun e => by rw [hM, e] at hM2; simp at hM2
    have hQ := hid (openP_go hsp hb0)
    have hlens : ∀ b ∈ bs ++ [ft], b.length ≤ 1048576 := fun b q => (scan_five s.length s (Nat.le_refl _)).2 b (by rw [hbf]; exact q)
    have HLN := hid hlens
    have hbl : bs.length ≤ 1048576 := by have h5 := (scan_five s.length s (Nat.le_refl _)).1; rw [hM] at h5; omega
    have hb1 : 1 ≤ bs.length := by rw [hM] at hM2; omega
    have hS : Sl w1 (.slice a1 (bs.length + 1) c1) 1 (bs.length + 1) ((bs ++ [ft]).map strV) := by
      have q := OwnV.sl ho1 (by rw [List.length_map, hM]; unfold maxLen; omega)
      rw [List.length_map, hM, hbf] at q
      exact q
    have hcap : bs.length + 1 ≤ c1 := by
      rcases ho1.2 with ⟨q, _⟩ | ⟨g, cap, cur, q, _, _, h, _⟩
      · rw [hM] at q; simp at q
      · simp only [Value.slice.injEq] at q
        rw [List.length_map, hM] at h; omega
    rw [hM, hr0]
    have hft := hlens ft (by simp)
    obtain ⟨_, _, a', cap', hv, hc⟩ := hS
    rw [Value.slice.injEq] at hv
    obtain ⟨rfl, -, rfl⟩ := hv
    obtain ⟨b, off, rfl, hblt, hc⟩ := hc.resolve_left (by omega)
    have hcf : w1.cell? ⟨b, off + bs.length, none⟩ = some (.string ⟨ft.toArray⟩) := by
      rw [hc bs.length (by simp)]
      simp [strV]
    obtain ⟨N, hN⟩ : ∃ N, N = bs.length := ⟨_, rfl⟩
    have hcb : ∀ j (h : j < bs.length), w1.cell? ⟨b, off + j, none⟩ = some (strV bs[j]) := fun j h => by
      rw [hc j (by simp; omega)]
      congr 1
      rw [List.getElem_map, List.getElem_append_left h]
    have HCB := hid hcb
    have HB1 := hid b1
    have HBN := hid hN
    rw [← hN] at hb1 hbl hcap hcf ⊢
    have hN1 : IntKind.i64.wrap (N : Int) = (N : Int) := IntWalk.i64_in _ (by omega)
    have hNi : (0 : Int) ≤ (N : Int) := by omega
    have hNj : (N : Int) < (N : Int) + 1 := by omega
    have hNc : N ≤ c1 := by omega
    have hNc2 : (N : Int) ≤ (c1 : Int) := by omega
    have hge : ¬ ((N : Int) + 1 < 2) := by omega
    clear hsc hcnt ho1 hM2 hr0 hbf hsp hM hb0 hlens hc hcb b1 hN
    have hrd : Rdr (w1.drew.alloc (.cells #[.string ⟨ft.toArray⟩, .bool false] 140)) w1.heap.size ft false := read_rdr ft w1.drew
    go_wp2_with fail
    go_region_held3 (fun w' => w'.cell? ⟨b, off + N, none⟩ = some (.string ⟨ft.toArray⟩)) (first | exact hcf | exact Lib.cell?_alloc_some _ hcf)
      ((go_at_call 50; refine (read_any ft _).mono ?_; rintro _ w2 ⟨rfl, hw2⟩; have hcf2 : w2.cell? ⟨b, off + N, none⟩ = some (.string ⟨ft.toArray⟩) := (by rw [hw2]; exact Lib.cell?_alloc_some _ hcf)))
    clear hcf hcf2 hw2 hrd
    clear w2
    obtain ⟨w2, hw2⟩ : ∃ x, x = (w1.alloc (.cells #[.string ⟨ft.toArray⟩, .bool false] 140)).drew := ⟨_, rfl⟩
    have b2 : Below w1.heap.size w1 w2 := by rw [hw2]; exact ((Below.refl _ _).alloc (Nat.le_refl _) _).drew
    have hr2 : Rdr w2 w1.heap.size ft false := by rw [hw2]; exact read_rdr ft w1
    have e2 : w2.heap.size = w1.heap.size + 1 := by rw [hw2]; exact Array.size_push ..
    rw [← hw2]
    obtain ⟨w3, hw3⟩ : ∃ x, x = w2.alloc (.cells #[.slice none 0 0, .slice (some ⟨b, off, none⟩) N c1, .string ⟨#[]⟩, .int .i64 0] 116) := ⟨_, rfl⟩
    have b3 : Below w2.heap.size w2 w3 := by rw [hw3]; exact (Below.refl _ _).alloc (Nat.le_refl _) _
    have hS3 : OSt w1 w3 w1.heap.size (w1.heap.size + 1) (.slice none 0 0) (.slice (some ⟨b, off, none⟩) N c1) (.string ⟨#[]⟩) (.int .i64 0) ft false [] :=
      ⟨hr2.keep b3, by rw [hw3, ← e2]; exact heap_alloc_new w2 _, World.ownsRow_nil _ _ _ _, bnext b2 b3, by omega⟩
    have HW3 := hid hw3
    have hi := int_any w1.heap.size ft false (N : Int) w3 hS3.rd (by unfold maxLen; omega) (by omega) (by omega)
    obtain ⟨c0, r0, b0, h0⟩ : ∃ c0 r0 b0, intF ft false (N : Int) = (c0, r0, b0) := ⟨_, _, _, rfl⟩
    have l0 := intF_len ft false (N : Int)
    rw [h0] at hi l0
    simp only at hi l0
    obtain ⟨g, hg⟩ : ∃ g, g = w1.heap.size := ⟨_, rfl⟩
    rw [← hg] at hS3 hi
    have HG := hid hg
    have HS3 := hid hS3
    rw [← hg] at e2
    clear hw3 b2 hr2 b3 hw2 hS3
    go_wp2_with (rw [← HW3.out])
    rw [← HG.out]
    refine hi.mono ?_
    rintro _ w4 ⟨rfl, hr4, a4⟩
    have HS4 := hid (HS3.out.read a4 hr4)
    have HBW := hid (fun (w' : World) (q : Below w1.heap.size w1 w') => bnext HB1.out q)
    clear hi HS3 hr4 a4 e2 HW3 w2 w3 hg
    by_cases hc0 : c0 = N
    case neg =>
      have he : ((c0 : Int) != (N : Int)) = true := by simp; omega
      have HN := hid (show openP s = none by rw [hQ.out]; unfold openQ; rw [if_pos (by rw [← HBN.out, h0]; exact hc0)])
      clear hc0
      go_wp2_with fail
      go_ret2
      exact ⟨by rw [HN.out]; rfl, HBW.out _ HS4.out.bl⟩
    subst hc0
    have H0 := hid h0
    clear h0
    go_wp2_with fail
    go_loopw [55] (fun i wr => ∃ (k : Nat) (fv : Value), k ≤ c0 ∧ i = .int .i64 k ∧ OSt w1 wr g (g + 1) fv (.slice (some ⟨b, off, none⟩) c0 c1) (.string ⟨#[]⟩) (.int .i64 0) (textsF k r0 b0).2.1 (textsF k r0 b0).2.2 (textsF k r0 b0).1) (fun i _ => c0 - (intOf i).toNat)
    case atStart => exact ⟨0, _, by omega, rfl, HS4.out⟩
    case round =>
      clear HS4
      obtain ⟨k, fv, hk, rfl, hst⟩ := hrel
      by_cases hlt : k < c0
      · have hsn := textsF_snoc k r0 b0
        have hlk := textsF_len k r0 b0
        have hrl := textsF_rest k r0 b0
        obtain ⟨fs, r, b', hx⟩ : ∃ fs r b', textsF k r0 b0 = (fs, r, b') := ⟨_, _, _, rfl⟩
        rw [hx] at hst hsn hlk hrl
        obtain ⟨t, r', b2, ht⟩ : ∃ t r' b2, textF r b' = (t, r', b2) := ⟨_, _, _, rfl⟩
        simp only at hst hsn hlk hrl
        rw [ht] at hsn
        simp only at hsn
        obtain ⟨fa, fc, rfl⟩ := hst.shape
        obtain ⟨d0, -, -, -, d4⟩ := hst.cells
        have d5 := d4 0
        clear d4
        have hT := fun W q => text_any_r g r b' W q (by unfold maxLen; omega)
        rw [ht] at hT
        have HT := hid hT
        have HST := hid hst
        have HSN := hid hsn
        have hlI : (fs.length : Int) ≤ 1048576 := by omega
        have hki : (k : Int) < (c0 : Int) := by omega
        have HLK := hid hlk
        clear hT hst hsn hx ht hlk
        go_wp2_with fail
        go_region_law ((first
          | (go_simp; go_at_call 52; refine (HT.out _ (by exact HST.out.rd)).mono ?_; rintro _ wa ⟨rfl, hra, aa⟩; have HSa := hid (HST.out.read (W' := wa) aa.of_drew hra); have da0 := HSa.out.cells.1; have da1 := Lib.cell?_alloc_some (.cells #[.string ⟨t.toArray⟩] 9) da0; clear hra aa)
          | (refine step_append_row _ (by rfl) _ _ 53 (by rfl) sC 1 (by decide) sC_len sC_one w1.heap.size 9 (.string .empty) 16 Try.underlying53 infoStr rfl (.slice fa fs.length fc) fs.length fs (by rfl) (own_new HSa.out.own ((Below.refl _ _).alloc (Nat.le_refl _) _)) _ _ (by rfl) t (fun j q hq => (World.cell?_alloc_at _ _ _ _ rfl).trans (by rw [← hq]; exact List.getElem?_toArray)) (by unfold maxLen; omega) (by omega) (by have := HSa.out.bl.size; rw [World.size_alloc]; omega) ?_; intro a' c' wb hob hgb; have HSp := hid ((HSa.out.of_below ((Below.refl _ _).alloc (Nat.le_refl _) _)).push hob hgb); have hSb := (HSa.out.of_below ((Below.refl _ _).alloc (Nat.le_refl _) _)).cellA hgb; have e0 := hSb.1; have e1 := hSb.2; clear hob hgb hSb da0 da1 d0 d5)))
        all_goals
          clear e0 e1
          go_wp2_with fail
          go_roundw
          case rel => exact ⟨k + 1, _, by omega, by go_num, by rw [HSN.out]; exact HSp.out⟩
          case measure => simp [intOf]; omega
      · obtain rfl : k = c0 := by omega
        obtain ⟨fs, r, b', hx⟩ : ∃ fs r b', textsF k r0 b0 = (fs, r, b') := ⟨_, _, _, rfl⟩
        have hlk := textsF_len k r0 b0
        have hrl := textsF_rest k r0 b0
        rw [hx] at hst hlk hrl
        simp only at hst hlk hrl
        obtain ⟨cn, r5, b5, h5⟩ : ∃ c r5 b5, intF r b' ((k : Int) * 8) = (c, r5, b5) := ⟨_, _, _, rfl⟩
        have l5 := intF_len r b' ((k : Int) * 8)
        have hcn := intF_le (r := r) (b := b') (m := (k : Int) * 8) (by omega)
        obtain ⟨fl, r6, b6, h6⟩ : ∃ c r6 b6, textF r5 b5 = (c, r6, b6) := ⟨_, _, _, rfl⟩
        rw [h5] at l5 hcn
        simp only at l5 hcn
        have HQ2 := hid (show openP s = openQ2 fs bs fl cn r6 b6 by rw [hQ.out]; exact openQ_go HBN.out H0.out hx h5 h6)
        have hI := int_any g r b' ((k : Int) * 8) wr hst.rd (by unfold maxLen; omega) (by omega) (by omega)
        rw [h5] at hI
        simp only at hI
        have hT := fun W q => text_any_r g r5 b5 W q (by unfold maxLen; omega)
        rw [h6] at hT
        have l6 : fl.length ≤ r5.length := by
          have := textF_out' r5 b5
          rw [h6] at this
          exact this
        have HT := hid hT
        have hmul : IntKind.i64.wrap ((k : Int) * 8) = (k : Int) * 8 := IntWalk.i64_in _ (by omega)
        obtain ⟨fa, fc, rfl⟩ := hst.shape
        have HLK := hid hlk
        have HST := hid hst
        clear hT hlk hx h5 h6 hst
        go_wp2_with fail
        refine hI.mono ?_
        rintro _ w5 ⟨rfl, hr5, a5⟩
        have HS5 := hid (HST.out.read a5 hr5)
        obtain ⟨-, -, -, d3, d4⟩ := HS5.out.cells
        have f3 := d4 3
        obtain ⟨w6, hw6⟩ : ∃ x, x = w5.setCell ⟨g + 1, 3, none⟩ (.int .i64 (cn : Int)) := ⟨_, rfl⟩
        have HS6 := hid (HS5.out.set3 (.int .i64 (cn : Int)))
        rw [← hw6] at HS6
        have HW6 := hid hw6
        clear hr5 a5 hw6 d4
        go_wp2_with (rw [← HW6.out])
        clear f3 d3
        refine (HT.out _ HS6.out.rd).mono ?_
        rintro _ w7 ⟨rfl, hr7, a7⟩
        have HS7 := hid (HS6.out.read a7 hr7)
        obtain ⟨-, -, d2, -, d4⟩ := HS7.out.cells
        have f2 := d4 2
        obtain ⟨w8, hw8⟩ : ∃ x, x = w7.setCell ⟨g + 1, 2, none⟩ (.string ⟨fl.toArray⟩) := ⟨_, rfl⟩
        have HS8 := hid (HS7.out.set2 (.string ⟨fl.toArray⟩))
        rw [← hw8] at HS8
        have HW8 := hid hw8
        clear hr7 a7 hw8 d4 HS5 HS6 HST hI
        go_wp2_with (rw [← HW8.out])
        clear f2 d2
        refine (end_any g r6 b6 w8 HS8.out.rd).mono ?_
        rintro _ w9 ⟨rfl, hw9⟩
        rw [hw9]
        clear hw9 w9 HS7 HW6 HW8 HT
        obtain ⟨-, -, d2, -, -⟩ := HS8.out.cells
        cases he : endF r6 b6 with
        | false =>
          have HN := hid (show openP s = none by rw [HQ2.out]; unfold openQ2; rw [if_pos (.inl he)])
          clear he
          go_wp2_with fail
          go_ret2
          exact ⟨by rw [HN.out]; rfl, HBW.out _ HS8.out.bl⟩
        | true =>
        have HE := hid he
        clear he
        by_cases hf0 : fl = []
        · subst hf0
          have HN := hid (show openP s = none by rw [HQ2.out]; unfold openQ2; rw [if_pos (.inr (.inl rfl))])
          go_wp2_with fail
          go_ret2
          exact ⟨by rw [HN.out]; rfl, HBW.out _ HS8.out.bl⟩
        have hfe : fl.isEmpty = false := by simpa using hf0
        have HF0 := hid hf0
        by_cases hf8 : 8192 < fl.length
        · have HN := hid (show openP s = none by rw [HQ2.out]; unfold openQ2; rw [if_pos (.inr (.inr hf8))])
          have hf8' : (8192 : Int) < (fl.length : Int) := by omega
          go_wp2_with fail
          go_ret2
          exact ⟨by rw [HN.out]; rfl, HBW.out _ HS8.out.bl⟩
        have hf8' : (fl.length : Int) ≤ 8192 := by omega
        have HQ3 := hid (show openP s = (match chkBlocks fl [] fs bs with | none => none | some l => if l.length ≠ cn then none else some ⟨fs, bs, fl, l⟩) by
          rw [HQ2.out]; unfold openQ2; rw [if_neg (by rw [HE.out]; simp only [Bool.true_eq_false, false_or, not_or]; exact ⟨hf0, hf8⟩)])
        clear HQ2 HE hf8 l5 l6 hrl hcn hmul
        go_wp2_with fail
        clear hf0 hfe
        obtain ⟨-, fb, fcap, efb, -⟩ := own_cells (by decide) sC_len HS8.out.own (by rw [HLK.out]; omega)
        rw [Value.slice.injEq] at efb
        obtain ⟨rfl, -, rfl⟩ := efb
        go_loopw [9, 10, 102] (fun l9 c10 i wr => ∃ (j : Nat) (last : List UInt8) (acc : List Pr), j ≤ k ∧ i = .int .i64 j ∧ l9 = .string ⟨last.toArray⟩ ∧ c10 = .int .i64 (acc.length : Int) ∧ OSt w1 wr g (g + 1) (.slice (some ⟨fb, 0, none⟩) fs.length fc) (.slice (some ⟨b, off, none⟩) k c1) (.string ⟨fl.toArray⟩) (.int .i64 (cn : Int)) r6 b6 fs ∧ CkAt fl fs bs j last acc) (fun _ _ i _ => k - (intOf i).toNat)
        case atStart => exact ⟨0, [], [], by omega, rfl, rfl, rfl, HS8.out, CkAt.start _ _ _⟩
        case round =>
          clear d2 HS8
          obtain ⟨j, last, acc, hj, rfl, rfl, rfl, hst, hck⟩ := hrel
          have HST := hid hst
          have HOB := hid hst.bl
          clear hst
          by_cases hjk : j < k
          case neg =>
            obtain rfl : j = k := by omega
            have hce : chkBlocks fl [] fs bs = some acc := by rw [HBN.out] at hck; exact hck.stop
            obtain ⟨-, -, -, d3, -⟩ := HST.out.cells
            by_cases hcc : acc.length = cn
            · have he : ((acc.length : Int) != (cn : Int)) = false := by simp; omega
              have HP := hid (show openP s = some ⟨fs, bs, fl, acc⟩ by rw [HQ3.out, hce]; simp only; rw [if_neg (not_not_intro hcc)])
              have HCC := hid hcc
              clear hck hce hcc
              go_wp2_with fail
              go_ret2
              refine ⟨?_, HBW.out _ HOB.out⟩
              rw [HP.out]
              refine ⟨g + 1, rfl, ⟨some ⟨fb, 0, none⟩, fc, some ⟨b, off, none⟩, c1, ?_, ?_, ?_, ?_⟩, ?_⟩
              · have := HST.out.tr
                rw [← HBN.out, HCC.out]; exact this
              · have := Sl.of_own HST.out.own (by have := HLK.out; unfold maxLen; omega)
                rw [sC_map] at this; exact this
              · rw [← HBN.out]
                refine ⟨by rw [List.length_map, ← HBN.out]; omega, ⟨by unfold maxLen; omega, fun n c e => by cases e⟩, _, _, rfl, .inr ⟨b, off, rfl, Nat.lt_of_lt_of_le hblt HOB.out.size, fun j hj => ?_⟩⟩
                rw [List.length_map] at hj
                rw [List.getElem_map]
                exact (HOB.out.cell (p := ⟨b, off + j, none⟩) hblt).trans (HCB.out j hj)
              · show bs.length ≤ c1
                rw [← HBN.out]; omega
              · have := HB1.out.size; have := HG.out; omega
            · have he : ((acc.length : Int) != (cn : Int)) = true := by simp; omega
              have HN := hid (show openP s = none by rw [HQ3.out, hce]; simp only; rw [if_pos hcc])
              clear hck hce hcc
              go_wp2_with fail
              go_ret2
              exact ⟨by rw [HN.out]; rfl, HBW.out _ HOB.out⟩
          case pos =>
          have hjb : j < bs.length := by rw [← HBN.out]; exact hjk
          have hjf : j < fs.length := by rw [HLK.out]; exact hjk
          have hbk : wr.cell? ⟨b, off + j, none⟩ = some (.string ⟨bs[j].toArray⟩) := (HOB.out.cell (p := ⟨b, off + j, none⟩) hblt).trans (HCB.out j hjb)
          have hbl2 : bs[j].length ≤ 1048576 := HLN.out _ (by simp)
          have hpa := pairs_any bs[j] hbl2 wr
          have HCK := hid hck
          have hji : (j : Int) < (k : Int) := by omega
          have hj0 : (0 : Int) ≤ (j : Int) := by omega
          have hjw : IntKind.i64.wrap ((j : Int) + 1) = (j : Int) + 1 := IntWalk.i64_in _ (by omega)
          obtain ⟨bk, hbke⟩ : ∃ x, x = bs[j] := ⟨_, rfl⟩
          have HBK := hid hbke
          rw [← hbke] at hbk hpa
          clear hck hbl2 hbke
          cases hp : pairsL bk with
          | none =>
            rw [hp] at hpa
            unfold PairsPost at hpa
            have HN := hid (show openP s = none by rw [HQ3.out, HCK.out.no hjb hjf (by rw [← HBK.out]; exact hp)])
            clear hp
            go_wp2_with fail
            refine hpa.mono ?_
            rintro _ w2 ⟨rfl, b2⟩
            have HOB := hid (bnext HOB.out b2)
            clear hpa hbk b2
            go_wp2_with fail
            refine wp_region_noPanic ?_
            refine wp_region_held_drew (S := (fun _ => True)) (by kernel_rfl) ?_ (fun hHeld => ?_)
            · trivial
            refine wpAnyH_take (i := 0) (oi := ?fo0a) (v := ?fv0a) ?fe0a (by kernel_rfl) (by kernel_rfl) (by kernel_rfl) (fun _ _ _ h => h) (Or.inl ⟨?fw0a, ?fy0a⟩) (by assumption) ?fr0a
            case fe0a => ((simp only [List.getElem?_toArray, List.getElem?_cons_succ, List.getElem?_cons_zero]) <;> rfl)
            case fw0a => rfl
            case fy0a => (intro w hSw; (try dsimp only at hSw); go_simp; (try with_reducible rfl))
            try simp only [Act.put, List.setIfInBounds_toArray, List.set_cons_zero, List.set_cons_succ]
            refine wpAnyH_take (i := 1) (oi := ?fo1a) (v := ?fv1a) ?fe1a (by kernel_rfl) (by kernel_rfl) (by kernel_rfl) (fun _ _ _ h => h) (Or.inl ⟨?fw1a, ?fy1a⟩) (by assumption) ?fr1a
            case fe1a => ((simp only [List.getElem?_toArray, List.getElem?_cons_succ, List.getElem?_cons_zero]) <;> rfl)
            case fw1a => rfl
            case fy1a => (intro w hSw; (try dsimp only at hSw); go_simp; (try with_reducible rfl))
            try simp only [Act.put, List.setIfInBounds_toArray, List.set_cons_zero, List.set_cons_succ]
            refine wpAnyH_take (i := 2) (oi := ?fo2a) (v := ?fv2a) ?fe2a (by kernel_rfl) (by kernel_rfl) (by kernel_rfl) (fun _ _ _ h => h) (Or.inl ⟨?fw2a, ?fy2a⟩) (by assumption) ?fr2a
            case fe2a => ((simp only [List.getElem?_toArray, List.getElem?_cons_succ, List.getElem?_cons_zero]) <;> rfl)
            case fw2a => rfl
            case fy2a => (intro w hSw; (try dsimp only at hSw); go_simp; (try with_reducible rfl))
            try simp only [Act.put, List.setIfInBounds_toArray, List.set_cons_zero, List.set_cons_succ]
            refine wpAnyH_take (i := 3) (oi := ?fo3a) (v := undef) ?fe3a (by kernel_rfl) (by kernel_rfl) (by kernel_rfl) (fun _ _ _ h => h) (Or.inr ⟨?fw3a, rfl⟩) (by assumption) ?fr3a
            case fe3a => ((simp only [List.getElem?_toArray, List.getElem?_cons_succ, List.getElem?_cons_zero]) <;> rfl)
            case fw3a => rfl
            try simp only [Act.put, List.setIfInBounds_toArray, List.set_cons_zero, List.set_cons_succ]
            refine wpAnyH_take (i := 4) (oi := ?fo4a) (v := undef) ?fe4a (by kernel_rfl) (by kernel_rfl) (by kernel_rfl) (fun _ _ _ h => h) (Or.inr ⟨?fw4a, rfl⟩) (by assumption) ?fr4a
            case fe4a => ((simp only [List.getElem?_toArray, List.getElem?_cons_succ, List.getElem?_cons_zero]) <;> rfl)
            case fw4a => rfl
            try simp only [Act.put, List.setIfInBounds_toArray, List.set_cons_zero, List.set_cons_succ]
            refine wpAnyH_take (i := 5) (oi := ?fo5a) (v := undef) ?fe5a (by kernel_rfl) (by kernel_rfl) (by kernel_rfl) (fun _ _ _ h => h) (Or.inr ⟨?fw5a, rfl⟩) (by assumption) ?fr5a
            case fe5a => ((simp only [List.getElem?_toArray, List.getElem?_cons_succ, List.getElem?_cons_zero]) <;> rfl)
            case fw5a => rfl
            try simp only [Act.put, List.setIfInBounds_toArray, List.set_cons_zero, List.set_cons_succ]
            refine wpAnyH_take (i := 6) (oi := ?fo6a) (v := ?fv6a) ?fe6a (by kernel_rfl) (by kernel_rfl) (by kernel_rfl) (fun _ _ _ h => h) (Or.inl ⟨?fw6a, ?fy6a⟩) (by assumption) ?fr6a
            case fe6a => ((simp only [List.getElem?_toArray, List.getElem?_cons_succ, List.getElem?_cons_zero]) <;> rfl)
            case fw6a => rfl
            case fy6a => (intro w hSw; (try dsimp only at hSw); go_simp; (try with_reducible rfl))
            try simp only [Act.put, List.setIfInBounds_toArray, List.set_cons_zero, List.set_cons_succ]
            refine wpAnyH_take (i := 7) (oi := ?fo7a) (v := ?fv7a) ?fe7a (by kernel_rfl) (by kernel_rfl) (by kernel_rfl) (fun _ _ _ h => h) (Or.inl ⟨?fw7a, ?fy7a⟩) (by assumption) ?fr7a
            case fe7a => ((simp only [List.getElem?_toArray, List.getElem?_cons_succ, List.getElem?_cons_zero]) <;> rfl)
            case fw7a => rfl
            case fy7a => (intro w hSw; (try dsimp only at hSw); go_simp; (try with_reducible rfl))
            try simp only [Act.put, List.setIfInBounds_toArray, List.set_cons_zero, List.set_cons_succ]
            refine wpAnyH_take (i := 8) (oi := ?fo8a) (v := undef) ?fe8a (by kernel_rfl) (by kernel_rfl) (by kernel_rfl) (fun _ _ _ h => h) (Or.inr ⟨?fw8a, rfl⟩) (by assumption) ?fr8a
            case fe8a => ((simp only [List.getElem?_toArray, List.getElem?_cons_succ, List.getElem?_cons_zero]) <;> rfl)
            case fw8a => rfl
            try simp only [Act.put, List.setIfInBounds_toArray, List.set_cons_zero, List.set_cons_succ]
            refine wpAnyH_take (i := 9) (oi := ?fo9a) (v := undef) ?fe9a (by kernel_rfl) (by kernel_rfl) (by kernel_rfl) (fun _ _ _ h => h) (Or.inr ⟨?fw9a, rfl⟩) (by assumption) ?fr9a
            case fe9a => ((simp only [List.getElem?_toArray, List.getElem?_cons_succ, List.getElem?_cons_zero]) <;> rfl)
            case fw9a => rfl
            try simp only [Act.put, List.setIfInBounds_toArray, List.set_cons_zero, List.set_cons_succ]
            refine wpAnyH_take (i := 10) (oi := ?fo10a) (v := undef) ?fe10a (by kernel_rfl) (by kernel_rfl) (by kernel_rfl) (fun _ _ _ h => h) (Or.inr ⟨?fw10a, rfl⟩) (by assumption) ?fr10a
            case fe10a => ((simp only [List.getElem?_toArray, List.getElem?_cons_succ, List.getElem?_cons_zero]) <;> rfl)
            case fw10a => rfl
            try simp only [Act.put, List.setIfInBounds_toArray, List.set_cons_zero, List.set_cons_succ]
            refine wpAnyH_take (i := 11) (oi := ?fo11a) (v := ?fv11a) ?fe11a (by kernel_rfl) (by kernel_rfl) (by kernel_rfl) (fun _ _ _ h => h) (Or.inl ⟨?fw11a, ?fy11a⟩) (by assumption) ?fr11a
            case fe11a => ((simp only [List.getElem?_toArray, List.getElem?_cons_succ, List.getElem?_cons_zero]) <;> rfl)
            case fw11a => rfl
            case fy11a => (intro w hSw; (try dsimp only at hSw); go_simp; (try with_reducible rfl))
            try simp only [Act.put, List.setIfInBounds_toArray, List.set_cons_zero, List.set_cons_succ]
            refine wpAnyH_take (i := 12) (oi := ?fo12a) (v := ?fv12a) ?fe12a (by kernel_rfl) (by kernel_rfl) (by kernel_rfl) (fun _ _ _ h => h) (Or.inl ⟨?fw12a, ?fy12a⟩) (by assumption) ?fr12a
            case fe12a => ((simp only [List.getElem?_toArray, List.getElem?_cons_succ, List.getElem?_cons_zero]) <;> rfl)
            case fw12a => rfl
            case fy12a => (intro w hSw; (try dsimp only at hSw); go_simp; (try with_reducible rfl))
            try simp only [Act.put, List.setIfInBounds_toArray, List.set_cons_zero, List.set_cons_succ]
            refine wpAnyH_take (i := 13) (oi := ?fo13a) (v := undef) ?fe13a (by kernel_rfl) (by kernel_rfl) (by kernel_rfl) (fun _ _ _ h => h) (Or.inr ⟨?fw13a, rfl⟩) (by assumption) ?fr13a
            case fe13a => ((simp only [List.getElem?_toArray, List.getElem?_cons_succ, List.getElem?_cons_zero]) <;> rfl)
            case fw13a => rfl
            try simp only [Act.put, List.setIfInBounds_toArray, List.set_cons_zero, List.set_cons_succ]
            refine wpAnyH_take (i := 14) (oi := ?fo14a) (v := undef) ?fe14a (by kernel_rfl) (by kernel_rfl) (by kernel_rfl) (fun _ _ _ h => h) (Or.inr ⟨?fw14a, rfl⟩) (by assumption) ?fr14a
            case fe14a => ((simp only [List.getElem?_toArray, List.getElem?_cons_succ, List.getElem?_cons_zero]) <;> rfl)
            case fw14a => rfl
            try simp only [Act.put, List.setIfInBounds_toArray, List.set_cons_zero, List.set_cons_succ]
            refine wpAnyH_take (i := 15) (oi := ?fo15a) (v := undef) ?fe15a (by kernel_rfl) (by kernel_rfl) (by kernel_rfl) (fun _ _ _ h => h) (Or.inr ⟨?fw15a, rfl⟩) (by assumption) ?fr15a
            case fe15a => ((simp only [List.getElem?_toArray, List.getElem?_cons_succ, List.getElem?_cons_zero]) <;> rfl)
            case fw15a => rfl
            try simp only [Act.put, List.setIfInBounds_toArray, List.set_cons_zero, List.set_cons_succ]
            refine wpAnyH_take (i := 16) (oi := ?fo16a) (v := undef) ?fe16a (by kernel_rfl) (by kernel_rfl) (by kernel_rfl) (fun _ _ _ h => h) (Or.inr ⟨?fw16a, rfl⟩) (by assumption) ?fr16a
            case fe16a => ((simp only [List.getElem?_toArray, List.getElem?_cons_succ, List.getElem?_cons_zero]) <;> rfl)
            case fw16a => rfl
            try simp only [Act.put, List.setIfInBounds_toArray, List.set_cons_zero, List.set_cons_succ]
            refine wpAnyH_take (i := 17) (oi := ?fo17a) (v := undef) ?fe17a (by kernel_rfl) (by kernel_rfl) (by kernel_rfl) (fun _ _ _ h => h) (Or.inr ⟨?fw17a, rfl⟩) (by assumption) ?fr17a
            case fe17a => ((simp only [List.getElem?_toArray, List.getElem?_cons_succ, List.getElem?_cons_zero]) <;> rfl)
            case fw17a => rfl
            try simp only [Act.put, List.setIfInBounds_toArray, List.set_cons_zero, List.set_cons_succ]
            refine wpAnyH_take (i := 18) (oi := ?fo18a) (v := undef) ?fe18a (by kernel_rfl) (by kernel_rfl) (by kernel_rfl) (fun _ _ _ h => h) (Or.inr ⟨?fw18a, rfl⟩) (by assumption) ?fr18a
            case fe18a => ((simp only [List.getElem?_toArray, List.getElem?_cons_succ, List.getElem?_cons_zero]) <;> rfl)
            case fw18a => rfl
            try simp only [Act.put, List.setIfInBounds_toArray, List.set_cons_zero, List.set_cons_succ]
            refine wpAnyH_take (i := 19) (oi := ?fo19a) (v := undef) ?fe19a (by kernel_rfl) (by kernel_rfl) (by kernel_rfl) (fun _ _ _ h => h) (Or.inr ⟨?fw19a, rfl⟩) (by assumption) ?fr19a
            case fe19a => ((simp only [List.getElem?_toArray, List.getElem?_cons_succ, List.getElem?_cons_zero]) <;> rfl)
            case fw19a => rfl
            try simp only [Act.put, List.setIfInBounds_toArray, List.set_cons_zero, List.set_cons_succ]
            refine wpAnyH_take (i := 20) (oi := ?fo20a) (v := undef) ?fe20a (by kernel_rfl) (by kernel_rfl) (by kernel_rfl) (fun _ _ _ h => h) (Or.inr ⟨?fw20a, rfl⟩) (by assumption) ?fr20a
            case fe20a => ((simp only [List.getElem?_toArray, List.getElem?_cons_succ, List.getElem?_cons_zero]) <;> rfl)
            case fw20a => rfl
            try simp only [Act.put, List.setIfInBounds_toArray, List.set_cons_zero, List.set_cons_succ]
            refine wpAnyH_take (i := 21) (oi := ?fo21a) (v := undef) ?fe21a (by kernel_rfl) (by kernel_rfl) (by kernel_rfl) (fun _ _ _ h => h) (Or.inr ⟨?fw21a, rfl⟩) (by assumption) ?fr21a
            case fe21a => ((simp only [List.getElem?_toArray, List.getElem?_cons_succ, List.getElem?_cons_zero]) <;> rfl)
            case fw21a => rfl
            try simp only [Act.put, List.setIfInBounds_toArray, List.set_cons_zero, List.set_cons_succ]
            refine wpAnyH_take (i := 22) (oi := ?fo22a) (v := undef) ?fe22a (by kernel_rfl) (by kernel_rfl) (by kernel_rfl) (fun _ _ _ h => h) (Or.inr ⟨?fw22a, rfl⟩) (by assumption) ?fr22a
            case fe22a => ((simp only [List.getElem?_toArray, List.getElem?_cons_succ, List.getElem?_cons_zero]) <;> rfl)
            case fw22a => rfl
            try simp only [Act.put, List.setIfInBounds_toArray, List.set_cons_zero, List.set_cons_succ]
            refine wpAnyH_take (i := 23) (oi := ?fo23a) (v := ?fv23a) ?fe23a (by kernel_rfl) (by kernel_rfl) (by kernel_rfl) (fun _ _ _ h => h) (Or.inl ⟨?fw23a, ?fy23a⟩) (by assumption) ?fr23a
            case fe23a => ((simp only [List.getElem?_toArray, List.getElem?_cons_succ, List.getElem?_cons_zero]) <;> rfl)
            case fw23a => rfl
            case fy23a => (intro w hSw; (try dsimp only at hSw); go_simp; (try with_reducible rfl))
            try simp only [Act.put, List.setIfInBounds_toArray, List.set_cons_zero, List.set_cons_succ]
            refine wpAnyH_take (i := 24) (oi := ?fo24a) (v := ?fv24a) ?fe24a (by kernel_rfl) (by kernel_rfl) (by kernel_rfl) (fun _ _ _ h => h) (Or.inl ⟨?fw24a, ?fy24a⟩) (by assumption) ?fr24a
            case fe24a => ((simp only [List.getElem?_toArray, List.getElem?_cons_succ, List.getElem?_cons_zero]) <;> rfl)
            case fw24a => rfl
            case fy24a => (intro w hSw; (try dsimp only at hSw); go_simp; (try with_reducible rfl))
            try simp only [Act.put, List.setIfInBounds_toArray, List.set_cons_zero, List.set_cons_succ]
            refine wpAnyH_take (i := 25) (oi := ?fo25a) (v := undef) ?fe25a (by kernel_rfl) (by kernel_rfl) (by kernel_rfl) (fun _ _ _ h => h) (Or.inr ⟨?fw25a, rfl⟩) (by assumption) ?fr25a
            case fe25a => ((simp only [List.getElem?_toArray, List.getElem?_cons_succ, List.getElem?_cons_zero]) <;> rfl)
            case fw25a => rfl
            try simp only [Act.put, List.setIfInBounds_toArray, List.set_cons_zero, List.set_cons_succ]
            refine wpAnyH_take (i := 26) (oi := ?fo26a) (v := undef) ?fe26a (by kernel_rfl) (by kernel_rfl) (by kernel_rfl) (fun _ _ _ h => h) (Or.inr ⟨?fw26a, rfl⟩) (by assumption) ?fr26a
            case fe26a => ((simp only [List.getElem?_toArray, List.getElem?_cons_succ, List.getElem?_cons_zero]) <;> rfl)
            case fw26a => rfl
            try simp only [Act.put, List.setIfInBounds_toArray, List.set_cons_zero, List.set_cons_succ]
            refine wpAnyH_take (i := 27) (oi := ?fo27a) (v := undef) ?fe27a (by kernel_rfl) (by kernel_rfl) (by kernel_rfl) (fun _ _ _ h => h) (Or.inr ⟨?fw27a, rfl⟩) (by assumption) ?fr27a
            case fe27a => ((simp only [List.getElem?_toArray, List.getElem?_cons_succ, List.getElem?_cons_zero]) <;> rfl)
            case fw27a => rfl
            try simp only [Act.put, List.setIfInBounds_toArray, List.set_cons_zero, List.set_cons_succ]
            refine wpAnyH_take (i := 28) (oi := ?fo28a) (v := undef) ?fe28a (by kernel_rfl) (by kernel_rfl) (by kernel_rfl) (fun _ _ _ h => h) (Or.inr ⟨?fw28a, rfl⟩) (by assumption) ?fr28a
            case fe28a => ((simp only [List.getElem?_toArray, List.getElem?_cons_succ, List.getElem?_cons_zero]) <;> rfl)
            case fw28a => rfl
            try simp only [Act.put, List.setIfInBounds_toArray, List.set_cons_zero, List.set_cons_succ]
            refine wpAnyH_take (i := 29) (oi := ?fo29a) (v := undef) ?fe29a (by kernel_rfl) (by kernel_rfl) (by kernel_rfl) (fun _ _ _ h => h) (Or.inr ⟨?fw29a, rfl⟩) (by assumption) ?fr29a
            case fe29a => ((simp only [List.getElem?_toArray, List.getElem?_cons_succ, List.getElem?_cons_zero]) <;> rfl)
            case fw29a => rfl
            try simp only [Act.put, List.setIfInBounds_toArray, List.set_cons_zero, List.set_cons_succ]
            refine wpAnyH_take (i := 30) (oi := ?fo30a) (v := undef) ?fe30a (by kernel_rfl) (by kernel_rfl) (by kernel_rfl) (fun _ _ _ h => h) (Or.inr ⟨?fw30a, rfl⟩) (by assumption) ?fr30a
            case fe30a => ((simp only [List.getElem?_toArray, List.getElem?_cons_succ, List.getElem?_cons_zero]) <;> rfl)
            case fw30a => rfl
            try simp only [Act.put, List.setIfInBounds_toArray, List.set_cons_zero, List.set_cons_succ]
            refine wpAnyH_take (i := 31) (oi := ?fo31a) (v := undef) ?fe31a (by kernel_rfl) (by kernel_rfl) (by kernel_rfl) (fun _ _ _ h => h) (Or.inr ⟨?fw31a, rfl⟩) (by assumption) ?fr31a
            case fe31a => ((simp only [List.getElem?_toArray, List.getElem?_cons_succ, List.getElem?_cons_zero]) <;> rfl)
            case fw31a => rfl
            try simp only [Act.put, List.setIfInBounds_toArray, List.set_cons_zero, List.set_cons_succ]
            refine wpAnyH_take (i := 32) (oi := ?fo32a) (v := undef) ?fe32a (by kernel_rfl) (by kernel_rfl) (by kernel_rfl) (fun _ _ _ h => h) (Or.inr ⟨?fw32a, rfl⟩) (by assumption) ?fr32a
            case fe32a => ((simp only [List.getElem?_toArray, List.getElem?_cons_succ, List.getElem?_cons_zero]) <;> rfl)
            case fw32a => rfl
            try simp only [Act.put, List.setIfInBounds_toArray, List.set_cons_zero, List.set_cons_succ]
            refine wpAnyH_take (i := 33) (oi := ?fo33a) (v := undef) ?fe33a (by kernel_rfl) (by kernel_rfl) (by kernel_rfl) (fun _ _ _ h => h) (Or.inr ⟨?fw33a, rfl⟩) (by assumption) ?fr33a
            case fe33a => ((simp only [List.getElem?_toArray, List.getElem?_cons_succ, List.getElem?_cons_zero]) <;> rfl)
            case fw33a => rfl
            try simp only [Act.put, List.setIfInBounds_toArray, List.set_cons_zero, List.set_cons_succ]
            refine wpAnyH_take (i := 34) (oi := ?fo34a) (v := undef) ?fe34a (by kernel_rfl) (by kernel_rfl) (by kernel_rfl) (fun _ _ _ h => h) (Or.inr ⟨?fw34a, rfl⟩) (by assumption) ?fr34a
            case fe34a => ((simp only [List.getElem?_toArray, List.getElem?_cons_succ, List.getElem?_cons_zero]) <;> rfl)
            case fw34a => rfl
            try simp only [Act.put, List.setIfInBounds_toArray, List.set_cons_zero, List.set_cons_succ]
            refine wpAnyH_take (i := 35) (oi := ?fo35a) (v := undef) ?fe35a (by kernel_rfl) (by kernel_rfl) (by kernel_rfl) (fun _ _ _ h => h) (Or.inr ⟨?fw35a, rfl⟩) (by assumption) ?fr35a
            case fe35a => ((simp only [List.getElem?_toArray, List.getElem?_cons_succ, List.getElem?_cons_zero]) <;> rfl)
            case fw35a => rfl
            try simp only [Act.put, List.setIfInBounds_toArray, List.set_cons_zero, List.set_cons_succ]
            refine wpAnyH_take (i := 36) (oi := ?fo36a) (v := undef) ?fe36a (by kernel_rfl) (by kernel_rfl) (by kernel_rfl) (fun _ _ _ h => h) (Or.inr ⟨?fw36a, rfl⟩) (by assumption) ?fr36a
            case fe36a => ((simp only [List.getElem?_toArray, List.getElem?_cons_succ, List.getElem?_cons_zero]) <;> rfl)
            case fw36a => rfl
            try simp only [Act.put, List.setIfInBounds_toArray, List.set_cons_zero, List.set_cons_succ]
            refine wpAnyH_take (i := 37) (oi := ?fo37a) (v := ?fv37a) ?fe37a (by kernel_rfl) (by kernel_rfl) (by kernel_rfl) (fun _ _ _ h => h) (Or.inl ⟨?fw37a, ?fy37a⟩) (by assumption) ?fr37a
            case fe37a => ((simp only [List.getElem?_toArray, List.getElem?_cons_succ, List.getElem?_cons_zero]) <;> rfl)
            case fw37a => rfl
            case fy37a => (intro w hSw; (try dsimp only at hSw); go_simp; (try with_reducible rfl))
            try simp only [Act.put, List.setIfInBounds_toArray, List.set_cons_zero, List.set_cons_succ]
            refine wpAnyH_done (by kernel_rfl) ?_ _
            refine NoPanic.normal ?_
            have HOB := hid HOB.out.drew
            go_wp2_with fail
            go_ret2
            exact ⟨by rw [HN.out]; rfl, HBW.out _ HOB.out⟩
          | some x =>
            rw [hp] at hpa
            unfold PairsPost at hpa
            have HP := hid (show pairsL bs[j] = some x by rw [← HBK.out]; exact hp)
            have HBAD := hid (fun (q : ¬ (BlkOk last fs[j] (decide (j + 1 < bs.length)) x ∧ ∀ p ∈ x, hasL fl p.1 = true)) => (show openP s = none by rw [HQ3.out, HCK.out.bad hjb hjf HP.out q]))
            clear hp
            go_wp2_with fail
            refine hpa.mono ?_
            rintro _ w2 ⟨⟨xv, rfl, hxo⟩, b2⟩
            have HS2 := hid (HST.out.of_below b2)
            have HOB := hid HS2.out.bl
            clear hpa hbk b2
            by_cases hx0 : x = []
            · subst hx0
              have HN := hid (HBAD.out (fun q => q.1.1 rfl))
              obtain ⟨xa, xc, rfl⟩ := ownsRow_slice hxo
              clear hxo
              go_wp2_with fail
              refine wp_region_noPanic ?_
              refine wp_region_held_drew (S := (fun _ => True)) (by kernel_rfl) ?_ (fun hHeld => ?_)
              · trivial
              refine wpAnyH_take (i := 0) (oi := ?fo0b) (v := ?fv0b) ?fe0b (by kernel_rfl) (by kernel_rfl) (by kernel_rfl) (fun _ _ _ h => h) (Or.inl ⟨?fw0b, ?fy0b⟩) (by assumption) ?fr0b
              case fe0b => ((simp only [List.getElem?_toArray, List.getElem?_cons_succ, List.getElem?_cons_zero]) <;> rfl)
              case fw0b => rfl
              case fy0b => (intro w hSw; (try dsimp only at hSw); go_simp; (try with_reducible rfl))
              try simp only [Act.put, List.setIfInBounds_toArray, List.set_cons_zero, List.set_cons_succ]
              refine wpAnyH_take (i := 1) (oi := ?fo1b) (v := ?fv1b) ?fe1b (by kernel_rfl) (by kernel_rfl) (by kernel_rfl) (fun _ _ _ h => h) (Or.inl ⟨?fw1b, ?fy1b⟩) (by assumption) ?fr1b
              case fe1b => ((simp only [List.getElem?_toArray, List.getElem?_cons_succ, List.getElem?_cons_zero]) <;> rfl)
              case fw1b => rfl
              case fy1b => (intro w hSw; (try dsimp only at hSw); go_simp; (try with_reducible rfl))
              try simp only [Act.put, List.setIfInBounds_toArray, List.set_cons_zero, List.set_cons_succ]
              refine wpAnyH_take (i := 2) (oi := ?fo2b) (v := ?fv2b) ?fe2b (by kernel_rfl) (by kernel_rfl) (by kernel_rfl) (fun _ _ _ h => h) (Or.inl ⟨?fw2b, ?fy2b⟩) (by assumption) ?fr2b
              case fe2b => ((simp only [List.getElem?_toArray, List.getElem?_cons_succ, List.getElem?_cons_zero]) <;> rfl)
              case fw2b => rfl
              case fy2b => (intro w hSw; (try dsimp only at hSw); go_simp; (try with_reducible rfl))
              try simp only [Act.put, List.setIfInBounds_toArray, List.set_cons_zero, List.set_cons_succ]
              refine wpAnyH_take (i := 3) (oi := ?fo3b) (v := ?fv3b) ?fe3b (by kernel_rfl) (by kernel_rfl) (by kernel_rfl) (fun _ _ _ h => h) (Or.inl ⟨?fw3b, ?fy3b⟩) (by assumption) ?fr3b
              case fe3b => ((simp only [List.getElem?_toArray, List.getElem?_cons_succ, List.getElem?_cons_zero]) <;> rfl)
              case fw3b => rfl
              case fy3b => (intro w hSw; (try dsimp only at hSw); go_simp; (try with_reducible rfl))
              try simp only [Act.put, List.setIfInBounds_toArray, List.set_cons_zero, List.set_cons_succ]
              refine wpAnyH_take (i := 4) (oi := ?fo4b) (v := ?fv4b) ?fe4b (by kernel_rfl) (by kernel_rfl) (by kernel_rfl) (fun _ _ _ h => h) (Or.inl ⟨?fw4b, ?fy4b⟩) (by assumption) ?fr4b
              case fe4b => ((simp only [List.getElem?_toArray, List.getElem?_cons_succ, List.getElem?_cons_zero]) <;> rfl)
              case fw4b => rfl
              case fy4b => (intro w hSw; (try dsimp only at hSw); go_simp; (try with_reducible rfl))
              try simp only [Act.put, List.setIfInBounds_toArray, List.set_cons_zero, List.set_cons_succ]
              refine wpAnyH_take (i := 5) (oi := ?fo5b) (v := (.bool true)) ?fe5b (by kernel_rfl) (by kernel_rfl) (by kernel_rfl) (fun _ _ _ h => h) (Or.inl ⟨?fw5b, ?fy5b⟩) (by assumption) ?fr5b
              case fe5b => ((simp only [List.getElem?_toArray, List.getElem?_cons_succ, List.getElem?_cons_zero]) <;> rfl)
              case fw5b => rfl
              case fy5b => (intro w hSw; (try dsimp only at hSw); go_simp; (try (first | omega | (simp; done) | (simp; omega))))
              try simp only [Act.put, List.setIfInBounds_toArray, List.set_cons_zero, List.set_cons_succ]
              refine wpAnyH_take (i := 6) (oi := ?fo6b) (v := ?fv6b) ?fe6b (by kernel_rfl) (by kernel_rfl) (by kernel_rfl) (fun _ _ _ h => h) (Or.inl ⟨?fw6b, ?fy6b⟩) (by assumption) ?fr6b
              case fe6b => ((simp only [List.getElem?_toArray, List.getElem?_cons_succ, List.getElem?_cons_zero]) <;> rfl)
              case fw6b => rfl
              case fy6b => (intro w hSw; (try dsimp only at hSw); go_simp; (try with_reducible rfl))
              try simp only [Act.put, List.setIfInBounds_toArray, List.set_cons_zero, List.set_cons_succ]
              refine wpAnyH_take (i := 7) (oi := ?fo7b) (v := ?fv7b) ?fe7b (by kernel_rfl) (by kernel_rfl) (by kernel_rfl) (fun _ _ _ h => h) (Or.inl ⟨?fw7b, ?fy7b⟩) (by assumption) ?fr7b
              case fe7b => ((simp only [List.getElem?_toArray, List.getElem?_cons_succ, List.getElem?_cons_zero]) <;> rfl)
              case fw7b => rfl
              case fy7b => (intro w hSw; (try dsimp only at hSw); go_simp; (try with_reducible rfl))
              try simp only [Act.put, List.setIfInBounds_toArray, List.set_cons_zero, List.set_cons_succ]
              refine wpAnyH_take (i := 8) (oi := ?fo8b) (v := undef) ?fe8b (by kernel_rfl) (by kernel_rfl) (by kernel_rfl) (fun _ _ _ h => h) (Or.inr ⟨?fw8b, rfl⟩) (by assumption) ?fr8b
              case fe8b => ((simp only [List.getElem?_toArray, List.getElem?_cons_succ, List.getElem?_cons_zero]) <;> rfl)
              case fw8b => rfl
              try simp only [Act.put, List.setIfInBounds_toArray, List.set_cons_zero, List.set_cons_succ]
              refine wpAnyH_take (i := 9) (oi := ?fo9b) (v := undef) ?fe9b (by kernel_rfl) (by kernel_rfl) (by kernel_rfl) (fun _ _ _ h => h) (Or.inr ⟨?fw9b, rfl⟩) (by assumption) ?fr9b
              case fe9b => ((simp only [List.getElem?_toArray, List.getElem?_cons_succ, List.getElem?_cons_zero]) <;> rfl)
              case fw9b => rfl
              try simp only [Act.put, List.setIfInBounds_toArray, List.set_cons_zero, List.set_cons_succ]
              refine wpAnyH_take (i := 10) (oi := ?fo10b) (v := undef) ?fe10b (by kernel_rfl) (by kernel_rfl) (by kernel_rfl) (fun _ _ _ h => h) (Or.inr ⟨?fw10b, rfl⟩) (by assumption) ?fr10b
              case fe10b => ((simp only [List.getElem?_toArray, List.getElem?_cons_succ, List.getElem?_cons_zero]) <;> rfl)
              case fw10b => rfl
              try simp only [Act.put, List.setIfInBounds_toArray, List.set_cons_zero, List.set_cons_succ]
              refine wpAnyH_take (i := 11) (oi := ?fo11b) (v := ?fv11b) ?fe11b (by kernel_rfl) (by kernel_rfl) (by kernel_rfl) (fun _ _ _ h => h) (Or.inl ⟨?fw11b, ?fy11b⟩) (by assumption) ?fr11b
              case fe11b => ((simp only [List.getElem?_toArray, List.getElem?_cons_succ, List.getElem?_cons_zero]) <;> rfl)
              case fw11b => rfl
              case fy11b => (intro w hSw; (try dsimp only at hSw); go_simp; (try with_reducible rfl))
              try simp only [Act.put, List.setIfInBounds_toArray, List.set_cons_zero, List.set_cons_succ]
              refine wpAnyH_take (i := 12) (oi := ?fo12b) (v := ?fv12b) ?fe12b (by kernel_rfl) (by kernel_rfl) (by kernel_rfl) (fun _ _ _ h => h) (Or.inl ⟨?fw12b, ?fy12b⟩) (by assumption) ?fr12b
              case fe12b => ((simp only [List.getElem?_toArray, List.getElem?_cons_succ, List.getElem?_cons_zero]) <;> rfl)
              case fw12b => rfl
              case fy12b => (intro w hSw; (try dsimp only at hSw); go_simp; (try with_reducible rfl))
              try simp only [Act.put, List.setIfInBounds_toArray, List.set_cons_zero, List.set_cons_succ]
              refine wpAnyH_take (i := 13) (oi := ?fo13b) (v := undef) ?fe13b (by kernel_rfl) (by kernel_rfl) (by kernel_rfl) (fun _ _ _ h => h) (Or.inr ⟨?fw13b, rfl⟩) (by assumption) ?fr13b
              case fe13b => ((simp only [List.getElem?_toArray, List.getElem?_cons_succ, List.getElem?_cons_zero]) <;> rfl)
              case fw13b => rfl
              try simp only [Act.put, List.setIfInBounds_toArray, List.set_cons_zero, List.set_cons_succ]
              refine wpAnyH_take (i := 14) (oi := ?fo14b) (v := undef) ?fe14b (by kernel_rfl) (by kernel_rfl) (by kernel_rfl) (fun _ _ _ h => h) (Or.inr ⟨?fw14b, rfl⟩) (by assumption) ?fr14b
              case fe14b => ((simp only [List.getElem?_toArray, List.getElem?_cons_succ, List.getElem?_cons_zero]) <;> rfl)
              case fw14b => rfl
              try simp only [Act.put, List.setIfInBounds_toArray, List.set_cons_zero, List.set_cons_succ]
              refine wpAnyH_take (i := 15) (oi := ?fo15b) (v := undef) ?fe15b (by kernel_rfl) (by kernel_rfl) (by kernel_rfl) (fun _ _ _ h => h) (Or.inr ⟨?fw15b, rfl⟩) (by assumption) ?fr15b
              case fe15b => ((simp only [List.getElem?_toArray, List.getElem?_cons_succ, List.getElem?_cons_zero]) <;> rfl)
              case fw15b => rfl
              try simp only [Act.put, List.setIfInBounds_toArray, List.set_cons_zero, List.set_cons_succ]
              refine wpAnyH_take (i := 16) (oi := ?fo16b) (v := undef) ?fe16b (by kernel_rfl) (by kernel_rfl) (by kernel_rfl) (fun _ _ _ h => h) (Or.inr ⟨?fw16b, rfl⟩) (by assumption) ?fr16b
              case fe16b => ((simp only [List.getElem?_toArray, List.getElem?_cons_succ, List.getElem?_cons_zero]) <;> rfl)
              case fw16b => rfl
              try simp only [Act.put, List.setIfInBounds_toArray, List.set_cons_zero, List.set_cons_succ]
              refine wpAnyH_take (i := 17) (oi := ?fo17b) (v := undef) ?fe17b (by kernel_rfl) (by kernel_rfl) (by kernel_rfl) (fun _ _ _ h => h) (Or.inr ⟨?fw17b, rfl⟩) (by assumption) ?fr17b
              case fe17b => ((simp only [List.getElem?_toArray, List.getElem?_cons_succ, List.getElem?_cons_zero]) <;> rfl)
              case fw17b => rfl
              try simp only [Act.put, List.setIfInBounds_toArray, List.set_cons_zero, List.set_cons_succ]
              refine wpAnyH_take (i := 18) (oi := ?fo18b) (v := undef) ?fe18b (by kernel_rfl) (by kernel_rfl) (by kernel_rfl) (fun _ _ _ h => h) (Or.inr ⟨?fw18b, rfl⟩) (by assumption) ?fr18b
              case fe18b => ((simp only [List.getElem?_toArray, List.getElem?_cons_succ, List.getElem?_cons_zero]) <;> rfl)
              case fw18b => rfl
              try simp only [Act.put, List.setIfInBounds_toArray, List.set_cons_zero, List.set_cons_succ]
              refine wpAnyH_take (i := 19) (oi := ?fo19b) (v := undef) ?fe19b (by kernel_rfl) (by kernel_rfl) (by kernel_rfl) (fun _ _ _ h => h) (Or.inr ⟨?fw19b, rfl⟩) (by assumption) ?fr19b
              case fe19b => ((simp only [List.getElem?_toArray, List.getElem?_cons_succ, List.getElem?_cons_zero]) <;> rfl)
              case fw19b => rfl
              try simp only [Act.put, List.setIfInBounds_toArray, List.set_cons_zero, List.set_cons_succ]
              refine wpAnyH_take (i := 20) (oi := ?fo20b) (v := undef) ?fe20b (by kernel_rfl) (by kernel_rfl) (by kernel_rfl) (fun _ _ _ h => h) (Or.inr ⟨?fw20b, rfl⟩) (by assumption) ?fr20b
              case fe20b => ((simp only [List.getElem?_toArray, List.getElem?_cons_succ, List.getElem?_cons_zero]) <;> rfl)
              case fw20b => rfl
              try simp only [Act.put, List.setIfInBounds_toArray, List.set_cons_zero, List.set_cons_succ]
              refine wpAnyH_take (i := 21) (oi := ?fo21b) (v := undef) ?fe21b (by kernel_rfl) (by kernel_rfl) (by kernel_rfl) (fun _ _ _ h => h) (Or.inr ⟨?fw21b, rfl⟩) (by assumption) ?fr21b
              case fe21b => ((simp only [List.getElem?_toArray, List.getElem?_cons_succ, List.getElem?_cons_zero]) <;> rfl)
              case fw21b => rfl
              try simp only [Act.put, List.setIfInBounds_toArray, List.set_cons_zero, List.set_cons_succ]
              refine wpAnyH_take (i := 22) (oi := ?fo22b) (v := undef) ?fe22b (by kernel_rfl) (by kernel_rfl) (by kernel_rfl) (fun _ _ _ h => h) (Or.inr ⟨?fw22b, rfl⟩) (by assumption) ?fr22b
              case fe22b => ((simp only [List.getElem?_toArray, List.getElem?_cons_succ, List.getElem?_cons_zero]) <;> rfl)
              case fw22b => rfl
              try simp only [Act.put, List.setIfInBounds_toArray, List.set_cons_zero, List.set_cons_succ]
              refine wpAnyH_take (i := 23) (oi := ?fo23b) (v := ?fv23b) ?fe23b (by kernel_rfl) (by kernel_rfl) (by kernel_rfl) (fun _ _ _ h => h) (Or.inl ⟨?fw23b, ?fy23b⟩) (by assumption) ?fr23b
              case fe23b => ((simp only [List.getElem?_toArray, List.getElem?_cons_succ, List.getElem?_cons_zero]) <;> rfl)
              case fw23b => rfl
              case fy23b => (intro w hSw; (try dsimp only at hSw); go_simp; (try with_reducible rfl))
              try simp only [Act.put, List.setIfInBounds_toArray, List.set_cons_zero, List.set_cons_succ]
              refine wpAnyH_take (i := 24) (oi := ?fo24b) (v := ?fv24b) ?fe24b (by kernel_rfl) (by kernel_rfl) (by kernel_rfl) (fun _ _ _ h => h) (Or.inl ⟨?fw24b, ?fy24b⟩) (by assumption) ?fr24b
              case fe24b => ((simp only [List.getElem?_toArray, List.getElem?_cons_succ, List.getElem?_cons_zero]) <;> rfl)
              case fw24b => rfl
              case fy24b => (intro w hSw; (try dsimp only at hSw); go_simp; (try with_reducible rfl))
              try simp only [Act.put, List.setIfInBounds_toArray, List.set_cons_zero, List.set_cons_succ]
              refine wpAnyH_take (i := 25) (oi := ?fo25b) (v := undef) ?fe25b (by kernel_rfl) (by kernel_rfl) (by kernel_rfl) (fun _ _ _ h => h) (Or.inr ⟨?fw25b, rfl⟩) (by assumption) ?fr25b
              case fe25b => ((simp only [List.getElem?_toArray, List.getElem?_cons_succ, List.getElem?_cons_zero]) <;> rfl)
              case fw25b => rfl
              try simp only [Act.put, List.setIfInBounds_toArray, List.set_cons_zero, List.set_cons_succ]
              refine wpAnyH_take (i := 26) (oi := ?fo26b) (v := undef) ?fe26b (by kernel_rfl) (by kernel_rfl) (by kernel_rfl) (fun _ _ _ h => h) (Or.inr ⟨?fw26b, rfl⟩) (by assumption) ?fr26b
              case fe26b => ((simp only [List.getElem?_toArray, List.getElem?_cons_succ, List.getElem?_cons_zero]) <;> rfl)
              case fw26b => rfl
              try simp only [Act.put, List.setIfInBounds_toArray, List.set_cons_zero, List.set_cons_succ]
              refine wpAnyH_take (i := 27) (oi := ?fo27b) (v := undef) ?fe27b (by kernel_rfl) (by kernel_rfl) (by kernel_rfl) (fun _ _ _ h => h) (Or.inr ⟨?fw27b, rfl⟩) (by assumption) ?fr27b
              case fe27b => ((simp only [List.getElem?_toArray, List.getElem?_cons_succ, List.getElem?_cons_zero]) <;> rfl)
              case fw27b => rfl
              try simp only [Act.put, List.setIfInBounds_toArray, List.set_cons_zero, List.set_cons_succ]
              refine wpAnyH_take (i := 28) (oi := ?fo28b) (v := undef) ?fe28b (by kernel_rfl) (by kernel_rfl) (by kernel_rfl) (fun _ _ _ h => h) (Or.inr ⟨?fw28b, rfl⟩) (by assumption) ?fr28b
              case fe28b => ((simp only [List.getElem?_toArray, List.getElem?_cons_succ, List.getElem?_cons_zero]) <;> rfl)
              case fw28b => rfl
              try simp only [Act.put, List.setIfInBounds_toArray, List.set_cons_zero, List.set_cons_succ]
              refine wpAnyH_take (i := 29) (oi := ?fo29b) (v := undef) ?fe29b (by kernel_rfl) (by kernel_rfl) (by kernel_rfl) (fun _ _ _ h => h) (Or.inr ⟨?fw29b, rfl⟩) (by assumption) ?fr29b
              case fe29b => ((simp only [List.getElem?_toArray, List.getElem?_cons_succ, List.getElem?_cons_zero]) <;> rfl)
              case fw29b => rfl
              try simp only [Act.put, List.setIfInBounds_toArray, List.set_cons_zero, List.set_cons_succ]
              refine wpAnyH_take (i := 30) (oi := ?fo30b) (v := undef) ?fe30b (by kernel_rfl) (by kernel_rfl) (by kernel_rfl) (fun _ _ _ h => h) (Or.inr ⟨?fw30b, rfl⟩) (by assumption) ?fr30b
              case fe30b => ((simp only [List.getElem?_toArray, List.getElem?_cons_succ, List.getElem?_cons_zero]) <;> rfl)
              case fw30b => rfl
              try simp only [Act.put, List.setIfInBounds_toArray, List.set_cons_zero, List.set_cons_succ]
              refine wpAnyH_take (i := 31) (oi := ?fo31b) (v := undef) ?fe31b (by kernel_rfl) (by kernel_rfl) (by kernel_rfl) (fun _ _ _ h => h) (Or.inr ⟨?fw31b, rfl⟩) (by assumption) ?fr31b
              case fe31b => ((simp only [List.getElem?_toArray, List.getElem?_cons_succ, List.getElem?_cons_zero]) <;> rfl)
              case fw31b => rfl
              try simp only [Act.put, List.setIfInBounds_toArray, List.set_cons_zero, List.set_cons_succ]
              refine wpAnyH_take (i := 32) (oi := ?fo32b) (v := undef) ?fe32b (by kernel_rfl) (by kernel_rfl) (by kernel_rfl) (fun _ _ _ h => h) (Or.inr ⟨?fw32b, rfl⟩) (by assumption) ?fr32b
              case fe32b => ((simp only [List.getElem?_toArray, List.getElem?_cons_succ, List.getElem?_cons_zero]) <;> rfl)
              case fw32b => rfl
              try simp only [Act.put, List.setIfInBounds_toArray, List.set_cons_zero, List.set_cons_succ]
              refine wpAnyH_take (i := 33) (oi := ?fo33b) (v := undef) ?fe33b (by kernel_rfl) (by kernel_rfl) (by kernel_rfl) (fun _ _ _ h => h) (Or.inr ⟨?fw33b, rfl⟩) (by assumption) ?fr33b
              case fe33b => ((simp only [List.getElem?_toArray, List.getElem?_cons_succ, List.getElem?_cons_zero]) <;> rfl)
              case fw33b => rfl
              try simp only [Act.put, List.setIfInBounds_toArray, List.set_cons_zero, List.set_cons_succ]
              refine wpAnyH_take (i := 34) (oi := ?fo34b) (v := undef) ?fe34b (by kernel_rfl) (by kernel_rfl) (by kernel_rfl) (fun _ _ _ h => h) (Or.inr ⟨?fw34b, rfl⟩) (by assumption) ?fr34b
              case fe34b => ((simp only [List.getElem?_toArray, List.getElem?_cons_succ, List.getElem?_cons_zero]) <;> rfl)
              case fw34b => rfl
              try simp only [Act.put, List.setIfInBounds_toArray, List.set_cons_zero, List.set_cons_succ]
              refine wpAnyH_take (i := 35) (oi := ?fo35b) (v := undef) ?fe35b (by kernel_rfl) (by kernel_rfl) (by kernel_rfl) (fun _ _ _ h => h) (Or.inr ⟨?fw35b, rfl⟩) (by assumption) ?fr35b
              case fe35b => ((simp only [List.getElem?_toArray, List.getElem?_cons_succ, List.getElem?_cons_zero]) <;> rfl)
              case fw35b => rfl
              try simp only [Act.put, List.setIfInBounds_toArray, List.set_cons_zero, List.set_cons_succ]
              refine wpAnyH_take (i := 36) (oi := ?fo36b) (v := undef) ?fe36b (by kernel_rfl) (by kernel_rfl) (by kernel_rfl) (fun _ _ _ h => h) (Or.inr ⟨?fw36b, rfl⟩) (by assumption) ?fr36b
              case fe36b => ((simp only [List.getElem?_toArray, List.getElem?_cons_succ, List.getElem?_cons_zero]) <;> rfl)
              case fw36b => rfl
              try simp only [Act.put, List.setIfInBounds_toArray, List.set_cons_zero, List.set_cons_succ]
              refine wpAnyH_take (i := 37) (oi := ?fo37b) (v := ?fv37b) ?fe37b (by kernel_rfl) (by kernel_rfl) (by kernel_rfl) (fun _ _ _ h => h) (Or.inl ⟨?fw37b, ?fy37b⟩) (by assumption) ?fr37b
              case fe37b => ((simp only [List.getElem?_toArray, List.getElem?_cons_succ, List.getElem?_cons_zero]) <;> rfl)
              case fw37b => rfl
              case fy37b => (intro w hSw; (try dsimp only at hSw); go_simp; (try with_reducible rfl))
              try simp only [Act.put, List.setIfInBounds_toArray, List.set_cons_zero, List.set_cons_succ]
              refine wpAnyH_done (by kernel_rfl) ?_ _
              refine NoPanic.normal ?_
              have HOB := hid HOB.out.drew
              go_wp2_with fail
              go_ret2
              exact ⟨by rw [HN.out]; rfl, HBW.out _ HOB.out⟩
            have hxp := List.length_pos_iff.2 hx0
            obtain ⟨-, xb, xcap, rfl, hxB, hxl, hxc, hxe⟩ := own_cells (by decide) prC_len hxo hxp
            have HXE := hid hxe
            have HX0 := hid hx0
            have hxz : ((x.length : Int) == 0) = false := by simp; omega
            clear hxe hxo hx0
            by_cases hx8 : 8 < x.length
            · have HN := hid (HBAD.out (fun q => by have := q.1.2.1; omega))
              have hx8' : (8 : Int) < (x.length : Int) := by omega
              clear hx8
              go_wp2_with fail
              refine wp_region_noPanic ?_
              refine wp_region_held_drew (S := (fun _ => True)) (by kernel_rfl) ?_ (fun hHeld => ?_)
              · trivial
              refine wpAnyH_take (i := 0) (oi := ?fo0c) (v := ?fv0c) ?fe0c (by kernel_rfl) (by kernel_rfl) (by kernel_rfl) (fun _ _ _ h => h) (Or.inl ⟨?fw0c, ?fy0c⟩) (by assumption) ?fr0c
              case fe0c => ((simp only [List.getElem?_toArray, List.getElem?_cons_succ, List.getElem?_cons_zero]) <;> rfl)
              case fw0c => rfl
              case fy0c => (intro w hSw; (try dsimp only at hSw); go_simp; (try with_reducible rfl))
              try simp only [Act.put, List.setIfInBounds_toArray, List.set_cons_zero, List.set_cons_succ]
              refine wpAnyH_take (i := 1) (oi := ?fo1c) (v := ?fv1c) ?fe1c (by kernel_rfl) (by kernel_rfl) (by kernel_rfl) (fun _ _ _ h => h) (Or.inl ⟨?fw1c, ?fy1c⟩) (by assumption) ?fr1c
              case fe1c => ((simp only [List.getElem?_toArray, List.getElem?_cons_succ, List.getElem?_cons_zero]) <;> rfl)
              case fw1c => rfl
              case fy1c => (intro w hSw; (try dsimp only at hSw); go_simp; (try with_reducible rfl))
              try simp only [Act.put, List.setIfInBounds_toArray, List.set_cons_zero, List.set_cons_succ]
              refine wpAnyH_take (i := 2) (oi := ?fo2c) (v := ?fv2c) ?fe2c (by kernel_rfl) (by kernel_rfl) (by kernel_rfl) (fun _ _ _ h => h) (Or.inl ⟨?fw2c, ?fy2c⟩) (by assumption) ?fr2c
              case fe2c => ((simp only [List.getElem?_toArray, List.getElem?_cons_succ, List.getElem?_cons_zero]) <;> rfl)
              case fw2c => rfl
              case fy2c => (intro w hSw; (try dsimp only at hSw); go_simp; (try with_reducible rfl))
              try simp only [Act.put, List.setIfInBounds_toArray, List.set_cons_zero, List.set_cons_succ]
              refine wpAnyH_take (i := 3) (oi := ?fo3c) (v := ?fv3c) ?fe3c (by kernel_rfl) (by kernel_rfl) (by kernel_rfl) (fun _ _ _ h => h) (Or.inl ⟨?fw3c, ?fy3c⟩) (by assumption) ?fr3c
              case fe3c => ((simp only [List.getElem?_toArray, List.getElem?_cons_succ, List.getElem?_cons_zero]) <;> rfl)
              case fw3c => rfl
              case fy3c => (intro w hSw; (try dsimp only at hSw); go_simp; (try with_reducible rfl))
              try simp only [Act.put, List.setIfInBounds_toArray, List.set_cons_zero, List.set_cons_succ]
              refine wpAnyH_take (i := 4) (oi := ?fo4c) (v := ?fv4c) ?fe4c (by kernel_rfl) (by kernel_rfl) (by kernel_rfl) (fun _ _ _ h => h) (Or.inl ⟨?fw4c, ?fy4c⟩) (by assumption) ?fr4c
              case fe4c => ((simp only [List.getElem?_toArray, List.getElem?_cons_succ, List.getElem?_cons_zero]) <;> rfl)
              case fw4c => rfl
              case fy4c => (intro w hSw; (try dsimp only at hSw); go_simp; (try with_reducible rfl))
              try simp only [Act.put, List.setIfInBounds_toArray, List.set_cons_zero, List.set_cons_succ]
              refine wpAnyH_take (i := 5) (oi := ?fo5c) (v := (.bool false)) ?fe5c (by kernel_rfl) (by kernel_rfl) (by kernel_rfl) (fun _ _ _ h => h) (Or.inl ⟨?fw5c, ?fy5c⟩) (by assumption) ?fr5c
              case fe5c => ((simp only [List.getElem?_toArray, List.getElem?_cons_succ, List.getElem?_cons_zero]) <;> rfl)
              case fw5c => rfl
              case fy5c => (intro w hSw; (try dsimp only at hSw); go_simp; (try (first | omega | (simp; done) | (simp; omega))))
              try simp only [Act.put, List.setIfInBounds_toArray, List.set_cons_zero, List.set_cons_succ]
              refine wpAnyH_take (i := 6) (oi := ?fo6c) (v := ?fv6c) ?fe6c (by kernel_rfl) (by kernel_rfl) (by kernel_rfl) (fun _ _ _ h => h) (Or.inl ⟨?fw6c, ?fy6c⟩) (by assumption) ?fr6c
              case fe6c => ((simp only [List.getElem?_toArray, List.getElem?_cons_succ, List.getElem?_cons_zero]) <;> rfl)
              case fw6c => rfl
              case fy6c => (intro w hSw; (try dsimp only at hSw); go_simp; (try with_reducible rfl))
              try simp only [Act.put, List.setIfInBounds_toArray, List.set_cons_zero, List.set_cons_succ]
              refine wpAnyH_take (i := 7) (oi := ?fo7c) (v := ?fv7c) ?fe7c (by kernel_rfl) (by kernel_rfl) (by kernel_rfl) (fun _ _ _ h => h) (Or.inl ⟨?fw7c, ?fy7c⟩) (by assumption) ?fr7c
              case fe7c => ((simp only [List.getElem?_toArray, List.getElem?_cons_succ, List.getElem?_cons_zero]) <;> rfl)
              case fw7c => rfl
              case fy7c => (intro w hSw; (try dsimp only at hSw); go_simp; (try with_reducible rfl))
              try simp only [Act.put, List.setIfInBounds_toArray, List.set_cons_zero, List.set_cons_succ]
              refine wpAnyH_take (i := 8) (oi := ?fo8c) (v := ?fv8c) ?fe8c (by kernel_rfl) (by kernel_rfl) (by kernel_rfl) (fun _ _ _ h => h) (Or.inl ⟨?fw8c, ?fy8c⟩) (by assumption) ?fr8c
              case fe8c => ((simp only [List.getElem?_toArray, List.getElem?_cons_succ, List.getElem?_cons_zero]) <;> rfl)
              case fw8c => rfl
              case fy8c => (intro w hSw; (try dsimp only at hSw); go_simp; (try with_reducible rfl))
              try simp only [Act.put, List.setIfInBounds_toArray, List.set_cons_zero, List.set_cons_succ]
              refine wpAnyH_take (i := 9) (oi := ?fo9c) (v := ?fv9c) ?fe9c (by kernel_rfl) (by kernel_rfl) (by kernel_rfl) (fun _ _ _ h => h) (Or.inl ⟨?fw9c, ?fy9c⟩) (by assumption) ?fr9c
              case fe9c => ((simp only [List.getElem?_toArray, List.getElem?_cons_succ, List.getElem?_cons_zero]) <;> rfl)
              case fw9c => rfl
              case fy9c => (intro w hSw; (try dsimp only at hSw); go_simp; (try with_reducible rfl))
              try simp only [Act.put, List.setIfInBounds_toArray, List.set_cons_zero, List.set_cons_succ]
              refine wpAnyH_take (i := 10) (oi := ?fo10c) (v := (.bool true)) ?fe10c (by kernel_rfl) (by kernel_rfl) (by kernel_rfl) (fun _ _ _ h => h) (Or.inl ⟨?fw10c, ?fy10c⟩) (by assumption) ?fr10c
              case fe10c => ((simp only [List.getElem?_toArray, List.getElem?_cons_succ, List.getElem?_cons_zero]) <;> rfl)
              case fw10c => rfl
              case fy10c => (intro w hSw; (try dsimp only at hSw); go_simp; (try (first | omega | (simp; done) | (simp; omega))))
              try simp only [Act.put, List.setIfInBounds_toArray, List.set_cons_zero, List.set_cons_succ]
              refine wpAnyH_take (i := 11) (oi := ?fo11c) (v := ?fv11c) ?fe11c (by kernel_rfl) (by kernel_rfl) (by kernel_rfl) (fun _ _ _ h => h) (Or.inl ⟨?fw11c, ?fy11c⟩) (by assumption) ?fr11c
              case fe11c => ((simp only [List.getElem?_toArray, List.getElem?_cons_succ, List.getElem?_cons_zero]) <;> rfl)
              case fw11c => rfl
              case fy11c => (intro w hSw; (try dsimp only at hSw); go_simp; (try with_reducible rfl))
              try simp only [Act.put, List.setIfInBounds_toArray, List.set_cons_zero, List.set_cons_succ]
              refine wpAnyH_take (i := 12) (oi := ?fo12c) (v := ?fv12c) ?fe12c (by kernel_rfl) (by kernel_rfl) (by kernel_rfl) (fun _ _ _ h => h) (Or.inl ⟨?fw12c, ?fy12c⟩) (by assumption) ?fr12c
              case fe12c => ((simp only [List.getElem?_toArray, List.getElem?_cons_succ, List.getElem?_cons_zero]) <;> rfl)
              case fw12c => rfl
              case fy12c => (intro w hSw; (try dsimp only at hSw); go_simp; (try with_reducible rfl))
              try simp only [Act.put, List.setIfInBounds_toArray, List.set_cons_zero, List.set_cons_succ]
              refine wpAnyH_take (i := 13) (oi := ?fo13c) (v := undef) ?fe13c (by kernel_rfl) (by kernel_rfl) (by kernel_rfl) (fun _ _ _ h => h) (Or.inr ⟨?fw13c, rfl⟩) (by assumption) ?fr13c
              case fe13c => ((simp only [List.getElem?_toArray, List.getElem?_cons_succ, List.getElem?_cons_zero]) <;> rfl)
              case fw13c => rfl
              try simp only [Act.put, List.setIfInBounds_toArray, List.set_cons_zero, List.set_cons_succ]
              refine wpAnyH_take (i := 14) (oi := ?fo14c) (v := undef) ?fe14c (by kernel_rfl) (by kernel_rfl) (by kernel_rfl) (fun _ _ _ h => h) (Or.inr ⟨?fw14c, rfl⟩) (by assumption) ?fr14c
              case fe14c => ((simp only [List.getElem?_toArray, List.getElem?_cons_succ, List.getElem?_cons_zero]) <;> rfl)
              case fw14c => rfl
              try simp only [Act.put, List.setIfInBounds_toArray, List.set_cons_zero, List.set_cons_succ]
              refine wpAnyH_take (i := 15) (oi := ?fo15c) (v := undef) ?fe15c (by kernel_rfl) (by kernel_rfl) (by kernel_rfl) (fun _ _ _ h => h) (Or.inr ⟨?fw15c, rfl⟩) (by assumption) ?fr15c
              case fe15c => ((simp only [List.getElem?_toArray, List.getElem?_cons_succ, List.getElem?_cons_zero]) <;> rfl)
              case fw15c => rfl
              try simp only [Act.put, List.setIfInBounds_toArray, List.set_cons_zero, List.set_cons_succ]
              refine wpAnyH_take (i := 16) (oi := ?fo16c) (v := undef) ?fe16c (by kernel_rfl) (by kernel_rfl) (by kernel_rfl) (fun _ _ _ h => h) (Or.inr ⟨?fw16c, rfl⟩) (by assumption) ?fr16c
              case fe16c => ((simp only [List.getElem?_toArray, List.getElem?_cons_succ, List.getElem?_cons_zero]) <;> rfl)
              case fw16c => rfl
              try simp only [Act.put, List.setIfInBounds_toArray, List.set_cons_zero, List.set_cons_succ]
              refine wpAnyH_take (i := 17) (oi := ?fo17c) (v := undef) ?fe17c (by kernel_rfl) (by kernel_rfl) (by kernel_rfl) (fun _ _ _ h => h) (Or.inr ⟨?fw17c, rfl⟩) (by assumption) ?fr17c
              case fe17c => ((simp only [List.getElem?_toArray, List.getElem?_cons_succ, List.getElem?_cons_zero]) <;> rfl)
              case fw17c => rfl
              try simp only [Act.put, List.setIfInBounds_toArray, List.set_cons_zero, List.set_cons_succ]
              refine wpAnyH_take (i := 18) (oi := ?fo18c) (v := undef) ?fe18c (by kernel_rfl) (by kernel_rfl) (by kernel_rfl) (fun _ _ _ h => h) (Or.inr ⟨?fw18c, rfl⟩) (by assumption) ?fr18c
              case fe18c => ((simp only [List.getElem?_toArray, List.getElem?_cons_succ, List.getElem?_cons_zero]) <;> rfl)
              case fw18c => rfl
              try simp only [Act.put, List.setIfInBounds_toArray, List.set_cons_zero, List.set_cons_succ]
              refine wpAnyH_take (i := 19) (oi := ?fo19c) (v := undef) ?fe19c (by kernel_rfl) (by kernel_rfl) (by kernel_rfl) (fun _ _ _ h => h) (Or.inr ⟨?fw19c, rfl⟩) (by assumption) ?fr19c
              case fe19c => ((simp only [List.getElem?_toArray, List.getElem?_cons_succ, List.getElem?_cons_zero]) <;> rfl)
              case fw19c => rfl
              try simp only [Act.put, List.setIfInBounds_toArray, List.set_cons_zero, List.set_cons_succ]
              refine wpAnyH_take (i := 20) (oi := ?fo20c) (v := undef) ?fe20c (by kernel_rfl) (by kernel_rfl) (by kernel_rfl) (fun _ _ _ h => h) (Or.inr ⟨?fw20c, rfl⟩) (by assumption) ?fr20c
              case fe20c => ((simp only [List.getElem?_toArray, List.getElem?_cons_succ, List.getElem?_cons_zero]) <;> rfl)
              case fw20c => rfl
              try simp only [Act.put, List.setIfInBounds_toArray, List.set_cons_zero, List.set_cons_succ]
              refine wpAnyH_take (i := 21) (oi := ?fo21c) (v := undef) ?fe21c (by kernel_rfl) (by kernel_rfl) (by kernel_rfl) (fun _ _ _ h => h) (Or.inr ⟨?fw21c, rfl⟩) (by assumption) ?fr21c
              case fe21c => ((simp only [List.getElem?_toArray, List.getElem?_cons_succ, List.getElem?_cons_zero]) <;> rfl)
              case fw21c => rfl
              try simp only [Act.put, List.setIfInBounds_toArray, List.set_cons_zero, List.set_cons_succ]
              refine wpAnyH_take (i := 22) (oi := ?fo22c) (v := undef) ?fe22c (by kernel_rfl) (by kernel_rfl) (by kernel_rfl) (fun _ _ _ h => h) (Or.inr ⟨?fw22c, rfl⟩) (by assumption) ?fr22c
              case fe22c => ((simp only [List.getElem?_toArray, List.getElem?_cons_succ, List.getElem?_cons_zero]) <;> rfl)
              case fw22c => rfl
              try simp only [Act.put, List.setIfInBounds_toArray, List.set_cons_zero, List.set_cons_succ]
              refine wpAnyH_take (i := 23) (oi := ?fo23c) (v := ?fv23c) ?fe23c (by kernel_rfl) (by kernel_rfl) (by kernel_rfl) (fun _ _ _ h => h) (Or.inl ⟨?fw23c, ?fy23c⟩) (by assumption) ?fr23c
              case fe23c => ((simp only [List.getElem?_toArray, List.getElem?_cons_succ, List.getElem?_cons_zero]) <;> rfl)
              case fw23c => rfl
              case fy23c => (intro w hSw; (try dsimp only at hSw); go_simp; (try with_reducible rfl))
              try simp only [Act.put, List.setIfInBounds_toArray, List.set_cons_zero, List.set_cons_succ]
              refine wpAnyH_take (i := 24) (oi := ?fo24c) (v := ?fv24c) ?fe24c (by kernel_rfl) (by kernel_rfl) (by kernel_rfl) (fun _ _ _ h => h) (Or.inl ⟨?fw24c, ?fy24c⟩) (by assumption) ?fr24c
              case fe24c => ((simp only [List.getElem?_toArray, List.getElem?_cons_succ, List.getElem?_cons_zero]) <;> rfl)
              case fw24c => rfl
              case fy24c => (intro w hSw; (try dsimp only at hSw); go_simp; (try with_reducible rfl))
              try simp only [Act.put, List.setIfInBounds_toArray, List.set_cons_zero, List.set_cons_succ]
              refine wpAnyH_take (i := 25) (oi := ?fo25c) (v := undef) ?fe25c (by kernel_rfl) (by kernel_rfl) (by kernel_rfl) (fun _ _ _ h => h) (Or.inr ⟨?fw25c, rfl⟩) (by assumption) ?fr25c
              case fe25c => ((simp only [List.getElem?_toArray, List.getElem?_cons_succ, List.getElem?_cons_zero]) <;> rfl)
              case fw25c => rfl
              try simp only [Act.put, List.setIfInBounds_toArray, List.set_cons_zero, List.set_cons_succ]
              refine wpAnyH_take (i := 26) (oi := ?fo26c) (v := undef) ?fe26c (by kernel_rfl) (by kernel_rfl) (by kernel_rfl) (fun _ _ _ h => h) (Or.inr ⟨?fw26c, rfl⟩) (by assumption) ?fr26c
              case fe26c => ((simp only [List.getElem?_toArray, List.getElem?_cons_succ, List.getElem?_cons_zero]) <;> rfl)
              case fw26c => rfl
              try simp only [Act.put, List.setIfInBounds_toArray, List.set_cons_zero, List.set_cons_succ]
              refine wpAnyH_take (i := 27) (oi := ?fo27c) (v := undef) ?fe27c (by kernel_rfl) (by kernel_rfl) (by kernel_rfl) (fun _ _ _ h => h) (Or.inr ⟨?fw27c, rfl⟩) (by assumption) ?fr27c
              case fe27c => ((simp only [List.getElem?_toArray, List.getElem?_cons_succ, List.getElem?_cons_zero]) <;> rfl)
              case fw27c => rfl
              try simp only [Act.put, List.setIfInBounds_toArray, List.set_cons_zero, List.set_cons_succ]
              refine wpAnyH_take (i := 28) (oi := ?fo28c) (v := undef) ?fe28c (by kernel_rfl) (by kernel_rfl) (by kernel_rfl) (fun _ _ _ h => h) (Or.inr ⟨?fw28c, rfl⟩) (by assumption) ?fr28c
              case fe28c => ((simp only [List.getElem?_toArray, List.getElem?_cons_succ, List.getElem?_cons_zero]) <;> rfl)
              case fw28c => rfl
              try simp only [Act.put, List.setIfInBounds_toArray, List.set_cons_zero, List.set_cons_succ]
              refine wpAnyH_take (i := 29) (oi := ?fo29c) (v := undef) ?fe29c (by kernel_rfl) (by kernel_rfl) (by kernel_rfl) (fun _ _ _ h => h) (Or.inr ⟨?fw29c, rfl⟩) (by assumption) ?fr29c
              case fe29c => ((simp only [List.getElem?_toArray, List.getElem?_cons_succ, List.getElem?_cons_zero]) <;> rfl)
              case fw29c => rfl
              try simp only [Act.put, List.setIfInBounds_toArray, List.set_cons_zero, List.set_cons_succ]
              refine wpAnyH_take (i := 30) (oi := ?fo30c) (v := undef) ?fe30c (by kernel_rfl) (by kernel_rfl) (by kernel_rfl) (fun _ _ _ h => h) (Or.inr ⟨?fw30c, rfl⟩) (by assumption) ?fr30c
              case fe30c => ((simp only [List.getElem?_toArray, List.getElem?_cons_succ, List.getElem?_cons_zero]) <;> rfl)
              case fw30c => rfl
              try simp only [Act.put, List.setIfInBounds_toArray, List.set_cons_zero, List.set_cons_succ]
              refine wpAnyH_take (i := 31) (oi := ?fo31c) (v := undef) ?fe31c (by kernel_rfl) (by kernel_rfl) (by kernel_rfl) (fun _ _ _ h => h) (Or.inr ⟨?fw31c, rfl⟩) (by assumption) ?fr31c
              case fe31c => ((simp only [List.getElem?_toArray, List.getElem?_cons_succ, List.getElem?_cons_zero]) <;> rfl)
              case fw31c => rfl
              try simp only [Act.put, List.setIfInBounds_toArray, List.set_cons_zero, List.set_cons_succ]
              refine wpAnyH_take (i := 32) (oi := ?fo32c) (v := undef) ?fe32c (by kernel_rfl) (by kernel_rfl) (by kernel_rfl) (fun _ _ _ h => h) (Or.inr ⟨?fw32c, rfl⟩) (by assumption) ?fr32c
              case fe32c => ((simp only [List.getElem?_toArray, List.getElem?_cons_succ, List.getElem?_cons_zero]) <;> rfl)
              case fw32c => rfl
              try simp only [Act.put, List.setIfInBounds_toArray, List.set_cons_zero, List.set_cons_succ]
              refine wpAnyH_take (i := 33) (oi := ?fo33c) (v := undef) ?fe33c (by kernel_rfl) (by kernel_rfl) (by kernel_rfl) (fun _ _ _ h => h) (Or.inr ⟨?fw33c, rfl⟩) (by assumption) ?fr33c
              case fe33c => ((simp only [List.getElem?_toArray, List.getElem?_cons_succ, List.getElem?_cons_zero]) <;> rfl)
              case fw33c => rfl
              try simp only [Act.put, List.setIfInBounds_toArray, List.set_cons_zero, List.set_cons_succ]
              refine wpAnyH_take (i := 34) (oi := ?fo34c) (v := undef) ?fe34c (by kernel_rfl) (by kernel_rfl) (by kernel_rfl) (fun _ _ _ h => h) (Or.inr ⟨?fw34c, rfl⟩) (by assumption) ?fr34c
              case fe34c => ((simp only [List.getElem?_toArray, List.getElem?_cons_succ, List.getElem?_cons_zero]) <;> rfl)
              case fw34c => rfl
              try simp only [Act.put, List.setIfInBounds_toArray, List.set_cons_zero, List.set_cons_succ]
              refine wpAnyH_take (i := 35) (oi := ?fo35c) (v := undef) ?fe35c (by kernel_rfl) (by kernel_rfl) (by kernel_rfl) (fun _ _ _ h => h) (Or.inr ⟨?fw35c, rfl⟩) (by assumption) ?fr35c
              case fe35c => ((simp only [List.getElem?_toArray, List.getElem?_cons_succ, List.getElem?_cons_zero]) <;> rfl)
              case fw35c => rfl
              try simp only [Act.put, List.setIfInBounds_toArray, List.set_cons_zero, List.set_cons_succ]
              refine wpAnyH_take (i := 36) (oi := ?fo36c) (v := undef) ?fe36c (by kernel_rfl) (by kernel_rfl) (by kernel_rfl) (fun _ _ _ h => h) (Or.inr ⟨?fw36c, rfl⟩) (by assumption) ?fr36c
              case fe36c => ((simp only [List.getElem?_toArray, List.getElem?_cons_succ, List.getElem?_cons_zero]) <;> rfl)
              case fw36c => rfl
              try simp only [Act.put, List.setIfInBounds_toArray, List.set_cons_zero, List.set_cons_succ]
              refine wpAnyH_take (i := 37) (oi := ?fo37c) (v := ?fv37c) ?fe37c (by kernel_rfl) (by kernel_rfl) (by kernel_rfl) (fun _ _ _ h => h) (Or.inl ⟨?fw37c, ?fy37c⟩) (by assumption) ?fr37c
              case fe37c => ((simp only [List.getElem?_toArray, List.getElem?_cons_succ, List.getElem?_cons_zero]) <;> rfl)
              case fw37c => rfl
              case fy37c => (intro w hSw; (try dsimp only at hSw); go_simp; (try with_reducible rfl))
              try simp only [Act.put, List.setIfInBounds_toArray, List.set_cons_zero, List.set_cons_succ]
              refine wpAnyH_done (by kernel_rfl) ?_ _
              refine NoPanic.normal ?_
              have HOB := hid HOB.out.drew
              go_wp2_with fail
              go_ret2
              exact ⟨by rw [HN.out]; rfl, HBW.out _ HOB.out⟩
            have hx8' : ¬ ((8 : Int) < (x.length : Int)) := by omega
            have HX8 := hid hx8
            clear hx8
            by_cases hmo : j + 1 < k ∧ x.length ≠ 8
            · have HN := hid (HBAD.out (fun q => hmo.2 (q.1.2.2.1 (decide_eq_true (by rw [← HBN.out]; exact hmo.1)))))
              have hmi : (j : Int) + 1 < (k : Int) := by omega
              have hne8 : ((x.length : Int) != 8) = true := by have := hmo.2; simp; omega
              clear hmo
              go_wp2_with fail
              refine wp_region_noPanic ?_
              refine wp_region_held_drew (S := (fun _ => True)) (by kernel_rfl) ?_ (fun hHeld => ?_)
              · trivial
              refine wpAnyH_take (i := 0) (oi := ?fo0d) (v := ?fv0d) ?fe0d (by kernel_rfl) (by kernel_rfl) (by kernel_rfl) (fun _ _ _ h => h) (Or.inl ⟨?fw0d, ?fy0d⟩) (by assumption) ?fr0d
              case fe0d => ((simp only [List.getElem?_toArray, List.getElem?_cons_succ, List.getElem?_cons_zero]) <;> rfl)
              case fw0d => rfl
              case fy0d => (intro w hSw; (try dsimp only at hSw); go_simp; (try with_reducible rfl))
              try simp only [Act.put, List.setIfInBounds_toArray, List.set_cons_zero, List.set_cons_succ]
              refine wpAnyH_take (i := 1) (oi := ?fo1d) (v := ?fv1d) ?fe1d (by kernel_rfl) (by kernel_rfl) (by kernel_rfl) (fun _ _ _ h => h) (Or.inl ⟨?fw1d, ?fy1d⟩) (by assumption) ?fr1d
              case fe1d => ((simp only [List.getElem?_toArray, List.getElem?_cons_succ, List.getElem?_cons_zero]) <;> rfl)
              case fw1d => rfl
              case fy1d => (intro w hSw; (try dsimp only at hSw); go_simp; (try with_reducible rfl))
              try simp only [Act.put, List.setIfInBounds_toArray, List.set_cons_zero, List.set_cons_succ]
              refine wpAnyH_take (i := 2) (oi := ?fo2d) (v := ?fv2d) ?fe2d (by kernel_rfl) (by kernel_rfl) (by kernel_rfl) (fun _ _ _ h => h) (Or.inl ⟨?fw2d, ?fy2d⟩) (by assumption) ?fr2d
              case fe2d => ((simp only [List.getElem?_toArray, List.getElem?_cons_succ, List.getElem?_cons_zero]) <;> rfl)
              case fw2d => rfl
              case fy2d => (intro w hSw; (try dsimp only at hSw); go_simp; (try with_reducible rfl))
              try simp only [Act.put, List.setIfInBounds_toArray, List.set_cons_zero, List.set_cons_succ]
              refine wpAnyH_take (i := 3) (oi := ?fo3d) (v := ?fv3d) ?fe3d (by kernel_rfl) (by kernel_rfl) (by kernel_rfl) (fun _ _ _ h => h) (Or.inl ⟨?fw3d, ?fy3d⟩) (by assumption) ?fr3d
              case fe3d => ((simp only [List.getElem?_toArray, List.getElem?_cons_succ, List.getElem?_cons_zero]) <;> rfl)
              case fw3d => rfl
              case fy3d => (intro w hSw; (try dsimp only at hSw); go_simp; (try with_reducible rfl))
              try simp only [Act.put, List.setIfInBounds_toArray, List.set_cons_zero, List.set_cons_succ]
              refine wpAnyH_take (i := 4) (oi := ?fo4d) (v := ?fv4d) ?fe4d (by kernel_rfl) (by kernel_rfl) (by kernel_rfl) (fun _ _ _ h => h) (Or.inl ⟨?fw4d, ?fy4d⟩) (by assumption) ?fr4d
              case fe4d => ((simp only [List.getElem?_toArray, List.getElem?_cons_succ, List.getElem?_cons_zero]) <;> rfl)
              case fw4d => rfl
              case fy4d => (intro w hSw; (try dsimp only at hSw); go_simp; (try with_reducible rfl))
              try simp only [Act.put, List.setIfInBounds_toArray, List.set_cons_zero, List.set_cons_succ]
              refine wpAnyH_take (i := 5) (oi := ?fo5d) (v := (.bool false)) ?fe5d (by kernel_rfl) (by kernel_rfl) (by kernel_rfl) (fun _ _ _ h => h) (Or.inl ⟨?fw5d, ?fy5d⟩) (by assumption) ?fr5d
              case fe5d => ((simp only [List.getElem?_toArray, List.getElem?_cons_succ, List.getElem?_cons_zero]) <;> rfl)
              case fw5d => rfl
              case fy5d => (intro w hSw; (try dsimp only at hSw); go_simp; (try (first | omega | (simp; done) | (simp; omega))))
              try simp only [Act.put, List.setIfInBounds_toArray, List.set_cons_zero, List.set_cons_succ]
              refine wpAnyH_take (i := 6) (oi := ?fo6d) (v := ?fv6d) ?fe6d (by kernel_rfl) (by kernel_rfl) (by kernel_rfl) (fun _ _ _ h => h) (Or.inl ⟨?fw6d, ?fy6d⟩) (by assumption) ?fr6d
              case fe6d => ((simp only [List.getElem?_toArray, List.getElem?_cons_succ, List.getElem?_cons_zero]) <;> rfl)
              case fw6d => rfl
              case fy6d => (intro w hSw; (try dsimp only at hSw); go_simp; (try with_reducible rfl))
              try simp only [Act.put, List.setIfInBounds_toArray, List.set_cons_zero, List.set_cons_succ]
              refine wpAnyH_take (i := 7) (oi := ?fo7d) (v := ?fv7d) ?fe7d (by kernel_rfl) (by kernel_rfl) (by kernel_rfl) (fun _ _ _ h => h) (Or.inl ⟨?fw7d, ?fy7d⟩) (by assumption) ?fr7d
              case fe7d => ((simp only [List.getElem?_toArray, List.getElem?_cons_succ, List.getElem?_cons_zero]) <;> rfl)
              case fw7d => rfl
              case fy7d => (intro w hSw; (try dsimp only at hSw); go_simp; (try with_reducible rfl))
              try simp only [Act.put, List.setIfInBounds_toArray, List.set_cons_zero, List.set_cons_succ]
              refine wpAnyH_take (i := 8) (oi := ?fo8d) (v := ?fv8d) ?fe8d (by kernel_rfl) (by kernel_rfl) (by kernel_rfl) (fun _ _ _ h => h) (Or.inl ⟨?fw8d, ?fy8d⟩) (by assumption) ?fr8d
              case fe8d => ((simp only [List.getElem?_toArray, List.getElem?_cons_succ, List.getElem?_cons_zero]) <;> rfl)
              case fw8d => rfl
              case fy8d => (intro w hSw; (try dsimp only at hSw); go_simp; (try with_reducible rfl))
              try simp only [Act.put, List.setIfInBounds_toArray, List.set_cons_zero, List.set_cons_succ]
              refine wpAnyH_take (i := 9) (oi := ?fo9d) (v := ?fv9d) ?fe9d (by kernel_rfl) (by kernel_rfl) (by kernel_rfl) (fun _ _ _ h => h) (Or.inl ⟨?fw9d, ?fy9d⟩) (by assumption) ?fr9d
              case fe9d => ((simp only [List.getElem?_toArray, List.getElem?_cons_succ, List.getElem?_cons_zero]) <;> rfl)
              case fw9d => rfl
              case fy9d => (intro w hSw; (try dsimp only at hSw); go_simp; (try with_reducible rfl))
              try simp only [Act.put, List.setIfInBounds_toArray, List.set_cons_zero, List.set_cons_succ]
              refine wpAnyH_take (i := 10) (oi := ?fo10d) (v := (.bool false)) ?fe10d (by kernel_rfl) (by kernel_rfl) (by kernel_rfl) (fun _ _ _ h => h) (Or.inl ⟨?fw10d, ?fy10d⟩) (by assumption) ?fr10d
              case fe10d => ((simp only [List.getElem?_toArray, List.getElem?_cons_succ, List.getElem?_cons_zero]) <;> rfl)
              case fw10d => rfl
              case fy10d => (intro w hSw; (try dsimp only at hSw); go_simp; (try (first | omega | (simp; done) | (simp; omega))))
              try simp only [Act.put, List.setIfInBounds_toArray, List.set_cons_zero, List.set_cons_succ]
              refine wpAnyH_take (i := 11) (oi := ?fo11d) (v := ?fv11d) ?fe11d (by kernel_rfl) (by kernel_rfl) (by kernel_rfl) (fun _ _ _ h => h) (Or.inl ⟨?fw11d, ?fy11d⟩) (by assumption) ?fr11d
              case fe11d => ((simp only [List.getElem?_toArray, List.getElem?_cons_succ, List.getElem?_cons_zero]) <;> rfl)
              case fw11d => rfl
              case fy11d => (intro w hSw; (try dsimp only at hSw); go_simp; (try with_reducible rfl))
              try simp only [Act.put, List.setIfInBounds_toArray, List.set_cons_zero, List.set_cons_succ]
              refine wpAnyH_take (i := 12) (oi := ?fo12d) (v := ?fv12d) ?fe12d (by kernel_rfl) (by kernel_rfl) (by kernel_rfl) (fun _ _ _ h => h) (Or.inl ⟨?fw12d, ?fy12d⟩) (by assumption) ?fr12d
              case fe12d => ((simp only [List.getElem?_toArray, List.getElem?_cons_succ, List.getElem?_cons_zero]) <;> rfl)
              case fw12d => rfl
              case fy12d => (intro w hSw; (try dsimp only at hSw); go_simp; (try with_reducible rfl))
              try simp only [Act.put, List.setIfInBounds_toArray, List.set_cons_zero, List.set_cons_succ]
              refine wpAnyH_take (i := 13) (oi := ?fo13d) (v := ?fv13d) ?fe13d (by kernel_rfl) (by kernel_rfl) (by kernel_rfl) (fun _ _ _ h => h) (Or.inl ⟨?fw13d, ?fy13d⟩) (by assumption) ?fr13d
              case fe13d => ((simp only [List.getElem?_toArray, List.getElem?_cons_succ, List.getElem?_cons_zero]) <;> rfl)
              case fw13d => rfl
              case fy13d => (intro w hSw; (try dsimp only at hSw); go_simp; (try with_reducible rfl))
              try simp only [Act.put, List.setIfInBounds_toArray, List.set_cons_zero, List.set_cons_succ]
              refine wpAnyH_take (i := 14) (oi := ?fo14d) (v := ?fv14d) ?fe14d (by kernel_rfl) (by kernel_rfl) (by kernel_rfl) (fun _ _ _ h => h) (Or.inl ⟨?fw14d, ?fy14d⟩) (by assumption) ?fr14d
              case fe14d => ((simp only [List.getElem?_toArray, List.getElem?_cons_succ, List.getElem?_cons_zero]) <;> rfl)
              case fw14d => rfl
              case fy14d => (intro w hSw; (try dsimp only at hSw); go_simp; (try with_reducible rfl))
              try simp only [Act.put, List.setIfInBounds_toArray, List.set_cons_zero, List.set_cons_succ]
              refine wpAnyH_take (i := 15) (oi := ?fo15d) (v := ?fv15d) ?fe15d (by kernel_rfl) (by kernel_rfl) (by kernel_rfl) (fun _ _ _ h => h) (Or.inl ⟨?fw15d, ?fy15d⟩) (by assumption) ?fr15d
              case fe15d => ((simp only [List.getElem?_toArray, List.getElem?_cons_succ, List.getElem?_cons_zero]) <;> rfl)
              case fw15d => rfl
              case fy15d => (intro w hSw; (try dsimp only at hSw); go_simp; (try with_reducible rfl))
              try simp only [Act.put, List.setIfInBounds_toArray, List.set_cons_zero, List.set_cons_succ]
              refine wpAnyH_take (i := 16) (oi := ?fo16d) (v := ?fv16d) ?fe16d (by kernel_rfl) (by kernel_rfl) (by kernel_rfl) (fun _ _ _ h => h) (Or.inl ⟨?fw16d, ?fy16d⟩) (by assumption) ?fr16d
              case fe16d => ((simp only [List.getElem?_toArray, List.getElem?_cons_succ, List.getElem?_cons_zero]) <;> rfl)
              case fw16d => rfl
              case fy16d => (intro w hSw; (try dsimp only at hSw); go_simp; (try with_reducible rfl))
              try simp only [Act.put, List.setIfInBounds_toArray, List.set_cons_zero, List.set_cons_succ]
              refine wpAnyH_take (i := 17) (oi := ?fo17d) (v := (.bool true)) ?fe17d (by kernel_rfl) (by kernel_rfl) (by kernel_rfl) (fun _ _ _ h => h) (Or.inl ⟨?fw17d, ?fy17d⟩) (by assumption) ?fr17d
              case fe17d => ((simp only [List.getElem?_toArray, List.getElem?_cons_succ, List.getElem?_cons_zero]) <;> rfl)
              case fw17d => rfl
              case fy17d => (intro w hSw; (try dsimp only at hSw); go_simp; (try (first | omega | (simp; done) | (simp; omega))))
              try simp only [Act.put, List.setIfInBounds_toArray, List.set_cons_zero, List.set_cons_succ]
              refine wpAnyH_take (i := 18) (oi := ?fo18d) (v := ?fv18d) ?fe18d (by kernel_rfl) (by kernel_rfl) (by kernel_rfl) (fun _ _ _ h => h) (Or.inl ⟨?fw18d, ?fy18d⟩) (by assumption) ?fr18d
              case fe18d => ((simp only [List.getElem?_toArray, List.getElem?_cons_succ, List.getElem?_cons_zero]) <;> rfl)
              case fw18d => rfl
              case fy18d => (intro w hSw; (try dsimp only at hSw); go_simp; (try with_reducible rfl))
              try simp only [Act.put, List.setIfInBounds_toArray, List.set_cons_zero, List.set_cons_succ]
              refine wpAnyH_take (i := 19) (oi := ?fo19d) (v := ?fv19d) ?fe19d (by kernel_rfl) (by kernel_rfl) (by kernel_rfl) (fun _ _ _ h => h) (Or.inl ⟨?fw19d, ?fy19d⟩) (by assumption) ?fr19d
              case fe19d => ((simp only [List.getElem?_toArray, List.getElem?_cons_succ, List.getElem?_cons_zero]) <;> rfl)
              case fw19d => rfl
              case fy19d => (intro w hSw; (try dsimp only at hSw); go_simp; (try with_reducible rfl))
              try simp only [Act.put, List.setIfInBounds_toArray, List.set_cons_zero, List.set_cons_succ]
              refine wpAnyH_take (i := 20) (oi := ?fo20d) (v := ?fv20d) ?fe20d (by kernel_rfl) (by kernel_rfl) (by kernel_rfl) (fun _ _ _ h => h) (Or.inl ⟨?fw20d, ?fy20d⟩) (by assumption) ?fr20d
              case fe20d => ((simp only [List.getElem?_toArray, List.getElem?_cons_succ, List.getElem?_cons_zero]) <;> rfl)
              case fw20d => rfl
              case fy20d => (intro w hSw; (try dsimp only at hSw); go_simp; (try with_reducible rfl))
              try simp only [Act.put, List.setIfInBounds_toArray, List.set_cons_zero, List.set_cons_succ]
              refine wpAnyH_take (i := 21) (oi := ?fo21d) (v := (.bool true)) ?fe21d (by kernel_rfl) (by kernel_rfl) (by kernel_rfl) (fun _ _ _ h => h) (Or.inl ⟨?fw21d, ?fy21d⟩) (by assumption) ?fr21d
              case fe21d => ((simp only [List.getElem?_toArray, List.getElem?_cons_succ, List.getElem?_cons_zero]) <;> rfl)
              case fw21d => rfl
              case fy21d => (intro w hSw; (try dsimp only at hSw); go_simp; (try (first | omega | (simp; done) | (simp; omega))))
              try simp only [Act.put, List.setIfInBounds_toArray, List.set_cons_zero, List.set_cons_succ]
              refine wpAnyH_take (i := 22) (oi := ?fo22d) (v := ?fv22d) ?fe22d (by kernel_rfl) (by kernel_rfl) (by kernel_rfl) (fun _ _ _ h => h) (Or.inl ⟨?fw22d, ?fy22d⟩) (by assumption) ?fr22d
              case fe22d => ((simp only [List.getElem?_toArray, List.getElem?_cons_succ, List.getElem?_cons_zero]) <;> rfl)
              case fw22d => rfl
              case fy22d => (intro w hSw; (try dsimp only at hSw); go_simp; (try with_reducible rfl))
              try simp only [Act.put, List.setIfInBounds_toArray, List.set_cons_zero, List.set_cons_succ]
              refine wpAnyH_take (i := 23) (oi := ?fo23d) (v := ?fv23d) ?fe23d (by kernel_rfl) (by kernel_rfl) (by kernel_rfl) (fun _ _ _ h => h) (Or.inl ⟨?fw23d, ?fy23d⟩) (by assumption) ?fr23d
              case fe23d => ((simp only [List.getElem?_toArray, List.getElem?_cons_succ, List.getElem?_cons_zero]) <;> rfl)
              case fw23d => rfl
              case fy23d => (intro w hSw; (try dsimp only at hSw); go_simp; (try with_reducible rfl))
              try simp only [Act.put, List.setIfInBounds_toArray, List.set_cons_zero, List.set_cons_succ]
              refine wpAnyH_take (i := 24) (oi := ?fo24d) (v := ?fv24d) ?fe24d (by kernel_rfl) (by kernel_rfl) (by kernel_rfl) (fun _ _ _ h => h) (Or.inl ⟨?fw24d, ?fy24d⟩) (by assumption) ?fr24d
              case fe24d => ((simp only [List.getElem?_toArray, List.getElem?_cons_succ, List.getElem?_cons_zero]) <;> rfl)
              case fw24d => rfl
              case fy24d => (intro w hSw; (try dsimp only at hSw); go_simp; (try with_reducible rfl))
              try simp only [Act.put, List.setIfInBounds_toArray, List.set_cons_zero, List.set_cons_succ]
              refine wpAnyH_take (i := 25) (oi := ?fo25d) (v := undef) ?fe25d (by kernel_rfl) (by kernel_rfl) (by kernel_rfl) (fun _ _ _ h => h) (Or.inr ⟨?fw25d, rfl⟩) (by assumption) ?fr25d
              case fe25d => ((simp only [List.getElem?_toArray, List.getElem?_cons_succ, List.getElem?_cons_zero]) <;> rfl)
              case fw25d => rfl
              try simp only [Act.put, List.setIfInBounds_toArray, List.set_cons_zero, List.set_cons_succ]
              refine wpAnyH_take (i := 26) (oi := ?fo26d) (v := undef) ?fe26d (by kernel_rfl) (by kernel_rfl) (by kernel_rfl) (fun _ _ _ h => h) (Or.inr ⟨?fw26d, rfl⟩) (by assumption) ?fr26d
              case fe26d => ((simp only [List.getElem?_toArray, List.getElem?_cons_succ, List.getElem?_cons_zero]) <;> rfl)
              case fw26d => rfl
              try simp only [Act.put, List.setIfInBounds_toArray, List.set_cons_zero, List.set_cons_succ]
              refine wpAnyH_take (i := 27) (oi := ?fo27d) (v := undef) ?fe27d (by kernel_rfl) (by kernel_rfl) (by kernel_rfl) (fun _ _ _ h => h) (Or.inr ⟨?fw27d, rfl⟩) (by assumption) ?fr27d
              case fe27d => ((simp only [List.getElem?_toArray, List.getElem?_cons_succ, List.getElem?_cons_zero]) <;> rfl)
              case fw27d => rfl
              try simp only [Act.put, List.setIfInBounds_toArray, List.set_cons_zero, List.set_cons_succ]
              refine wpAnyH_take (i := 28) (oi := ?fo28d) (v := undef) ?fe28d (by kernel_rfl) (by kernel_rfl) (by kernel_rfl) (fun _ _ _ h => h) (Or.inr ⟨?fw28d, rfl⟩) (by assumption) ?fr28d
              case fe28d => ((simp only [List.getElem?_toArray, List.getElem?_cons_succ, List.getElem?_cons_zero]) <;> rfl)
              case fw28d => rfl
              try simp only [Act.put, List.setIfInBounds_toArray, List.set_cons_zero, List.set_cons_succ]
              refine wpAnyH_take (i := 29) (oi := ?fo29d) (v := undef) ?fe29d (by kernel_rfl) (by kernel_rfl) (by kernel_rfl) (fun _ _ _ h => h) (Or.inr ⟨?fw29d, rfl⟩) (by assumption) ?fr29d
              case fe29d => ((simp only [List.getElem?_toArray, List.getElem?_cons_succ, List.getElem?_cons_zero]) <;> rfl)
              case fw29d => rfl
              try simp only [Act.put, List.setIfInBounds_toArray, List.set_cons_zero, List.set_cons_succ]
              refine wpAnyH_take (i := 30) (oi := ?fo30d) (v := undef) ?fe30d (by kernel_rfl) (by kernel_rfl) (by kernel_rfl) (fun _ _ _ h => h) (Or.inr ⟨?fw30d, rfl⟩) (by assumption) ?fr30d
              case fe30d => ((simp only [List.getElem?_toArray, List.getElem?_cons_succ, List.getElem?_cons_zero]) <;> rfl)
              case fw30d => rfl
              try simp only [Act.put, List.setIfInBounds_toArray, List.set_cons_zero, List.set_cons_succ]
              refine wpAnyH_take (i := 31) (oi := ?fo31d) (v := undef) ?fe31d (by kernel_rfl) (by kernel_rfl) (by kernel_rfl) (fun _ _ _ h => h) (Or.inr ⟨?fw31d, rfl⟩) (by assumption) ?fr31d
              case fe31d => ((simp only [List.getElem?_toArray, List.getElem?_cons_succ, List.getElem?_cons_zero]) <;> rfl)
              case fw31d => rfl
              try simp only [Act.put, List.setIfInBounds_toArray, List.set_cons_zero, List.set_cons_succ]
              refine wpAnyH_take (i := 32) (oi := ?fo32d) (v := undef) ?fe32d (by kernel_rfl) (by kernel_rfl) (by kernel_rfl) (fun _ _ _ h => h) (Or.inr ⟨?fw32d, rfl⟩) (by assumption) ?fr32d
              case fe32d => ((simp only [List.getElem?_toArray, List.getElem?_cons_succ, List.getElem?_cons_zero]) <;> rfl)
              case fw32d => rfl
              try simp only [Act.put, List.setIfInBounds_toArray, List.set_cons_zero, List.set_cons_succ]
              refine wpAnyH_take (i := 33) (oi := ?fo33d) (v := undef) ?fe33d (by kernel_rfl) (by kernel_rfl) (by kernel_rfl) (fun _ _ _ h => h) (Or.inr ⟨?fw33d, rfl⟩) (by assumption) ?fr33d
              case fe33d => ((simp only [List.getElem?_toArray, List.getElem?_cons_succ, List.getElem?_cons_zero]) <;> rfl)
              case fw33d => rfl
              try simp only [Act.put, List.setIfInBounds_toArray, List.set_cons_zero, List.set_cons_succ]
              refine wpAnyH_take (i := 34) (oi := ?fo34d) (v := undef) ?fe34d (by kernel_rfl) (by kernel_rfl) (by kernel_rfl) (fun _ _ _ h => h) (Or.inr ⟨?fw34d, rfl⟩) (by assumption) ?fr34d
              case fe34d => ((simp only [List.getElem?_toArray, List.getElem?_cons_succ, List.getElem?_cons_zero]) <;> rfl)
              case fw34d => rfl
              try simp only [Act.put, List.setIfInBounds_toArray, List.set_cons_zero, List.set_cons_succ]
              refine wpAnyH_take (i := 35) (oi := ?fo35d) (v := undef) ?fe35d (by kernel_rfl) (by kernel_rfl) (by kernel_rfl) (fun _ _ _ h => h) (Or.inr ⟨?fw35d, rfl⟩) (by assumption) ?fr35d
              case fe35d => ((simp only [List.getElem?_toArray, List.getElem?_cons_succ, List.getElem?_cons_zero]) <;> rfl)
              case fw35d => rfl
              try simp only [Act.put, List.setIfInBounds_toArray, List.set_cons_zero, List.set_cons_succ]
              refine wpAnyH_take (i := 36) (oi := ?fo36d) (v := undef) ?fe36d (by kernel_rfl) (by kernel_rfl) (by kernel_rfl) (fun _ _ _ h => h) (Or.inr ⟨?fw36d, rfl⟩) (by assumption) ?fr36d
              case fe36d => ((simp only [List.getElem?_toArray, List.getElem?_cons_succ, List.getElem?_cons_zero]) <;> rfl)
              case fw36d => rfl
              try simp only [Act.put, List.setIfInBounds_toArray, List.set_cons_zero, List.set_cons_succ]
              refine wpAnyH_take (i := 37) (oi := ?fo37d) (v := ?fv37d) ?fe37d (by kernel_rfl) (by kernel_rfl) (by kernel_rfl) (fun _ _ _ h => h) (Or.inl ⟨?fw37d, ?fy37d⟩) (by assumption) ?fr37d
              case fe37d => ((simp only [List.getElem?_toArray, List.getElem?_cons_succ, List.getElem?_cons_zero]) <;> rfl)
              case fw37d => rfl
              case fy37d => (intro w hSw; (try dsimp only at hSw); go_simp; (try with_reducible rfl))
              try simp only [Act.put, List.setIfInBounds_toArray, List.set_cons_zero, List.set_cons_succ]
              refine wpAnyH_done (by kernel_rfl) ?_ _
              refine NoPanic.normal ?_
              have HOB := hid HOB.out.drew
              go_wp2_with fail
              go_ret2
              exact ⟨by rw [HN.out]; rfl, HBW.out _ HOB.out⟩
            have HMO := hid (show decide (j + 1 < bs.length) = true → x.length = 8 from fun q => by
              rw [← HBN.out] at q
              have q := of_decide_eq_true q
              rcases Nat.decEq x.length 8 with z | z
              · exact absurd ⟨q, z⟩ hmo
              · exact z)
            have hmo2 : ¬ (j + 1 < k) ∨ x.length = 8 := by omega
            clear hmo
            obtain ⟨x0, hx0⟩ : ∃ y, y = x[0].1 := ⟨_, rfl⟩
            obtain ⟨fj, hfj⟩ : ∃ y, y = fs[j] := ⟨_, rfl⟩
            have HHD := hid (show headK x = x0 by
              rw [hx0]
              unfold headK
              rw [List.head?_eq_getElem?, List.getElem?_eq_getElem hxp]; rfl)
            have hcx : w2.cell? ⟨xb, 0, none⟩ = some (.string ⟨x0.toArray⟩) := by rw [hx0]; exact HXE.out 0 hxp 0 _ rfl
            obtain ⟨-, fb', fcap', efb, -, -, hfc, hfe⟩ := own_cells (by decide) sC_len HS2.out.own (by rw [HLK.out]; omega)
            rw [Value.slice.injEq] at efb
            have efb := efb.1
            simp only [Option.some.injEq, Addr.mk.injEq, and_true] at efb
            subst efb
            have hcf : w2.cell? ⟨fb, j, none⟩ = some (.string ⟨fj.toArray⟩) := by
              have := hfe j hjf 0 (.string ⟨fj.toArray⟩) (by rw [hfj]; rfl)
              simpa using this
            have hct := HS2.out.cells.1
            have hjfl : (j : Int) < (fs.length : Int) := by have := HLK.out; omega
            have hxp' : (0 : Int) < (x.length : Int) := by omega
            have HFJ := hid hfj
            have HX0' := hid hx0
            have HXP := hid hxp
            clear hfe hx0 hfj
            by_cases hh : x0 = fj
            case neg =>
              have HN := hid (HBAD.out (fun q => hh (by rw [← HHD.out, q.1.2.2.2.1, ← HFJ.out])))
              by_cases hmi : (j : Int) + 1 < (k : Int)
              · have hm8 : ((x.length : Int) != 8) = false := by simp; omega
                clear hmo2
                go_wp2_with fail
                refine wp_region_noPanic ?_
                refine wp_region_held_drew (S := (fun w' => w'.cell? ⟨xb, 0, none⟩ = some (.string ⟨x0.toArray⟩) ∧ w'.cell? ⟨g + 1, 0, none⟩ = some (.slice (some ⟨fb, 0, none⟩) fs.length fc) ∧ w'.cell? ⟨fb, j, none⟩ = some (.string ⟨fj.toArray⟩))) (by kernel_rfl) ?_ (fun hHeld => ?_)
                · exact ⟨hcx, hct, hcf⟩
                refine wpAnyH_take (i := 0) (oi := ?fo0e) (v := ?fv0e) ?fe0e (by kernel_rfl) (by kernel_rfl) (by kernel_rfl) (fun _ _ _ h => h) (Or.inl ⟨?fw0e, ?fy0e⟩) (by assumption) ?fr0e
                case fe0e => ((simp only [List.getElem?_toArray, List.getElem?_cons_succ, List.getElem?_cons_zero]) <;> rfl)
                case fw0e => rfl
                case fy0e => (intro w hSw; (try dsimp only at hSw); go_simp; (try with_reducible rfl))
                try simp only [Act.put, List.setIfInBounds_toArray, List.set_cons_zero, List.set_cons_succ]
                refine wpAnyH_take (i := 1) (oi := ?fo1e) (v := ?fv1e) ?fe1e (by kernel_rfl) (by kernel_rfl) (by kernel_rfl) (fun _ _ _ h => h) (Or.inl ⟨?fw1e, ?fy1e⟩) (by assumption) ?fr1e
                case fe1e => ((simp only [List.getElem?_toArray, List.getElem?_cons_succ, List.getElem?_cons_zero]) <;> rfl)
                case fw1e => rfl
                case fy1e => (intro w hSw; (try dsimp only at hSw); go_simp; (try with_reducible rfl))
                try simp only [Act.put, List.setIfInBounds_toArray, List.set_cons_zero, List.set_cons_succ]
                refine wpAnyH_take (i := 2) (oi := ?fo2e) (v := ?fv2e) ?fe2e (by kernel_rfl) (by kernel_rfl) (by kernel_rfl) (fun _ _ _ h => h) (Or.inl ⟨?fw2e, ?fy2e⟩) (by assumption) ?fr2e
                case fe2e => ((simp only [List.getElem?_toArray, List.getElem?_cons_succ, List.getElem?_cons_zero]) <;> rfl)
                case fw2e => rfl
                case fy2e => (intro w hSw; (try dsimp only at hSw); go_simp; (try with_reducible rfl))
                try simp only [Act.put, List.setIfInBounds_toArray, List.set_cons_zero, List.set_cons_succ]
                refine wpAnyH_take (i := 3) (oi := ?fo3e) (v := ?fv3e) ?fe3e (by kernel_rfl) (by kernel_rfl) (by kernel_rfl) (fun _ _ _ h => h) (Or.inl ⟨?fw3e, ?fy3e⟩) (by assumption) ?fr3e
                case fe3e => ((simp only [List.getElem?_toArray, List.getElem?_cons_succ, List.getElem?_cons_zero]) <;> rfl)
                case fw3e => rfl
                case fy3e => (intro w hSw; (try dsimp only at hSw); go_simp; (try with_reducible rfl))
                try simp only [Act.put, List.setIfInBounds_toArray, List.set_cons_zero, List.set_cons_succ]
                refine wpAnyH_take (i := 4) (oi := ?fo4e) (v := ?fv4e) ?fe4e (by kernel_rfl) (by kernel_rfl) (by kernel_rfl) (fun _ _ _ h => h) (Or.inl ⟨?fw4e, ?fy4e⟩) (by assumption) ?fr4e
                case fe4e => ((simp only [List.getElem?_toArray, List.getElem?_cons_succ, List.getElem?_cons_zero]) <;> rfl)
                case fw4e => rfl
                case fy4e => (intro w hSw; (try dsimp only at hSw); go_simp; (try with_reducible rfl))
                try simp only [Act.put, List.setIfInBounds_toArray, List.set_cons_zero, List.set_cons_succ]
                refine wpAnyH_take (i := 5) (oi := ?fo5e) (v := (.bool false)) ?fe5e (by kernel_rfl) (by kernel_rfl) (by kernel_rfl) (fun _ _ _ h => h) (Or.inl ⟨?fw5e, ?fy5e⟩) (by assumption) ?fr5e
                case fe5e => ((simp only [List.getElem?_toArray, List.getElem?_cons_succ, List.getElem?_cons_zero]) <;> rfl)
                case fw5e => rfl
                case fy5e => (intro w hSw; (try dsimp only at hSw); go_simp; (try (first | omega | (simp; done) | (simp; omega))))
                try simp only [Act.put, List.setIfInBounds_toArray, List.set_cons_zero, List.set_cons_succ]
                refine wpAnyH_take (i := 6) (oi := ?fo6e) (v := ?fv6e) ?fe6e (by kernel_rfl) (by kernel_rfl) (by kernel_rfl) (fun _ _ _ h => h) (Or.inl ⟨?fw6e, ?fy6e⟩) (by assumption) ?fr6e
                case fe6e => ((simp only [List.getElem?_toArray, List.getElem?_cons_succ, List.getElem?_cons_zero]) <;> rfl)
                case fw6e => rfl
                case fy6e => (intro w hSw; (try dsimp only at hSw); go_simp; (try with_reducible rfl))
                try simp only [Act.put, List.setIfInBounds_toArray, List.set_cons_zero, List.set_cons_succ]
                refine wpAnyH_take (i := 7) (oi := ?fo7e) (v := ?fv7e) ?fe7e (by kernel_rfl) (by kernel_rfl) (by kernel_rfl) (fun _ _ _ h => h) (Or.inl ⟨?fw7e, ?fy7e⟩) (by assumption) ?fr7e
                case fe7e => ((simp only [List.getElem?_toArray, List.getElem?_cons_succ, List.getElem?_cons_zero]) <;> rfl)
                case fw7e => rfl
                case fy7e => (intro w hSw; (try dsimp only at hSw); go_simp; (try with_reducible rfl))
                try simp only [Act.put, List.setIfInBounds_toArray, List.set_cons_zero, List.set_cons_succ]
                refine wpAnyH_take (i := 8) (oi := ?fo8e) (v := ?fv8e) ?fe8e (by kernel_rfl) (by kernel_rfl) (by kernel_rfl) (fun _ _ _ h => h) (Or.inl ⟨?fw8e, ?fy8e⟩) (by assumption) ?fr8e
                case fe8e => ((simp only [List.getElem?_toArray, List.getElem?_cons_succ, List.getElem?_cons_zero]) <;> rfl)
                case fw8e => rfl
                case fy8e => (intro w hSw; (try dsimp only at hSw); go_simp; (try with_reducible rfl))
                try simp only [Act.put, List.setIfInBounds_toArray, List.set_cons_zero, List.set_cons_succ]
                refine wpAnyH_take (i := 9) (oi := ?fo9e) (v := ?fv9e) ?fe9e (by kernel_rfl) (by kernel_rfl) (by kernel_rfl) (fun _ _ _ h => h) (Or.inl ⟨?fw9e, ?fy9e⟩) (by assumption) ?fr9e
                case fe9e => ((simp only [List.getElem?_toArray, List.getElem?_cons_succ, List.getElem?_cons_zero]) <;> rfl)
                case fw9e => rfl
                case fy9e => (intro w hSw; (try dsimp only at hSw); go_simp; (try with_reducible rfl))
                try simp only [Act.put, List.setIfInBounds_toArray, List.set_cons_zero, List.set_cons_succ]
                refine wpAnyH_take (i := 10) (oi := ?fo10e) (v := (.bool false)) ?fe10e (by kernel_rfl) (by kernel_rfl) (by kernel_rfl) (fun _ _ _ h => h) (Or.inl ⟨?fw10e, ?fy10e⟩) (by assumption) ?fr10e
                case fe10e => ((simp only [List.getElem?_toArray, List.getElem?_cons_succ, List.getElem?_cons_zero]) <;> rfl)
                case fw10e => rfl
                case fy10e => (intro w hSw; (try dsimp only at hSw); go_simp; (try (first | omega | (simp; done) | (simp; omega))))
                try simp only [Act.put, List.setIfInBounds_toArray, List.set_cons_zero, List.set_cons_succ]
                refine wpAnyH_take (i := 11) (oi := ?fo11e) (v := ?fv11e) ?fe11e (by kernel_rfl) (by kernel_rfl) (by kernel_rfl) (fun _ _ _ h => h) (Or.inl ⟨?fw11e, ?fy11e⟩) (by assumption) ?fr11e
                case fe11e => ((simp only [List.getElem?_toArray, List.getElem?_cons_succ, List.getElem?_cons_zero]) <;> rfl)
                case fw11e => rfl
                case fy11e => (intro w hSw; (try dsimp only at hSw); go_simp; (try with_reducible rfl))
                try simp only [Act.put, List.setIfInBounds_toArray, List.set_cons_zero, List.set_cons_succ]
                refine wpAnyH_take (i := 12) (oi := ?fo12e) (v := ?fv12e) ?fe12e (by kernel_rfl) (by kernel_rfl) (by kernel_rfl) (fun _ _ _ h => h) (Or.inl ⟨?fw12e, ?fy12e⟩) (by assumption) ?fr12e
                case fe12e => ((simp only [List.getElem?_toArray, List.getElem?_cons_succ, List.getElem?_cons_zero]) <;> rfl)
                case fw12e => rfl
                case fy12e => (intro w hSw; (try dsimp only at hSw); go_simp; (try with_reducible rfl))
                try simp only [Act.put, List.setIfInBounds_toArray, List.set_cons_zero, List.set_cons_succ]
                refine wpAnyH_take (i := 13) (oi := ?fo13e) (v := ?fv13e) ?fe13e (by kernel_rfl) (by kernel_rfl) (by kernel_rfl) (fun _ _ _ h => h) (Or.inl ⟨?fw13e, ?fy13e⟩) (by assumption) ?fr13e
                case fe13e => ((simp only [List.getElem?_toArray, List.getElem?_cons_succ, List.getElem?_cons_zero]) <;> rfl)
                case fw13e => rfl
                case fy13e => (intro w hSw; (try dsimp only at hSw); go_simp; (try with_reducible rfl))
                try simp only [Act.put, List.setIfInBounds_toArray, List.set_cons_zero, List.set_cons_succ]
                refine wpAnyH_take (i := 14) (oi := ?fo14e) (v := ?fv14e) ?fe14e (by kernel_rfl) (by kernel_rfl) (by kernel_rfl) (fun _ _ _ h => h) (Or.inl ⟨?fw14e, ?fy14e⟩) (by assumption) ?fr14e
                case fe14e => ((simp only [List.getElem?_toArray, List.getElem?_cons_succ, List.getElem?_cons_zero]) <;> rfl)
                case fw14e => rfl
                case fy14e => (intro w hSw; (try dsimp only at hSw); go_simp; (try with_reducible rfl))
                try simp only [Act.put, List.setIfInBounds_toArray, List.set_cons_zero, List.set_cons_succ]
                refine wpAnyH_take (i := 15) (oi := ?fo15e) (v := ?fv15e) ?fe15e (by kernel_rfl) (by kernel_rfl) (by kernel_rfl) (fun _ _ _ h => h) (Or.inl ⟨?fw15e, ?fy15e⟩) (by assumption) ?fr15e
                case fe15e => ((simp only [List.getElem?_toArray, List.getElem?_cons_succ, List.getElem?_cons_zero]) <;> rfl)
                case fw15e => rfl
                case fy15e => (intro w hSw; (try dsimp only at hSw); go_simp; (try with_reducible rfl))
                try simp only [Act.put, List.setIfInBounds_toArray, List.set_cons_zero, List.set_cons_succ]
                refine wpAnyH_take (i := 16) (oi := ?fo16e) (v := ?fv16e) ?fe16e (by kernel_rfl) (by kernel_rfl) (by kernel_rfl) (fun _ _ _ h => h) (Or.inl ⟨?fw16e, ?fy16e⟩) (by assumption) ?fr16e
                case fe16e => ((simp only [List.getElem?_toArray, List.getElem?_cons_succ, List.getElem?_cons_zero]) <;> rfl)
                case fw16e => rfl
                case fy16e => (intro w hSw; (try dsimp only at hSw); go_simp; (try with_reducible rfl))
                try simp only [Act.put, List.setIfInBounds_toArray, List.set_cons_zero, List.set_cons_succ]
                refine wpAnyH_take (i := 17) (oi := ?fo17e) (v := (.bool true)) ?fe17e (by kernel_rfl) (by kernel_rfl) (by kernel_rfl) (fun _ _ _ h => h) (Or.inl ⟨?fw17e, ?fy17e⟩) (by assumption) ?fr17e
                case fe17e => ((simp only [List.getElem?_toArray, List.getElem?_cons_succ, List.getElem?_cons_zero]) <;> rfl)
                case fw17e => rfl
                case fy17e => (intro w hSw; (try dsimp only at hSw); go_simp; (try (first | omega | (simp; done) | (simp; omega))))
                try simp only [Act.put, List.setIfInBounds_toArray, List.set_cons_zero, List.set_cons_succ]
                refine wpAnyH_take (i := 18) (oi := ?fo18e) (v := ?fv18e) ?fe18e (by kernel_rfl) (by kernel_rfl) (by kernel_rfl) (fun _ _ _ h => h) (Or.inl ⟨?fw18e, ?fy18e⟩) (by assumption) ?fr18e
                case fe18e => ((simp only [List.getElem?_toArray, List.getElem?_cons_succ, List.getElem?_cons_zero]) <;> rfl)
                case fw18e => rfl
                case fy18e => (intro w hSw; (try dsimp only at hSw); go_simp; (try with_reducible rfl))
                try simp only [Act.put, List.setIfInBounds_toArray, List.set_cons_zero, List.set_cons_succ]
                refine wpAnyH_take (i := 19) (oi := ?fo19e) (v := ?fv19e) ?fe19e (by kernel_rfl) (by kernel_rfl) (by kernel_rfl) (fun _ _ _ h => h) (Or.inl ⟨?fw19e, ?fy19e⟩) (by assumption) ?fr19e
                case fe19e => ((simp only [List.getElem?_toArray, List.getElem?_cons_succ, List.getElem?_cons_zero]) <;> rfl)
                case fw19e => rfl
                case fy19e => (intro w hSw; (try dsimp only at hSw); go_simp; (try with_reducible rfl))
                try simp only [Act.put, List.setIfInBounds_toArray, List.set_cons_zero, List.set_cons_succ]
                refine wpAnyH_take (i := 20) (oi := ?fo20e) (v := ?fv20e) ?fe20e (by kernel_rfl) (by kernel_rfl) (by kernel_rfl) (fun _ _ _ h => h) (Or.inl ⟨?fw20e, ?fy20e⟩) (by assumption) ?fr20e
                case fe20e => ((simp only [List.getElem?_toArray, List.getElem?_cons_succ, List.getElem?_cons_zero]) <;> rfl)
                case fw20e => rfl
                case fy20e => (intro w hSw; (try dsimp only at hSw); go_simp; (try with_reducible rfl))
                try simp only [Act.put, List.setIfInBounds_toArray, List.set_cons_zero, List.set_cons_succ]
                refine wpAnyH_take (i := 21) (oi := ?fo21e) (v := (.bool false)) ?fe21e (by kernel_rfl) (by kernel_rfl) (by kernel_rfl) (fun _ _ _ h => h) (Or.inl ⟨?fw21e, ?fy21e⟩) (by assumption) ?fr21e
                case fe21e => ((simp only [List.getElem?_toArray, List.getElem?_cons_succ, List.getElem?_cons_zero]) <;> rfl)
                case fw21e => rfl
                case fy21e => (intro w hSw; (try dsimp only at hSw); go_simp; (try (first | omega | (simp; done) | (simp; omega))))
                try simp only [Act.put, List.setIfInBounds_toArray, List.set_cons_zero, List.set_cons_succ]
                refine wpAnyH_take (i := 22) (oi := ?fo22e) (v := ?fv22e) ?fe22e (by kernel_rfl) (by kernel_rfl) (by kernel_rfl) (fun _ _ _ h => h) (Or.inl ⟨?fw22e, ?fy22e⟩) (by assumption) ?fr22e
                case fe22e => ((simp only [List.getElem?_toArray, List.getElem?_cons_succ, List.getElem?_cons_zero]) <;> rfl)
                case fw22e => rfl
                case fy22e => (intro w hSw; (try dsimp only at hSw); go_simp; (try with_reducible rfl))
                try simp only [Act.put, List.setIfInBounds_toArray, List.set_cons_zero, List.set_cons_succ]
                refine wpAnyH_take (i := 23) (oi := ?fo23e) (v := ?fv23e) ?fe23e (by kernel_rfl) (by kernel_rfl) (by kernel_rfl) (fun _ _ _ h => h) (Or.inl ⟨?fw23e, ?fy23e⟩) (by assumption) ?fr23e
                case fe23e => ((simp only [List.getElem?_toArray, List.getElem?_cons_succ, List.getElem?_cons_zero]) <;> rfl)
                case fw23e => rfl
                case fy23e => (intro w hSw; (try dsimp only at hSw); go_simp; (try with_reducible rfl))
                try simp only [Act.put, List.setIfInBounds_toArray, List.set_cons_zero, List.set_cons_succ]
                refine wpAnyH_take (i := 24) (oi := ?fo24e) (v := ?fv24e) ?fe24e (by kernel_rfl) (by kernel_rfl) (by kernel_rfl) (fun _ _ _ h => h) (Or.inl ⟨?fw24e, ?fy24e⟩) (by assumption) ?fr24e
                case fe24e => ((simp only [List.getElem?_toArray, List.getElem?_cons_succ, List.getElem?_cons_zero]) <;> rfl)
                case fw24e => rfl
                case fy24e => (intro w hSw; (try dsimp only at hSw); go_simp; (try with_reducible rfl))
                try simp only [Act.put, List.setIfInBounds_toArray, List.set_cons_zero, List.set_cons_succ]
                refine wpAnyH_take (i := 25) (oi := ?fo25e) (v := ?fv25e) ?fe25e (by kernel_rfl) (by kernel_rfl) (by kernel_rfl) (fun _ _ _ h => h) (Or.inl ⟨?fw25e, ?fy25e⟩) (by assumption) ?fr25e
                case fe25e => ((simp only [List.getElem?_toArray, List.getElem?_cons_succ, List.getElem?_cons_zero]) <;> rfl)
                case fw25e => rfl
                case fy25e => (intro w hSw; (try dsimp only at hSw); go_simp; (try with_reducible rfl))
                try simp only [Act.put, List.setIfInBounds_toArray, List.set_cons_zero, List.set_cons_succ]
                refine wpAnyH_take (i := 26) (oi := ?fo26e) (v := ?fv26e) ?fe26e (by kernel_rfl) (by kernel_rfl) (by kernel_rfl) (fun _ _ _ h => h) (Or.inl ⟨?fw26e, ?fy26e⟩) (by assumption) ?fr26e
                case fe26e => ((simp only [List.getElem?_toArray, List.getElem?_cons_succ, List.getElem?_cons_zero]) <;> rfl)
                case fw26e => rfl
                case fy26e => (intro w hSw; (try dsimp only at hSw); go_simp; (try with_reducible rfl))
                try simp only [Act.put, List.setIfInBounds_toArray, List.set_cons_zero, List.set_cons_succ]
                refine wpAnyH_take (i := 27) (oi := ?fo27e) (v := ?fv27e) ?fe27e (by kernel_rfl) (by kernel_rfl) (by kernel_rfl) (fun _ _ _ h => h) (Or.inl ⟨?fw27e, ?fy27e⟩) (by assumption) ?fr27e
                case fe27e => ((simp only [List.getElem?_toArray, List.getElem?_cons_succ, List.getElem?_cons_zero]) <;> rfl)
                case fw27e => rfl
                case fy27e => (intro w hSw; (try dsimp only at hSw); go_simp; (try with_reducible rfl))
                try simp only [Act.put, List.setIfInBounds_toArray, List.set_cons_zero, List.set_cons_succ]
                refine wpAnyH_take (i := 28) (oi := ?fo28e) (v := ?fv28e) ?fe28e (by kernel_rfl) (by kernel_rfl) (by kernel_rfl) (fun _ _ _ h => h) (Or.inl ⟨?fw28e, ?fy28e⟩) (by assumption) ?fr28e
                case fe28e => ((simp only [List.getElem?_toArray, List.getElem?_cons_succ, List.getElem?_cons_zero]) <;> rfl)
                case fw28e => rfl
                case fy28e => (intro w hSw; (try dsimp only at hSw); go_simp; (try with_reducible rfl))
                try simp only [Act.put, List.setIfInBounds_toArray, List.set_cons_zero, List.set_cons_succ]
                refine wpAnyH_take (i := 29) (oi := ?fo29e) (v := ?fv29e) ?fe29e (by kernel_rfl) (by kernel_rfl) (by kernel_rfl) (fun _ _ _ h => h) (Or.inl ⟨?fw29e, ?fy29e⟩) (by assumption) ?fr29e
                case fe29e => ((simp only [List.getElem?_toArray, List.getElem?_cons_succ, List.getElem?_cons_zero]) <;> rfl)
                case fw29e => rfl
                case fy29e => (intro w hSw; (try dsimp only at hSw); go_simp; (try with_reducible rfl))
                try simp only [Act.put, List.setIfInBounds_toArray, List.set_cons_zero, List.set_cons_succ]
                refine wpAnyH_take (i := 30) (oi := ?fo30e) (v := ?fv30e) ?fe30e (by kernel_rfl) (by kernel_rfl) (by kernel_rfl) (fun _ _ _ h => h) (Or.inl ⟨?fw30e, ?fy30e⟩) (by assumption) ?fr30e
                case fe30e => ((simp only [List.getElem?_toArray, List.getElem?_cons_succ, List.getElem?_cons_zero]) <;> rfl)
                case fw30e => rfl
                case fy30e => (intro w hSw; (try dsimp only at hSw); go_simp; (try with_reducible rfl))
                try simp only [Act.put, List.setIfInBounds_toArray, List.set_cons_zero, List.set_cons_succ]
                refine wpAnyH_take (i := 31) (oi := ?fo31e) (v := ?fv31e) ?fe31e (by kernel_rfl) (by kernel_rfl) (by kernel_rfl) (fun _ _ _ h => h) (Or.inl ⟨?fw31e, ?fy31e⟩) (by assumption) ?fr31e
                case fe31e => ((simp only [List.getElem?_toArray, List.getElem?_cons_succ, List.getElem?_cons_zero]) <;> rfl)
                case fw31e => rfl
                case fy31e => (intro w hSw; (try dsimp only at hSw); go_simp; (try with_reducible rfl))
                try simp only [Act.put, List.setIfInBounds_toArray, List.set_cons_zero, List.set_cons_succ]
                refine wpAnyH_take (i := 32) (oi := ?fo32e) (v := ?fv32e) ?fe32e (by kernel_rfl) (by kernel_rfl) (by kernel_rfl) (fun _ _ _ h => h) (Or.inl ⟨?fw32e, ?fy32e⟩) (by assumption) ?fr32e
                case fe32e => ((simp only [List.getElem?_toArray, List.getElem?_cons_succ, List.getElem?_cons_zero]) <;> rfl)
                case fw32e => rfl
                case fy32e => (intro w hSw; (try dsimp only at hSw); go_simp; (try with_reducible rfl))
                try simp only [Act.put, List.setIfInBounds_toArray, List.set_cons_zero, List.set_cons_succ]
                refine wpAnyH_take (i := 33) (oi := ?fo33e) (v := ?fv33e) ?fe33e (by kernel_rfl) (by kernel_rfl) (by kernel_rfl) (fun _ _ _ h => h) (Or.inl ⟨?fw33e, ?fy33e⟩) (by assumption) ?fr33e
                case fe33e => ((simp only [List.getElem?_toArray, List.getElem?_cons_succ, List.getElem?_cons_zero]) <;> rfl)
                case fw33e => rfl
                case fy33e => (intro w hSw; (try dsimp only at hSw); go_simp; (try with_reducible rfl))
                try simp only [Act.put, List.setIfInBounds_toArray, List.set_cons_zero, List.set_cons_succ]
                refine wpAnyH_take (i := 34) (oi := ?fo34e) (v := ?fv34e) ?fe34e (by kernel_rfl) (by kernel_rfl) (by kernel_rfl) (fun _ _ _ h => h) (Or.inl ⟨?fw34e, ?fy34e⟩) (by assumption) ?fr34e
                case fe34e => ((simp only [List.getElem?_toArray, List.getElem?_cons_succ, List.getElem?_cons_zero]) <;> rfl)
                case fw34e => rfl
                case fy34e => (intro w hSw; (try dsimp only at hSw); go_simp; (try with_reducible rfl))
                try simp only [Act.put, List.setIfInBounds_toArray, List.set_cons_zero, List.set_cons_succ]
                refine wpAnyH_take (i := 35) (oi := ?fo35e) (v := ?fv35e) ?fe35e (by kernel_rfl) (by kernel_rfl) (by kernel_rfl) (fun _ _ _ h => h) (Or.inl ⟨?fw35e, ?fy35e⟩) (by assumption) ?fr35e
                case fe35e => ((simp only [List.getElem?_toArray, List.getElem?_cons_succ, List.getElem?_cons_zero]) <;> rfl)
                case fw35e => rfl
                case fy35e => (intro w hSw; (try dsimp only at hSw); go_simp; (try with_reducible rfl))
                try simp only [Act.put, List.setIfInBounds_toArray, List.set_cons_zero, List.set_cons_succ]
                refine wpAnyH_take (i := 36) (oi := ?fo36e) (v := (.bool true)) ?fe36e (by kernel_rfl) (by kernel_rfl) (by kernel_rfl) (fun _ _ _ h => h) (Or.inl ⟨?fw36e, ?fy36e⟩) (by assumption) ?fr36e
                case fe36e => ((simp only [List.getElem?_toArray, List.getElem?_cons_succ, List.getElem?_cons_zero]) <;> rfl)
                case fw36e => rfl
                case fy36e => (intro w hSw; (try dsimp only at hSw); go_simp; (try (first | exact hh | simpa using hh)))
                try simp only [Act.put, List.setIfInBounds_toArray, List.set_cons_zero, List.set_cons_succ]
                refine wpAnyH_take (i := 37) (oi := ?fo37e) (v := ?fv37e) ?fe37e (by kernel_rfl) (by kernel_rfl) (by kernel_rfl) (fun _ _ _ h => h) (Or.inl ⟨?fw37e, ?fy37e⟩) (by assumption) ?fr37e
                case fe37e => ((simp only [List.getElem?_toArray, List.getElem?_cons_succ, List.getElem?_cons_zero]) <;> rfl)
                case fw37e => rfl
                case fy37e => (intro w hSw; (try dsimp only at hSw); go_simp; (try with_reducible rfl))
                try simp only [Act.put, List.setIfInBounds_toArray, List.set_cons_zero, List.set_cons_succ]
                refine wpAnyH_done (by kernel_rfl) ?_ _
                refine NoPanic.normal ?_
                have HOB := hid HOB.out.drew
                go_wp2_with fail
                go_ret2
                exact ⟨by rw [HN.out]; rfl, HBW.out _ HOB.out⟩
              · clear hmo2
                go_wp2_with fail
                refine wp_region_noPanic ?_
                refine wp_region_held_drew (S := (fun w' => w'.cell? ⟨xb, 0, none⟩ = some (.string ⟨x0.toArray⟩) ∧ w'.cell? ⟨g + 1, 0, none⟩ = some (.slice (some ⟨fb, 0, none⟩) fs.length fc) ∧ w'.cell? ⟨fb, j, none⟩ = some (.string ⟨fj.toArray⟩))) (by kernel_rfl) ?_ (fun hHeld => ?_)
                · exact ⟨hcx, hct, hcf⟩
                refine wpAnyH_take (i := 0) (oi := ?fo0f) (v := ?fv0f) ?fe0f (by kernel_rfl) (by kernel_rfl) (by kernel_rfl) (fun _ _ _ h => h) (Or.inl ⟨?fw0f, ?fy0f⟩) (by assumption) ?fr0f
                case fe0f => ((simp only [List.getElem?_toArray, List.getElem?_cons_succ, List.getElem?_cons_zero]) <;> rfl)
                case fw0f => rfl
                case fy0f => (intro w hSw; (try dsimp only at hSw); go_simp; (try with_reducible rfl))
                try simp only [Act.put, List.setIfInBounds_toArray, List.set_cons_zero, List.set_cons_succ]
                refine wpAnyH_take (i := 1) (oi := ?fo1f) (v := ?fv1f) ?fe1f (by kernel_rfl) (by kernel_rfl) (by kernel_rfl) (fun _ _ _ h => h) (Or.inl ⟨?fw1f, ?fy1f⟩) (by assumption) ?fr1f
                case fe1f => ((simp only [List.getElem?_toArray, List.getElem?_cons_succ, List.getElem?_cons_zero]) <;> rfl)
                case fw1f => rfl
                case fy1f => (intro w hSw; (try dsimp only at hSw); go_simp; (try with_reducible rfl))
                try simp only [Act.put, List.setIfInBounds_toArray, List.set_cons_zero, List.set_cons_succ]
                refine wpAnyH_take (i := 2) (oi := ?fo2f) (v := ?fv2f) ?fe2f (by kernel_rfl) (by kernel_rfl) (by kernel_rfl) (fun _ _ _ h => h) (Or.inl ⟨?fw2f, ?fy2f⟩) (by assumption) ?fr2f
                case fe2f => ((simp only [List.getElem?_toArray, List.getElem?_cons_succ, List.getElem?_cons_zero]) <;> rfl)
                case fw2f => rfl
                case fy2f => (intro w hSw; (try dsimp only at hSw); go_simp; (try with_reducible rfl))
                try simp only [Act.put, List.setIfInBounds_toArray, List.set_cons_zero, List.set_cons_succ]
                refine wpAnyH_take (i := 3) (oi := ?fo3f) (v := ?fv3f) ?fe3f (by kernel_rfl) (by kernel_rfl) (by kernel_rfl) (fun _ _ _ h => h) (Or.inl ⟨?fw3f, ?fy3f⟩) (by assumption) ?fr3f
                case fe3f => ((simp only [List.getElem?_toArray, List.getElem?_cons_succ, List.getElem?_cons_zero]) <;> rfl)
                case fw3f => rfl
                case fy3f => (intro w hSw; (try dsimp only at hSw); go_simp; (try with_reducible rfl))
                try simp only [Act.put, List.setIfInBounds_toArray, List.set_cons_zero, List.set_cons_succ]
                refine wpAnyH_take (i := 4) (oi := ?fo4f) (v := ?fv4f) ?fe4f (by kernel_rfl) (by kernel_rfl) (by kernel_rfl) (fun _ _ _ h => h) (Or.inl ⟨?fw4f, ?fy4f⟩) (by assumption) ?fr4f
                case fe4f => ((simp only [List.getElem?_toArray, List.getElem?_cons_succ, List.getElem?_cons_zero]) <;> rfl)
                case fw4f => rfl
                case fy4f => (intro w hSw; (try dsimp only at hSw); go_simp; (try with_reducible rfl))
                try simp only [Act.put, List.setIfInBounds_toArray, List.set_cons_zero, List.set_cons_succ]
                refine wpAnyH_take (i := 5) (oi := ?fo5f) (v := (.bool false)) ?fe5f (by kernel_rfl) (by kernel_rfl) (by kernel_rfl) (fun _ _ _ h => h) (Or.inl ⟨?fw5f, ?fy5f⟩) (by assumption) ?fr5f
                case fe5f => ((simp only [List.getElem?_toArray, List.getElem?_cons_succ, List.getElem?_cons_zero]) <;> rfl)
                case fw5f => rfl
                case fy5f => (intro w hSw; (try dsimp only at hSw); go_simp; (try (first | omega | (simp; done) | (simp; omega))))
                try simp only [Act.put, List.setIfInBounds_toArray, List.set_cons_zero, List.set_cons_succ]
                refine wpAnyH_take (i := 6) (oi := ?fo6f) (v := ?fv6f) ?fe6f (by kernel_rfl) (by kernel_rfl) (by kernel_rfl) (fun _ _ _ h => h) (Or.inl ⟨?fw6f, ?fy6f⟩) (by assumption) ?fr6f
                case fe6f => ((simp only [List.getElem?_toArray, List.getElem?_cons_succ, List.getElem?_cons_zero]) <;> rfl)
                case fw6f => rfl
                case fy6f => (intro w hSw; (try dsimp only at hSw); go_simp; (try with_reducible rfl))
                try simp only [Act.put, List.setIfInBounds_toArray, List.set_cons_zero, List.set_cons_succ]
                refine wpAnyH_take (i := 7) (oi := ?fo7f) (v := ?fv7f) ?fe7f (by kernel_rfl) (by kernel_rfl) (by kernel_rfl) (fun _ _ _ h => h) (Or.inl ⟨?fw7f, ?fy7f⟩) (by assumption) ?fr7f
                case fe7f => ((simp only [List.getElem?_toArray, List.getElem?_cons_succ, List.getElem?_cons_zero]) <;> rfl)
                case fw7f => rfl
                case fy7f => (intro w hSw; (try dsimp only at hSw); go_simp; (try with_reducible rfl))
                try simp only [Act.put, List.setIfInBounds_toArray, List.set_cons_zero, List.set_cons_succ]
                refine wpAnyH_take (i := 8) (oi := ?fo8f) (v := ?fv8f) ?fe8f (by kernel_rfl) (by kernel_rfl) (by kernel_rfl) (fun _ _ _ h => h) (Or.inl ⟨?fw8f, ?fy8f⟩) (by assumption) ?fr8f
                case fe8f => ((simp only [List.getElem?_toArray, List.getElem?_cons_succ, List.getElem?_cons_zero]) <;> rfl)
                case fw8f => rfl
                case fy8f => (intro w hSw; (try dsimp only at hSw); go_simp; (try with_reducible rfl))
                try simp only [Act.put, List.setIfInBounds_toArray, List.set_cons_zero, List.set_cons_succ]
                refine wpAnyH_take (i := 9) (oi := ?fo9f) (v := ?fv9f) ?fe9f (by kernel_rfl) (by kernel_rfl) (by kernel_rfl) (fun _ _ _ h => h) (Or.inl ⟨?fw9f, ?fy9f⟩) (by assumption) ?fr9f
                case fe9f => ((simp only [List.getElem?_toArray, List.getElem?_cons_succ, List.getElem?_cons_zero]) <;> rfl)
                case fw9f => rfl
                case fy9f => (intro w hSw; (try dsimp only at hSw); go_simp; (try with_reducible rfl))
                try simp only [Act.put, List.setIfInBounds_toArray, List.set_cons_zero, List.set_cons_succ]
                refine wpAnyH_take (i := 10) (oi := ?fo10f) (v := (.bool false)) ?fe10f (by kernel_rfl) (by kernel_rfl) (by kernel_rfl) (fun _ _ _ h => h) (Or.inl ⟨?fw10f, ?fy10f⟩) (by assumption) ?fr10f
                case fe10f => ((simp only [List.getElem?_toArray, List.getElem?_cons_succ, List.getElem?_cons_zero]) <;> rfl)
                case fw10f => rfl
                case fy10f => (intro w hSw; (try dsimp only at hSw); go_simp; (try (first | omega | (simp; done) | (simp; omega))))
                try simp only [Act.put, List.setIfInBounds_toArray, List.set_cons_zero, List.set_cons_succ]
                refine wpAnyH_take (i := 11) (oi := ?fo11f) (v := ?fv11f) ?fe11f (by kernel_rfl) (by kernel_rfl) (by kernel_rfl) (fun _ _ _ h => h) (Or.inl ⟨?fw11f, ?fy11f⟩) (by assumption) ?fr11f
                case fe11f => ((simp only [List.getElem?_toArray, List.getElem?_cons_succ, List.getElem?_cons_zero]) <;> rfl)
                case fw11f => rfl
                case fy11f => (intro w hSw; (try dsimp only at hSw); go_simp; (try with_reducible rfl))
                try simp only [Act.put, List.setIfInBounds_toArray, List.set_cons_zero, List.set_cons_succ]
                refine wpAnyH_take (i := 12) (oi := ?fo12f) (v := ?fv12f) ?fe12f (by kernel_rfl) (by kernel_rfl) (by kernel_rfl) (fun _ _ _ h => h) (Or.inl ⟨?fw12f, ?fy12f⟩) (by assumption) ?fr12f
                case fe12f => ((simp only [List.getElem?_toArray, List.getElem?_cons_succ, List.getElem?_cons_zero]) <;> rfl)
                case fw12f => rfl
                case fy12f => (intro w hSw; (try dsimp only at hSw); go_simp; (try with_reducible rfl))
                try simp only [Act.put, List.setIfInBounds_toArray, List.set_cons_zero, List.set_cons_succ]
                refine wpAnyH_take (i := 13) (oi := ?fo13f) (v := ?fv13f) ?fe13f (by kernel_rfl) (by kernel_rfl) (by kernel_rfl) (fun _ _ _ h => h) (Or.inl ⟨?fw13f, ?fy13f⟩) (by assumption) ?fr13f
                case fe13f => ((simp only [List.getElem?_toArray, List.getElem?_cons_succ, List.getElem?_cons_zero]) <;> rfl)
                case fw13f => rfl
                case fy13f => (intro w hSw; (try dsimp only at hSw); go_simp; (try with_reducible rfl))
                try simp only [Act.put, List.setIfInBounds_toArray, List.set_cons_zero, List.set_cons_succ]
                refine wpAnyH_take (i := 14) (oi := ?fo14f) (v := ?fv14f) ?fe14f (by kernel_rfl) (by kernel_rfl) (by kernel_rfl) (fun _ _ _ h => h) (Or.inl ⟨?fw14f, ?fy14f⟩) (by assumption) ?fr14f
                case fe14f => ((simp only [List.getElem?_toArray, List.getElem?_cons_succ, List.getElem?_cons_zero]) <;> rfl)
                case fw14f => rfl
                case fy14f => (intro w hSw; (try dsimp only at hSw); go_simp; (try with_reducible rfl))
                try simp only [Act.put, List.setIfInBounds_toArray, List.set_cons_zero, List.set_cons_succ]
                refine wpAnyH_take (i := 15) (oi := ?fo15f) (v := ?fv15f) ?fe15f (by kernel_rfl) (by kernel_rfl) (by kernel_rfl) (fun _ _ _ h => h) (Or.inl ⟨?fw15f, ?fy15f⟩) (by assumption) ?fr15f
                case fe15f => ((simp only [List.getElem?_toArray, List.getElem?_cons_succ, List.getElem?_cons_zero]) <;> rfl)
                case fw15f => rfl
                case fy15f => (intro w hSw; (try dsimp only at hSw); go_simp; (try with_reducible rfl))
                try simp only [Act.put, List.setIfInBounds_toArray, List.set_cons_zero, List.set_cons_succ]
                refine wpAnyH_take (i := 16) (oi := ?fo16f) (v := ?fv16f) ?fe16f (by kernel_rfl) (by kernel_rfl) (by kernel_rfl) (fun _ _ _ h => h) (Or.inl ⟨?fw16f, ?fy16f⟩) (by assumption) ?fr16f
                case fe16f => ((simp only [List.getElem?_toArray, List.getElem?_cons_succ, List.getElem?_cons_zero]) <;> rfl)
                case fw16f => rfl
                case fy16f => (intro w hSw; (try dsimp only at hSw); go_simp; (try with_reducible rfl))
                try simp only [Act.put, List.setIfInBounds_toArray, List.set_cons_zero, List.set_cons_succ]
                refine wpAnyH_take (i := 17) (oi := ?fo17f) (v := (.bool false)) ?fe17f (by kernel_rfl) (by kernel_rfl) (by kernel_rfl) (fun _ _ _ h => h) (Or.inl ⟨?fw17f, ?fy17f⟩) (by assumption) ?fr17f
                case fe17f => ((simp only [List.getElem?_toArray, List.getElem?_cons_succ, List.getElem?_cons_zero]) <;> rfl)
                case fw17f => rfl
                case fy17f => (intro w hSw; (try dsimp only at hSw); go_simp; (try (first | omega | (simp; done) | (simp; omega))))
                try simp only [Act.put, List.setIfInBounds_toArray, List.set_cons_zero, List.set_cons_succ]
                refine wpAnyH_take (i := 18) (oi := ?fo18f) (v := ?fv18f) ?fe18f (by kernel_rfl) (by kernel_rfl) (by kernel_rfl) (fun _ _ _ h => h) (Or.inl ⟨?fw18f, ?fy18f⟩) (by assumption) ?fr18f
                case fe18f => ((simp only [List.getElem?_toArray, List.getElem?_cons_succ, List.getElem?_cons_zero]) <;> rfl)
                case fw18f => rfl
                case fy18f => (intro w hSw; (try dsimp only at hSw); go_simp; (try with_reducible rfl))
                try simp only [Act.put, List.setIfInBounds_toArray, List.set_cons_zero, List.set_cons_succ]
                refine wpAnyH_take (i := 19) (oi := ?fo19f) (v := undef) ?fe19f (by kernel_rfl) (by kernel_rfl) (by kernel_rfl) (fun _ _ _ h => h) (Or.inr ⟨?fw19f, rfl⟩) (by assumption) ?fr19f
                case fe19f => ((simp only [List.getElem?_toArray, List.getElem?_cons_succ, List.getElem?_cons_zero]) <;> rfl)
                case fw19f => rfl
                try simp only [Act.put, List.setIfInBounds_toArray, List.set_cons_zero, List.set_cons_succ]
                refine wpAnyH_take (i := 20) (oi := ?fo20f) (v := undef) ?fe20f (by kernel_rfl) (by kernel_rfl) (by kernel_rfl) (fun _ _ _ h => h) (Or.inr ⟨?fw20f, rfl⟩) (by assumption) ?fr20f
                case fe20f => ((simp only [List.getElem?_toArray, List.getElem?_cons_succ, List.getElem?_cons_zero]) <;> rfl)
                case fw20f => rfl
                try simp only [Act.put, List.setIfInBounds_toArray, List.set_cons_zero, List.set_cons_succ]
                refine wpAnyH_take (i := 21) (oi := ?fo21f) (v := undef) ?fe21f (by kernel_rfl) (by kernel_rfl) (by kernel_rfl) (fun _ _ _ h => h) (Or.inr ⟨?fw21f, rfl⟩) (by assumption) ?fr21f
                case fe21f => ((simp only [List.getElem?_toArray, List.getElem?_cons_succ, List.getElem?_cons_zero]) <;> rfl)
                case fw21f => rfl
                try simp only [Act.put, List.setIfInBounds_toArray, List.set_cons_zero, List.set_cons_succ]
                refine wpAnyH_take (i := 22) (oi := ?fo22f) (v := ?fv22f) ?fe22f (by kernel_rfl) (by kernel_rfl) (by kernel_rfl) (fun _ _ _ h => h) (Or.inl ⟨?fw22f, ?fy22f⟩) (by assumption) ?fr22f
                case fe22f => ((simp only [List.getElem?_toArray, List.getElem?_cons_succ, List.getElem?_cons_zero]) <;> rfl)
                case fw22f => rfl
                case fy22f => (intro w hSw; (try dsimp only at hSw); go_simp; (try with_reducible rfl))
                try simp only [Act.put, List.setIfInBounds_toArray, List.set_cons_zero, List.set_cons_succ]
                refine wpAnyH_take (i := 23) (oi := ?fo23f) (v := ?fv23f) ?fe23f (by kernel_rfl) (by kernel_rfl) (by kernel_rfl) (fun _ _ _ h => h) (Or.inl ⟨?fw23f, ?fy23f⟩) (by assumption) ?fr23f
                case fe23f => ((simp only [List.getElem?_toArray, List.getElem?_cons_succ, List.getElem?_cons_zero]) <;> rfl)
                case fw23f => rfl
                case fy23f => (intro w hSw; (try dsimp only at hSw); go_simp; (try with_reducible rfl))
                try simp only [Act.put, List.setIfInBounds_toArray, List.set_cons_zero, List.set_cons_succ]
                refine wpAnyH_take (i := 24) (oi := ?fo24f) (v := ?fv24f) ?fe24f (by kernel_rfl) (by kernel_rfl) (by kernel_rfl) (fun _ _ _ h => h) (Or.inl ⟨?fw24f, ?fy24f⟩) (by assumption) ?fr24f
                case fe24f => ((simp only [List.getElem?_toArray, List.getElem?_cons_succ, List.getElem?_cons_zero]) <;> rfl)
                case fw24f => rfl
                case fy24f => (intro w hSw; (try dsimp only at hSw); go_simp; (try with_reducible rfl))
                try simp only [Act.put, List.setIfInBounds_toArray, List.set_cons_zero, List.set_cons_succ]
                refine wpAnyH_take (i := 25) (oi := ?fo25f) (v := ?fv25f) ?fe25f (by kernel_rfl) (by kernel_rfl) (by kernel_rfl) (fun _ _ _ h => h) (Or.inl ⟨?fw25f, ?fy25f⟩) (by assumption) ?fr25f
                case fe25f => ((simp only [List.getElem?_toArray, List.getElem?_cons_succ, List.getElem?_cons_zero]) <;> rfl)
                case fw25f => rfl
                case fy25f => (intro w hSw; (try dsimp only at hSw); go_simp; (try with_reducible rfl))
                try simp only [Act.put, List.setIfInBounds_toArray, List.set_cons_zero, List.set_cons_succ]
                refine wpAnyH_take (i := 26) (oi := ?fo26f) (v := ?fv26f) ?fe26f (by kernel_rfl) (by kernel_rfl) (by kernel_rfl) (fun _ _ _ h => h) (Or.inl ⟨?fw26f, ?fy26f⟩) (by assumption) ?fr26f
                case fe26f => ((simp only [List.getElem?_toArray, List.getElem?_cons_succ, List.getElem?_cons_zero]) <;> rfl)
                case fw26f => rfl
                case fy26f => (intro w hSw; (try dsimp only at hSw); go_simp; (try with_reducible rfl))
                try simp only [Act.put, List.setIfInBounds_toArray, List.set_cons_zero, List.set_cons_succ]
                refine wpAnyH_take (i := 27) (oi := ?fo27f) (v := ?fv27f) ?fe27f (by kernel_rfl) (by kernel_rfl) (by kernel_rfl) (fun _ _ _ h => h) (Or.inl ⟨?fw27f, ?fy27f⟩) (by assumption) ?fr27f
                case fe27f => ((simp only [List.getElem?_toArray, List.getElem?_cons_succ, List.getElem?_cons_zero]) <;> rfl)
                case fw27f => rfl
                case fy27f => (intro w hSw; (try dsimp only at hSw); go_simp; (try with_reducible rfl))
                try simp only [Act.put, List.setIfInBounds_toArray, List.set_cons_zero, List.set_cons_succ]
                refine wpAnyH_take (i := 28) (oi := ?fo28f) (v := ?fv28f) ?fe28f (by kernel_rfl) (by kernel_rfl) (by kernel_rfl) (fun _ _ _ h => h) (Or.inl ⟨?fw28f, ?fy28f⟩) (by assumption) ?fr28f
                case fe28f => ((simp only [List.getElem?_toArray, List.getElem?_cons_succ, List.getElem?_cons_zero]) <;> rfl)
                case fw28f => rfl
                case fy28f => (intro w hSw; (try dsimp only at hSw); go_simp; (try with_reducible rfl))
                try simp only [Act.put, List.setIfInBounds_toArray, List.set_cons_zero, List.set_cons_succ]
                refine wpAnyH_take (i := 29) (oi := ?fo29f) (v := ?fv29f) ?fe29f (by kernel_rfl) (by kernel_rfl) (by kernel_rfl) (fun _ _ _ h => h) (Or.inl ⟨?fw29f, ?fy29f⟩) (by assumption) ?fr29f
                case fe29f => ((simp only [List.getElem?_toArray, List.getElem?_cons_succ, List.getElem?_cons_zero]) <;> rfl)
                case fw29f => rfl
                case fy29f => (intro w hSw; (try dsimp only at hSw); go_simp; (try with_reducible rfl))
                try simp only [Act.put, List.setIfInBounds_toArray, List.set_cons_zero, List.set_cons_succ]
                refine wpAnyH_take (i := 30) (oi := ?fo30f) (v := ?fv30f) ?fe30f (by kernel_rfl) (by kernel_rfl) (by kernel_rfl) (fun _ _ _ h => h) (Or.inl ⟨?fw30f, ?fy30f⟩) (by assumption) ?fr30f
                case fe30f => ((simp only [List.getElem?_toArray, List.getElem?_cons_succ, List.getElem?_cons_zero]) <;> rfl)
                case fw30f => rfl
                case fy30f => (intro w hSw; (try dsimp only at hSw); go_simp; (try with_reducible rfl))
                try simp only [Act.put, List.setIfInBounds_toArray, List.set_cons_zero, List.set_cons_succ]
                refine wpAnyH_take (i := 31) (oi := ?fo31f) (v := ?fv31f) ?fe31f (by kernel_rfl) (by kernel_rfl) (by kernel_rfl) (fun _ _ _ h => h) (Or.inl ⟨?fw31f, ?fy31f⟩) (by assumption) ?fr31f
                case fe31f => ((simp only [List.getElem?_toArray, List.getElem?_cons_succ, List.getElem?_cons_zero]) <;> rfl)
                case fw31f => rfl
                case fy31f => (intro w hSw; (try dsimp only at hSw); go_simp; (try with_reducible rfl))
                try simp only [Act.put, List.setIfInBounds_toArray, List.set_cons_zero, List.set_cons_succ]
                refine wpAnyH_take (i := 32) (oi := ?fo32f) (v := ?fv32f) ?fe32f (by kernel_rfl) (by kernel_rfl) (by kernel_rfl) (fun _ _ _ h => h) (Or.inl ⟨?fw32f, ?fy32f⟩) (by assumption) ?fr32f
                case fe32f => ((simp only [List.getElem?_toArray, List.getElem?_cons_succ, List.getElem?_cons_zero]) <;> rfl)
                case fw32f => rfl
                case fy32f => (intro w hSw; (try dsimp only at hSw); go_simp; (try with_reducible rfl))
                try simp only [Act.put, List.setIfInBounds_toArray, List.set_cons_zero, List.set_cons_succ]
                refine wpAnyH_take (i := 33) (oi := ?fo33f) (v := ?fv33f) ?fe33f (by kernel_rfl) (by kernel_rfl) (by kernel_rfl) (fun _ _ _ h => h) (Or.inl ⟨?fw33f, ?fy33f⟩) (by assumption) ?fr33f
                case fe33f => ((simp only [List.getElem?_toArray, List.getElem?_cons_succ, List.getElem?_cons_zero]) <;> rfl)
                case fw33f => rfl
                case fy33f => (intro w hSw; (try dsimp only at hSw); go_simp; (try with_reducible rfl))
                try simp only [Act.put, List.setIfInBounds_toArray, List.set_cons_zero, List.set_cons_succ]
                refine wpAnyH_take (i := 34) (oi := ?fo34f) (v := ?fv34f) ?fe34f (by kernel_rfl) (by kernel_rfl) (by kernel_rfl) (fun _ _ _ h => h) (Or.inl ⟨?fw34f, ?fy34f⟩) (by assumption) ?fr34f
                case fe34f => ((simp only [List.getElem?_toArray, List.getElem?_cons_succ, List.getElem?_cons_zero]) <;> rfl)
                case fw34f => rfl
                case fy34f => (intro w hSw; (try dsimp only at hSw); go_simp; (try with_reducible rfl))
                try simp only [Act.put, List.setIfInBounds_toArray, List.set_cons_zero, List.set_cons_succ]
                refine wpAnyH_take (i := 35) (oi := ?fo35f) (v := ?fv35f) ?fe35f (by kernel_rfl) (by kernel_rfl) (by kernel_rfl) (fun _ _ _ h => h) (Or.inl ⟨?fw35f, ?fy35f⟩) (by assumption) ?fr35f
                case fe35f => ((simp only [List.getElem?_toArray, List.getElem?_cons_succ, List.getElem?_cons_zero]) <;> rfl)
                case fw35f => rfl
                case fy35f => (intro w hSw; (try dsimp only at hSw); go_simp; (try with_reducible rfl))
                try simp only [Act.put, List.setIfInBounds_toArray, List.set_cons_zero, List.set_cons_succ]
                refine wpAnyH_take (i := 36) (oi := ?fo36f) (v := (.bool true)) ?fe36f (by kernel_rfl) (by kernel_rfl) (by kernel_rfl) (fun _ _ _ h => h) (Or.inl ⟨?fw36f, ?fy36f⟩) (by assumption) ?fr36f
                case fe36f => ((simp only [List.getElem?_toArray, List.getElem?_cons_succ, List.getElem?_cons_zero]) <;> rfl)
                case fw36f => rfl
                case fy36f => (intro w hSw; (try dsimp only at hSw); go_simp; (try (first | exact hh | simpa using hh)))
                try simp only [Act.put, List.setIfInBounds_toArray, List.set_cons_zero, List.set_cons_succ]
                refine wpAnyH_take (i := 37) (oi := ?fo37f) (v := ?fv37f) ?fe37f (by kernel_rfl) (by kernel_rfl) (by kernel_rfl) (fun _ _ _ h => h) (Or.inl ⟨?fw37f, ?fy37f⟩) (by assumption) ?fr37f
                case fe37f => ((simp only [List.getElem?_toArray, List.getElem?_cons_succ, List.getElem?_cons_zero]) <;> rfl)
                case fw37f => rfl
                case fy37f => (intro w hSw; (try dsimp only at hSw); go_simp; (try with_reducible rfl))
                try simp only [Act.put, List.setIfInBounds_toArray, List.set_cons_zero, List.set_cons_succ]
                refine wpAnyH_done (by kernel_rfl) ?_ _
                refine NoPanic.normal ?_
                have HOB := hid HOB.out.drew
                go_wp2_with fail
                go_ret2
                exact ⟨by rw [HN.out]; rfl, HBW.out _ HOB.out⟩
            case pos =>
            subst hh
            have HBLK := hid (fun (q : ascB last x) => (⟨HX0.out, HX8.out |> Nat.le_of_not_lt, HMO.out, HHD.out.trans HFJ.out, q⟩ : BlkOk last fs[j] (decide (j + 1 < bs.length)) x))
            by_cases hmi : (j : Int) + 1 < (k : Int)
            · have hm8 : ((x.length : Int) != 8) = false := by simp; omega
              clear hmo2
              go_wp2_with fail
              refine wp_region_noPanic ?_
              refine wp_region_held_drew (S := (fun w' => w'.cell? ⟨xb, 0, none⟩ = some (.string ⟨x0.toArray⟩) ∧ w'.cell? ⟨g + 1, 0, none⟩ = some (.slice (some ⟨fb, 0, none⟩) fs.length fc) ∧ w'.cell? ⟨fb, j, none⟩ = some (.string ⟨x0.toArray⟩))) (by kernel_rfl) ?_ (fun hHeld => ?_)
              · exact ⟨hcx, hct, hcf⟩
              refine wpAnyH_take (i := 0) (oi := ?fo0i) (v := ?fv0i) ?fe0i (by kernel_rfl) (by kernel_rfl) (by kernel_rfl) (fun _ _ _ h => h) (Or.inl ⟨?fw0i, ?fy0i⟩) (by assumption) ?fr0i
              case fe0i => ((simp only [List.getElem?_toArray, List.getElem?_cons_succ, List.getElem?_cons_zero]) <;> rfl)
              case fw0i => rfl
              case fy0i => (intro w hSw; (try dsimp only at hSw); go_simp; (try with_reducible rfl))
              try simp only [Act.put, List.setIfInBounds_toArray, List.set_cons_zero, List.set_cons_succ]
              refine wpAnyH_take (i := 1) (oi := ?fo1i) (v := ?fv1i) ?fe1i (by kernel_rfl) (by kernel_rfl) (by kernel_rfl) (fun _ _ _ h => h) (Or.inl ⟨?fw1i, ?fy1i⟩) (by assumption) ?fr1i
              case fe1i => ((simp only [List.getElem?_toArray, List.getElem?_cons_succ, List.getElem?_cons_zero]) <;> rfl)
              case fw1i => rfl
              case fy1i => (intro w hSw; (try dsimp only at hSw); go_simp; (try with_reducible rfl))
              try simp only [Act.put, List.setIfInBounds_toArray, List.set_cons_zero, List.set_cons_succ]
              refine wpAnyH_take (i := 2) (oi := ?fo2i) (v := ?fv2i) ?fe2i (by kernel_rfl) (by kernel_rfl) (by kernel_rfl) (fun _ _ _ h => h) (Or.inl ⟨?fw2i, ?fy2i⟩) (by assumption) ?fr2i
              case fe2i => ((simp only [List.getElem?_toArray, List.getElem?_cons_succ, List.getElem?_cons_zero]) <;> rfl)
              case fw2i => rfl
              case fy2i => (intro w hSw; (try dsimp only at hSw); go_simp; (try with_reducible rfl))
              try simp only [Act.put, List.setIfInBounds_toArray, List.set_cons_zero, List.set_cons_succ]
              refine wpAnyH_take (i := 3) (oi := ?fo3i) (v := ?fv3i) ?fe3i (by kernel_rfl) (by kernel_rfl) (by kernel_rfl) (fun _ _ _ h => h) (Or.inl ⟨?fw3i, ?fy3i⟩) (by assumption) ?fr3i
              case fe3i => ((simp only [List.getElem?_toArray, List.getElem?_cons_succ, List.getElem?_cons_zero]) <;> rfl)
              case fw3i => rfl
              case fy3i => (intro w hSw; (try dsimp only at hSw); go_simp; (try with_reducible rfl))
              try simp only [Act.put, List.setIfInBounds_toArray, List.set_cons_zero, List.set_cons_succ]
              refine wpAnyH_take (i := 4) (oi := ?fo4i) (v := ?fv4i) ?fe4i (by kernel_rfl) (by kernel_rfl) (by kernel_rfl) (fun _ _ _ h => h) (Or.inl ⟨?fw4i, ?fy4i⟩) (by assumption) ?fr4i
              case fe4i => ((simp only [List.getElem?_toArray, List.getElem?_cons_succ, List.getElem?_cons_zero]) <;> rfl)
              case fw4i => rfl
              case fy4i => (intro w hSw; (try dsimp only at hSw); go_simp; (try with_reducible rfl))
              try simp only [Act.put, List.setIfInBounds_toArray, List.set_cons_zero, List.set_cons_succ]
              refine wpAnyH_take (i := 5) (oi := ?fo5i) (v := (.bool false)) ?fe5i (by kernel_rfl) (by kernel_rfl) (by kernel_rfl) (fun _ _ _ h => h) (Or.inl ⟨?fw5i, ?fy5i⟩) (by assumption) ?fr5i
              case fe5i => ((simp only [List.getElem?_toArray, List.getElem?_cons_succ, List.getElem?_cons_zero]) <;> rfl)
              case fw5i => rfl
              case fy5i => (intro w hSw; (try dsimp only at hSw); go_simp; (try (first | omega | (simp; done) | (simp; omega))))
              try simp only [Act.put, List.setIfInBounds_toArray, List.set_cons_zero, List.set_cons_succ]
              refine wpAnyH_take (i := 6) (oi := ?fo6i) (v := ?fv6i) ?fe6i (by kernel_rfl) (by kernel_rfl) (by kernel_rfl) (fun _ _ _ h => h) (Or.inl ⟨?fw6i, ?fy6i⟩) (by assumption) ?fr6i
              case fe6i => ((simp only [List.getElem?_toArray, List.getElem?_cons_succ, List.getElem?_cons_zero]) <;> rfl)
              case fw6i => rfl
              case fy6i => (intro w hSw; (try dsimp only at hSw); go_simp; (try with_reducible rfl))
              try simp only [Act.put, List.setIfInBounds_toArray, List.set_cons_zero, List.set_cons_succ]
              refine wpAnyH_take (i := 7) (oi := ?fo7i) (v := ?fv7i) ?fe7i (by kernel_rfl) (by kernel_rfl) (by kernel_rfl) (fun _ _ _ h => h) (Or.inl ⟨?fw7i, ?fy7i⟩) (by assumption) ?fr7i
              case fe7i => ((simp only [List.getElem?_toArray, List.getElem?_cons_succ, List.getElem?_cons_zero]) <;> rfl)
              case fw7i => rfl
              case fy7i => (intro w hSw; (try dsimp only at hSw); go_simp; (try with_reducible rfl))
              try simp only [Act.put, List.setIfInBounds_toArray, List.set_cons_zero, List.set_cons_succ]
              refine wpAnyH_take (i := 8) (oi := ?fo8i) (v := ?fv8i) ?fe8i (by kernel_rfl) (by kernel_rfl) (by kernel_rfl) (fun _ _ _ h => h) (Or.inl ⟨?fw8i, ?fy8i⟩) (by assumption) ?fr8i
              case fe8i => ((simp only [List.getElem?_toArray, List.getElem?_cons_succ, List.getElem?_cons_zero]) <;> rfl)
              case fw8i => rfl
              case fy8i => (intro w hSw; (try dsimp only at hSw); go_simp; (try with_reducible rfl))
              try simp only [Act.put, List.setIfInBounds_toArray, List.set_cons_zero, List.set_cons_succ]
              refine wpAnyH_take (i := 9) (oi := ?fo9i) (v := ?fv9i) ?fe9i (by kernel_rfl) (by kernel_rfl) (by kernel_rfl) (fun _ _ _ h => h) (Or.inl ⟨?fw9i, ?fy9i⟩) (by assumption) ?fr9i
              case fe9i => ((simp only [List.getElem?_toArray, List.getElem?_cons_succ, List.getElem?_cons_zero]) <;> rfl)
              case fw9i => rfl
              case fy9i => (intro w hSw; (try dsimp only at hSw); go_simp; (try with_reducible rfl))
              try simp only [Act.put, List.setIfInBounds_toArray, List.set_cons_zero, List.set_cons_succ]
              refine wpAnyH_take (i := 10) (oi := ?fo10i) (v := (.bool false)) ?fe10i (by kernel_rfl) (by kernel_rfl) (by kernel_rfl) (fun _ _ _ h => h) (Or.inl ⟨?fw10i, ?fy10i⟩) (by assumption) ?fr10i
              case fe10i => ((simp only [List.getElem?_toArray, List.getElem?_cons_succ, List.getElem?_cons_zero]) <;> rfl)
              case fw10i => rfl
              case fy10i => (intro w hSw; (try dsimp only at hSw); go_simp; (try (first | omega | (simp; done) | (simp; omega))))
              try simp only [Act.put, List.setIfInBounds_toArray, List.set_cons_zero, List.set_cons_succ]
              refine wpAnyH_take (i := 11) (oi := ?fo11i) (v := ?fv11i) ?fe11i (by kernel_rfl) (by kernel_rfl) (by kernel_rfl) (fun _ _ _ h => h) (Or.inl ⟨?fw11i, ?fy11i⟩) (by assumption) ?fr11i
              case fe11i => ((simp only [List.getElem?_toArray, List.getElem?_cons_succ, List.getElem?_cons_zero]) <;> rfl)
              case fw11i => rfl
              case fy11i => (intro w hSw; (try dsimp only at hSw); go_simp; (try with_reducible rfl))
              try simp only [Act.put, List.setIfInBounds_toArray, List.set_cons_zero, List.set_cons_succ]
              refine wpAnyH_take (i := 12) (oi := ?fo12i) (v := ?fv12i) ?fe12i (by kernel_rfl) (by kernel_rfl) (by kernel_rfl) (fun _ _ _ h => h) (Or.inl ⟨?fw12i, ?fy12i⟩) (by assumption) ?fr12i
              case fe12i => ((simp only [List.getElem?_toArray, List.getElem?_cons_succ, List.getElem?_cons_zero]) <;> rfl)
              case fw12i => rfl
              case fy12i => (intro w hSw; (try dsimp only at hSw); go_simp; (try with_reducible rfl))
              try simp only [Act.put, List.setIfInBounds_toArray, List.set_cons_zero, List.set_cons_succ]
              refine wpAnyH_take (i := 13) (oi := ?fo13i) (v := ?fv13i) ?fe13i (by kernel_rfl) (by kernel_rfl) (by kernel_rfl) (fun _ _ _ h => h) (Or.inl ⟨?fw13i, ?fy13i⟩) (by assumption) ?fr13i
              case fe13i => ((simp only [List.getElem?_toArray, List.getElem?_cons_succ, List.getElem?_cons_zero]) <;> rfl)
              case fw13i => rfl
              case fy13i => (intro w hSw; (try dsimp only at hSw); go_simp; (try with_reducible rfl))
              try simp only [Act.put, List.setIfInBounds_toArray, List.set_cons_zero, List.set_cons_succ]
              refine wpAnyH_take (i := 14) (oi := ?fo14i) (v := ?fv14i) ?fe14i (by kernel_rfl) (by kernel_rfl) (by kernel_rfl) (fun _ _ _ h => h) (Or.inl ⟨?fw14i, ?fy14i⟩) (by assumption) ?fr14i
              case fe14i => ((simp only [List.getElem?_toArray, List.getElem?_cons_succ, List.getElem?_cons_zero]) <;> rfl)
              case fw14i => rfl
              case fy14i => (intro w hSw; (try dsimp only at hSw); go_simp; (try with_reducible rfl))
              try simp only [Act.put, List.setIfInBounds_toArray, List.set_cons_zero, List.set_cons_succ]
              refine wpAnyH_take (i := 15) (oi := ?fo15i) (v := ?fv15i) ?fe15i (by kernel_rfl) (by kernel_rfl) (by kernel_rfl) (fun _ _ _ h => h) (Or.inl ⟨?fw15i, ?fy15i⟩) (by assumption) ?fr15i
              case fe15i => ((simp only [List.getElem?_toArray, List.getElem?_cons_succ, List.getElem?_cons_zero]) <;> rfl)
              case fw15i => rfl
              case fy15i => (intro w hSw; (try dsimp only at hSw); go_simp; (try with_reducible rfl))
              try simp only [Act.put, List.setIfInBounds_toArray, List.set_cons_zero, List.set_cons_succ]
              refine wpAnyH_take (i := 16) (oi := ?fo16i) (v := ?fv16i) ?fe16i (by kernel_rfl) (by kernel_rfl) (by kernel_rfl) (fun _ _ _ h => h) (Or.inl ⟨?fw16i, ?fy16i⟩) (by assumption) ?fr16i
              case fe16i => ((simp only [List.getElem?_toArray, List.getElem?_cons_succ, List.getElem?_cons_zero]) <;> rfl)
              case fw16i => rfl
              case fy16i => (intro w hSw; (try dsimp only at hSw); go_simp; (try with_reducible rfl))
              try simp only [Act.put, List.setIfInBounds_toArray, List.set_cons_zero, List.set_cons_succ]
              refine wpAnyH_take (i := 17) (oi := ?fo17i) (v := (.bool true)) ?fe17i (by kernel_rfl) (by kernel_rfl) (by kernel_rfl) (fun _ _ _ h => h) (Or.inl ⟨?fw17i, ?fy17i⟩) (by assumption) ?fr17i
              case fe17i => ((simp only [List.getElem?_toArray, List.getElem?_cons_succ, List.getElem?_cons_zero]) <;> rfl)
              case fw17i => rfl
              case fy17i => (intro w hSw; (try dsimp only at hSw); go_simp; (try (first | omega | (simp; done) | (simp; omega))))
              try simp only [Act.put, List.setIfInBounds_toArray, List.set_cons_zero, List.set_cons_succ]
              refine wpAnyH_take (i := 18) (oi := ?fo18i) (v := ?fv18i) ?fe18i (by kernel_rfl) (by kernel_rfl) (by kernel_rfl) (fun _ _ _ h => h) (Or.inl ⟨?fw18i, ?fy18i⟩) (by assumption) ?fr18i
              case fe18i => ((simp only [List.getElem?_toArray, List.getElem?_cons_succ, List.getElem?_cons_zero]) <;> rfl)
              case fw18i => rfl
              case fy18i => (intro w hSw; (try dsimp only at hSw); go_simp; (try with_reducible rfl))
              try simp only [Act.put, List.setIfInBounds_toArray, List.set_cons_zero, List.set_cons_succ]
              refine wpAnyH_take (i := 19) (oi := ?fo19i) (v := ?fv19i) ?fe19i (by kernel_rfl) (by kernel_rfl) (by kernel_rfl) (fun _ _ _ h => h) (Or.inl ⟨?fw19i, ?fy19i⟩) (by assumption) ?fr19i
              case fe19i => ((simp only [List.getElem?_toArray, List.getElem?_cons_succ, List.getElem?_cons_zero]) <;> rfl)
              case fw19i => rfl
              case fy19i => (intro w hSw; (try dsimp only at hSw); go_simp; (try with_reducible rfl))
              try simp only [Act.put, List.setIfInBounds_toArray, List.set_cons_zero, List.set_cons_succ]
              refine wpAnyH_take (i := 20) (oi := ?fo20i) (v := ?fv20i) ?fe20i (by kernel_rfl) (by kernel_rfl) (by kernel_rfl) (fun _ _ _ h => h) (Or.inl ⟨?fw20i, ?fy20i⟩) (by assumption) ?fr20i
              case fe20i => ((simp only [List.getElem?_toArray, List.getElem?_cons_succ, List.getElem?_cons_zero]) <;> rfl)
              case fw20i => rfl
              case fy20i => (intro w hSw; (try dsimp only at hSw); go_simp; (try with_reducible rfl))
              try simp only [Act.put, List.setIfInBounds_toArray, List.set_cons_zero, List.set_cons_succ]
              refine wpAnyH_take (i := 21) (oi := ?fo21i) (v := (.bool false)) ?fe21i (by kernel_rfl) (by kernel_rfl) (by kernel_rfl) (fun _ _ _ h => h) (Or.inl ⟨?fw21i, ?fy21i⟩) (by assumption) ?fr21i
              case fe21i => ((simp only [List.getElem?_toArray, List.getElem?_cons_succ, List.getElem?_cons_zero]) <;> rfl)
              case fw21i => rfl
              case fy21i => (intro w hSw; (try dsimp only at hSw); go_simp; (try (first | omega | (simp; done) | (simp; omega))))
              try simp only [Act.put, List.setIfInBounds_toArray, List.set_cons_zero, List.set_cons_succ]
              refine wpAnyH_take (i := 22) (oi := ?fo22i) (v := ?fv22i) ?fe22i (by kernel_rfl) (by kernel_rfl) (by kernel_rfl) (fun _ _ _ h => h) (Or.inl ⟨?fw22i, ?fy22i⟩) (by assumption) ?fr22i
              case fe22i => ((simp only [List.getElem?_toArray, List.getElem?_cons_succ, List.getElem?_cons_zero]) <;> rfl)
              case fw22i => rfl
              case fy22i => (intro w hSw; (try dsimp only at hSw); go_simp; (try with_reducible rfl))
              try simp only [Act.put, List.setIfInBounds_toArray, List.set_cons_zero, List.set_cons_succ]
              refine wpAnyH_take (i := 23) (oi := ?fo23i) (v := ?fv23i) ?fe23i (by kernel_rfl) (by kernel_rfl) (by kernel_rfl) (fun _ _ _ h => h) (Or.inl ⟨?fw23i, ?fy23i⟩) (by assumption) ?fr23i
              case fe23i => ((simp only [List.getElem?_toArray, List.getElem?_cons_succ, List.getElem?_cons_zero]) <;> rfl)
              case fw23i => rfl
              case fy23i => (intro w hSw; (try dsimp only at hSw); go_simp; (try with_reducible rfl))
              try simp only [Act.put, List.setIfInBounds_toArray, List.set_cons_zero, List.set_cons_succ]
              refine wpAnyH_take (i := 24) (oi := ?fo24i) (v := ?fv24i) ?fe24i (by kernel_rfl) (by kernel_rfl) (by kernel_rfl) (fun _ _ _ h => h) (Or.inl ⟨?fw24i, ?fy24i⟩) (by assumption) ?fr24i
              case fe24i => ((simp only [List.getElem?_toArray, List.getElem?_cons_succ, List.getElem?_cons_zero]) <;> rfl)
              case fw24i => rfl
              case fy24i => (intro w hSw; (try dsimp only at hSw); go_simp; (try with_reducible rfl))
              try simp only [Act.put, List.setIfInBounds_toArray, List.set_cons_zero, List.set_cons_succ]
              refine wpAnyH_take (i := 25) (oi := ?fo25i) (v := ?fv25i) ?fe25i (by kernel_rfl) (by kernel_rfl) (by kernel_rfl) (fun _ _ _ h => h) (Or.inl ⟨?fw25i, ?fy25i⟩) (by assumption) ?fr25i
              case fe25i => ((simp only [List.getElem?_toArray, List.getElem?_cons_succ, List.getElem?_cons_zero]) <;> rfl)
              case fw25i => rfl
              case fy25i => (intro w hSw; (try dsimp only at hSw); go_simp; (try with_reducible rfl))
              try simp only [Act.put, List.setIfInBounds_toArray, List.set_cons_zero, List.set_cons_succ]
              refine wpAnyH_take (i := 26) (oi := ?fo26i) (v := ?fv26i) ?fe26i (by kernel_rfl) (by kernel_rfl) (by kernel_rfl) (fun _ _ _ h => h) (Or.inl ⟨?fw26i, ?fy26i⟩) (by assumption) ?fr26i
              case fe26i => ((simp only [List.getElem?_toArray, List.getElem?_cons_succ, List.getElem?_cons_zero]) <;> rfl)
              case fw26i => rfl
              case fy26i => (intro w hSw; (try dsimp only at hSw); go_simp; (try with_reducible rfl))
              try simp only [Act.put, List.setIfInBounds_toArray, List.set_cons_zero, List.set_cons_succ]
              refine wpAnyH_take (i := 27) (oi := ?fo27i) (v := ?fv27i) ?fe27i (by kernel_rfl) (by kernel_rfl) (by kernel_rfl) (fun _ _ _ h => h) (Or.inl ⟨?fw27i, ?fy27i⟩) (by assumption) ?fr27i
              case fe27i => ((simp only [List.getElem?_toArray, List.getElem?_cons_succ, List.getElem?_cons_zero]) <;> rfl)
              case fw27i => rfl
              case fy27i => (intro w hSw; (try dsimp only at hSw); go_simp; (try with_reducible rfl))
              try simp only [Act.put, List.setIfInBounds_toArray, List.set_cons_zero, List.set_cons_succ]
              refine wpAnyH_take (i := 28) (oi := ?fo28i) (v := ?fv28i) ?fe28i (by kernel_rfl) (by kernel_rfl) (by kernel_rfl) (fun _ _ _ h => h) (Or.inl ⟨?fw28i, ?fy28i⟩) (by assumption) ?fr28i
              case fe28i => ((simp only [List.getElem?_toArray, List.getElem?_cons_succ, List.getElem?_cons_zero]) <;> rfl)
              case fw28i => rfl
              case fy28i => (intro w hSw; (try dsimp only at hSw); go_simp; (try with_reducible rfl))
              try simp only [Act.put, List.setIfInBounds_toArray, List.set_cons_zero, List.set_cons_succ]
              refine wpAnyH_take (i := 29) (oi := ?fo29i) (v := ?fv29i) ?fe29i (by kernel_rfl) (by kernel_rfl) (by kernel_rfl) (fun _ _ _ h => h) (Or.inl ⟨?fw29i, ?fy29i⟩) (by assumption) ?fr29i
              case fe29i => ((simp only [List.getElem?_toArray, List.getElem?_cons_succ, List.getElem?_cons_zero]) <;> rfl)
              case fw29i => rfl
              case fy29i => (intro w hSw; (try dsimp only at hSw); go_simp; (try with_reducible rfl))
              try simp only [Act.put, List.setIfInBounds_toArray, List.set_cons_zero, List.set_cons_succ]
              refine wpAnyH_take (i := 30) (oi := ?fo30i) (v := ?fv30i) ?fe30i (by kernel_rfl) (by kernel_rfl) (by kernel_rfl) (fun _ _ _ h => h) (Or.inl ⟨?fw30i, ?fy30i⟩) (by assumption) ?fr30i
              case fe30i => ((simp only [List.getElem?_toArray, List.getElem?_cons_succ, List.getElem?_cons_zero]) <;> rfl)
              case fw30i => rfl
              case fy30i => (intro w hSw; (try dsimp only at hSw); go_simp; (try with_reducible rfl))
              try simp only [Act.put, List.setIfInBounds_toArray, List.set_cons_zero, List.set_cons_succ]
              refine wpAnyH_take (i := 31) (oi := ?fo31i) (v := ?fv31i) ?fe31i (by kernel_rfl) (by kernel_rfl) (by kernel_rfl) (fun _ _ _ h => h) (Or.inl ⟨?fw31i, ?fy31i⟩) (by assumption) ?fr31i
              case fe31i => ((simp only [List.getElem?_toArray, List.getElem?_cons_succ, List.getElem?_cons_zero]) <;> rfl)
              case fw31i => rfl
              case fy31i => (intro w hSw; (try dsimp only at hSw); go_simp; (try with_reducible rfl))
              try simp only [Act.put, List.setIfInBounds_toArray, List.set_cons_zero, List.set_cons_succ]
              refine wpAnyH_take (i := 32) (oi := ?fo32i) (v := ?fv32i) ?fe32i (by kernel_rfl) (by kernel_rfl) (by kernel_rfl) (fun _ _ _ h => h) (Or.inl ⟨?fw32i, ?fy32i⟩) (by assumption) ?fr32i
              case fe32i => ((simp only [List.getElem?_toArray, List.getElem?_cons_succ, List.getElem?_cons_zero]) <;> rfl)
              case fw32i => rfl
              case fy32i => (intro w hSw; (try dsimp only at hSw); go_simp; (try with_reducible rfl))
              try simp only [Act.put, List.setIfInBounds_toArray, List.set_cons_zero, List.set_cons_succ]
              refine wpAnyH_take (i := 33) (oi := ?fo33i) (v := ?fv33i) ?fe33i (by kernel_rfl) (by kernel_rfl) (by kernel_rfl) (fun _ _ _ h => h) (Or.inl ⟨?fw33i, ?fy33i⟩) (by assumption) ?fr33i
              case fe33i => ((simp only [List.getElem?_toArray, List.getElem?_cons_succ, List.getElem?_cons_zero]) <;> rfl)
              case fw33i => rfl
              case fy33i => (intro w hSw; (try dsimp only at hSw); go_simp; (try with_reducible rfl))
              try simp only [Act.put, List.setIfInBounds_toArray, List.set_cons_zero, List.set_cons_succ]
              refine wpAnyH_take (i := 34) (oi := ?fo34i) (v := ?fv34i) ?fe34i (by kernel_rfl) (by kernel_rfl) (by kernel_rfl) (fun _ _ _ h => h) (Or.inl ⟨?fw34i, ?fy34i⟩) (by assumption) ?fr34i
              case fe34i => ((simp only [List.getElem?_toArray, List.getElem?_cons_succ, List.getElem?_cons_zero]) <;> rfl)
              case fw34i => rfl
              case fy34i => (intro w hSw; (try dsimp only at hSw); go_simp; (try with_reducible rfl))
              try simp only [Act.put, List.setIfInBounds_toArray, List.set_cons_zero, List.set_cons_succ]
              refine wpAnyH_take (i := 35) (oi := ?fo35i) (v := ?fv35i) ?fe35i (by kernel_rfl) (by kernel_rfl) (by kernel_rfl) (fun _ _ _ h => h) (Or.inl ⟨?fw35i, ?fy35i⟩) (by assumption) ?fr35i
              case fe35i => ((simp only [List.getElem?_toArray, List.getElem?_cons_succ, List.getElem?_cons_zero]) <;> rfl)
              case fw35i => rfl
              case fy35i => (intro w hSw; (try dsimp only at hSw); go_simp; (try with_reducible rfl))
              try simp only [Act.put, List.setIfInBounds_toArray, List.set_cons_zero, List.set_cons_succ]
              refine wpAnyH_take (i := 36) (oi := ?fo36i) (v := ?fv36i) ?fe36i (by kernel_rfl) (by kernel_rfl) (by kernel_rfl) (fun _ _ _ h => h) (Or.inl ⟨?fw36i, ?fy36i⟩) (by assumption) ?fr36i
              case fe36i => ((simp only [List.getElem?_toArray, List.getElem?_cons_succ, List.getElem?_cons_zero]) <;> rfl)
              case fw36i => rfl
              case fy36i => (intro w hSw; (try dsimp only at hSw); go_simp; (try with_reducible rfl))
              try simp only [Act.put, List.setIfInBounds_toArray, List.set_cons_zero, List.set_cons_succ]
              refine wpAnyH_take (i := 37) (oi := ?fo37i) (v := ?fv37i) ?fe37i (by kernel_rfl) (by kernel_rfl) (by kernel_rfl) (fun _ _ _ h => h) (Or.inl ⟨?fw37i, ?fy37i⟩) (by assumption) ?fr37i
              case fe37i => ((simp only [List.getElem?_toArray, List.getElem?_cons_succ, List.getElem?_cons_zero]) <;> rfl)
              case fw37i => rfl
              case fy37i => (intro w hSw; (try dsimp only at hSw); go_simp; (try with_reducible rfl))
              try simp only [Act.put, List.setIfInBounds_toArray, List.set_cons_zero, List.set_cons_succ]
              refine wpAnyH_done (by kernel_rfl) ?_ _
              refine NoPanic.normal ?_
              obtain ⟨w3, hw3⟩ : ∃ y, y = w2.drew := ⟨_, rfl⟩
              rw [← hw3]
              have b3 : Below w2.heap.size w2 w3 := by rw [hw3]; exact (Below.refl _ _).drew
              have HS3 := hid (HS2.out.of_below b3)
              have HB23 := hid b3
              have hxc0 := hid hxl
              clear hw3 b3 hcx hct hcf hjfl hxp' hmi hxz hx8' hxl
              go_wp2_with fail
              go_loopw [9, 10, 152] (fun l9 c10 i wr => ∃ m : Nat, m ≤ x.length ∧ i = .int .i64 m ∧ l9 = .string ⟨(lastK last (x.take m)).toArray⟩ ∧ c10 = .int .i64 ((acc.length : Int) + (m : Int)) ∧ Below w3.heap.size w3 wr ∧ ascB last (x.take m) ∧ ∀ p ∈ x.take m, hasL fl p.1 = true) (fun _ _ i _ => x.length - (intOf i).toNat)
              case atStart => exact ⟨0, by omega, rfl, rfl, by simp, Below.refl _ _, by simp [ascB], by simp⟩
              case round =>
                obtain ⟨m, hm, rfl, rfl, rfl, hb3, hasc, hall⟩ := hrel
                have HS4 := hid (HS3.out.of_below hb3)
                by_cases hmx : m < x.length
                case neg =>
                  obtain rfl : m = x.length := by omega
                  rw [List.take_length] at hasc hall
                  rw [List.take_length]
                  have HNX := hid (HCK.out.next hjb hjf HP.out ⟨HBLK.out hasc, hall⟩)
                  have HAL := hid (show (acc.length : Int) + (x.length : Int) = ((acc ++ x).length : Int) by rw [List.length_append]; omega)
                  clear hasc hall hb3
                  go_wp2_with fail
                  go_roundw
                  case rel => first
                    | exact ⟨j + 1, lastK last x, acc ++ x, by omega, by go_num, rfl, by rw [← HAL.out], HS4.out, HNX.out⟩
                    | ((repeat apply Exists.intro); exact ⟨⟨j + 1, lastK last x, acc ++ x, by omega, by go_num, rfl, by rw [← HAL.out], HS4.out, HNX.out⟩, rfl⟩)
                  case measure => simp [intOf]; omega
                case pos =>
                have hup : ∀ (t : Nat) (u : Value), (prC x[m])[t]? = some u → wr.cell? ⟨xb, m * 3 + t, none⟩ = some u := fun t u q =>
                  (hb3.cell (p := ⟨xb, m * 3 + t, none⟩) (Nat.lt_of_lt_of_le hxc0.out HB23.out.size)).trans ((HB23.out.cell (p := ⟨xb, m * 3 + t, none⟩) hxc0.out).trans (HXE.out m hmx t u q))
                have HASC := hid hasc
                have HALL := hid hall
                have HNEX := hid (ascB_at (last := last) hmx)
                have HLAT := hid (lastK_at (last := last) hmx)
                have HMEM := hid (List.getElem_mem hmx)
                have HTK := hid (List.take_succ_eq_append_getElem hmx)
                have hpok := (pairsL_iff.1 HP.out).1 x[m] (List.getElem_mem hmx)
                have hk6 := hpok.k64
                obtain ⟨lm, hlm⟩ : ∃ y, y = lastK last (x.take m) := ⟨_, rfl⟩
                rw [← hlm]
                rw [← hlm] at HNEX
                clear hlm hasc hall hpok
                obtain ⟨pm, hpm⟩ : ∃ y, y = x[m] := ⟨_, rfl⟩
                rw [← hpm] at hup HNEX HLAT HMEM HTK hk6
                clear hpm
                obtain ⟨kk, vv, gg⟩ := pm
                simp only at HNEX HLAT hk6
                have q0 : wr.cell? ⟨xb, m * 3, none⟩ = some (.string ⟨kk.toArray⟩) := hup 0 _ rfl
                have q1 : wr.cell? ⟨xb, m * 3 + 1, none⟩ = some (.string ⟨vv.toArray⟩) := hup 1 _ rfl
                have q2 : wr.cell? ⟨xb, m * 3 + 2, none⟩ = some (.bool gg) := hup 2 _ rfl
                clear hup
                have hmi' : (m : Int) < (x.length : Int) := by omega
                have hm0 : (0 : Int) ≤ (m : Int) := by omega
                have hm8 : (m : Int) ≤ 8 := by have := HX8.out; omega
                have hac : (acc.length : Int) ≤ 8388608 := by have := HCK.out.len; omega
                obtain ⟨W, hW⟩ : ∃ y, y = wr.alloc (.cells #[.string ⟨kk.toArray⟩, .string ⟨vv.toArray⟩, .bool gg] 70) := ⟨_, rfl⟩
                have bW : Below wr.heap.size wr W := by rw [hW]; exact (Below.refl _ _).alloc (Nat.le_refl _) _
                have hCW : W.heap[wr.heap.size]? = some (.cells #[.string ⟨kk.toArray⟩, .string ⟨vv.toArray⟩, .bool gg] 70 (0, 0)) := by rw [hW]; exact heap_alloc_new wr _
                have y0 : W.cell? ⟨wr.heap.size, 0, none⟩ = some (.string ⟨kk.toArray⟩) := by rw [cell_of_row _ _ 0 _ _ (0, 0) hCW]; rfl
                have HS5 := hid (HS4.out.of_below bW)
                have HOB := hid HS5.out.bl
                have HB5 := hid (hb3.trans (bW.mono hb3.size))
                obtain ⟨-, -, d2, -, -⟩ := HS5.out.cells
                have HW := hid hW
                clear hW bW hCW hb3
                by_cases hlt : ltB lm kk = true
                case neg =>
                  have hleq : (Op.bytesLess kk lm || kk == lm) = true := by
                    have := leB_eq kk lm
                    rw [this]; simpa using hlt
                  have HN := hid (HBAD.out (fun q => hlt (HNEX.out.1 (ascB_take q.1.2.2.2.2 (m + 1))).2))
                  clear hlt
                  go_wp2_with (rw [← HW.out])
                  refine wp_region_noPanic ?_
                  refine wp_region_held_drew (S := (fun w' => w'.cell? ⟨wr.heap.size, 0, none⟩ = some (.string ⟨kk.toArray⟩) ∧ w'.cell? ⟨g + 1, 2, none⟩ = some (.string ⟨fl.toArray⟩))) (by kernel_rfl) ?_ (fun hHeld => ?_)
                  · exact ⟨y0, d2⟩
                  refine wpAnyH_take (i := 0) (oi := ?fo0ip) (v := ?fv0ip) ?fe0ip (by kernel_rfl) (by kernel_rfl) (by kernel_rfl) (fun _ _ _ h => h) (Or.inl ⟨?fw0ip, ?fy0ip⟩) (by assumption) ?fr0ip
                  case fe0ip => ((simp only [List.getElem?_toArray, List.getElem?_cons_succ, List.getElem?_cons_zero]) <;> rfl)
                  case fw0ip => rfl
                  case fy0ip => (intro w hSw; (try dsimp only at hSw); go_simp; (try with_reducible rfl))
                  try simp only [Act.put, List.setIfInBounds_toArray, List.set_cons_zero, List.set_cons_succ]
                  refine wpAnyH_take (i := 1) (oi := ?fo1ip) (v := ?fv1ip) ?fe1ip (by kernel_rfl) (by kernel_rfl) (by kernel_rfl) (fun _ _ _ h => h) (Or.inl ⟨?fw1ip, ?fy1ip⟩) (by assumption) ?fr1ip
                  case fe1ip => ((simp only [List.getElem?_toArray, List.getElem?_cons_succ, List.getElem?_cons_zero]) <;> rfl)
                  case fw1ip => rfl
                  case fy1ip => (intro w hSw; (try dsimp only at hSw); go_simp; (try with_reducible rfl))
                  try simp only [Act.put, List.setIfInBounds_toArray, List.set_cons_zero, List.set_cons_succ]
                  refine wpAnyH_take (i := 2) (oi := ?fo2ip) (v := ?fv2ip) ?fe2ip (by kernel_rfl) (by kernel_rfl) (by kernel_rfl) (fun _ _ _ h => h) (Or.inl ⟨?fw2ip, ?fy2ip⟩) (by assumption) ?fr2ip
                  case fe2ip => ((simp only [List.getElem?_toArray, List.getElem?_cons_succ, List.getElem?_cons_zero]) <;> rfl)
                  case fw2ip => rfl
                  case fy2ip => (intro w hSw; (try dsimp only at hSw); go_simp; (try with_reducible rfl))
                  try simp only [Act.put, List.setIfInBounds_toArray, List.set_cons_zero, List.set_cons_succ]
                  refine wpAnyH_take (i := 3) (oi := ?fo3ip) (v := (.bool true)) ?fe3ip (by kernel_rfl) (by kernel_rfl) (by kernel_rfl) (fun _ _ _ h => h) (Or.inl ⟨?fw3ip, ?fy3ip⟩) (by assumption) ?fr3ip
                  case fe3ip => ((simp only [List.getElem?_toArray, List.getElem?_cons_succ, List.getElem?_cons_zero]) <;> rfl)
                  case fw3ip => rfl
                  case fy3ip => (intro w hSw; (try dsimp only at hSw); go_simp; (try (first | exact hleq | simpa using hleq)))
                  try simp only [Act.put, List.setIfInBounds_toArray, List.set_cons_zero, List.set_cons_succ]
                  refine wpAnyH_take (i := 4) (oi := ?fo4ip) (v := ?fv4ip) ?fe4ip (by kernel_rfl) (by kernel_rfl) (by kernel_rfl) (fun _ _ _ h => h) (Or.inl ⟨?fw4ip, ?fy4ip⟩) (by assumption) ?fr4ip
                  case fe4ip => ((simp only [List.getElem?_toArray, List.getElem?_cons_succ, List.getElem?_cons_zero]) <;> rfl)
                  case fw4ip => rfl
                  case fy4ip => (intro w hSw; (try dsimp only at hSw); go_simp; (try with_reducible rfl))
                  try simp only [Act.put, List.setIfInBounds_toArray, List.set_cons_zero, List.set_cons_succ]
                  refine wpAnyH_take (i := 5) (oi := ?fo5ip) (v := undef) ?fe5ip (by kernel_rfl) (by kernel_rfl) (by kernel_rfl) (fun _ _ _ h => h) (Or.inr ⟨?fw5ip, rfl⟩) (by assumption) ?fr5ip
                  case fe5ip => ((simp only [List.getElem?_toArray, List.getElem?_cons_succ, List.getElem?_cons_zero]) <;> rfl)
                  case fw5ip => rfl
                  try simp only [Act.put, List.setIfInBounds_toArray, List.set_cons_zero, List.set_cons_succ]
                  refine wpAnyH_take (i := 6) (oi := ?fo6ip) (v := undef) ?fe6ip (by kernel_rfl) (by kernel_rfl) (by kernel_rfl) (fun _ _ _ h => h) (Or.inr ⟨?fw6ip, rfl⟩) (by assumption) ?fr6ip
                  case fe6ip => ((simp only [List.getElem?_toArray, List.getElem?_cons_succ, List.getElem?_cons_zero]) <;> rfl)
                  case fw6ip => rfl
                  try simp only [Act.put, List.setIfInBounds_toArray, List.set_cons_zero, List.set_cons_succ]
                  refine wpAnyH_take (i := 7) (oi := ?fo7ip) (v := undef) ?fe7ip (by kernel_rfl) (by kernel_rfl) (by kernel_rfl) (fun _ _ _ h => h) (Or.inr ⟨?fw7ip, rfl⟩) (by assumption) ?fr7ip
                  case fe7ip => ((simp only [List.getElem?_toArray, List.getElem?_cons_succ, List.getElem?_cons_zero]) <;> rfl)
                  case fw7ip => rfl
                  try simp only [Act.put, List.setIfInBounds_toArray, List.set_cons_zero, List.set_cons_succ]
                  refine wpAnyH_take (i := 8) (oi := ?fo8ip) (v := undef) ?fe8ip (by kernel_rfl) (by kernel_rfl) (by kernel_rfl) (fun _ _ _ h => h) (Or.inr ⟨?fw8ip, rfl⟩) (by assumption) ?fr8ip
                  case fe8ip => ((simp only [List.getElem?_toArray, List.getElem?_cons_succ, List.getElem?_cons_zero]) <;> rfl)
                  case fw8ip => rfl
                  try simp only [Act.put, List.setIfInBounds_toArray, List.set_cons_zero, List.set_cons_succ]
                  refine wpAnyH_take (i := 9) (oi := ?fo9ip) (v := undef) ?fe9ip (by kernel_rfl) (by kernel_rfl) (by kernel_rfl) (fun _ _ _ h => h) (Or.inr ⟨?fw9ip, rfl⟩) (by assumption) ?fr9ip
                  case fe9ip => ((simp only [List.getElem?_toArray, List.getElem?_cons_succ, List.getElem?_cons_zero]) <;> rfl)
                  case fw9ip => rfl
                  try simp only [Act.put, List.setIfInBounds_toArray, List.set_cons_zero, List.set_cons_succ]
                  refine wpAnyH_take (i := 10) (oi := ?fo10ip) (v := undef) ?fe10ip (by kernel_rfl) (by kernel_rfl) (by kernel_rfl) (fun _ _ _ h => h) (Or.inr ⟨?fw10ip, rfl⟩) (by assumption) ?fr10ip
                  case fe10ip => ((simp only [List.getElem?_toArray, List.getElem?_cons_succ, List.getElem?_cons_zero]) <;> rfl)
                  case fw10ip => rfl
                  try simp only [Act.put, List.setIfInBounds_toArray, List.set_cons_zero, List.set_cons_succ]
                  refine wpAnyH_take (i := 11) (oi := ?fo11ip) (v := undef) ?fe11ip (by kernel_rfl) (by kernel_rfl) (by kernel_rfl) (fun _ _ _ h => h) (Or.inr ⟨?fw11ip, rfl⟩) (by assumption) ?fr11ip
                  case fe11ip => ((simp only [List.getElem?_toArray, List.getElem?_cons_succ, List.getElem?_cons_zero]) <;> rfl)
                  case fw11ip => rfl
                  try simp only [Act.put, List.setIfInBounds_toArray, List.set_cons_zero, List.set_cons_succ]
                  refine wpAnyH_take (i := 12) (oi := ?fo12ip) (v := undef) ?fe12ip (by kernel_rfl) (by kernel_rfl) (by kernel_rfl) (fun _ _ _ h => h) (Or.inr ⟨?fw12ip, rfl⟩) (by assumption) ?fr12ip
                  case fe12ip => ((simp only [List.getElem?_toArray, List.getElem?_cons_succ, List.getElem?_cons_zero]) <;> rfl)
                  case fw12ip => rfl
                  try simp only [Act.put, List.setIfInBounds_toArray, List.set_cons_zero, List.set_cons_succ]
                  refine wpAnyH_take (i := 13) (oi := ?fo13ip) (v := ?fv13ip) ?fe13ip (by kernel_rfl) (by kernel_rfl) (by kernel_rfl) (fun _ _ _ h => h) (Or.inl ⟨?fw13ip, ?fy13ip⟩) (by assumption) ?fr13ip
                  case fe13ip => ((simp only [List.getElem?_toArray, List.getElem?_cons_succ, List.getElem?_cons_zero]) <;> rfl)
                  case fw13ip => rfl
                  case fy13ip => (intro w hSw; (try dsimp only at hSw); go_simp; (try with_reducible rfl))
                  try simp only [Act.put, List.setIfInBounds_toArray, List.set_cons_zero, List.set_cons_succ]
                  refine wpAnyH_done (by kernel_rfl) ?_ _
                  refine NoPanic.normal ?_
                  have HOB := hid HOB.out.drew
                  go_wp2_with fail
                  go_ret2
                  exact ⟨by rw [HN.out]; rfl, HBW.out _ HOB.out⟩
                case pos =>
                have hleq : (Op.bytesLess kk lm || kk == lm) = false := by
                  have := leB_eq kk lm
                  rw [this]; simpa using hlt
                have HLT := hid hlt
                clear hlt
                go_wp2_with (rw [← HW.out])
                refine wp_region_noPanic ?_
                refine wp_region_held_drew (S := (fun w' => w'.cell? ⟨wr.heap.size, 0, none⟩ = some (.string ⟨kk.toArray⟩) ∧ w'.cell? ⟨g + 1, 2, none⟩ = some (.string ⟨fl.toArray⟩))) (by kernel_rfl) ?_ (fun hHeld => ?_)
                · exact ⟨y0, d2⟩
                refine wpAnyH_take (i := 0) (oi := ?fo0iq) (v := ?fv0iq) ?fe0iq (by kernel_rfl) (by kernel_rfl) (by kernel_rfl) (fun _ _ _ h => h) (Or.inl ⟨?fw0iq, ?fy0iq⟩) (by assumption) ?fr0iq
                case fe0iq => ((simp only [List.getElem?_toArray, List.getElem?_cons_succ, List.getElem?_cons_zero]) <;> rfl)
                case fw0iq => rfl
                case fy0iq => (intro w hSw; (try dsimp only at hSw); go_simp; (try with_reducible rfl))
                try simp only [Act.put, List.setIfInBounds_toArray, List.set_cons_zero, List.set_cons_succ]
                refine wpAnyH_take (i := 1) (oi := ?fo1iq) (v := ?fv1iq) ?fe1iq (by kernel_rfl) (by kernel_rfl) (by kernel_rfl) (fun _ _ _ h => h) (Or.inl ⟨?fw1iq, ?fy1iq⟩) (by assumption) ?fr1iq
                case fe1iq => ((simp only [List.getElem?_toArray, List.getElem?_cons_succ, List.getElem?_cons_zero]) <;> rfl)
                case fw1iq => rfl
                case fy1iq => (intro w hSw; (try dsimp only at hSw); go_simp; (try with_reducible rfl))
                try simp only [Act.put, List.setIfInBounds_toArray, List.set_cons_zero, List.set_cons_succ]
                refine wpAnyH_take (i := 2) (oi := ?fo2iq) (v := ?fv2iq) ?fe2iq (by kernel_rfl) (by kernel_rfl) (by kernel_rfl) (fun _ _ _ h => h) (Or.inl ⟨?fw2iq, ?fy2iq⟩) (by assumption) ?fr2iq
                case fe2iq => ((simp only [List.getElem?_toArray, List.getElem?_cons_succ, List.getElem?_cons_zero]) <;> rfl)
                case fw2iq => rfl
                case fy2iq => (intro w hSw; (try dsimp only at hSw); go_simp; (try with_reducible rfl))
                try simp only [Act.put, List.setIfInBounds_toArray, List.set_cons_zero, List.set_cons_succ]
                refine wpAnyH_take (i := 3) (oi := ?fo3iq) (v := (.bool false)) ?fe3iq (by kernel_rfl) (by kernel_rfl) (by kernel_rfl) (fun _ _ _ h => h) (Or.inl ⟨?fw3iq, ?fy3iq⟩) (by assumption) ?fr3iq
                case fe3iq => ((simp only [List.getElem?_toArray, List.getElem?_cons_succ, List.getElem?_cons_zero]) <;> rfl)
                case fw3iq => rfl
                case fy3iq => (intro w hSw; (try dsimp only at hSw); go_simp; (try (first | exact hleq | simpa using hleq)))
                try simp only [Act.put, List.setIfInBounds_toArray, List.set_cons_zero, List.set_cons_succ]
                refine wpAnyH_take (i := 4) (oi := ?fo4iq) (v := ?fv4iq) ?fe4iq (by kernel_rfl) (by kernel_rfl) (by kernel_rfl) (fun _ _ _ h => h) (Or.inl ⟨?fw4iq, ?fy4iq⟩) (by assumption) ?fr4iq
                case fe4iq => ((simp only [List.getElem?_toArray, List.getElem?_cons_succ, List.getElem?_cons_zero]) <;> rfl)
                case fw4iq => rfl
                case fy4iq => (intro w hSw; (try dsimp only at hSw); go_simp; (try with_reducible rfl))
                try simp only [Act.put, List.setIfInBounds_toArray, List.set_cons_zero, List.set_cons_succ]
                refine wpAnyH_take (i := 5) (oi := ?fo5iq) (v := ?fv5iq) ?fe5iq (by kernel_rfl) (by kernel_rfl) (by kernel_rfl) (fun _ _ _ h => h) (Or.inl ⟨?fw5iq, ?fy5iq⟩) (by assumption) ?fr5iq
                case fe5iq => ((simp only [List.getElem?_toArray, List.getElem?_cons_succ, List.getElem?_cons_zero]) <;> rfl)
                case fw5iq => rfl
                case fy5iq => (intro w hSw; (try dsimp only at hSw); go_simp; (try with_reducible rfl))
                try simp only [Act.put, List.setIfInBounds_toArray, List.set_cons_zero, List.set_cons_succ]
                refine wpAnyH_take (i := 6) (oi := ?fo6iq) (v := ?fv6iq) ?fe6iq (by kernel_rfl) (by kernel_rfl) (by kernel_rfl) (fun _ _ _ h => h) (Or.inl ⟨?fw6iq, ?fy6iq⟩) (by assumption) ?fr6iq
                case fe6iq => ((simp only [List.getElem?_toArray, List.getElem?_cons_succ, List.getElem?_cons_zero]) <;> rfl)
                case fw6iq => rfl
                case fy6iq => (intro w hSw; (try dsimp only at hSw); go_simp; (try with_reducible rfl))
                try simp only [Act.put, List.setIfInBounds_toArray, List.set_cons_zero, List.set_cons_succ]
                refine wpAnyH_take (i := 7) (oi := ?fo7iq) (v := ?fv7iq) ?fe7iq (by kernel_rfl) (by kernel_rfl) (by kernel_rfl) (fun _ _ _ h => h) (Or.inl ⟨?fw7iq, ?fy7iq⟩) (by assumption) ?fr7iq
                case fe7iq => ((simp only [List.getElem?_toArray, List.getElem?_cons_succ, List.getElem?_cons_zero]) <;> rfl)
                case fw7iq => rfl
                case fy7iq => (intro w hSw; (try dsimp only at hSw); go_simp; (try with_reducible rfl))
                try simp only [Act.put, List.setIfInBounds_toArray, List.set_cons_zero, List.set_cons_succ]
                refine wpAnyH_take (i := 8) (oi := ?fo8iq) (v := ?fv8iq) ?fe8iq (by kernel_rfl) (by kernel_rfl) (by kernel_rfl) (fun _ _ _ h => h) (Or.inl ⟨?fw8iq, ?fy8iq⟩) (by assumption) ?fr8iq
                case fe8iq => ((simp only [List.getElem?_toArray, List.getElem?_cons_succ, List.getElem?_cons_zero]) <;> rfl)
                case fw8iq => rfl
                case fy8iq => (intro w hSw; (try dsimp only at hSw); go_simp; (try with_reducible rfl))
                try simp only [Act.put, List.setIfInBounds_toArray, List.set_cons_zero, List.set_cons_succ]
                refine wpAnyH_take (i := 9) (oi := ?fo9iq) (v := ?fv9iq) ?fe9iq (by kernel_rfl) (by kernel_rfl) (by kernel_rfl) (fun _ _ _ h => h) (Or.inl ⟨?fw9iq, ?fy9iq⟩) (by assumption) ?fr9iq
                case fe9iq => ((simp only [List.getElem?_toArray, List.getElem?_cons_succ, List.getElem?_cons_zero]) <;> rfl)
                case fw9iq => rfl
                case fy9iq => (intro w hSw; (try dsimp only at hSw); go_simp; (try with_reducible rfl))
                try simp only [Act.put, List.setIfInBounds_toArray, List.set_cons_zero, List.set_cons_succ]
                refine wpAnyH_take (i := 10) (oi := ?fo10iq) (v := ?fv10iq) ?fe10iq (by kernel_rfl) (by kernel_rfl) (by kernel_rfl) (fun _ _ _ h => h) (Or.inl ⟨?fw10iq, ?fy10iq⟩) (by assumption) ?fr10iq
                case fe10iq => ((simp only [List.getElem?_toArray, List.getElem?_cons_succ, List.getElem?_cons_zero]) <;> rfl)
                case fw10iq => rfl
                case fy10iq => (intro w hSw; (try dsimp only at hSw); go_simp; (try with_reducible rfl))
                try simp only [Act.put, List.setIfInBounds_toArray, List.set_cons_zero, List.set_cons_succ]
                refine wpAnyH_ready (rs := [11]) (by kernel_rfl) (by simp) ?_
                refine AllReadyH.cons (o := ?fo11iq) ?fe11iq (fun K hK => ?fc11iq) ?fn11iq
                case fn11iq => exact AllReadyH.nil
                case fe11iq => ((simp only [List.getElem?_toArray, List.getElem?_cons_succ, List.getElem?_cons_zero]) <;> rfl)
                go_simp
                go_at_call 55
                refine (has_any fl kk (by unfold maxLen; omega) (by unfold maxLen; omega) _).mono ?_
                rintro _ wz ⟨rfl, hwz⟩
                rw [hwz]
                clear hwz wz
                refine hK.out _ _ ?_ (fun hHeld11 => ?_)
                · exact ⟨y0, d2⟩
                clear hK K
                try simp only [Act.put, List.setIfInBounds_toArray, List.set_cons_zero, List.set_cons_succ]
                refine wpAnyH_take (i := 12) (oi := ?fo12iq) (v := ?fv12iq) ?fe12iq (by kernel_rfl) (by kernel_rfl) (by kernel_rfl) (fun _ _ _ h => h) (Or.inl ⟨?fw12iq, ?fy12iq⟩) (by assumption) ?fr12iq
                case fe12iq => ((simp only [List.getElem?_toArray, List.getElem?_cons_succ, List.getElem?_cons_zero]) <;> rfl)
                case fw12iq => rfl
                case fy12iq => (intro w hSw; (try dsimp only at hSw); go_simp; (try with_reducible rfl))
                try simp only [Act.put, List.setIfInBounds_toArray, List.set_cons_zero, List.set_cons_succ]
                refine wpAnyH_take (i := 13) (oi := ?fo13iq) (v := ?fv13iq) ?fe13iq (by kernel_rfl) (by kernel_rfl) (by kernel_rfl) (fun _ _ _ h => h) (Or.inl ⟨?fw13iq, ?fy13iq⟩) (by assumption) ?fr13iq
                case fe13iq => ((simp only [List.getElem?_toArray, List.getElem?_cons_succ, List.getElem?_cons_zero]) <;> rfl)
                case fw13iq => rfl
                case fy13iq => (intro w hSw; (try dsimp only at hSw); go_simp; (try with_reducible rfl))
                try simp only [Act.put, List.setIfInBounds_toArray, List.set_cons_zero, List.set_cons_succ]
                refine wpAnyH_done (by kernel_rfl) ?_ _
                refine NoPanic.normal ?_
                have z0 : W.drew.cell? ⟨wr.heap.size, 0, none⟩ = some (.string ⟨kk.toArray⟩) := y0
                cases hhs : hasL fl kk with
                | false =>
                  have HN := hid (HBAD.out (fun q => by have := q.2 _ HMEM.out; rw [hhs] at this; cases this))
                  have HOB := hid HOB.out.drew
                  clear hhs y0 q0 q1 q2 hleq z0
                  go_wp2_with fail
                  go_ret2
                  exact ⟨by rw [HN.out]; rfl, HBW.out _ HOB.out⟩
                | true =>
                  have HB6 := hid HB5.out.drew
                  have HAS := hid (HNEX.out.2 ⟨HASC.out, HLT.out⟩)
                  have HHS := hid (show ∀ p ∈ x.take (m + 1), hasL fl p.1 = true from fun p hp => by
                    rw [HTK.out] at hp
                    rcases List.mem_append.1 hp with z | z
                    · exact HALL.out p z
                    · simp only [List.mem_singleton] at z
                      subst z; exact hhs)
                  clear hhs hleq q0 q1 q2
                  go_wp2_with fail
                  go_roundw
                  case rel => first
                    | exact ⟨m + 1, by omega, by go_num, by rw [HLAT.out], by go_num, HB6.out, HAS.out, HHS.out⟩
                    | ((repeat apply Exists.intro); exact ⟨⟨m + 1, by omega, by go_num, by rw [HLAT.out], by go_num, HB6.out, HAS.out, HHS.out⟩, rfl⟩)
                  case measure => simp [intOf]; omega
            · clear hmo2
              go_wp2_with fail
              refine wp_region_noPanic ?_
              refine wp_region_held_drew (S := (fun w' => w'.cell? ⟨xb, 0, none⟩ = some (.string ⟨x0.toArray⟩) ∧ w'.cell? ⟨g + 1, 0, none⟩ = some (.slice (some ⟨fb, 0, none⟩) fs.length fc) ∧ w'.cell? ⟨fb, j, none⟩ = some (.string ⟨x0.toArray⟩))) (by kernel_rfl) ?_ (fun hHeld => ?_)
              · exact ⟨hcx, hct, hcf⟩
              refine wpAnyH_take (i := 0) (oi := ?fo0h) (v := ?fv0h) ?fe0h (by kernel_rfl) (by kernel_rfl) (by kernel_rfl) (fun _ _ _ h => h) (Or.inl ⟨?fw0h, ?fy0h⟩) (by assumption) ?fr0h
              case fe0h => ((simp only [List.getElem?_toArray, List.getElem?_cons_succ, List.getElem?_cons_zero]) <;> rfl)
              case fw0h => rfl
              case fy0h => (intro w hSw; (try dsimp only at hSw); go_simp; (try with_reducible rfl))
              try simp only [Act.put, List.setIfInBounds_toArray, List.set_cons_zero, List.set_cons_succ]
              refine wpAnyH_take (i := 1) (oi := ?fo1h) (v := ?fv1h) ?fe1h (by kernel_rfl) (by kernel_rfl) (by kernel_rfl) (fun _ _ _ h => h) (Or.inl ⟨?fw1h, ?fy1h⟩) (by assumption) ?fr1h
              case fe1h => ((simp only [List.getElem?_toArray, List.getElem?_cons_succ, List.getElem?_cons_zero]) <;> rfl)
              case fw1h => rfl
              case fy1h => (intro w hSw; (try dsimp only at hSw); go_simp; (try with_reducible rfl))
              try simp only [Act.put, List.setIfInBounds_toArray, List.set_cons_zero, List.set_cons_succ]
              refine wpAnyH_take (i := 2) (oi := ?fo2h) (v := ?fv2h) ?fe2h (by kernel_rfl) (by kernel_rfl) (by kernel_rfl) (fun _ _ _ h => h) (Or.inl ⟨?fw2h, ?fy2h⟩) (by assumption) ?fr2h
              case fe2h => ((simp only [List.getElem?_toArray, List.getElem?_cons_succ, List.getElem?_cons_zero]) <;> rfl)
              case fw2h => rfl
              case fy2h => (intro w hSw; (try dsimp only at hSw); go_simp; (try with_reducible rfl))
              try simp only [Act.put, List.setIfInBounds_toArray, List.set_cons_zero, List.set_cons_succ]
              refine wpAnyH_take (i := 3) (oi := ?fo3h) (v := ?fv3h) ?fe3h (by kernel_rfl) (by kernel_rfl) (by kernel_rfl) (fun _ _ _ h => h) (Or.inl ⟨?fw3h, ?fy3h⟩) (by assumption) ?fr3h
              case fe3h => ((simp only [List.getElem?_toArray, List.getElem?_cons_succ, List.getElem?_cons_zero]) <;> rfl)
              case fw3h => rfl
              case fy3h => (intro w hSw; (try dsimp only at hSw); go_simp; (try with_reducible rfl))
              try simp only [Act.put, List.setIfInBounds_toArray, List.set_cons_zero, List.set_cons_succ]
              refine wpAnyH_take (i := 4) (oi := ?fo4h) (v := ?fv4h) ?fe4h (by kernel_rfl) (by kernel_rfl) (by kernel_rfl) (fun _ _ _ h => h) (Or.inl ⟨?fw4h, ?fy4h⟩) (by assumption) ?fr4h
              case fe4h => ((simp only [List.getElem?_toArray, List.getElem?_cons_succ, List.getElem?_cons_zero]) <;> rfl)
              case fw4h => rfl
              case fy4h => (intro w hSw; (try dsimp only at hSw); go_simp; (try with_reducible rfl))
              try simp only [Act.put, List.setIfInBounds_toArray, List.set_cons_zero, List.set_cons_succ]
              refine wpAnyH_take (i := 5) (oi := ?fo5h) (v := (.bool false)) ?fe5h (by kernel_rfl) (by kernel_rfl) (by kernel_rfl) (fun _ _ _ h => h) (Or.inl ⟨?fw5h, ?fy5h⟩) (by assumption) ?fr5h
              case fe5h => ((simp only [List.getElem?_toArray, List.getElem?_cons_succ, List.getElem?_cons_zero]) <;> rfl)
              case fw5h => rfl
              case fy5h => (intro w hSw; (try dsimp only at hSw); go_simp; (try (first | omega | (simp; done) | (simp; omega))))
              try simp only [Act.put, List.setIfInBounds_toArray, List.set_cons_zero, List.set_cons_succ]
              refine wpAnyH_take (i := 6) (oi := ?fo6h) (v := ?fv6h) ?fe6h (by kernel_rfl) (by kernel_rfl) (by kernel_rfl) (fun _ _ _ h => h) (Or.inl ⟨?fw6h, ?fy6h⟩) (by assumption) ?fr6h
              case fe6h => ((simp only [List.getElem?_toArray, List.getElem?_cons_succ, List.getElem?_cons_zero]) <;> rfl)
              case fw6h => rfl
              case fy6h => (intro w hSw; (try dsimp only at hSw); go_simp; (try with_reducible rfl))
              try simp only [Act.put, List.setIfInBounds_toArray, List.set_cons_zero, List.set_cons_succ]
              refine wpAnyH_take (i := 7) (oi := ?fo7h) (v := ?fv7h) ?fe7h (by kernel_rfl) (by kernel_rfl) (by kernel_rfl) (fun _ _ _ h => h) (Or.inl ⟨?fw7h, ?fy7h⟩) (by assumption) ?fr7h
              case fe7h => ((simp only [List.getElem?_toArray, List.getElem?_cons_succ, List.getElem?_cons_zero]) <;> rfl)
              case fw7h => rfl
              case fy7h => (intro w hSw; (try dsimp only at hSw); go_simp; (try with_reducible rfl))
              try simp only [Act.put, List.setIfInBounds_toArray, List.set_cons_zero, List.set_cons_succ]
              refine wpAnyH_take (i := 8) (oi := ?fo8h) (v := ?fv8h) ?fe8h (by kernel_rfl) (by kernel_rfl) (by kernel_rfl) (fun _ _ _ h => h) (Or.inl ⟨?fw8h, ?fy8h⟩) (by assumption) ?fr8h
              case fe8h => ((simp only [List.getElem?_toArray, List.getElem?_cons_succ, List.getElem?_cons_zero]) <;> rfl)
              case fw8h => rfl
              case fy8h => (intro w hSw; (try dsimp only at hSw); go_simp; (try with_reducible rfl))
              try simp only [Act.put, List.setIfInBounds_toArray, List.set_cons_zero, List.set_cons_succ]
              refine wpAnyH_take (i := 9) (oi := ?fo9h) (v := ?fv9h) ?fe9h (by kernel_rfl) (by kernel_rfl) (by kernel_rfl) (fun _ _ _ h => h) (Or.inl ⟨?fw9h, ?fy9h⟩) (by assumption) ?fr9h
              case fe9h => ((simp only [List.getElem?_toArray, List.getElem?_cons_succ, List.getElem?_cons_zero]) <;> rfl)
              case fw9h => rfl
              case fy9h => (intro w hSw; (try dsimp only at hSw); go_simp; (try with_reducible rfl))
              try simp only [Act.put, List.setIfInBounds_toArray, List.set_cons_zero, List.set_cons_succ]
              refine wpAnyH_take (i := 10) (oi := ?fo10h) (v := (.bool false)) ?fe10h (by kernel_rfl) (by kernel_rfl) (by kernel_rfl) (fun _ _ _ h => h) (Or.inl ⟨?fw10h, ?fy10h⟩) (by assumption) ?fr10h
              case fe10h => ((simp only [List.getElem?_toArray, List.getElem?_cons_succ, List.getElem?_cons_zero]) <;> rfl)
              case fw10h => rfl
              case fy10h => (intro w hSw; (try dsimp only at hSw); go_simp; (try (first | omega | (simp; done) | (simp; omega))))
              try simp only [Act.put, List.setIfInBounds_toArray, List.set_cons_zero, List.set_cons_succ]
              refine wpAnyH_take (i := 11) (oi := ?fo11h) (v := ?fv11h) ?fe11h (by kernel_rfl) (by kernel_rfl) (by kernel_rfl) (fun _ _ _ h => h) (Or.inl ⟨?fw11h, ?fy11h⟩) (by assumption) ?fr11h
              case fe11h => ((simp only [List.getElem?_toArray, List.getElem?_cons_succ, List.getElem?_cons_zero]) <;> rfl)
              case fw11h => rfl
              case fy11h => (intro w hSw; (try dsimp only at hSw); go_simp; (try with_reducible rfl))
              try simp only [Act.put, List.setIfInBounds_toArray, List.set_cons_zero, List.set_cons_succ]
              refine wpAnyH_take (i := 12) (oi := ?fo12h) (v := ?fv12h) ?fe12h (by kernel_rfl) (by kernel_rfl) (by kernel_rfl) (fun _ _ _ h => h) (Or.inl ⟨?fw12h, ?fy12h⟩) (by assumption) ?fr12h
              case fe12h => ((simp only [List.getElem?_toArray, List.getElem?_cons_succ, List.getElem?_cons_zero]) <;> rfl)
              case fw12h => rfl
              case fy12h => (intro w hSw; (try dsimp only at hSw); go_simp; (try with_reducible rfl))
              try simp only [Act.put, List.setIfInBounds_toArray, List.set_cons_zero, List.set_cons_succ]
              refine wpAnyH_take (i := 13) (oi := ?fo13h) (v := ?fv13h) ?fe13h (by kernel_rfl) (by kernel_rfl) (by kernel_rfl) (fun _ _ _ h => h) (Or.inl ⟨?fw13h, ?fy13h⟩) (by assumption) ?fr13h
              case fe13h => ((simp only [List.getElem?_toArray, List.getElem?_cons_succ, List.getElem?_cons_zero]) <;> rfl)
              case fw13h => rfl
              case fy13h => (intro w hSw; (try dsimp only at hSw); go_simp; (try with_reducible rfl))
              try simp only [Act.put, List.setIfInBounds_toArray, List.set_cons_zero, List.set_cons_succ]
              refine wpAnyH_take (i := 14) (oi := ?fo14h) (v := ?fv14h) ?fe14h (by kernel_rfl) (by kernel_rfl) (by kernel_rfl) (fun _ _ _ h => h) (Or.inl ⟨?fw14h, ?fy14h⟩) (by assumption) ?fr14h
              case fe14h => ((simp only [List.getElem?_toArray, List.getElem?_cons_succ, List.getElem?_cons_zero]) <;> rfl)
              case fw14h => rfl
              case fy14h => (intro w hSw; (try dsimp only at hSw); go_simp; (try with_reducible rfl))
              try simp only [Act.put, List.setIfInBounds_toArray, List.set_cons_zero, List.set_cons_succ]
              refine wpAnyH_take (i := 15) (oi := ?fo15h) (v := ?fv15h) ?fe15h (by kernel_rfl) (by kernel_rfl) (by kernel_rfl) (fun _ _ _ h => h) (Or.inl ⟨?fw15h, ?fy15h⟩) (by assumption) ?fr15h
              case fe15h => ((simp only [List.getElem?_toArray, List.getElem?_cons_succ, List.getElem?_cons_zero]) <;> rfl)
              case fw15h => rfl
              case fy15h => (intro w hSw; (try dsimp only at hSw); go_simp; (try with_reducible rfl))
              try simp only [Act.put, List.setIfInBounds_toArray, List.set_cons_zero, List.set_cons_succ]
              refine wpAnyH_take (i := 16) (oi := ?fo16h) (v := ?fv16h) ?fe16h (by kernel_rfl) (by kernel_rfl) (by kernel_rfl) (fun _ _ _ h => h) (Or.inl ⟨?fw16h, ?fy16h⟩) (by assumption) ?fr16h
              case fe16h => ((simp only [List.getElem?_toArray, List.getElem?_cons_succ, List.getElem?_cons_zero]) <;> rfl)
              case fw16h => rfl
              case fy16h => (intro w hSw; (try dsimp only at hSw); go_simp; (try with_reducible rfl))
              try simp only [Act.put, List.setIfInBounds_toArray, List.set_cons_zero, List.set_cons_succ]
              refine wpAnyH_take (i := 17) (oi := ?fo17h) (v := (.bool false)) ?fe17h (by kernel_rfl) (by kernel_rfl) (by kernel_rfl) (fun _ _ _ h => h) (Or.inl ⟨?fw17h, ?fy17h⟩) (by assumption) ?fr17h
              case fe17h => ((simp only [List.getElem?_toArray, List.getElem?_cons_succ, List.getElem?_cons_zero]) <;> rfl)
              case fw17h => rfl
              case fy17h => (intro w hSw; (try dsimp only at hSw); go_simp; (try (first | omega | (simp; done) | (simp; omega))))
              try simp only [Act.put, List.setIfInBounds_toArray, List.set_cons_zero, List.set_cons_succ]
              refine wpAnyH_take (i := 18) (oi := ?fo18h) (v := ?fv18h) ?fe18h (by kernel_rfl) (by kernel_rfl) (by kernel_rfl) (fun _ _ _ h => h) (Or.inl ⟨?fw18h, ?fy18h⟩) (by assumption) ?fr18h
              case fe18h => ((simp only [List.getElem?_toArray, List.getElem?_cons_succ, List.getElem?_cons_zero]) <;> rfl)
              case fw18h => rfl
              case fy18h => (intro w hSw; (try dsimp only at hSw); go_simp; (try with_reducible rfl))
              try simp only [Act.put, List.setIfInBounds_toArray, List.set_cons_zero, List.set_cons_succ]
              refine wpAnyH_take (i := 19) (oi := ?fo19h) (v := undef) ?fe19h (by kernel_rfl) (by kernel_rfl) (by kernel_rfl) (fun _ _ _ h => h) (Or.inr ⟨?fw19h, rfl⟩) (by assumption) ?fr19h
              case fe19h => ((simp only [List.getElem?_toArray, List.getElem?_cons_succ, List.getElem?_cons_zero]) <;> rfl)
              case fw19h => rfl
              try simp only [Act.put, List.setIfInBounds_toArray, List.set_cons_zero, List.set_cons_succ]
              refine wpAnyH_take (i := 20) (oi := ?fo20h) (v := undef) ?fe20h (by kernel_rfl) (by kernel_rfl) (by kernel_rfl) (fun _ _ _ h => h) (Or.inr ⟨?fw20h, rfl⟩) (by assumption) ?fr20h
              case fe20h => ((simp only [List.getElem?_toArray, List.getElem?_cons_succ, List.getElem?_cons_zero]) <;> rfl)
              case fw20h => rfl
              try simp only [Act.put, List.setIfInBounds_toArray, List.set_cons_zero, List.set_cons_succ]
              refine wpAnyH_take (i := 21) (oi := ?fo21h) (v := undef) ?fe21h (by kernel_rfl) (by kernel_rfl) (by kernel_rfl) (fun _ _ _ h => h) (Or.inr ⟨?fw21h, rfl⟩) (by assumption) ?fr21h
              case fe21h => ((simp only [List.getElem?_toArray, List.getElem?_cons_succ, List.getElem?_cons_zero]) <;> rfl)
              case fw21h => rfl
              try simp only [Act.put, List.setIfInBounds_toArray, List.set_cons_zero, List.set_cons_succ]
              refine wpAnyH_take (i := 22) (oi := ?fo22h) (v := ?fv22h) ?fe22h (by kernel_rfl) (by kernel_rfl) (by kernel_rfl) (fun _ _ _ h => h) (Or.inl ⟨?fw22h, ?fy22h⟩) (by assumption) ?fr22h
              case fe22h => ((simp only [List.getElem?_toArray, List.getElem?_cons_succ, List.getElem?_cons_zero]) <;> rfl)
              case fw22h => rfl
              case fy22h => (intro w hSw; (try dsimp only at hSw); go_simp; (try with_reducible rfl))
              try simp only [Act.put, List.setIfInBounds_toArray, List.set_cons_zero, List.set_cons_succ]
              refine wpAnyH_take (i := 23) (oi := ?fo23h) (v := ?fv23h) ?fe23h (by kernel_rfl) (by kernel_rfl) (by kernel_rfl) (fun _ _ _ h => h) (Or.inl ⟨?fw23h, ?fy23h⟩) (by assumption) ?fr23h
              case fe23h => ((simp only [List.getElem?_toArray, List.getElem?_cons_succ, List.getElem?_cons_zero]) <;> rfl)
              case fw23h => rfl
              case fy23h => (intro w hSw; (try dsimp only at hSw); go_simp; (try with_reducible rfl))
              try simp only [Act.put, List.setIfInBounds_toArray, List.set_cons_zero, List.set_cons_succ]
              refine wpAnyH_take (i := 24) (oi := ?fo24h) (v := ?fv24h) ?fe24h (by kernel_rfl) (by kernel_rfl) (by kernel_rfl) (fun _ _ _ h => h) (Or.inl ⟨?fw24h, ?fy24h⟩) (by assumption) ?fr24h
              case fe24h => ((simp only [List.getElem?_toArray, List.getElem?_cons_succ, List.getElem?_cons_zero]) <;> rfl)
              case fw24h => rfl
              case fy24h => (intro w hSw; (try dsimp only at hSw); go_simp; (try with_reducible rfl))
              try simp only [Act.put, List.setIfInBounds_toArray, List.set_cons_zero, List.set_cons_succ]
              refine wpAnyH_take (i := 25) (oi := ?fo25h) (v := ?fv25h) ?fe25h (by kernel_rfl) (by kernel_rfl) (by kernel_rfl) (fun _ _ _ h => h) (Or.inl ⟨?fw25h, ?fy25h⟩) (by assumption) ?fr25h
              case fe25h => ((simp only [List.getElem?_toArray, List.getElem?_cons_succ, List.getElem?_cons_zero]) <;> rfl)
              case fw25h => rfl
              case fy25h => (intro w hSw; (try dsimp only at hSw); go_simp; (try with_reducible rfl))
              try simp only [Act.put, List.setIfInBounds_toArray, List.set_cons_zero, List.set_cons_succ]
              refine wpAnyH_take (i := 26) (oi := ?fo26h) (v := ?fv26h) ?fe26h (by kernel_rfl) (by kernel_rfl) (by kernel_rfl) (fun _ _ _ h => h) (Or.inl ⟨?fw26h, ?fy26h⟩) (by assumption) ?fr26h
              case fe26h => ((simp only [List.getElem?_toArray, List.getElem?_cons_succ, List.getElem?_cons_zero]) <;> rfl)
              case fw26h => rfl
              case fy26h => (intro w hSw; (try dsimp only at hSw); go_simp; (try with_reducible rfl))
              try simp only [Act.put, List.setIfInBounds_toArray, List.set_cons_zero, List.set_cons_succ]
              refine wpAnyH_take (i := 27) (oi := ?fo27h) (v := ?fv27h) ?fe27h (by kernel_rfl) (by kernel_rfl) (by kernel_rfl) (fun _ _ _ h => h) (Or.inl ⟨?fw27h, ?fy27h⟩) (by assumption) ?fr27h
              case fe27h => ((simp only [List.getElem?_toArray, List.getElem?_cons_succ, List.getElem?_cons_zero]) <;> rfl)
              case fw27h => rfl
              case fy27h => (intro w hSw; (try dsimp only at hSw); go_simp; (try with_reducible rfl))
              try simp only [Act.put, List.setIfInBounds_toArray, List.set_cons_zero, List.set_cons_succ]
              refine wpAnyH_take (i := 28) (oi := ?fo28h) (v := ?fv28h) ?fe28h (by kernel_rfl) (by kernel_rfl) (by kernel_rfl) (fun _ _ _ h => h) (Or.inl ⟨?fw28h, ?fy28h⟩) (by assumption) ?fr28h
              case fe28h => ((simp only [List.getElem?_toArray, List.getElem?_cons_succ, List.getElem?_cons_zero]) <;> rfl)
              case fw28h => rfl
              case fy28h => (intro w hSw; (try dsimp only at hSw); go_simp; (try with_reducible rfl))
              try simp only [Act.put, List.setIfInBounds_toArray, List.set_cons_zero, List.set_cons_succ]
              refine wpAnyH_take (i := 29) (oi := ?fo29h) (v := ?fv29h) ?fe29h (by kernel_rfl) (by kernel_rfl) (by kernel_rfl) (fun _ _ _ h => h) (Or.inl ⟨?fw29h, ?fy29h⟩) (by assumption) ?fr29h
              case fe29h => ((simp only [List.getElem?_toArray, List.getElem?_cons_succ, List.getElem?_cons_zero]) <;> rfl)
              case fw29h => rfl
              case fy29h => (intro w hSw; (try dsimp only at hSw); go_simp; (try with_reducible rfl))
              try simp only [Act.put, List.setIfInBounds_toArray, List.set_cons_zero, List.set_cons_succ]
              refine wpAnyH_take (i := 30) (oi := ?fo30h) (v := ?fv30h) ?fe30h (by kernel_rfl) (by kernel_rfl) (by kernel_rfl) (fun _ _ _ h => h) (Or.inl ⟨?fw30h, ?fy30h⟩) (by assumption) ?fr30h
              case fe30h => ((simp only [List.getElem?_toArray, List.getElem?_cons_succ, List.getElem?_cons_zero]) <;> rfl)
              case fw30h => rfl
              case fy30h => (intro w hSw; (try dsimp only at hSw); go_simp; (try with_reducible rfl))
              try simp only [Act.put, List.setIfInBounds_toArray, List.set_cons_zero, List.set_cons_succ]
              refine wpAnyH_take (i := 31) (oi := ?fo31h) (v := ?fv31h) ?fe31h (by kernel_rfl) (by kernel_rfl) (by kernel_rfl) (fun _ _ _ h => h) (Or.inl ⟨?fw31h, ?fy31h⟩) (by assumption) ?fr31h
              case fe31h => ((simp only [List.getElem?_toArray, List.getElem?_cons_succ, List.getElem?_cons_zero]) <;> rfl)
              case fw31h => rfl
              case fy31h => (intro w hSw; (try dsimp only at hSw); go_simp; (try with_reducible rfl))
              try simp only [Act.put, List.setIfInBounds_toArray, List.set_cons_zero, List.set_cons_succ]
              refine wpAnyH_take (i := 32) (oi := ?fo32h) (v := ?fv32h) ?fe32h (by kernel_rfl) (by kernel_rfl) (by kernel_rfl) (fun _ _ _ h => h) (Or.inl ⟨?fw32h, ?fy32h⟩) (by assumption) ?fr32h
              case fe32h => ((simp only [List.getElem?_toArray, List.getElem?_cons_succ, List.getElem?_cons_zero]) <;> rfl)
              case fw32h => rfl
              case fy32h => (intro w hSw; (try dsimp only at hSw); go_simp; (try with_reducible rfl))
              try simp only [Act.put, List.setIfInBounds_toArray, List.set_cons_zero, List.set_cons_succ]
              refine wpAnyH_take (i := 33) (oi := ?fo33h) (v := ?fv33h) ?fe33h (by kernel_rfl) (by kernel_rfl) (by kernel_rfl) (fun _ _ _ h => h) (Or.inl ⟨?fw33h, ?fy33h⟩) (by assumption) ?fr33h
              case fe33h => ((simp only [List.getElem?_toArray, List.getElem?_cons_succ, List.getElem?_cons_zero]) <;> rfl)
              case fw33h => rfl
              case fy33h => (intro w hSw; (try dsimp only at hSw); go_simp; (try with_reducible rfl))
              try simp only [Act.put, List.setIfInBounds_toArray, List.set_cons_zero, List.set_cons_succ]
              refine wpAnyH_take (i := 34) (oi := ?fo34h) (v := ?fv34h) ?fe34h (by kernel_rfl) (by kernel_rfl) (by kernel_rfl) (fun _ _ _ h => h) (Or.inl ⟨?fw34h, ?fy34h⟩) (by assumption) ?fr34h
              case fe34h => ((simp only [List.getElem?_toArray, List.getElem?_cons_succ, List.getElem?_cons_zero]) <;> rfl)
              case fw34h => rfl
              case fy34h => (intro w hSw; (try dsimp only at hSw); go_simp; (try with_reducible rfl))
              try simp only [Act.put, List.setIfInBounds_toArray, List.set_cons_zero, List.set_cons_succ]
              refine wpAnyH_take (i := 35) (oi := ?fo35h) (v := ?fv35h) ?fe35h (by kernel_rfl) (by kernel_rfl) (by kernel_rfl) (fun _ _ _ h => h) (Or.inl ⟨?fw35h, ?fy35h⟩) (by assumption) ?fr35h
              case fe35h => ((simp only [List.getElem?_toArray, List.getElem?_cons_succ, List.getElem?_cons_zero]) <;> rfl)
              case fw35h => rfl
              case fy35h => (intro w hSw; (try dsimp only at hSw); go_simp; (try with_reducible rfl))
              try simp only [Act.put, List.setIfInBounds_toArray, List.set_cons_zero, List.set_cons_succ]
              refine wpAnyH_take (i := 36) (oi := ?fo36h) (v := ?fv36h) ?fe36h (by kernel_rfl) (by kernel_rfl) (by kernel_rfl) (fun _ _ _ h => h) (Or.inl ⟨?fw36h, ?fy36h⟩) (by assumption) ?fr36h
              case fe36h => ((simp only [List.getElem?_toArray, List.getElem?_cons_succ, List.getElem?_cons_zero]) <;> rfl)
              case fw36h => rfl
              case fy36h => (intro w hSw; (try dsimp only at hSw); go_simp; (try with_reducible rfl))
              try simp only [Act.put, List.setIfInBounds_toArray, List.set_cons_zero, List.set_cons_succ]
              refine wpAnyH_take (i := 37) (oi := ?fo37h) (v := ?fv37h) ?fe37h (by kernel_rfl) (by kernel_rfl) (by kernel_rfl) (fun _ _ _ h => h) (Or.inl ⟨?fw37h, ?fy37h⟩) (by assumption) ?fr37h
              case fe37h => ((simp only [List.getElem?_toArray, List.getElem?_cons_succ, List.getElem?_cons_zero]) <;> rfl)
              case fw37h => rfl
              case fy37h => (intro w hSw; (try dsimp only at hSw); go_simp; (try with_reducible rfl))
              try simp only [Act.put, List.setIfInBounds_toArray, List.set_cons_zero, List.set_cons_succ]
              refine wpAnyH_done (by kernel_rfl) ?_ _
              refine NoPanic.normal ?_
              obtain ⟨w3, hw3⟩ : ∃ y, y = w2.drew := ⟨_, rfl⟩
              rw [← hw3]
              have b3 : Below w2.heap.size w2 w3 := by rw [hw3]; exact (Below.refl _ _).drew
              have HS3 := hid (HS2.out.of_below b3)
              have HB23 := hid b3
              have hxc0 := hid hxl
              clear hw3 b3 hcx hct hcf hjfl hxp' hmi hxz hx8' hxl
              go_wp2_with fail
              go_loopw [9, 10, 152] (fun l9 c10 i wr => ∃ m : Nat, m ≤ x.length ∧ i = .int .i64 m ∧ l9 = .string ⟨(lastK last (x.take m)).toArray⟩ ∧ c10 = .int .i64 ((acc.length : Int) + (m : Int)) ∧ Below w3.heap.size w3 wr ∧ ascB last (x.take m) ∧ ∀ p ∈ x.take m, hasL fl p.1 = true) (fun _ _ i _ => x.length - (intOf i).toNat)
              case atStart => exact ⟨0, by omega, rfl, rfl, by simp, Below.refl _ _, by simp [ascB], by simp⟩
              case round =>
                obtain ⟨m, hm, rfl, rfl, rfl, hb3, hasc, hall⟩ := hrel
                have HS4 := hid (HS3.out.of_below hb3)
                by_cases hmx : m < x.length
                case neg =>
                  obtain rfl : m = x.length := by omega
                  rw [List.take_length] at hasc hall
                  rw [List.take_length]
                  have HNX := hid (HCK.out.next hjb hjf HP.out ⟨HBLK.out hasc, hall⟩)
                  have HAL := hid (show (acc.length : Int) + (x.length : Int) = ((acc ++ x).length : Int) by rw [List.length_append]; omega)
                  clear hasc hall hb3
                  go_wp2_with fail
                  go_roundw
                  case rel => first
                    | exact ⟨j + 1, lastK last x, acc ++ x, by omega, by go_num, rfl, by rw [← HAL.out], HS4.out, HNX.out⟩
                    | ((repeat apply Exists.intro); exact ⟨⟨j + 1, lastK last x, acc ++ x, by omega, by go_num, rfl, by rw [← HAL.out], HS4.out, HNX.out⟩, rfl⟩)
                  case measure => simp [intOf]; omega
                case pos =>
                have hup : ∀ (t : Nat) (u : Value), (prC x[m])[t]? = some u → wr.cell? ⟨xb, m * 3 + t, none⟩ = some u := fun t u q =>
                  (hb3.cell (p := ⟨xb, m * 3 + t, none⟩) (Nat.lt_of_lt_of_le hxc0.out HB23.out.size)).trans ((HB23.out.cell (p := ⟨xb, m * 3 + t, none⟩) hxc0.out).trans (HXE.out m hmx t u q))
                have HASC := hid hasc
                have HALL := hid hall
                have HNEX := hid (ascB_at (last := last) hmx)
                have HLAT := hid (lastK_at (last := last) hmx)
                have HMEM := hid (List.getElem_mem hmx)
                have HTK := hid (List.take_succ_eq_append_getElem hmx)
                have hpok := (pairsL_iff.1 HP.out).1 x[m] (List.getElem_mem hmx)
                have hk6 := hpok.k64
                obtain ⟨lm, hlm⟩ : ∃ y, y = lastK last (x.take m) := ⟨_, rfl⟩
                rw [← hlm]
                rw [← hlm] at HNEX
                clear hlm hasc hall hpok
                obtain ⟨pm, hpm⟩ : ∃ y, y = x[m] := ⟨_, rfl⟩
                rw [← hpm] at hup HNEX HLAT HMEM HTK hk6
                clear hpm
                obtain ⟨kk, vv, gg⟩ := pm
                simp only at HNEX HLAT hk6
                have q0 : wr.cell? ⟨xb, m * 3, none⟩ = some (.string ⟨kk.toArray⟩) := hup 0 _ rfl
                have q1 : wr.cell? ⟨xb, m * 3 + 1, none⟩ = some (.string ⟨vv.toArray⟩) := hup 1 _ rfl
                have q2 : wr.cell? ⟨xb, m * 3 + 2, none⟩ = some (.bool gg) := hup 2 _ rfl
                clear hup
                have hmi' : (m : Int) < (x.length : Int) := by omega
                have hm0 : (0 : Int) ≤ (m : Int) := by omega
                have hm8 : (m : Int) ≤ 8 := by have := HX8.out; omega
                have hac : (acc.length : Int) ≤ 8388608 := by have := HCK.out.len; omega
                obtain ⟨W, hW⟩ : ∃ y, y = wr.alloc (.cells #[.string ⟨kk.toArray⟩, .string ⟨vv.toArray⟩, .bool gg] 70) := ⟨_, rfl⟩
                have bW : Below wr.heap.size wr W := by rw [hW]; exact (Below.refl _ _).alloc (Nat.le_refl _) _
                have hCW : W.heap[wr.heap.size]? = some (.cells #[.string ⟨kk.toArray⟩, .string ⟨vv.toArray⟩, .bool gg] 70 (0, 0)) := by rw [hW]; exact heap_alloc_new wr _
                have y0 : W.cell? ⟨wr.heap.size, 0, none⟩ = some (.string ⟨kk.toArray⟩) := by rw [cell_of_row _ _ 0 _ _ (0, 0) hCW]; rfl
                have HS5 := hid (HS4.out.of_below bW)
                have HOB := hid HS5.out.bl
                have HB5 := hid (hb3.trans (bW.mono hb3.size))
                obtain ⟨-, -, d2, -, -⟩ := HS5.out.cells
                have HW := hid hW
                clear hW bW hCW hb3
                by_cases hlt : ltB lm kk = true
                case neg =>
                  have hleq : (Op.bytesLess kk lm || kk == lm) = true := by
                    have := leB_eq kk lm
                    rw [this]; simpa using hlt
                  have HN := hid (HBAD.out (fun q => hlt (HNEX.out.1 (ascB_take q.1.2.2.2.2 (m + 1))).2))
                  clear hlt
                  go_wp2_with (rw [← HW.out])
                  refine wp_region_noPanic ?_
                  refine wp_region_held_drew (S := (fun w' => w'.cell? ⟨wr.heap.size, 0, none⟩ = some (.string ⟨kk.toArray⟩) ∧ w'.cell? ⟨g + 1, 2, none⟩ = some (.string ⟨fl.toArray⟩))) (by kernel_rfl) ?_ (fun hHeld => ?_)
                  · exact ⟨y0, d2⟩
                  refine wpAnyH_take (i := 0) (oi := ?fo0hp) (v := ?fv0hp) ?fe0hp (by kernel_rfl) (by kernel_rfl) (by kernel_rfl) (fun _ _ _ h => h) (Or.inl ⟨?fw0hp, ?fy0hp⟩) (by assumption) ?fr0hp
                  case fe0hp => ((simp only [List.getElem?_toArray, List.getElem?_cons_succ, List.getElem?_cons_zero]) <;> rfl)
                  case fw0hp => rfl
                  case fy0hp => (intro w hSw; (try dsimp only at hSw); go_simp; (try with_reducible rfl))
                  try simp only [Act.put, List.setIfInBounds_toArray, List.set_cons_zero, List.set_cons_succ]
                  refine wpAnyH_take (i := 1) (oi := ?fo1hp) (v := ?fv1hp) ?fe1hp (by kernel_rfl) (by kernel_rfl) (by kernel_rfl) (fun _ _ _ h => h) (Or.inl ⟨?fw1hp, ?fy1hp⟩) (by assumption) ?fr1hp
                  case fe1hp => ((simp only [List.getElem?_toArray, List.getElem?_cons_succ, List.getElem?_cons_zero]) <;> rfl)
                  case fw1hp => rfl
                  case fy1hp => (intro w hSw; (try dsimp only at hSw); go_simp; (try with_reducible rfl))
                  try simp only [Act.put, List.setIfInBounds_toArray, List.set_cons_zero, List.set_cons_succ]
                  refine wpAnyH_take (i := 2) (oi := ?fo2hp) (v := ?fv2hp) ?fe2hp (by kernel_rfl) (by kernel_rfl) (by kernel_rfl) (fun _ _ _ h => h) (Or.inl ⟨?fw2hp, ?fy2hp⟩) (by assumption) ?fr2hp
                  case fe2hp => ((simp only [List.getElem?_toArray, List.getElem?_cons_succ, List.getElem?_cons_zero]) <;> rfl)
                  case fw2hp => rfl
                  case fy2hp => (intro w hSw; (try dsimp only at hSw); go_simp; (try with_reducible rfl))
                  try simp only [Act.put, List.setIfInBounds_toArray, List.set_cons_zero, List.set_cons_succ]
                  refine wpAnyH_take (i := 3) (oi := ?fo3hp) (v := (.bool true)) ?fe3hp (by kernel_rfl) (by kernel_rfl) (by kernel_rfl) (fun _ _ _ h => h) (Or.inl ⟨?fw3hp, ?fy3hp⟩) (by assumption) ?fr3hp
                  case fe3hp => ((simp only [List.getElem?_toArray, List.getElem?_cons_succ, List.getElem?_cons_zero]) <;> rfl)
                  case fw3hp => rfl
                  case fy3hp => (intro w hSw; (try dsimp only at hSw); go_simp; (try (first | exact hleq | simpa using hleq)))
                  try simp only [Act.put, List.setIfInBounds_toArray, List.set_cons_zero, List.set_cons_succ]
                  refine wpAnyH_take (i := 4) (oi := ?fo4hp) (v := ?fv4hp) ?fe4hp (by kernel_rfl) (by kernel_rfl) (by kernel_rfl) (fun _ _ _ h => h) (Or.inl ⟨?fw4hp, ?fy4hp⟩) (by assumption) ?fr4hp
                  case fe4hp => ((simp only [List.getElem?_toArray, List.getElem?_cons_succ, List.getElem?_cons_zero]) <;> rfl)
                  case fw4hp => rfl
                  case fy4hp => (intro w hSw; (try dsimp only at hSw); go_simp; (try with_reducible rfl))
                  try simp only [Act.put, List.setIfInBounds_toArray, List.set_cons_zero, List.set_cons_succ]
                  refine wpAnyH_take (i := 5) (oi := ?fo5hp) (v := undef) ?fe5hp (by kernel_rfl) (by kernel_rfl) (by kernel_rfl) (fun _ _ _ h => h) (Or.inr ⟨?fw5hp, rfl⟩) (by assumption) ?fr5hp
                  case fe5hp => ((simp only [List.getElem?_toArray, List.getElem?_cons_succ, List.getElem?_cons_zero]) <;> rfl)
                  case fw5hp => rfl
                  try simp only [Act.put, List.setIfInBounds_toArray, List.set_cons_zero, List.set_cons_succ]
                  refine wpAnyH_take (i := 6) (oi := ?fo6hp) (v := undef) ?fe6hp (by kernel_rfl) (by kernel_rfl) (by kernel_rfl) (fun _ _ _ h => h) (Or.inr ⟨?fw6hp, rfl⟩) (by assumption) ?fr6hp
                  case fe6hp => ((simp only [List.getElem?_toArray, List.getElem?_cons_succ, List.getElem?_cons_zero]) <;> rfl)
                  case fw6hp => rfl
                  try simp only [Act.put, List.setIfInBounds_toArray, List.set_cons_zero, List.set_cons_succ]
                  refine wpAnyH_take (i := 7) (oi := ?fo7hp) (v := undef) ?fe7hp (by kernel_rfl) (by kernel_rfl) (by kernel_rfl) (fun _ _ _ h => h) (Or.inr ⟨?fw7hp, rfl⟩) (by assumption) ?fr7hp
                  case fe7hp => ((simp only [List.getElem?_toArray, List.getElem?_cons_succ, List.getElem?_cons_zero]) <;> rfl)
                  case fw7hp => rfl
                  try simp only [Act.put, List.setIfInBounds_toArray, List.set_cons_zero, List.set_cons_succ]
                  refine wpAnyH_take (i := 8) (oi := ?fo8hp) (v := undef) ?fe8hp (by kernel_rfl) (by kernel_rfl) (by kernel_rfl) (fun _ _ _ h => h) (Or.inr ⟨?fw8hp, rfl⟩) (by assumption) ?fr8hp
                  case fe8hp => ((simp only [List.getElem?_toArray, List.getElem?_cons_succ, List.getElem?_cons_zero]) <;> rfl)
                  case fw8hp => rfl
                  try simp only [Act.put, List.setIfInBounds_toArray, List.set_cons_zero, List.set_cons_succ]
                  refine wpAnyH_take (i := 9) (oi := ?fo9hp) (v := undef) ?fe9hp (by kernel_rfl) (by kernel_rfl) (by kernel_rfl) (fun _ _ _ h => h) (Or.inr ⟨?fw9hp, rfl⟩) (by assumption) ?fr9hp
                  case fe9hp => ((simp only [List.getElem?_toArray, List.getElem?_cons_succ, List.getElem?_cons_zero]) <;> rfl)
                  case fw9hp => rfl
                  try simp only [Act.put, List.setIfInBounds_toArray, List.set_cons_zero, List.set_cons_succ]
                  refine wpAnyH_take (i := 10) (oi := ?fo10hp) (v := undef) ?fe10hp (by kernel_rfl) (by kernel_rfl) (by kernel_rfl) (fun _ _ _ h => h) (Or.inr ⟨?fw10hp, rfl⟩) (by assumption) ?fr10hp
                  case fe10hp => ((simp only [List.getElem?_toArray, List.getElem?_cons_succ, List.getElem?_cons_zero]) <;> rfl)
                  case fw10hp => rfl
                  try simp only [Act.put, List.setIfInBounds_toArray, List.set_cons_zero, List.set_cons_succ]
                  refine wpAnyH_take (i := 11) (oi := ?fo11hp) (v := undef) ?fe11hp (by kernel_rfl) (by kernel_rfl) (by kernel_rfl) (fun _ _ _ h => h) (Or.inr ⟨?fw11hp, rfl⟩) (by assumption) ?fr11hp
                  case fe11hp => ((simp only [List.getElem?_toArray, List.getElem?_cons_succ, List.getElem?_cons_zero]) <;> rfl)
                  case fw11hp => rfl
                  try simp only [Act.put, List.setIfInBounds_toArray, List.set_cons_zero, List.set_cons_succ]
                  refine wpAnyH_take (i := 12) (oi := ?fo12hp) (v := undef) ?fe12hp (by kernel_rfl) (by kernel_rfl) (by kernel_rfl) (fun _ _ _ h => h) (Or.inr ⟨?fw12hp, rfl⟩) (by assumption) ?fr12hp
                  case fe12hp => ((simp only [List.getElem?_toArray, List.getElem?_cons_succ, List.getElem?_cons_zero]) <;> rfl)
                  case fw12hp => rfl
                  try simp only [Act.put, List.setIfInBounds_toArray, List.set_cons_zero, List.set_cons_succ]
                  refine wpAnyH_take (i := 13) (oi := ?fo13hp) (v := ?fv13hp) ?fe13hp (by kernel_rfl) (by kernel_rfl) (by kernel_rfl) (fun _ _ _ h => h) (Or.inl ⟨?fw13hp, ?fy13hp⟩) (by assumption) ?fr13hp
                  case fe13hp => ((simp only [List.getElem?_toArray, List.getElem?_cons_succ, List.getElem?_cons_zero]) <;> rfl)
                  case fw13hp => rfl
                  case fy13hp => (intro w hSw; (try dsimp only at hSw); go_simp; (try with_reducible rfl))
                  try simp only [Act.put, List.setIfInBounds_toArray, List.set_cons_zero, List.set_cons_succ]
                  refine wpAnyH_done (by kernel_rfl) ?_ _
                  refine NoPanic.normal ?_
                  have HOB := hid HOB.out.drew
                  go_wp2_with fail
                  go_ret2
                  exact ⟨by rw [HN.out]; rfl, HBW.out _ HOB.out⟩
                case pos =>
                have hleq : (Op.bytesLess kk lm || kk == lm) = false := by
                  have := leB_eq kk lm
                  rw [this]; simpa using hlt
                have HLT := hid hlt
                clear hlt
                go_wp2_with (rw [← HW.out])
                refine wp_region_noPanic ?_
                refine wp_region_held_drew (S := (fun w' => w'.cell? ⟨wr.heap.size, 0, none⟩ = some (.string ⟨kk.toArray⟩) ∧ w'.cell? ⟨g + 1, 2, none⟩ = some (.string ⟨fl.toArray⟩))) (by kernel_rfl) ?_ (fun hHeld => ?_)
                · exact ⟨y0, d2⟩
                refine wpAnyH_take (i := 0) (oi := ?fo0hq) (v := ?fv0hq) ?fe0hq (by kernel_rfl) (by kernel_rfl) (by kernel_rfl) (fun _ _ _ h => h) (Or.inl ⟨?fw0hq, ?fy0hq⟩) (by assumption) ?fr0hq
                case fe0hq => ((simp only [List.getElem?_toArray, List.getElem?_cons_succ, List.getElem?_cons_zero]) <;> rfl)
                case fw0hq => rfl
                case fy0hq => (intro w hSw; (try dsimp only at hSw); go_simp; (try with_reducible rfl))
                try simp only [Act.put, List.setIfInBounds_toArray, List.set_cons_zero, List.set_cons_succ]
                refine wpAnyH_take (i := 1) (oi := ?fo1hq) (v := ?fv1hq) ?fe1hq (by kernel_rfl) (by kernel_rfl) (by kernel_rfl) (fun _ _ _ h => h) (Or.inl ⟨?fw1hq, ?fy1hq⟩) (by assumption) ?fr1hq
                case fe1hq => ((simp only [List.getElem?_toArray, List.getElem?_cons_succ, List.getElem?_cons_zero]) <;> rfl)
                case fw1hq => rfl
                case fy1hq => (intro w hSw; (try dsimp only at hSw); go_simp; (try with_reducible rfl))
                try simp only [Act.put, List.setIfInBounds_toArray, List.set_cons_zero, List.set_cons_succ]
                refine wpAnyH_take (i := 2) (oi := ?fo2hq) (v := ?fv2hq) ?fe2hq (by kernel_rfl) (by kernel_rfl) (by kernel_rfl) (fun _ _ _ h => h) (Or.inl ⟨?fw2hq, ?fy2hq⟩) (by assumption) ?fr2hq
                case fe2hq => ((simp only [List.getElem?_toArray, List.getElem?_cons_succ, List.getElem?_cons_zero]) <;> rfl)
                case fw2hq => rfl
                case fy2hq => (intro w hSw; (try dsimp only at hSw); go_simp; (try with_reducible rfl))
                try simp only [Act.put, List.setIfInBounds_toArray, List.set_cons_zero, List.set_cons_succ]
                refine wpAnyH_take (i := 3) (oi := ?fo3hq) (v := (.bool false)) ?fe3hq (by kernel_rfl) (by kernel_rfl) (by kernel_rfl) (fun _ _ _ h => h) (Or.inl ⟨?fw3hq, ?fy3hq⟩) (by assumption) ?fr3hq
                case fe3hq => ((simp only [List.getElem?_toArray, List.getElem?_cons_succ, List.getElem?_cons_zero]) <;> rfl)
                case fw3hq => rfl
                case fy3hq => (intro w hSw; (try dsimp only at hSw); go_simp; (try (first | exact hleq | simpa using hleq)))
                try simp only [Act.put, List.setIfInBounds_toArray, List.set_cons_zero, List.set_cons_succ]
                refine wpAnyH_take (i := 4) (oi := ?fo4hq) (v := ?fv4hq) ?fe4hq (by kernel_rfl) (by kernel_rfl) (by kernel_rfl) (fun _ _ _ h => h) (Or.inl ⟨?fw4hq, ?fy4hq⟩) (by assumption) ?fr4hq
                case fe4hq => ((simp only [List.getElem?_toArray, List.getElem?_cons_succ, List.getElem?_cons_zero]) <;> rfl)
                case fw4hq => rfl
                case fy4hq => (intro w hSw; (try dsimp only at hSw); go_simp; (try with_reducible rfl))
                try simp only [Act.put, List.setIfInBounds_toArray, List.set_cons_zero, List.set_cons_succ]
                refine wpAnyH_take (i := 5) (oi := ?fo5hq) (v := ?fv5hq) ?fe5hq (by kernel_rfl) (by kernel_rfl) (by kernel_rfl) (fun _ _ _ h => h) (Or.inl ⟨?fw5hq, ?fy5hq⟩) (by assumption) ?fr5hq
                case fe5hq => ((simp only [List.getElem?_toArray, List.getElem?_cons_succ, List.getElem?_cons_zero]) <;> rfl)
                case fw5hq => rfl
                case fy5hq => (intro w hSw; (try dsimp only at hSw); go_simp; (try with_reducible rfl))
                try simp only [Act.put, List.setIfInBounds_toArray, List.set_cons_zero, List.set_cons_succ]
                refine wpAnyH_take (i := 6) (oi := ?fo6hq) (v := ?fv6hq) ?fe6hq (by kernel_rfl) (by kernel_rfl) (by kernel_rfl) (fun _ _ _ h => h) (Or.inl ⟨?fw6hq, ?fy6hq⟩) (by assumption) ?fr6hq
                case fe6hq => ((simp only [List.getElem?_toArray, List.getElem?_cons_succ, List.getElem?_cons_zero]) <;> rfl)
                case fw6hq => rfl
                case fy6hq => (intro w hSw; (try dsimp only at hSw); go_simp; (try with_reducible rfl))
                try simp only [Act.put, List.setIfInBounds_toArray, List.set_cons_zero, List.set_cons_succ]
                refine wpAnyH_take (i := 7) (oi := ?fo7hq) (v := ?fv7hq) ?fe7hq (by kernel_rfl) (by kernel_rfl) (by kernel_rfl) (fun _ _ _ h => h) (Or.inl ⟨?fw7hq, ?fy7hq⟩) (by assumption) ?fr7hq
                case fe7hq => ((simp only [List.getElem?_toArray, List.getElem?_cons_succ, List.getElem?_cons_zero]) <;> rfl)
                case fw7hq => rfl
                case fy7hq => (intro w hSw; (try dsimp only at hSw); go_simp; (try with_reducible rfl))
                try simp only [Act.put, List.setIfInBounds_toArray, List.set_cons_zero, List.set_cons_succ]
                refine wpAnyH_take (i := 8) (oi := ?fo8hq) (v := ?fv8hq) ?fe8hq (by kernel_rfl) (by kernel_rfl) (by kernel_rfl) (fun _ _ _ h => h) (Or.inl ⟨?fw8hq, ?fy8hq⟩) (by assumption) ?fr8hq
                case fe8hq => ((simp only [List.getElem?_toArray, List.getElem?_cons_succ, List.getElem?_cons_zero]) <;> rfl)
                case fw8hq => rfl
                case fy8hq => (intro w hSw; (try dsimp only at hSw); go_simp; (try with_reducible rfl))
                try simp only [Act.put, List.setIfInBounds_toArray, List.set_cons_zero, List.set_cons_succ]
                refine wpAnyH_take (i := 9) (oi := ?fo9hq) (v := ?fv9hq) ?fe9hq (by kernel_rfl) (by kernel_rfl) (by kernel_rfl) (fun _ _ _ h => h) (Or.inl ⟨?fw9hq, ?fy9hq⟩) (by assumption) ?fr9hq
                case fe9hq => ((simp only [List.getElem?_toArray, List.getElem?_cons_succ, List.getElem?_cons_zero]) <;> rfl)
                case fw9hq => rfl
                case fy9hq => (intro w hSw; (try dsimp only at hSw); go_simp; (try with_reducible rfl))
                try simp only [Act.put, List.setIfInBounds_toArray, List.set_cons_zero, List.set_cons_succ]
                refine wpAnyH_take (i := 10) (oi := ?fo10hq) (v := ?fv10hq) ?fe10hq (by kernel_rfl) (by kernel_rfl) (by kernel_rfl) (fun _ _ _ h => h) (Or.inl ⟨?fw10hq, ?fy10hq⟩) (by assumption) ?fr10hq
                case fe10hq => ((simp only [List.getElem?_toArray, List.getElem?_cons_succ, List.getElem?_cons_zero]) <;> rfl)
                case fw10hq => rfl
                case fy10hq => (intro w hSw; (try dsimp only at hSw); go_simp; (try with_reducible rfl))
                try simp only [Act.put, List.setIfInBounds_toArray, List.set_cons_zero, List.set_cons_succ]
                refine wpAnyH_ready (rs := [11]) (by kernel_rfl) (by simp) ?_
                refine AllReadyH.cons (o := ?fo11hq) ?fe11hq (fun K hK => ?fc11hq) ?fn11hq
                case fn11hq => exact AllReadyH.nil
                case fe11hq => ((simp only [List.getElem?_toArray, List.getElem?_cons_succ, List.getElem?_cons_zero]) <;> rfl)
                go_simp
                go_at_call 55
                refine (has_any fl kk (by unfold maxLen; omega) (by unfold maxLen; omega) _).mono ?_
                rintro _ wz ⟨rfl, hwz⟩
                rw [hwz]
                clear hwz wz
                refine hK.out _ _ ?_ (fun hHeld11 => ?_)
                · exact ⟨y0, d2⟩
                clear hK K
                try simp only [Act.put, List.setIfInBounds_toArray, List.set_cons_zero, List.set_cons_succ]
                refine wpAnyH_take (i := 12) (oi := ?fo12hq) (v := ?fv12hq) ?fe12hq (by kernel_rfl) (by kernel_rfl) (by kernel_rfl) (fun _ _ _ h => h) (Or.inl ⟨?fw12hq, ?fy12hq⟩) (by assumption) ?fr12hq
                case fe12hq => ((simp only [List.getElem?_toArray, List.getElem?_cons_succ, List.getElem?_cons_zero]) <;> rfl)
                case fw12hq => rfl
                case fy12hq => (intro w hSw; (try dsimp only at hSw); go_simp; (try with_reducible rfl))
                try simp only [Act.put, List.setIfInBounds_toArray, List.set_cons_zero, List.set_cons_succ]
                refine wpAnyH_take (i := 13) (oi := ?fo13hq) (v := ?fv13hq) ?fe13hq (by kernel_rfl) (by kernel_rfl) (by kernel_rfl) (fun _ _ _ h => h) (Or.inl ⟨?fw13hq, ?fy13hq⟩) (by assumption) ?fr13hq
                case fe13hq => ((simp only [List.getElem?_toArray, List.getElem?_cons_succ, List.getElem?_cons_zero]) <;> rfl)
                case fw13hq => rfl
                case fy13hq => (intro w hSw; (try dsimp only at hSw); go_simp; (try with_reducible rfl))
                try simp only [Act.put, List.setIfInBounds_toArray, List.set_cons_zero, List.set_cons_succ]
                refine wpAnyH_done (by kernel_rfl) ?_ _
                refine NoPanic.normal ?_
                have z0 : W.drew.cell? ⟨wr.heap.size, 0, none⟩ = some (.string ⟨kk.toArray⟩) := y0
                cases hhs : hasL fl kk with
                | false =>
                  have HN := hid (HBAD.out (fun q => by have := q.2 _ HMEM.out; rw [hhs] at this; cases this))
                  have HOB := hid HOB.out.drew
                  clear hhs y0 q0 q1 q2 hleq z0
                  go_wp2_with fail
                  go_ret2
                  exact ⟨by rw [HN.out]; rfl, HBW.out _ HOB.out⟩
                | true =>
                  have HB6 := hid HB5.out.drew
                  have HAS := hid (HNEX.out.2 ⟨HASC.out, HLT.out⟩)
                  have HHS := hid (show ∀ p ∈ x.take (m + 1), hasL fl p.1 = true from fun p hp => by
                    rw [HTK.out] at hp
                    rcases List.mem_append.1 hp with z | z
                    · exact HALL.out p z
                    · simp only [List.mem_singleton] at z
                      subst z; exact hhs)
                  clear hhs hleq q0 q1 q2
                  go_wp2_with fail
                  go_roundw
                  case rel => first
                    | exact ⟨m + 1, by omega, by go_num, by rw [HLAT.out], by go_num, HB6.out, HAS.out, HHS.out⟩
                    | ((repeat apply Exists.intro); exact ⟨⟨m + 1, by omega, by go_num, by rw [HLAT.out], by go_num, HB6.out, HAS.out, HHS.out⟩, rfl⟩)
                  case measure => simp [intOf]; omega
end Go.Proofs.Ytfdbcnpbjabjoaa
