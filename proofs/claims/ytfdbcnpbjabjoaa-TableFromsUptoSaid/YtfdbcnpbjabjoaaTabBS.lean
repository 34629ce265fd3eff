/- TABLES: what lies in memory while table.Build runs: the builder, the keys, the index, the number of blocks. -/
import Derived.Test.YtfdbcnpbjabjoaaTabChunk
import Derived.Test.YtfdbcnpbjabjoaaTabBld
namespace Go.Proofs.Ytfdbcnpbjabjoaa
open Go.RowKit Go.Shelf
set_option linter.unusedVariables false
set_option linter.unusedSimpArgs false

theorem strV_one (k : List UInt8) : ∀ u ∈ [strV k], u.oneCell' = true := fun u h => by simp at h; subst h; rfl
structure BdS (N : Nat) (w0 : World) (sv : Value) (out : List UInt8) (ks : List (List UInt8)) (ix : List UInt8) (c : Nat) (W : World) : Prop where
  bl : BldF N N (Lib.byteCells out) W
  ky : ∃ v, Boxed W (N + 1) 53 v ∧ W.ownsRow (N + 6) 9 1 v ks.length (ks.map strV)
  ix : Boxed W (N + 2) 9 (.string ⟨ix.toArray⟩)
  ct : Boxed W (N + 3) 3 (.int .i64 c)
  cs : Boxed W (N + 4) 55 sv
  cn : Boxed W (N + 5) 3 (.int .i64 8)
  bw : Below N w0 W
variable {N : Nat} {sv : Value} {w0 W W' : World} {out ix : List UInt8} {ks : List (List UInt8)} {c : Nat}
theorem bldAt_kept {p : Value} {bs : List Value} {row : Option Nat} (h : BldAt N N p bs W) (hg : W.grownBy W' row) (hr : ∀ r, row = some r → r ≠ N ∧ ∀ cs fz, W.heap[r]? ≠ some (.cells cs 5 fz)) : BldAt N N p bs W' := by
  obtain ⟨hB, v, hb, hown, hne⟩ := h
  refine ⟨hB, v, (hg.block N (Array.getElem?_eq_some_iff.1 hb).1 (fun e => (hr _ e.symm).1 rfl)).trans hb, hown.kept hg ?_, hne⟩
  cases hv : v.ownBlock with
  | none => exact .inl rfl
  | some k =>
    refine .inr fun e => ?_
    obtain ⟨cs, fz, hk⟩ := Lib.ownsRowF_kind hown k hv
    exact (hr k e.symm).2 cs fz hk
theorem ownsRow_kind {base size : Nat} {e : TypeId} {v : Value} {n : Nat} {xs : List Value} (h : W.ownsRow base e size v n xs) : ∀ g, v.ownBlock = some g → ∃ cs, W.heap[g]? = some (.cells cs e (0, 0)) := by
  intro g hg
  rcases h.2 with ⟨rfl, _⟩ | ⟨g', cap, cur, rfl, _, hgg, _⟩
  · simp [Value.ownBlock] at hg
  · simp [Value.ownBlock] at hg
    subst hg
    exact ⟨cur, hgg⟩
theorem bldF_kept {bs : List Value} {row : Option Nat} (h : BldF N N bs W) (hg : W.grownBy W' row) (hr : ∀ r, row = some r → r ≠ N ∧ ∀ cs fz, W.heap[r]? ≠ some (.cells cs 5 fz)) : BldF N N bs W' :=
  h.elim (fun q => .inl (bldAt_kept q hg hr)) (fun q => .inr (bldAt_kept q hg hr))
theorem bldF_cells {bs : List Value} (h : BldF N N bs W) : ∃ cs, W.heap[N]? = some (.cells cs 93 (0, 0)) := by
  rcases h with ⟨-, v, hb, -⟩ | ⟨-, v, hb, -⟩ <;> exact ⟨_, hb⟩
theorem BdS.size (h : BdS N w0 sv out ks ix c W) : N + 6 ≤ W.heap.size := h.cn.lt
theorem BdS.kept {row : Option Nat} (h : BdS N w0 sv out ks ix c W) (hg : W.grownBy W' row) (hr : ∀ r, row = some r → N ≤ r ∧ ∃ o : Obj, W.heap[r]? = some o ∧ o.isCells = false) : BdS N w0 sv out ks ix c W' := by
  have hr' : ∀ r, row = some r → ∃ o : Obj, W.heap[r]? = some o ∧ o.isCells = false := fun r e => (hr r e).2
  have ne : ∀ (b : Nat) (T : TypeId) (v : Value), Boxed W b T v → some b ≠ row := fun b T v hb e => by
    obtain ⟨o, ho, hc⟩ := hr' _ e.symm
    rw [show W.heap[b]? = _ from hb] at ho; cases ho; cases hc
  obtain ⟨v, hv, hrow⟩ := h.ky
  refine ⟨bldF_kept h.bl hg (fun r e => ⟨fun q => ?_, fun cs fz q => ?_⟩), ⟨v, hv.kept hg (ne _ _ _ hv), hrow.kept hg ?_⟩, h.ix.kept hg (ne _ _ _ h.ix), h.ct.kept hg (ne _ _ _ h.ct), h.cs.kept hg (ne _ _ _ h.cs), h.cn.kept hg (ne _ _ _ h.cn), h.bw.grown hg (by have := h.size; omega) fun k e => (hr k e).1⟩
  · obtain ⟨o, ho, hc⟩ := hr' r e
    obtain ⟨cs, hk⟩ := bldF_cells h.bl
    rw [q, hk] at ho; cases ho; cases hc
  · obtain ⟨o, ho, hc⟩ := hr' r e
    rw [q] at ho; cases ho; cases hc
  cases hb : v.ownBlock with
  | none => exact .inl rfl
  | some k =>
    refine .inr fun e => ?_
    obtain ⟨cs, hk⟩ := ownsRow_kind hrow k hb
    obtain ⟨o, ho, hc⟩ := hr' k e.symm
    rw [hk] at ho; cases ho; cases hc
theorem BdS.below (h : BdS N w0 sv out ks ix c W) (hb : Below W.heap.size W W') : BdS N w0 sv out ks ix c W' :=
  h.kept (row := none) ⟨hb.os, hb.tape, hb.output, hb.size, fun k hk _ => hb.block k hk⟩ (by simp)
theorem BdS.from {B : Nat} (hB : N ≤ B) {β : Type} (o : β → List UInt8) (k : β → List (List UInt8)) (i : β → List UInt8) (c : β → Nat) : OwnFrom B (fun s W => BdS N w0 sv (o s) (k s) (i s) (c s) W) :=
  fun s W W' row h hg hr => h.kept hg fun r e => ⟨Nat.le_trans hB (hr r e).1, (hr r e).2⟩
theorem row_ne {base size : Nat} {e : TypeId} {v : Value} {n : Nat} {xs : List Value} {b : Nat} (h : W.ownsRow base e size v n xs) (hb : b < base) : v.ownBlock = none ∨ v.ownBlock ≠ some b := by
  refine .inr fun e => ?_
  have := (h.lt b e).1; omega
/-- a store into a box of ours leaves the builder -/
theorem bldF_set {bs : List Value} {b : Nat} {T : TypeId} {u : Value} (h : BldF N N bs W) (hb : Boxed W b T u) (hT : T ≠ 5) (hn : b ≠ N) (x : Value) : BldF N N bs (W.setCell ⟨b, 0, none⟩ x) :=
  bldF_kept h (grownBy_setCell' W b x) fun r e => by
    cases e
    exact ⟨hn, fun cs fz q => by rw [show W.heap[b]? = _ from hb] at q; cases q; exact hT rfl⟩
/-- a store into the index -/
theorem BdS.setIx (h : BdS N w0 sv out ks ix c W) (jx : List UInt8) : BdS N w0 sv out ks jx c (W.setCell ⟨N + 2, 0, none⟩ (.string ⟨jx.toArray⟩)) := by
  obtain ⟨v, hv, hrow⟩ := h.ky
  exact ⟨bldF_set h.bl h.ix (by decide) (by omega) _, ⟨v, hv.other (by omega) _, hrow.kept (grownBy_setCell' W (N + 2) _) (row_ne hrow (by omega))⟩, h.ix.set _, h.ct.other (by omega) _, h.cs.other (by omega) _, h.cn.other (by omega) _, h.bw.setCell (p := ⟨N + 2, 0, none⟩) (by show N ≤ N + 2; omega) _⟩
/-- a store into the number of blocks -/
theorem BdS.setCt (h : BdS N w0 sv out ks ix c W) (d : Nat) : BdS N w0 sv out ks ix d (W.setCell ⟨N + 3, 0, none⟩ (.int .i64 d)) := by
  obtain ⟨v, hv, hrow⟩ := h.ky
  exact ⟨bldF_set h.bl h.ct (by decide) (by omega) _, ⟨v, hv.other (by omega) _, hrow.kept (grownBy_setCell' W (N + 3) _) (row_ne hrow (by omega))⟩, h.ix.other (by omega) _, h.ct.set _, h.cs.other (by omega) _, h.cn.other (by omega) _, h.bw.setCell (p := ⟨N + 3, 0, none⟩) (by show N ≤ N + 3; omega) _⟩
/-- a key more: behind the append -/
theorem BdS.addKy (h : BdS N w0 sv out ks ix c W) {tmp : Obj} {v v' : Value} {w1 : World} {k : List UInt8} (hv : Boxed W (N + 1) 53 v) (hrow : W.ownsRow (N + 6) 9 1 v ks.length (ks.map strV))
    (hown' : w1.ownsRow (N + 6) 9 1 v' (ks.length + 1) (ks.map strV ++ [strV k])) (hg : (W.alloc tmp).grownBy w1 v.ownBlock) : Boxed w1 (N + 1) 53 v ∧ BdS N w0 sv out (ks ++ [k]) ix c (w1.setCell ⟨N + 1, 0, none⟩ v') ∧ KeepsOthers W (w1.setCell ⟨N + 1, 0, none⟩ v') := by
  have hs := h.size
  have hv1 : Boxed w1 (N + 1) 53 v := (hv.alloc tmp).kept hg (hv.not_row (by decide) hrow)
  have hr0 := hrow.alloc tmp
  have hrk := ownsRow_kind hr0
  have hix : Boxed w1 (N + 2) _ _ := (h.ix.alloc tmp).kept hg (fun e => by have := (hrow.lt _ e.symm).1; omega)
  have hct : Boxed w1 (N + 3) _ _ := (h.ct.alloc tmp).kept hg (fun e => by have := (hrow.lt _ e.symm).1; omega)
  have hcs : Boxed w1 (N + 4) _ _ := (h.cs.alloc tmp).kept hg (fun e => by have := (hrow.lt _ e.symm).1; omega)
  have hcn : Boxed w1 (N + 5) _ _ := (h.cn.alloc tmp).kept hg (fun e => by have := (hrow.lt _ e.symm).1; omega)
  have hbl : BldF N N (Lib.byteCells out) w1 := by
    refine bldF_kept (bldF_kept h.bl (World.grownBy_alloc W tmp none) (by simp)) hg fun r e => ⟨fun q => ?_, fun cs fz q => ?_⟩
    · have := (hrow.lt r e).1; omega
    · obtain ⟨cs', hk⟩ := hrk r e
      rw [q] at hk; cases hk
  have hbw : Below N w0 w1 := (h.bw.alloc (by omega) tmp).grown hg (by simp; omega) (fun r e => by have := (hrow.lt r e).1; omega)
  refine ⟨hv1, ⟨bldF_set hbl hv1 (by decide) (by omega) _, ⟨v', hv1.set v', ?_⟩, hix.other (by omega) _, hct.other (by omega) _, hcs.other (by omega) _, hcn.other (by omega) _, hbw.setCell (p := ⟨N + 1, 0, none⟩) (by show N ≤ N + 1; omega) _⟩, ?_⟩
  · rw [List.length_append, List.map_append]
    exact hown'.kept (grownBy_setCell' w1 (N + 1) v') (row_ne hown' (by omega))
  · refine ((KeepsOthers.alloc W tmp).trans (KeepsOthers.of_grownBy hg fun j o ej hj => ?_)).trans (KeepsOthers.setCell _ _ _)
    obtain ⟨cs', hk⟩ := hrk j ej
    rw [hk] at hj; cases hj; rfl
/-- WriteString -/
theorem BdS.write (h : BdS N w0 sv out ks ix c W) {s : List UInt8} {p : Value} (h1 : BldAt N N (.pointer (some ⟨N, 0, none⟩)) (Lib.byteCells out ++ Lib.strCells ⟨s.toArray⟩) W') (hb : Below N W W') (ho : OthK N W W') : BdS N w0 sv (out ++ s) ks ix c W' := by
  have kp : ∀ (b : Nat) (cs : Array Value) (T : TypeId) (fz : Nat × Nat), b ≠ N → T ≠ 5 → W.heap[b]? = some (.cells cs T fz) → W'.heap[b]? = some (.cells cs T fz) := fun b cs T fz hn hT hk =>
    ho b _ hk (by simpa using hn) (fun c' fz' e => by cases e; exact hT rfl)
  obtain ⟨v, hv, hrow⟩ := h.ky
  refine ⟨.inr (by rw [Lib.byteCells_append]; exact h1), ⟨v, kp _ _ _ _ (by omega) (by decide) hv, ?_⟩, kp _ _ _ _ (by omega) (by decide) h.ix, kp _ _ _ _ (by omega) (by decide) h.ct, kp _ _ _ _ (by omega) (by decide) h.cs, kp _ _ _ _ (by omega) (by decide) h.cn, h.bw.trans hb⟩
  refine ⟨hrow.1, ?_⟩
  rcases hrow.2 with q | ⟨g, cap, cur, q1, q2, q3, q4⟩
  · exact .inl q
  · exact .inr ⟨g, cap, cur, q1, q2, kp _ _ _ _ (by omega) (by decide) q3, q4⟩
theorem BdS.kp {out' ix' : List UInt8} {ks' : List (List UInt8)} {c' : Nat} (h : BdS N w0 sv out ks ix c W) (k : BdS N w0 sv out' ks' ix' c' W') : KpC (N + 4) (N + 5) W W' := ⟨Eq.trans k.cs h.cs.symm, Eq.trans k.cn h.cn.symm⟩
theorem OthK.others {b : Nat} (h : OthK b W W') (hs : W.heap.size ≤ W'.heap.size) (hc : ∃ cs T fz, W.heap[b]? = some (.cells cs T fz)) : KeepsOthers W W' :=
  ⟨hs, fun k o hk ho => h k o hk (by
    rintro e
    cases e
    obtain ⟨cs, T, fz, q⟩ := hc
    rw [hk] at q; cases q; cases ho) (fun c fz e => by subst e; cases ho)⟩
theorem BdS.start (w : World) (sv : Value) : BdS w.heap.size w sv [] [] [] 0 ((((((w.alloc (.cells #[.pointer none, .slice none 0 0] 93)).alloc (.cells #[.slice none 0 0] 53)).alloc (.cells #[.string ⟨#[]⟩] 9)).alloc (.cells #[.int .i64 0] 3)).alloc (.cells #[sv] 55)).alloc (.cells #[.int .i64 8] 3)) := by
  have hb := Lib.IsBuilderF.of (Lib.fresh_isBuilder 93 5 w)
  have s1 : (w.alloc (.cells #[.pointer none, .slice none 0 0] 93)).heap.size = w.heap.size + 1 := by simp
  have n1 := Boxed.new (w.alloc (.cells #[.pointer none, .slice none 0 0] 93)) 53 (.slice none 0 0)
  have n2 := Boxed.new ((w.alloc (.cells #[.pointer none, .slice none 0 0] 93)).alloc (.cells #[.slice none 0 0] 53)) 9 (.string ⟨#[]⟩)
  have n3 := Boxed.new (((w.alloc (.cells #[.pointer none, .slice none 0 0] 93)).alloc (.cells #[.slice none 0 0] 53)).alloc (.cells #[.string ⟨#[]⟩] 9)) 3 (.int .i64 0)
  have n4 := Boxed.new ((((w.alloc (.cells #[.pointer none, .slice none 0 0] 93)).alloc (.cells #[.slice none 0 0] 53)).alloc (.cells #[.string ⟨#[]⟩] 9)).alloc (.cells #[.int .i64 0] 3)) 55 sv
  have n5 := Boxed.new (((((w.alloc (.cells #[.pointer none, .slice none 0 0] 93)).alloc (.cells #[.slice none 0 0] 53)).alloc (.cells #[.string ⟨#[]⟩] 9)).alloc (.cells #[.int .i64 0] 3)).alloc (.cells #[sv] 55)) 3 (.int .i64 8)
  simp only [World.size_alloc, Nat.add_assoc, Nat.reduceAdd] at n1 n2 n3 n4 n5
  refine ⟨?_, ⟨_, (((n1.alloc _).alloc _).alloc _).alloc _, World.ownsRow_nil _ _ _ _⟩, ((n2.alloc _).alloc _).alloc _, (n3.alloc _).alloc _, n4.alloc _, n5, ?_⟩
  · exact Lib.IsBuilderF.alloc (Lib.IsBuilderF.alloc (Lib.IsBuilderF.alloc (Lib.IsBuilderF.alloc (Lib.IsBuilderF.alloc hb _) _) _) _) _
  · exact ((((((Below.refl _ w).alloc (by simp) _).alloc (by simp) _).alloc (by simp; omega) _).alloc (by simp; omega) _).alloc (by simp; omega) _).alloc (by simp; omega) _
theorem KeepsOthers.below (h : Below W.heap.size W W') : KeepsOthers W W' := ⟨h.size, fun k o hk _ => (h.block k (Array.getElem?_eq_some_iff.1 hk).1).trans hk⟩
end Go.Proofs.Ytfdbcnpbjabjoaa
