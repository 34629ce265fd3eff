/- WHAT A LOOP's BODY THAT COLLECTS KEEPS: all cells but its box and the block that its slice lies in. -/
import Derived.RangeFuncNested
import Derived.RangeFuncBound
import Derived.RangeFuncBox
import Derived.RangeFuncCalls
import Derived.RangeFuncLeaves
import Derived.Shelf.Abstract
import Derived.WalkKit
import Derived.OwnWalkIn
import Derived.TacticsInMore
import Derived.LoopNIn
import Derived.LoopIn
import Derived.Test.YtfdbcnpbjabjoaaTabGet
namespace Go.Proofs.Ytfdbcnpbjabjoaa
open Go.RowKit Go.Shelf
set_option linter.unusedVariables false
set_option linter.unusedSimpArgs false

/-- an append leaves the slice in its block, or lays it in a new one -/
theorem row_new {P : Program} (w : World) (t ty : TypeId) {α : Type} (C : α → List Value) (m : Nat) (hm : 0 < m) (hC : ∀ a, (C a).length = m) (h1 : ∀ a, ∀ u ∈ C a, u.oneCell' = true)
    (B : Nat) (e : TypeId) (z : Value) (bytes : Nat) (ht : P.underlying t = some (.slice e)) (hi : (P.info? e).map (fun i => (i.zero, i.size, i.bytes)) = some (some z, m, bytes)) (hzs : z.cells.size = m)
    (v : Value) (n : Nat) (L : List α) (hown : w.ownsRow B e m v n (L.flatMap C)) (g c : Nat) (y : α) (hy : ∀ j u, (C y)[j]? = some u → w.cell? ⟨g, j, none⟩ = some u)
    (hlen : n + 1 ≤ maxLen) (hbytes : (n + 1) * bytes ≤ 140737488355328) (hB : B ≤ w.heap.size) :
    ∃ a' c' w', (Builtin.append_ #[t, t] ty #[v, .slice (some ⟨g, 0, none⟩) 1 c]).run P w = .ok (.slice a' (n + 1) c') w' ∧ w'.ownsRow B e m (.slice a' (n + 1) c') (n + 1) ((L ++ [y]).flatMap C) ∧ w.grownBy w' v.ownBlock ∧ ∀ b, (Value.slice a' (n + 1) c').ownBlock = some b → v.ownBlock = some b ∨ w.heap.size ≤ b := by
  obtain ⟨a', c', w', hrun, r1, r2⟩ := row_run (P := P) w t ty C m hm hC h1 B e z bytes ht hi hzs v n L hown g c y hy hlen hbytes hB
  refine ⟨a', c', w', hrun, r1, r2, fun b hb => ?_⟩
  obtain ⟨i0, hi0, hz0, hz1, hz2⟩ := info_parts hi
  have hy' : ∀ j u, (C y)[j]? = some u → w.cell? ((⟨g, 0, none⟩ : Addr).add j) = some u := by
    intro j u hj
    have e0 : (⟨g, 0, none⟩ : Addr).add j = ⟨g, j, none⟩ := by unfold Addr.add; split <;> simp_all
    rw [e0]; exact hy j u hj
  rcases hown.2 with ⟨rfl, rfl⟩ | ⟨g', cap, cur, rfl, hbg, hg, hnc, hcm, hcs, htake⟩
  · obtain ⟨a2, c2, w2, h2, q1, -⟩ := row_run (P := P) w t ty C m hm hC h1 w.heap.size e z bytes ht hi hzs (.slice none 0 0) 0 L ⟨hown.1, .inl ⟨rfl, rfl⟩⟩ g c y hy hlen hbytes (Nat.le_refl _)
    rw [hrun] at h2
    cases h2
    exact .inr (q1.lt b hb).1
  · subst hz1 hz2
    by_cases hroom : n + 1 ≤ cap
    · have hfit : n * i0.size + (C y).length ≤ cur.size := by rw [hC, hcs]; have := Nat.mul_le_mul_right i0.size hroom; rw [Nat.add_mul, Nat.one_mul] at this; exact this
      have hr := run_append_room (P := P) w t ty e i0 ht hi0 g' n cap cur hg ⟨g, 0, none⟩ 1 c (C y) (by rw [hC]; simp) hy' (h1 y) hroom hfit
      rw [hrun] at hr
      cases hr
      exact .inl hb
    · have holds : ∀ j u, (L.flatMap C)[j]? = some u → w.cell? ((⟨g', 0, none⟩ : Addr).add j) = some u := hown.cells (g := g') rfl
      have hr := run_append_grow (P := P) w t ty e i0 z ht hi0 hz0 ⟨g', 0, none⟩ n cap (L.flatMap C) hown.1 holds ⟨g, 0, none⟩ 1 c (C y) (by rw [hC]; simp) hy' (by omega) (by unfold maxLen at hlen; omega) (growslice_fits (by omega) hbytes)
      rw [hrun] at hr
      cases hr
      refine .inr ?_
      simp only [Value.ownBlock, Option.some.injEq] at hb
      omega
theorem wpListIn_append_row {F : Fence} {dn : Nat} {P : Program} (w : World) {ops : Array Oper} {rest : List Oper} {o : Oper} {a : Act} {Q : Exit → Act → World → Prop} (hgd : o.guard = none) (s x : Operand) (t : TypeId)
    (ho : o.op = .call { callee := .builtin .append, args := #[s, x], argTypes := #[t, t] })
    {α : Type} (C : α → List Value) (m : Nat) (hm : 0 < m) (hC : ∀ a, (C a).length = m) (h1 : ∀ a, ∀ u ∈ C a, u.oneCell' = true)
    (B : Nat) (e : TypeId) (z : Value) (bytes : Nat) (ht : P.underlying t = some (.slice e)) (hi : (P.info? e).map (fun i => (i.zero, i.size, i.bytes)) = some (some z, m, bytes)) (hzs : z.cells.size = m)
    (v : Value) (n : Nat) (L : List α) (hs : a.eval s = v) (hown : w.ownsRow B e m v n (L.flatMap C)) (g c : Nat) (hx : a.eval x = .slice (some ⟨g, 0, none⟩) 1 c) (y : α) (hy : ∀ j u, (C y)[j]? = some u → w.cell? ⟨g, j, none⟩ = some u)
    (hlen : n + 1 ≤ maxLen) (hbytes : (n + 1) * bytes ≤ 140737488355328) (hB : B ≤ w.heap.size)
    (h : ∀ a' c' w', w'.ownsRow B e m (.slice a' (n + 1) c') (n + 1) ((L ++ [y]).flatMap C) → w.grownBy w' v.ownBlock → (∀ b, (Value.slice a' (n + 1) c').ownBlock = some b → v.ownBlock = some b ∨ w.heap.size ≤ b) → wpListIn F dn P ops Q rest (a.put o.dst (.slice a' (n + 1) c')) w') : wpListIn F dn P ops Q (o :: rest) a w := by
  obtain ⟨a', c', w', hrun, r1, r2, r3⟩ := row_new (P := P) w t o.type C m hm hC h1 B e z bytes ht hi hzs v n L hown g c y hy hlen hbytes hB
  refine wpListIn_plain hgd fun K hK' => ?_
  unfold Oper.wpIn
  refine ⟨?_, ?_⟩
  · simp [Oper.about, ho, resolve, Target.leads, Sem.run_pure]
  · rw [Oper.semAt_plain F _ _ (by rw [ho]; intro c hc'; cases hc')]
    simp [execOp, ho, resolve, invoke, builtin, hs, hx, hrun, Result.andThen]
    exact hK' _ _ (h a' c' w' r1 r2 r3)
/-- the block in which the slice in a box lies -/
def ownB (x : Nat) (W : World) (b : Nat) : Prop := ∃ v, W.cell? ⟨x, 0, none⟩ = some v ∧ v.ownBlock = some b
structure KpB (N x : Nat) (A B : World) : Prop where
  bl : Below N A B
  cs : ∀ b c T z, A.heap[b]? = some (.cells c T z) → b ≠ x → ¬ ownB x A b → B.heap[b]? = A.heap[b]?
  nw : ∀ b, ownB x B b → ownB x A b ∨ (A.heap.size ≤ b ∧ b < B.heap.size)
theorem KpB.refl (N x : Nat) (A : World) : KpB N x A A := ⟨Below.refl _ _, fun _ _ _ _ _ _ _ => rfl, fun _ h => .inl h⟩
theorem KpB.trans {N x : Nat} {A B C : World} (h : KpB N x A B) (k : KpB N x B C) : KpB N x A C := by
  refine ⟨h.bl.trans k.bl, fun b c T z hb hx ho => ?_, fun b hb => ?_⟩
  · have hB := h.cs b c T z hb hx ho
    refine (k.cs b c T z (hB.trans hb) hx fun q => ?_).trans hB
    rcases h.nw b q with q | q
    · exact ho q
    · have := (Array.getElem?_eq_some_iff.1 hb).1; omega
  · rcases k.nw b hb with q | q
    · rcases h.nw b q with q | q
      · exact .inl q
      · exact .inr ⟨q.1, Nat.lt_of_lt_of_le q.2 k.bl.size⟩
    · exact .inr ⟨Nat.le_trans h.bl.size q.1, q.2⟩
theorem KpB.grow {N x : Nat} {A B : World} (h : Below A.heap.size A B) (hN : N ≤ A.heap.size) (hx : x < A.heap.size) : KpB N x A B :=
  ⟨⟨h.os, h.tape, h.output, h.size, fun k hk => h.block k (by omega)⟩, fun b c T z hb _ _ => h.block b (Array.getElem?_eq_some_iff.1 hb).1,
   fun b ⟨v, hv, hb⟩ => .inl ⟨v, (h.cell (p := ⟨x, 0, none⟩) hx).symm.trans hv, hb⟩⟩
theorem KpB.put {N x : Nat} {w : World} (hN : N ≤ w.heap.size) (hx : x < w.heap.size) (W : World) (l : Nat) (o o' : Obj) (hl : w.heap.size ≤ l) (h : W.heap[l]? = some o) (hc : o.isCells = false) (hw : o.isWalk = false) : KpB N x W (W.putObj l o') := by
  refine ⟨belowK_b hN W l o o' hl h hc hw |> fun q => ⟨q.os, q.tape, q.output, q.size, fun k hk => q.block k hk⟩, fun b c T z hb _ _ => World.putObj_heap_other (fun e => ?_), fun b ⟨v, hv, hb⟩ => .inl ⟨v, ?_, hb⟩⟩
  · subst e; rw [h] at hb; cases hb; cases hc
  · rw [← hv]
    exact (World.cell?_of_block (World.putObj_heap_other (by show x ≠ l; omega))).symm
end Go.Proofs.Ytfdbcnpbjabjoaa
