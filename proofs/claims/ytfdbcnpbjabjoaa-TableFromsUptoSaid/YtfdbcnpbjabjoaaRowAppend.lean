/- APPENDS OF ONE ELEMENT OF SEVERAL CELLS to a row of the call's own; what stands beside. -/
import Derived.Test.YtfdbcnpbjabjoaaSlices
import Derived.Test.YtfdbcnpbjabjoaaObj
import Derived.WalkLawsBesides
import Derived.WalkSpells
import Derived.Deep.RegionLaw
namespace Go.Proofs.Ytfdbcnpbjabjoaa
open Go.RowKit

theorem ownsRow_slice {w : World} {B : Nat} {e : TypeId} {k n : Nat} {v : Value} {xs : List Value} (h : w.ownsRow B e k v n xs) : ∃ a c, v = .slice a n c := by
  rcases h.2 with ⟨rfl, h0⟩ | ⟨b, cap, cur, rfl, _⟩
  · exact ⟨_, _, by rw [h0]⟩
  · exact ⟨_, _, rfl⟩
theorem row_run {P : Program} (w : World) (t ty : TypeId) {α : Type} (C : α → List Value) (m : Nat) (hm : 0 < m) (hC : ∀ a, (C a).length = m) (h1 : ∀ a, ∀ u ∈ C a, u.oneCell' = true)
    (B : Nat) (e : TypeId) (z : Value) (bytes : Nat) (ht : P.underlying t = some (.slice e)) (hi : (P.info? e).map (fun i => (i.zero, i.size, i.bytes)) = some (some z, m, bytes)) (hzs : z.cells.size = m)
    (v : Value) (n : Nat) (L : List α) (hown : w.ownsRow B e m v n (L.flatMap C)) (g c : Nat) (y : α) (hy : ∀ j u, (C y)[j]? = some u → w.cell? ⟨g, j, none⟩ = some u)
    (hlen : n + 1 ≤ maxLen) (hbytes : (n + 1) * bytes ≤ 140737488355328) (hB : B ≤ w.heap.size) :
    ∃ a' c' w', (Builtin.append_ #[t, t] ty #[v, .slice (some ⟨g, 0, none⟩) 1 c]).run P w = .ok (.slice a' (n + 1) c') w' ∧ w'.ownsRow B e m (.slice a' (n + 1) c') (n + 1) ((L ++ [y]).flatMap C) ∧ w.grownBy w' v.ownBlock := by
  obtain ⟨i0, hi0, hz0, hz1, hz2⟩ := info_parts hi
  have hy' : ∀ j u, (C y)[j]? = some u → w.cell? ((⟨g, 0, none⟩ : Addr).add j) = some u := by
    intro j u hj
    have e0 : (⟨g, 0, none⟩ : Addr).add j = ⟨g, j, none⟩ := by unfold Addr.add; split <;> simp_all
    rw [e0]; exact hy j u hj
  obtain ⟨v', w', hrun, r1, r2, _⟩ := run_append_own (P := P) w B t ty e i0 z m bytes ht hi0 hz0 hz1 hz2 hzs hm v n (L.flatMap C) hown ⟨g, 0, none⟩ 1 c (C y) (by rw [hC]; simp) hy' (h1 y) hlen hbytes hB
  obtain ⟨a', c', rfl⟩ := ownsRow_slice r1
  exact ⟨a', c', w', hrun, by rw [List.flatMap_append]; simpa using r1, r2⟩
theorem wpList_append_row {P : Program} (w : World) {ops : Array Oper} {rest : List Oper} {o : Oper} {a : Act} {Q : Exit → Act → World → Prop} (hgd : o.guard = none) (s x : Operand) (t : TypeId)
    (ho : o.op = .call { callee := .builtin .append, args := #[s, x], argTypes := #[t, t] })
    {α : Type} (C : α → List Value) (m : Nat) (hm : 0 < m) (hC : ∀ a, (C a).length = m) (h1 : ∀ a, ∀ u ∈ C a, u.oneCell' = true)
    (B : Nat) (e : TypeId) (z : Value) (bytes : Nat) (ht : P.underlying t = some (.slice e)) (hi : (P.info? e).map (fun i => (i.zero, i.size, i.bytes)) = some (some z, m, bytes)) (hzs : z.cells.size = m)
    (v : Value) (n : Nat) (L : List α) (hs : a.eval s = v) (hown : w.ownsRow B e m v n (L.flatMap C)) (g c : Nat) (hx : a.eval x = .slice (some ⟨g, 0, none⟩) 1 c) (y : α) (hy : ∀ j u, (C y)[j]? = some u → w.cell? ⟨g, j, none⟩ = some u)
    (hlen : n + 1 ≤ maxLen) (hbytes : (n + 1) * bytes ≤ 140737488355328) (hB : B ≤ w.heap.size)
    (h : ∀ a' c' w', w'.ownsRow B e m (.slice a' (n + 1) c') (n + 1) ((L ++ [y]).flatMap C) → w.grownBy w' v.ownBlock → wpList P ops Q rest (a.put o.dst (.slice a' (n + 1) c')) w') : wpList P ops Q (o :: rest) a w := by
  obtain ⟨a', c', w', hrun, r1, r2⟩ := row_run (P := P) w t o.type C m hm hC h1 B e z bytes ht hi hzs v n L hown g c y hy hlen hbytes hB
  refine wpList_plain hgd fun _ hK => ?_
  unfold Oper.wp execOp
  simp only [ho, resolve, invoke, builtin, Sem.run_bind, Sem.run_pure, Result.andThen_ok, List.map_toArray, List.map_cons, List.map_nil, hs, hx, hrun]
  exact hK _ _ (h a' c' w' r1 r2)
theorem step_append_row {P : Program} (w : World) {ops : Array Oper} {o : Oper} {a : Act} {K : Act → World → Prop} {Q : Exit → Act → World → Prop} {E : Prop} (hgd : o.guard = none) (s x : Operand) (t : TypeId)
    (ho : o.op = .call { callee := .builtin .append, args := #[s, x], argTypes := #[t, t] })
    {α : Type} (C : α → List Value) (m : Nat) (hm : 0 < m) (hC : ∀ a, (C a).length = m) (h1 : ∀ a, ∀ u ∈ C a, u.oneCell' = true)
    (B : Nat) (e : TypeId) (z : Value) (bytes : Nat) (ht : P.underlying t = some (.slice e)) (hi : (P.info? e).map (fun i => (i.zero, i.size, i.bytes)) = some (some z, m, bytes)) (hzs : z.cells.size = m)
    (v : Value) (n : Nat) (L : List α) (hs : a.eval s = v) (hown : w.ownsRow B e m v n (L.flatMap C)) (g c : Nat) (hx : a.eval x = .slice (some ⟨g, 0, none⟩) 1 c) (y : α) (hy : ∀ j u, (C y)[j]? = some u → w.cell? ⟨g, j, none⟩ = some u)
    (hlen : n + 1 ≤ maxLen) (hbytes : (n + 1) * bytes ≤ 140737488355328) (hB : B ≤ w.heap.size)
    (h : ∀ a' c' w', w'.ownsRow B e m (.slice a' (n + 1) c') (n + 1) ((L ++ [y]).flatMap C) → w.grownBy w' v.ownBlock → K (a.put o.dst (.slice a' (n + 1) c')) w') :
    if Region.wanted o (yielded ops a.tmps) = true then Oper.wp P o a w K Q else E := by
  have hw : Region.wanted o (yielded ops a.tmps) = true := by simp [Region.wanted, hgd]
  rw [if_pos hw]
  obtain ⟨a', c', w', hrun, r1, r2⟩ := row_run (P := P) w t o.type C m hm hC h1 B e z bytes ht hi hzs v n L hown g c y hy hlen hbytes hB
  unfold Oper.wp
  simp [execOp, ho, resolve, invoke, builtin, hs, hx, hrun, Result.andThen]
  exact h a' c' w' r1 r2
/-- a row stands where a block of other elements turns -/
theorem own_at_other {w w' : World} {B g n k : Nat} {e T : TypeId} {v x y : Value} {xs : List Value} (h : w.ownsRow B e k v n xs) (ho : Obj2 w g T x y) (hT : T ≠ e) (a : At g w w') : w'.ownsRow B e k v n xs := by
  refine h.kept a ?_
  rcases h.2 with ⟨rfl, _⟩ | ⟨b, cap, cur, rfl, _, hb, _⟩
  · exact .inl rfl
  · right
    simp only [Value.ownBlock, ne_eq, Option.some.injEq]
    rintro rfl
    rw [ho] at hb
    cases hb
    exact hT rfl
theorem own_new {w w' : World} {B n k : Nat} {e : TypeId} {v : Value} {xs : List Value} (h : w.ownsRow B e k v n xs) (hb : Below w.heap.size w w') : w'.ownsRow B e k v n xs :=
  h.kept (row := none) ⟨hb.os, hb.tape, hb.output, hb.size, fun k hk _ => hb.block k hk⟩ (by cases hv : v.ownBlock <;> simp)
/-- what turns in a block that was not there -/
theorem own_fresh {w0 w w' : World} {B n k g : Nat} {e : TypeId} {v : Value} {xs : List Value} (h0 : w0.ownsRow B e k v n xs) (h : w.ownsRow B e k v n xs) (a : At g w w') (hg : w0.heap.size ≤ g) : w'.ownsRow B e k v n xs := by
  refine h.kept a ?_
  cases hv : v.ownBlock with
  | none => exact .inl rfl
  | some b => exact .inr (by have := (h0.lt b hv).2; simp; omega)
/-- a block of other elements stands where a row turns -/
theorem obj_grown {w w' : World} {B g n k : Nat} {e T : TypeId} {v x y : Value} {xs : List Value} (h : w.ownsRow B e k v n xs) (hg : w.grownBy w' v.ownBlock) (ho : Obj2 w g T x y) (hT : T ≠ e) : Obj2 w' g T x y := by
  refine ho.of_block (hg.block g ho.lt ?_)
  rcases h.2 with ⟨rfl, _⟩ | ⟨b, cap, cur, rfl, _, hb, _⟩
  · simp [Value.ownBlock]
  · simp only [Value.ownBlock, ne_eq, Option.some.injEq]
    rintro rfl
    rw [ho] at hb
    cases hb
    exact hT rfl
theorem below_grown {w0 w w' : World} {B n k : Nat} {e : TypeId} {v : Value} {xs : List Value} (hb : Below w0.heap.size w0 w) (h : w.ownsRow B e k v n xs) (hg : w.grownBy w' v.ownBlock) (hB : w0.heap.size ≤ B) : Below w0.heap.size w0 w' :=
  hb.grown hg hb.size (fun j hj => Nat.le_trans hB (h.lt j hj).1)
theorem own_mono {w : World} {B B' : Nat} {e : TypeId} {k n : Nat} {v : Value} {xs : List Value} (h : w.ownsRow B e k v n xs) (hB : B' ≤ B) : w.ownsRow B' e k v n xs := by
  obtain ⟨h1, h2⟩ := h
  refine ⟨h1, h2.imp id ?_⟩
  rintro ⟨g, cap, cur, e1, h2, h3⟩
  exact ⟨g, cap, cur, e1, Nat.le_trans hB h2, h3⟩
end Go.Proofs.Ytfdbcnpbjabjoaa
