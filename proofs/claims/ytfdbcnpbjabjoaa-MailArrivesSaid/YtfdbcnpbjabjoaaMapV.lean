/- A MAP OF WHATEVER ELEMENTS that the call itself made: 'MapV w k b n f': block b is a map of at most n entries, which answers f. -/
import Derived.Maps.OwnSet
import Derived.Test.YtfdbcnpbjabjoaaObj
namespace Go.Proofs.Ytfdbcnpbjabjoaa
open Go.RowKit
open Go.Maps (Keyed)
set_option linter.unusedVariables false

/-- each value reads as itself -/
def heldR (v : Value) : Option (DataW Value × List MemPlace) := some (.held v, [])
theorem heldR_inv {v u : Value} {ps : List MemPlace} (h : heldR v = some (.held u, ps)) : v = u := by
  unfold heldR at h
  simp only [Option.some.injEq, Prod.mk.injEq, DataW.held.injEq] at h
  exact h.1
/-- the entries: a key's element -/
abbrev Ent := Lit → Option Value
def Ent.put (f : Ent) (k : Lit) (v : Value) : Ent := fun x => bif x.sameKey k then some v else f x
theorem sameKey_self {x : Lit} (h : WideAt.IsKeyLit x) : x.sameKey x = true := by
  cases x <;> simp_all [Lit.sameKey, WideAt.IsKeyLit]
def Ent.none : Ent := fun _ => Option.none
structure MapV (P : Program) (w : World) (k : TypeId) (b n : Nat) (f : Ent) : Prop where
  ex : ∃ D : DataW Value, w.ownsMap P k heldR b n D ∧ ∀ x, WideAt.IsKeyLit x → Maps.has D x = (f x).isSome ∧ ∀ z, D.atKey x (.held z) = .held ((f x).getD z)
section
variable {P : Program} {w w' : World} {k e t : TypeId} {b n : Nat} {f : Ent}
theorem MapV.made (w : World) (P : Program) (k : TypeId) : MapV P (w.alloc (.map #[] 0)) k w.heap.size 0 Ent.none :=
  ⟨.map [], World.ownsMap_made w P k heldR, fun x _ => ⟨rfl, fun z => rfl⟩⟩
theorem MapV.lt (h : MapV P w k b n f) : b < w.heap.size := by
  obtain ⟨D, hD, _⟩ := h.ex
  exact hD.lt
theorem MapV.kept {row : Option Nat} (h : MapV P w k b n f) (hg : w.grownBy w' row) (hne : some b ≠ row) : MapV P w' k b n f := by
  obtain ⟨D, hD, hf⟩ := h.ex
  exact ⟨D, hD.kept hg hne, hf⟩
theorem MapV.below (h : MapV P w k b n f) (hb : Below w.heap.size w w') : MapV P w' k b n f :=
  h.kept (row := Option.none) ⟨hb.os, hb.tape, hb.output, hb.size, fun i hi _ => hb.block i hi⟩ (by simp)
theorem MapV.mono (h : MapV P w k b n f) {m : Nat} (hm : n ≤ m) : MapV P w k b m f := by
  obtain ⟨D, hD, hf⟩ := h.ex
  exact ⟨D, hD.mono hm, hf⟩
/-- the map stands where a block of cells turns -/
theorem MapV.at {g : Nat} {R : Array Value} {T : TypeId} {fz : Nat × Nat} (h : MapV P w k b n f) (hg : w.heap[g]? = some (.cells R T fz)) (a : At g w w') : MapV P w' k b n f := by
  refine h.kept a ?_
  obtain ⟨D, ⟨es, cl, hb, _⟩, _⟩ := h.ex
  simp only [ne_eq, Option.some.injEq]
  rintro rfl
  rw [hb] at hg
  cases hg
/-- 'm[k]' -/
theorem MapV.look (h : MapV P w k b n f) (K : Keyed P k) (ht : P.underlying t = some (.map k e)) {z : Value} (hz : (zeroValue e).run P w = .ok z w) {key : Value} {kl : Lit} (hkey : keyOf P k key = some kl) :
    (Instr.lookup t (.map (some b)) key false).run P w = .ok ((f kl).getD z) w := by
  obtain ⟨D, hD, hf⟩ := h.ex
  obtain ⟨v, ps, hrun, hv⟩ := hD.lookup K ht hz (zd := .held z) (zp := []) rfl hkey
  rw [(hf kl (K.key hkey)).2 z] at hv
  rw [hrun, heldR_inv hv]
/-- 'v, ok := m[k]' -/
theorem MapV.look_ok (h : MapV P w k b n f) (K : Keyed P k) (ht : P.underlying t = some (.map k e)) {z : Value} (hz : (zeroValue e).run P w = .ok z w) {key : Value} {kl : Lit} (hkey : keyOf P k key = some kl) :
    (Instr.lookup t (.map (some b)) key true).run P w = .ok (.tuple #[(f kl).getD z, .bool (f kl).isSome]) w := by
  obtain ⟨D, hD, hf⟩ := h.ex
  obtain ⟨v, ps, hrun, hv⟩ := hD.look_ok K ht hz (zd := .held z) (zp := []) rfl hkey
  rw [(hf kl (K.key hkey)).2 z] at hv
  rw [hrun, heldR_inv hv, (hf kl (K.key hkey)).1]
/-- 'm[k] = v' -/
theorem MapV.store (h : MapV P w k b n f) (K : Keyed P k) (ht : P.underlying t = some (.map k e)) (hn : n < maxLen) {key val : Value} {kl : Lit} (hkey : keyOf P k key = some kl) :
    ∃ w', (Instr.mapUpdate t (.map (some b)) key val).run P w = .ok () w' ∧ MapV P w' k b (n + 1) (f.put kl val) ∧ w.grownBy w' (some b) := by
  obtain ⟨D, hD, hf⟩ := h.ex
  obtain ⟨w', hrun, h1, h2⟩ := hD.update K ht hn hkey (d := .held val) (ps := []) rfl
  refine ⟨w', hrun, ⟨_, h1, fun x hx => ?_⟩, h2⟩
  by_cases hxk : x = kl
  · subst hxk
    rw [Maps.has_put_same hD.isMap hx]
    have hs := sameKey_self hx
    refine ⟨by simp [Ent.put, hs], fun z => ?_⟩
    rw [Maps.atKey_put_same hD.isMap hx]
    simp [Ent.put, hs]
  · have hs := Maps.sameKey_ne hxk
    rw [Maps.has_put_other hxk]
    refine ⟨by rw [(hf x hx).1]; simp [Ent.put, hs], fun z => ?_⟩
    rw [Maps.atKey_put_other hxk, (hf x hx).2 z]
    simp [Ent.put, hs]
end
section
variable {P : Program} (w : World) {ops : Array Oper} {rest : List Oper} {o : Oper} {a : Act} {Q : Exit → Act → World → Prop}
theorem wpList_look (hg : o.guard = none) (m x : Operand) (t : TypeId) (hop : o.op = Op.lookup t m x false)
    (k e : TypeId) (K : Keyed P k) (ht : P.underlying t = some (.map k e)) {z : Value} (hz : (zeroValue e).run P w = .ok z w) (b n : Nat) (f : Ent)
    (hm : a.eval m = .map (some b)) (hown : MapV P w k b n f) (key : Value) (kl : Lit) (hx : a.eval x = key) (hkey : keyOf P k key = some kl) (u : Value) (hu : (f kl).getD z = u)
    (hK : wpList P ops Q rest (a.put o.dst u) w) : wpList P ops Q (o :: rest) a w := by
  refine wpList_plain hg fun K' hK' => ?_
  have hrun := hown.look K ht hz hkey
  rw [hu] at hrun
  unfold Oper.wp
  simp [execOp, hop, hm, hx, hrun, Result.andThen]
  exact hK' _ _ hK
theorem wpList_store (hg : o.guard = none) (m x v : Operand) (t : TypeId) (hop : o.op = Op.mapUpdate t m x v)
    (k e : TypeId) (K : Keyed P k) (ht : P.underlying t = some (.map k e)) (b n : Nat) (f : Ent)
    (hm : a.eval m = .map (some b)) (hown : MapV P w k b n f) (hn : n < maxLen) (key val : Value) (kl : Lit) (hx : a.eval x = key) (hv : a.eval v = val) (hkey : keyOf P k key = some kl)
    (hK : ∀ w', MapV P w' k b (n + 1) (f.put kl val) → w.grownBy w' (some b) → wpList P ops Q rest (a.put o.dst undef) w') : wpList P ops Q (o :: rest) a w := by
  refine wpList_plain hg fun K' hK' => ?_
  obtain ⟨w', hrun, r1, r2⟩ := hown.store K ht hn hkey (val := val)
  unfold Oper.wp
  simp [execOp, hop, hm, hx, hv, hrun, Result.andThen]
  exact hK' _ _ (hK w' r1 r2)
end
end Go.Proofs.Ytfdbcnpbjabjoaa
