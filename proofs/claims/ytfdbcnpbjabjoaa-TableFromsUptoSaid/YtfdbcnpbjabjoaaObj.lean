/- A BLOCK OF TWO CELLS, KNOWN WHOLE; worlds that differ at one block. -/
import Derived.Test.YtfdbcnpbjabjoaaBytes
namespace Go.Proofs.Ytfdbcnpbjabjoaa
open Go.RowKit

/-- block g is x, y -/
def Obj2 (w : World) (g : Nat) (T : TypeId) (x y : Value) : Prop := w.heap[g]? = some (.cells #[x, y] T (0, 0))
theorem Obj2.c0 {w : World} {g : Nat} {T : TypeId} {x y : Value} (h : Obj2 w g T x y) : w.cell? ⟨g, 0, none⟩ = some x := by rw [cell_of_row w g 0 _ T (0, 0) h]; rfl
theorem Obj2.c1 {w : World} {g : Nat} {T : TypeId} {x y : Value} (h : Obj2 w g T x y) : w.cell? ⟨g, 1, none⟩ = some y := by rw [cell_of_row w g 1 _ T (0, 0) h]; rfl
theorem Obj2.fz {w : World} {g : Nat} {T : TypeId} {x y : Value} (h : Obj2 w g T x y) (j : Nat) : w.frozen? ⟨g, j, none⟩ = false := frozen_of_row w g j _ T h
theorem Obj2.lt {w : World} {g : Nat} {T : TypeId} {x y : Value} (h : Obj2 w g T x y) : g < w.heap.size := (Array.getElem?_eq_some_iff.1 h).1
theorem Obj2.set0 {w : World} {g : Nat} {T : TypeId} {x y : Value} (h : Obj2 w g T x y) (u : Value) : Obj2 (w.setCell ⟨g, 0, none⟩ u) g T u y := heap_setCell_same w g 0 _ T u h
theorem Obj2.set1 {w : World} {g : Nat} {T : TypeId} {x y : Value} (h : Obj2 w g T x y) (u : Value) : Obj2 (w.setCell ⟨g, 1, none⟩ u) g T x u := heap_setCell_same w g 1 _ T u h
theorem Obj2.of_block {w w' : World} {g : Nat} {T : TypeId} {x y : Value} (h : Obj2 w g T x y) (e : w'.heap[g]? = w.heap[g]?) : Obj2 w' g T x y := e.trans h
theorem Obj2.below {B : Nat} {w w' : World} {g : Nat} {T : TypeId} {x y : Value} (h : Obj2 w g T x y) (hb : Below B w w') (hg : g < B) : Obj2 w' g T x y := h.of_block (hb.block g hg)
theorem Obj2.keep {w w' : World} {g : Nat} {T : TypeId} {x y : Value} (h : Obj2 w g T x y) (hb : Below w.heap.size w w') : Obj2 w' g T x y := h.below hb h.lt
theorem Obj2.grown {w w' : World} {g k : Nat} {T : TypeId} {x y : Value} (h : Obj2 w g T x y) (hb : w.grownBy w' (some k)) (hne : g ≠ k) : Obj2 w' g T x y := h.of_block (hb.block g h.lt (by simpa using hne))
theorem Obj2.new (w : World) (x y : Value) (T : TypeId) : Obj2 (w.alloc (.cells #[x, y] T)) w.heap.size T x y := heap_alloc_new w _

/-- what turned stands in block g, or is new -/
abbrev At (g : Nat) (w w' : World) : Prop := w.grownBy w' (some g)
theorem At.refl (g : Nat) (w : World) : At g w w := ⟨rfl, rfl, rfl, Nat.le_refl _, fun _ _ _ => rfl⟩
theorem At.of_drew {g : Nat} {w w' : World} (h : At g w.drew w') : At g w w' := ⟨h.os, h.tape, h.output, h.size, h.block⟩
theorem At.trans {g : Nat} {a b c : World} (h : At g a b) (k : At g b c) : At g a c :=
  ⟨k.os.trans h.os, k.tape.trans h.tape, k.output.trans h.output, Nat.le_trans h.size k.size, fun i hi hn => (k.block i (Nat.lt_of_lt_of_le hi h.size) hn).trans (h.block i hi hn)⟩
theorem At.set {g : Nat} {a w : World} (h : At g a w) (j : Nat) (u : Value) : At g a (w.setCell ⟨g, j, none⟩ u) :=
  h.trans ⟨rfl, rfl, rfl, by simp [World.setCell], fun k _ hn => Below.heap_setCell _ _ _ _ (by simpa using hn)⟩
theorem At.of_below {g : Nat} {w w' : World} (h : Below w.heap.size w w') : At g w w' := ⟨h.os, h.tape, h.output, h.size, fun k hk _ => h.block k hk⟩
theorem At.below {g : Nat} {w0 w w' : World} (h : Below w0.heap.size w0 w) (k : At g w w') (hg : w0.heap.size ≤ g) : Below w0.heap.size w0 w' := h.grown k h.size (fun j hj => by cases hj; exact hg)
end Go.Proofs.Ytfdbcnpbjabjoaa
