/- A NUMBER THAT IS TURNED ON ITS WAY; cells that stay. -/
import Derived.Test.YtdoblbiodpcjdaaGreatVaryPut
import Derived.Test.YtdoblbiodpcjdaaGreatObj
import Derived.Test.YtdoblbiodpcjdaaGreatFrames
namespace Go.Proofs.YtdoblbiodpcjdaaGreat
open Go.RowKit
set_option linter.unusedVariables false
theorem zVp {w2 w' w'' : World} {A C : Addr} {x y : Value} (ha : A.block < w2.heap.size) (hc : C.block < w2.heap.size) (h0 : w2.cell? A = some x) (h1 : w2.cell? C = some y) (h : Below w2.heap.size w2 w' ∧ w'.cell? A = some x ∧ w'.cell? C = some y) (k : Below w'.heap.size w' w'') :
 Below w2.heap.size w2 w'' ∧ w''.cell? A = some x ∧ w''.cell? C = some y := by
 have hb := zAl h.1 k
 exact ⟨hb, (hb.cell ha).trans h0, (hb.cell hc).trans h1⟩
theorem zVq {w2 w' w'' : World} {A C D E : Addr} {x y z u : Value} (ha : A.block < w2.heap.size) (hc : C.block < w2.heap.size) (hd : D.block < w2.heap.size) (he : E.block < w2.heap.size) (h0 : w2.cell? A = some x) (h1 : w2.cell? C = some y) (h2 : w2.cell? D = some z) (h3 : w2.cell? E = some u)
 (h : Below w2.heap.size w2 w' ∧ w'.cell? A = some x ∧ w'.cell? C = some y ∧ w'.cell? D = some z ∧ w'.cell? E = some u) (k : Below w'.heap.size w' w'') :
 Below w2.heap.size w2 w'' ∧ w''.cell? A = some x ∧ w''.cell? C = some y ∧ w''.cell? D = some z ∧ w''.cell? E = some u := by
 have hb := zAl h.1 k
 exact ⟨hb, (hb.cell ha).trans h0, (hb.cell hc).trans h1, (hb.cell hd).trans h2, (hb.cell he).trans h3⟩
end Go.Proofs.YtdoblbiodpcjdaaGreat
