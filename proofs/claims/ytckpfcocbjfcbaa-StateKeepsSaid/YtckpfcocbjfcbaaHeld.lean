/- A NUMBER THAT IS TURNED ON ITS WAY; cells that stay. -/
import Derived.Test.YtckpfcocbjfcbaaVaryPut
import Derived.Test.YtckpfcocbjfcbaaObj
import Derived.Test.YtckpfcocbjfcbaaFrames
namespace Go.Proofs.Ytckpfcocbjfcbaa
open Go.RowKit
set_option linter.unusedVariables false

/-- a number that is turned to uint64 on its way -/
theorem put_mod (n : Nat) (hn : U64 n) (w : World) :
    Calls Try.prog 22 #[.int .u64 (IntKind.u64.wrap (n : Int))] w fun e w' => e = .returned (.string ⟨(putL n).toArray⟩) ∧ Below w.heap.size w w' := by
  rw [wrap_u64 (by omega) (by unfold U64 at hn; omega)]
  exact put_any n hn w
theorem held2 {w2 w' w'' : World} {A C : Addr} {x y : Value} (ha : A.block < w2.heap.size) (hc : C.block < w2.heap.size) (h0 : w2.cell? A = some x) (h1 : w2.cell? C = some y) (h : Below w2.heap.size w2 w' ∧ w'.cell? A = some x ∧ w'.cell? C = some y) (k : Below w'.heap.size w' w'') :
    Below w2.heap.size w2 w'' ∧ w''.cell? A = some x ∧ w''.cell? C = some y := by
  have hb := bnext h.1 k
  exact ⟨hb, (hb.cell ha).trans h0, (hb.cell hc).trans h1⟩
theorem held4 {w2 w' w'' : World} {A C D E : Addr} {x y z u : Value} (ha : A.block < w2.heap.size) (hc : C.block < w2.heap.size) (hd : D.block < w2.heap.size) (he : E.block < w2.heap.size) (h0 : w2.cell? A = some x) (h1 : w2.cell? C = some y) (h2 : w2.cell? D = some z) (h3 : w2.cell? E = some u)
    (h : Below w2.heap.size w2 w' ∧ w'.cell? A = some x ∧ w'.cell? C = some y ∧ w'.cell? D = some z ∧ w'.cell? E = some u) (k : Below w'.heap.size w' w'') :
    Below w2.heap.size w2 w'' ∧ w''.cell? A = some x ∧ w''.cell? C = some y ∧ w''.cell? D = some z ∧ w''.cell? E = some u := by
  have hb := bnext h.1 k
  exact ⟨hb, (hb.cell ha).trans h0, (hb.cell hc).trans h1, (hb.cell hd).trans h2, (hb.cell he).trans h3⟩
end Go.Proofs.Ytckpfcocbjfcbaa
