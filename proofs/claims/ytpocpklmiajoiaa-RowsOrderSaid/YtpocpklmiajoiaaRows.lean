/-
  No cell of these rows narrows 'for every input' (looked for: loops, veiled, ifaces, maps, wideKeys, modest, calm, conditions, laid).
  DERIVED. THE GIVEN ROWS OF THIS SEAT. 4 by the template 'for every input the law returns true; each argument reads behind the call as it read before'; 0 by the template 'total and deterministic' (their statements: YtpocpklmiajoiaaTotals.lean).
  GIVEN WITH THE SEED: the statements are not yours to turn. If you find one false, say at which input.
  Laid BY PROGRAM, IN A SANDBOX (cutbox-rows.mjs): the forced cells as the released guide's own fill.sh prints them over the translation 0440539b6dc35f7d… (all of the seat's roots in one cut). By AI agents, Wed Nov 11 2026. No macro, syntax, notation, axiom, sorry.
-/
import Derived.Test.YtpocpklmiajoiaaChecked
import GoSem.Claim
import GoSem.ClaimJoined
import GoSem.ClaimMapViews
import Derived.JoinedTies
import Derived.KernelRfl
namespace Go.Proofs.Ytpocpklmiajoiaa
/- THE CELL 'sum', in the pinned program and in every row, IS THE sha256 OF THE DUMP (.gsa) THAT YtpocpklmiajoiaaProg.lean LOADS. Nothing in Lean hashes anything: it is a label: what it is worth is what the hold of that sum in a sandbox is worth. -/
noncomputable def Try.pinned : Pinned := { name := "ytpocpklmiajoiaa", sum := "0440539b6dc35f7d55c968b4ac1fe1ad5ae82a0e997c53239bb07b516a925006", checked := Try.checked }
namespace Rows
def none {H : Type} : Left H := { results := [], args := [] }

/-- 'wherrylaw17.RowsOrder': WHATEVER THE INPUT: true; the input reads as it did. -/
def rowsOrderSpec : ChangeSpec := { name := "rowsOrder", fn := fun _ => fun
  | [d1, d2] => { results := [.lit (.bool true)], args := [d1, d2] }
  | _ => none }
def rowsOrderRow : OpenClaim := { program := "ytpocpklmiajoiaa", sum := "0440539b6dc35f7d55c968b4ac1fe1ad5ae82a0e997c53239bb07b516a925006", func := "wherry/wherrylaw17.RowsOrder", spec := "rowsOrder", apart := false }
def RowsOrderSaid : Prop := rowsOrderRow.holds Try.pinned (OpenSpec.ofChange rowsOrderSpec)

/-- ITS FALSE NEIGHBOUR: 'it returns false'. Refute it at one input. -/
def rowsOrderWrong : ChangeSpec := { name := "rowsOrder", fn := fun _ => fun
  | [d1, d2] => { results := [.lit (.bool false)], args := [d1, d2] }
  | _ => none }
def RowsOrderWrongFalsely : Prop := rowsOrderRow.holds Try.pinned (OpenSpec.ofChange rowsOrderWrong)

/-- 'wherrylaw17.RowsBytes': WHATEVER THE INPUT: true; the input reads as it did. -/
def rowsBytesSpec : ChangeSpec := { name := "rowsBytes", fn := fun _ => fun
  | [d] => { results := [.lit (.bool true)], args := [d] }
  | _ => none }
def rowsBytesRow : OpenClaim := { program := "ytpocpklmiajoiaa", sum := "0440539b6dc35f7d55c968b4ac1fe1ad5ae82a0e997c53239bb07b516a925006", func := "wherry/wherrylaw17.RowsBytes", spec := "rowsBytes", apart := false }
def RowsBytesSaid : Prop := rowsBytesRow.holds Try.pinned (OpenSpec.ofChange rowsBytesSpec)

/-- ITS FALSE NEIGHBOUR: 'it returns false'. Refute it at one input. -/
def rowsBytesWrong : ChangeSpec := { name := "rowsBytes", fn := fun _ => fun
  | [d] => { results := [.lit (.bool false)], args := [d] }
  | _ => none }
def RowsBytesWrongFalsely : Prop := rowsBytesRow.holds Try.pinned (OpenSpec.ofChange rowsBytesWrong)

/-- 'wherrylaw17.RowsBack': WHATEVER THE INPUT: true; the input reads as it did. -/
def rowsBackSpec : ChangeSpec := { name := "rowsBack", fn := fun _ => fun
  | [d1, d2, d3] => { results := [.lit (.bool true)], args := [d1, d2, d3] }
  | _ => none }
def rowsBackRow : OpenClaim := { program := "ytpocpklmiajoiaa", sum := "0440539b6dc35f7d55c968b4ac1fe1ad5ae82a0e997c53239bb07b516a925006", func := "wherry/wherrylaw17.RowsBack", spec := "rowsBack", apart := false }
def RowsBackSaid : Prop := rowsBackRow.holds Try.pinned (OpenSpec.ofChange rowsBackSpec)

/-- ITS FALSE NEIGHBOUR: 'it returns false'. Refute it at one input. -/
def rowsBackWrong : ChangeSpec := { name := "rowsBack", fn := fun _ => fun
  | [d1, d2, d3] => { results := [.lit (.bool false)], args := [d1, d2, d3] }
  | _ => none }
def RowsBackWrongFalsely : Prop := rowsBackRow.holds Try.pinned (OpenSpec.ofChange rowsBackWrong)

/-- 'wherrylaw17.RowsPuts': WHATEVER THE INPUT: true; the input reads as it did. -/
def rowsPutsSpec : ChangeSpec := { name := "rowsPuts", fn := fun _ => fun
  | [d1, d2] => { results := [.lit (.bool true)], args := [d1, d2] }
  | _ => none }
def rowsPutsRow : OpenClaim := { program := "ytpocpklmiajoiaa", sum := "0440539b6dc35f7d55c968b4ac1fe1ad5ae82a0e997c53239bb07b516a925006", func := "wherry/wherrylaw17.RowsPuts", spec := "rowsPuts", inPlace := ["internal/bytealg.IndexByteString", "internal/bytealg.IndexString"], unfollowed := true, recurses := true, named := ["internal/bytealg.MaxLen"], apart := false }
def RowsPutsSaid : Prop := rowsPutsRow.holds Try.pinned (OpenSpec.ofChange rowsPutsSpec)

/-- ITS FALSE NEIGHBOUR: 'it returns false'. Refute it at one input. -/
def rowsPutsWrong : ChangeSpec := { name := "rowsPuts", fn := fun _ => fun
  | [d1, d2] => { results := [.lit (.bool false)], args := [d1, d2] }
  | _ => none }
def RowsPutsWrongFalsely : Prop := rowsPutsRow.holds Try.pinned (OpenSpec.ofChange rowsPutsWrong)

/- THE SECOND FORM. 'bulk': how many values and letters a reading holds, each counted each time it is reached (what is shared counts as often as it is met; a slice's spare places count too). A statement '..UptoSaid' is the law's where the arguments, and the package variables that the reading takes, are together of bulk at most 1048576: NARROWER than '..Said'. Prove '..Said' where nothing that the law and all that it calls make is longer than what came in: it says more and counts as full. Else prove '..UptoSaid'. A law counts once. -/
mutual
def uptoBulk {H : Type} : DataW H → Nat
  | .lit (.string bytes) => bytes.length + 1
  | .lit _ => 1
  | .nil => 1
  | .ptr d => uptoBulk d + 1
  | .slice elems spare => uptoBulkAll elems + uptoBulkAll spare + 1
  | .agg parts => uptoBulkAll parts + 1
  | .iface _ d => uptoBulk d + 1
  | .map entries => uptoBulkEntries entries + 1
  | .held _ => 1
def uptoBulkAll {H : Type} : List (DataW H) → Nat
  | [] => 0
  | d :: r => uptoBulk d + uptoBulkAll r
def uptoBulkEntries {H : Type} : List (Lit × DataW H) → Nat
  | [] => 0
  | x :: r => uptoBulkEntry x + uptoBulkEntries r
def uptoBulkEntry {H : Type} : Lit × DataW H → Nat
  | (.string bytes, d) => bytes.length + uptoBulk d + 1
  | (_, d) => uptoBulk d + 1
 end
def uptoSmall : (H : Type) → List (DataW H) → Bool := fun _ ds => decide (uptoBulkAll ds ≤ 1048576)
def OpenSpec.upto (s : _root_.Go.ChangeSpec) : _root_.Go.OpenSpec := { _root_.Go.OpenSpec.ofChange s with cond := some uptoSmall }

/-- 'wherrylaw17.RowsOrder', WHERE WHAT IT READS IS OF BULK AT MOST 1048576: true; the input reads as it did. -/
def rowsOrderUptoRow : OpenClaim := { program := "ytpocpklmiajoiaa", sum := "0440539b6dc35f7d55c968b4ac1fe1ad5ae82a0e997c53239bb07b516a925006", func := "wherry/wherrylaw17.RowsOrder", spec := "rowsOrder", apart := false, narrowed := true }
def RowsOrderUptoSaid : Prop := rowsOrderUptoRow.holds Try.pinned (OpenSpec.upto rowsOrderSpec)

/-- 'wherrylaw17.RowsBytes', WHERE WHAT IT READS IS OF BULK AT MOST 1048576: true; the input reads as it did. -/
def rowsBytesUptoRow : OpenClaim := { program := "ytpocpklmiajoiaa", sum := "0440539b6dc35f7d55c968b4ac1fe1ad5ae82a0e997c53239bb07b516a925006", func := "wherry/wherrylaw17.RowsBytes", spec := "rowsBytes", apart := false, narrowed := true }
def RowsBytesUptoSaid : Prop := rowsBytesUptoRow.holds Try.pinned (OpenSpec.upto rowsBytesSpec)

/-- 'wherrylaw17.RowsBack', WHERE WHAT IT READS IS OF BULK AT MOST 1048576: true; the input reads as it did. -/
def rowsBackUptoRow : OpenClaim := { program := "ytpocpklmiajoiaa", sum := "0440539b6dc35f7d55c968b4ac1fe1ad5ae82a0e997c53239bb07b516a925006", func := "wherry/wherrylaw17.RowsBack", spec := "rowsBack", apart := false, narrowed := true }
def RowsBackUptoSaid : Prop := rowsBackUptoRow.holds Try.pinned (OpenSpec.upto rowsBackSpec)

/-- 'wherrylaw17.RowsPuts', WHERE WHAT IT READS IS OF BULK AT MOST 1048576: true; the input reads as it did. -/
def rowsPutsUptoRow : OpenClaim := { program := "ytpocpklmiajoiaa", sum := "0440539b6dc35f7d55c968b4ac1fe1ad5ae82a0e997c53239bb07b516a925006", func := "wherry/wherrylaw17.RowsPuts", spec := "rowsPuts", inPlace := ["internal/bytealg.IndexByteString", "internal/bytealg.IndexString"], unfollowed := true, recurses := true, named := ["internal/bytealg.MaxLen"], apart := false, narrowed := true }
def RowsPutsUptoSaid : Prop := rowsPutsUptoRow.holds Try.pinned (OpenSpec.upto rowsPutsSpec)

end Rows
end Go.Proofs.Ytpocpklmiajoiaa
