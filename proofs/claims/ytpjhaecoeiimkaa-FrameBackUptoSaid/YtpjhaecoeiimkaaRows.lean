/-
  No cell of these rows narrows 'for every input' (looked for: loops, veiled, ifaces, maps, wideKeys, modest, calm, conditions, laid).
  DERIVED. THE GIVEN ROWS OF THIS SEAT. 10 by the template 'for every input the law returns true; each argument reads behind the call as it read before'; 0 by the template 'total and deterministic' (their statements: YtpjhaecoeiimkaaTotals.lean).
  GIVEN WITH THE SEED: the statements are not yours to turn. If you find one false, say at which input.
  Laid BY PROGRAM, IN A SANDBOX (cutbox-rows.mjs): the forced cells as the released guide's own fill.sh prints them over the translation 2d874972b9720e7f… (all of the seat's roots in one cut). By AI agents, Wed Nov 11 2026. No macro, syntax, notation, axiom, sorry.
-/
import Derived.Test.YtpjhaecoeiimkaaChecked
import GoSem.Claim
import GoSem.ClaimJoined
import GoSem.ClaimMapViews
import Derived.JoinedTies
import Derived.KernelRfl
namespace Go.Proofs.Ytpjhaecoeiimkaa
/- THE CELL 'sum', in the pinned program and in every row, IS THE sha256 OF THE DUMP (.gsa) THAT YtpjhaecoeiimkaaProg.lean LOADS. Nothing in Lean hashes anything: it is a label: what it is worth is what the hold of that sum in a sandbox is worth. -/
noncomputable def Try.pinned : Pinned := { name := "ytpjhaecoeiimkaa", sum := "2d874972b9720e7f52db6ab9ea8ae692d400b30b8fb04a43db518a4c5b85ad7c", checked := Try.checked }
namespace Rows
def none {H : Type} : Left H := { results := [], args := [] }

/-- 'wherrylaw01.VaryOnce': WHATEVER THE INPUT: true; the input reads as it did. -/
def varyOnceSpec : ChangeSpec := { name := "varyOnce", fn := fun _ => fun
  | [d] => { results := [.lit (.bool true)], args := [d] }
  | _ => none }
def varyOnceRow : OpenClaim := { program := "ytpjhaecoeiimkaa", sum := "2d874972b9720e7f52db6ab9ea8ae692d400b30b8fb04a43db518a4c5b85ad7c", func := "wherry/wherrylaw01.VaryOnce", spec := "varyOnce", apart := false }
def VaryOnceSaid : Prop := varyOnceRow.holds Try.pinned (OpenSpec.ofChange varyOnceSpec)

/-- ITS FALSE NEIGHBOUR: 'it returns false'. Refute it at one input. -/
def varyOnceWrong : ChangeSpec := { name := "varyOnce", fn := fun _ => fun
  | [d] => { results := [.lit (.bool false)], args := [d] }
  | _ => none }
def VaryOnceWrongFalsely : Prop := varyOnceRow.holds Try.pinned (OpenSpec.ofChange varyOnceWrong)

/-- 'wherrylaw01.VaryPuts': WHATEVER THE INPUT: true; the input reads as it did. -/
def varyPutsSpec : ChangeSpec := { name := "varyPuts", fn := fun _ => fun
  | [d1, d2] => { results := [.lit (.bool true)], args := [d1, d2] }
  | _ => none }
def varyPutsRow : OpenClaim := { program := "ytpjhaecoeiimkaa", sum := "2d874972b9720e7f52db6ab9ea8ae692d400b30b8fb04a43db518a4c5b85ad7c", func := "wherry/wherrylaw01.VaryPuts", spec := "varyPuts", apart := false }
def VaryPutsSaid : Prop := varyPutsRow.holds Try.pinned (OpenSpec.ofChange varyPutsSpec)

/-- ITS FALSE NEIGHBOUR: 'it returns false'. Refute it at one input. -/
def varyPutsWrong : ChangeSpec := { name := "varyPuts", fn := fun _ => fun
  | [d1, d2] => { results := [.lit (.bool false)], args := [d1, d2] }
  | _ => none }
def VaryPutsWrongFalsely : Prop := varyPutsRow.holds Try.pinned (OpenSpec.ofChange varyPutsWrong)

/-- 'wherrylaw01.VaryOrder': WHATEVER THE INPUT: true; the input reads as it did. -/
def varyOrderSpec : ChangeSpec := { name := "varyOrder", fn := fun _ => fun
  | [d1, d2] => { results := [.lit (.bool true)], args := [d1, d2] }
  | _ => none }
def varyOrderRow : OpenClaim := { program := "ytpjhaecoeiimkaa", sum := "2d874972b9720e7f52db6ab9ea8ae692d400b30b8fb04a43db518a4c5b85ad7c", func := "wherry/wherrylaw01.VaryOrder", spec := "varyOrder", apart := false }
def VaryOrderSaid : Prop := varyOrderRow.holds Try.pinned (OpenSpec.ofChange varyOrderSpec)

/-- ITS FALSE NEIGHBOUR: 'it returns false'. Refute it at one input. -/
def varyOrderWrong : ChangeSpec := { name := "varyOrder", fn := fun _ => fun
  | [d1, d2] => { results := [.lit (.bool false)], args := [d1, d2] }
  | _ => none }
def VaryOrderWrongFalsely : Prop := varyOrderRow.holds Try.pinned (OpenSpec.ofChange varyOrderWrong)

/-- 'wherrylaw01.VaryBack': WHATEVER THE INPUT: true; the input reads as it did. -/
def varyBackSpec : ChangeSpec := { name := "varyBack", fn := fun _ => fun
  | [d1, d2] => { results := [.lit (.bool true)], args := [d1, d2] }
  | _ => none }
def varyBackRow : OpenClaim := { program := "ytpjhaecoeiimkaa", sum := "2d874972b9720e7f52db6ab9ea8ae692d400b30b8fb04a43db518a4c5b85ad7c", func := "wherry/wherrylaw01.VaryBack", spec := "varyBack", apart := false }
def VaryBackSaid : Prop := varyBackRow.holds Try.pinned (OpenSpec.ofChange varyBackSpec)

/-- ITS FALSE NEIGHBOUR: 'it returns false'. Refute it at one input. -/
def varyBackWrong : ChangeSpec := { name := "varyBack", fn := fun _ => fun
  | [d1, d2] => { results := [.lit (.bool false)], args := [d1, d2] }
  | _ => none }
def VaryBackWrongFalsely : Prop := varyBackRow.holds Try.pinned (OpenSpec.ofChange varyBackWrong)

/-- 'wherrylaw02.FrameWraps': WHATEVER THE INPUT: true; the input reads as it did. -/
def frameWrapsSpec : ChangeSpec := { name := "frameWraps", fn := fun _ => fun
  | [d] => { results := [.lit (.bool true)], args := [d] }
  | _ => none }
def frameWrapsRow : OpenClaim := { program := "ytpjhaecoeiimkaa", sum := "2d874972b9720e7f52db6ab9ea8ae692d400b30b8fb04a43db518a4c5b85ad7c", func := "wherry/wherrylaw02.FrameWraps", spec := "frameWraps", apart := false }
def FrameWrapsSaid : Prop := frameWrapsRow.holds Try.pinned (OpenSpec.ofChange frameWrapsSpec)

/-- ITS FALSE NEIGHBOUR: 'it returns false'. Refute it at one input. -/
def frameWrapsWrong : ChangeSpec := { name := "frameWraps", fn := fun _ => fun
  | [d] => { results := [.lit (.bool false)], args := [d] }
  | _ => none }
def FrameWrapsWrongFalsely : Prop := frameWrapsRow.holds Try.pinned (OpenSpec.ofChange frameWrapsWrong)

/-- 'wherrylaw02.FrameTurned': WHATEVER THE INPUT: true; the input reads as it did. -/
def frameTurnedSpec : ChangeSpec := { name := "frameTurned", fn := fun _ => fun
  | [d1, d2] => { results := [.lit (.bool true)], args := [d1, d2] }
  | _ => none }
def frameTurnedRow : OpenClaim := { program := "ytpjhaecoeiimkaa", sum := "2d874972b9720e7f52db6ab9ea8ae692d400b30b8fb04a43db518a4c5b85ad7c", func := "wherry/wherrylaw02.FrameTurned", spec := "frameTurned", apart := false }
def FrameTurnedSaid : Prop := frameTurnedRow.holds Try.pinned (OpenSpec.ofChange frameTurnedSpec)

/-- ITS FALSE NEIGHBOUR: 'it returns false'. Refute it at one input. -/
def frameTurnedWrong : ChangeSpec := { name := "frameTurned", fn := fun _ => fun
  | [d1, d2] => { results := [.lit (.bool false)], args := [d1, d2] }
  | _ => none }
def FrameTurnedWrongFalsely : Prop := frameTurnedRow.holds Try.pinned (OpenSpec.ofChange frameTurnedWrong)

/-- 'wherrylaw02.FrameShorts': WHATEVER THE INPUT: true; the input reads as it did. -/
def frameShortsSpec : ChangeSpec := { name := "frameShorts", fn := fun _ => fun
  | [d1, d2] => { results := [.lit (.bool true)], args := [d1, d2] }
  | _ => none }
def frameShortsRow : OpenClaim := { program := "ytpjhaecoeiimkaa", sum := "2d874972b9720e7f52db6ab9ea8ae692d400b30b8fb04a43db518a4c5b85ad7c", func := "wherry/wherrylaw02.FrameShorts", spec := "frameShorts", apart := false }
def FrameShortsSaid : Prop := frameShortsRow.holds Try.pinned (OpenSpec.ofChange frameShortsSpec)

/-- ITS FALSE NEIGHBOUR: 'it returns false'. Refute it at one input. -/
def frameShortsWrong : ChangeSpec := { name := "frameShorts", fn := fun _ => fun
  | [d1, d2] => { results := [.lit (.bool false)], args := [d1, d2] }
  | _ => none }
def FrameShortsWrongFalsely : Prop := frameShortsRow.holds Try.pinned (OpenSpec.ofChange frameShortsWrong)

/-- 'wherrylaw01.VaryReads': WHATEVER THE INPUT: true; the input reads as it did. -/
def varyReadsSpec : ChangeSpec := { name := "varyReads", fn := fun _ => fun
  | [d1, d2] => { results := [.lit (.bool true)], args := [d1, d2] }
  | _ => none }
def varyReadsRow : OpenClaim := { program := "ytpjhaecoeiimkaa", sum := "2d874972b9720e7f52db6ab9ea8ae692d400b30b8fb04a43db518a4c5b85ad7c", func := "wherry/wherrylaw01.VaryReads", spec := "varyReads", apart := false }
def VaryReadsSaid : Prop := varyReadsRow.holds Try.pinned (OpenSpec.ofChange varyReadsSpec)

/-- ITS FALSE NEIGHBOUR: 'it returns false'. Refute it at one input. -/
def varyReadsWrong : ChangeSpec := { name := "varyReads", fn := fun _ => fun
  | [d1, d2] => { results := [.lit (.bool false)], args := [d1, d2] }
  | _ => none }
def VaryReadsWrongFalsely : Prop := varyReadsRow.holds Try.pinned (OpenSpec.ofChange varyReadsWrong)

/-- 'wherrylaw02.FrameNexts': WHATEVER THE INPUT: true; the input reads as it did. -/
def frameNextsSpec : ChangeSpec := { name := "frameNexts", fn := fun _ => fun
  | [d] => { results := [.lit (.bool true)], args := [d] }
  | _ => none }
def frameNextsRow : OpenClaim := { program := "ytpjhaecoeiimkaa", sum := "2d874972b9720e7f52db6ab9ea8ae692d400b30b8fb04a43db518a4c5b85ad7c", func := "wherry/wherrylaw02.FrameNexts", spec := "frameNexts", apart := false }
def FrameNextsSaid : Prop := frameNextsRow.holds Try.pinned (OpenSpec.ofChange frameNextsSpec)

/-- ITS FALSE NEIGHBOUR: 'it returns false'. Refute it at one input. -/
def frameNextsWrong : ChangeSpec := { name := "frameNexts", fn := fun _ => fun
  | [d] => { results := [.lit (.bool false)], args := [d] }
  | _ => none }
def FrameNextsWrongFalsely : Prop := frameNextsRow.holds Try.pinned (OpenSpec.ofChange frameNextsWrong)

/-- 'wherrylaw02.FrameBack': WHATEVER THE INPUT: true; the input reads as it did. -/
def frameBackSpec : ChangeSpec := { name := "frameBack", fn := fun _ => fun
  | [d1, d2] => { results := [.lit (.bool true)], args := [d1, d2] }
  | _ => none }
def frameBackRow : OpenClaim := { program := "ytpjhaecoeiimkaa", sum := "2d874972b9720e7f52db6ab9ea8ae692d400b30b8fb04a43db518a4c5b85ad7c", func := "wherry/wherrylaw02.FrameBack", spec := "frameBack", apart := false }
def FrameBackSaid : Prop := frameBackRow.holds Try.pinned (OpenSpec.ofChange frameBackSpec)

/-- ITS FALSE NEIGHBOUR: 'it returns false'. Refute it at one input. -/
def frameBackWrong : ChangeSpec := { name := "frameBack", fn := fun _ => fun
  | [d1, d2] => { results := [.lit (.bool false)], args := [d1, d2] }
  | _ => none }
def FrameBackWrongFalsely : Prop := frameBackRow.holds Try.pinned (OpenSpec.ofChange frameBackWrong)

/- THE SECOND FORM. 'bulk': how many values and letters a reading holds, each counted each time it is reached (what is shared counts as often as it is met; a slice's spare places count too). A statement '..UptoSaid' is the law's where the arguments, and the package variables that the reading takes, are together of bulk at most 1048576: NARROWER than '..Said'. Prove '..Said' where nothing that the law and all that it calls make is longer than what came in: it says more and counts as full. Else prove '..UptoSaid'. A law counts once. -/
mutual
def uptoBulk {H : Type} : DataW H → Nat
  | .lit (.string bytes) => bytes.length + 1
  | .lit _ => 1
  | .nil => 1
  | .ptr d => uptoBulk d + 1
  | .slice elems spare => uptoBulkAll elems + uptoBulkAll spare + 1
  | .agg parts => uptoBulkAll parts + 1
  | .iface _ d => uptoBulk d + 1
  | .map entries => uptoBulkEntries entries + 1
  | .held _ => 1
def uptoBulkAll {H : Type} : List (DataW H) → Nat
  | [] => 0
  | d :: r => uptoBulk d + uptoBulkAll r
def uptoBulkEntries {H : Type} : List (Lit × DataW H) → Nat
  | [] => 0
  | x :: r => uptoBulkEntry x + uptoBulkEntries r
def uptoBulkEntry {H : Type} : Lit × DataW H → Nat
  | (.string bytes, d) => bytes.length + uptoBulk d + 1
  | (_, d) => uptoBulk d + 1
 end
def uptoSmall : (H : Type) → List (DataW H) → Bool := fun _ ds => decide (uptoBulkAll ds ≤ 1048576)
def OpenSpec.upto (s : _root_.Go.ChangeSpec) : _root_.Go.OpenSpec := { _root_.Go.OpenSpec.ofChange s with cond := some uptoSmall }

/-- 'wherrylaw01.VaryOnce', WHERE WHAT IT READS IS OF BULK AT MOST 1048576: true; the input reads as it did. -/
def varyOnceUptoRow : OpenClaim := { program := "ytpjhaecoeiimkaa", sum := "2d874972b9720e7f52db6ab9ea8ae692d400b30b8fb04a43db518a4c5b85ad7c", func := "wherry/wherrylaw01.VaryOnce", spec := "varyOnce", apart := false, narrowed := true }
def VaryOnceUptoSaid : Prop := varyOnceUptoRow.holds Try.pinned (OpenSpec.upto varyOnceSpec)

/-- 'wherrylaw01.VaryPuts', WHERE WHAT IT READS IS OF BULK AT MOST 1048576: true; the input reads as it did. -/
def varyPutsUptoRow : OpenClaim := { program := "ytpjhaecoeiimkaa", sum := "2d874972b9720e7f52db6ab9ea8ae692d400b30b8fb04a43db518a4c5b85ad7c", func := "wherry/wherrylaw01.VaryPuts", spec := "varyPuts", apart := false, narrowed := true }
def VaryPutsUptoSaid : Prop := varyPutsUptoRow.holds Try.pinned (OpenSpec.upto varyPutsSpec)

/-- 'wherrylaw01.VaryOrder', WHERE WHAT IT READS IS OF BULK AT MOST 1048576: true; the input reads as it did. -/
def varyOrderUptoRow : OpenClaim := { program := "ytpjhaecoeiimkaa", sum := "2d874972b9720e7f52db6ab9ea8ae692d400b30b8fb04a43db518a4c5b85ad7c", func := "wherry/wherrylaw01.VaryOrder", spec := "varyOrder", apart := false, narrowed := true }
def VaryOrderUptoSaid : Prop := varyOrderUptoRow.holds Try.pinned (OpenSpec.upto varyOrderSpec)

/-- 'wherrylaw01.VaryBack', WHERE WHAT IT READS IS OF BULK AT MOST 1048576: true; the input reads as it did. -/
def varyBackUptoRow : OpenClaim := { program := "ytpjhaecoeiimkaa", sum := "2d874972b9720e7f52db6ab9ea8ae692d400b30b8fb04a43db518a4c5b85ad7c", func := "wherry/wherrylaw01.VaryBack", spec := "varyBack", apart := false, narrowed := true }
def VaryBackUptoSaid : Prop := varyBackUptoRow.holds Try.pinned (OpenSpec.upto varyBackSpec)

/-- 'wherrylaw02.FrameWraps', WHERE WHAT IT READS IS OF BULK AT MOST 1048576: true; the input reads as it did. -/
def frameWrapsUptoRow : OpenClaim := { program := "ytpjhaecoeiimkaa", sum := "2d874972b9720e7f52db6ab9ea8ae692d400b30b8fb04a43db518a4c5b85ad7c", func := "wherry/wherrylaw02.FrameWraps", spec := "frameWraps", apart := false, narrowed := true }
def FrameWrapsUptoSaid : Prop := frameWrapsUptoRow.holds Try.pinned (OpenSpec.upto frameWrapsSpec)

/-- 'wherrylaw02.FrameTurned', WHERE WHAT IT READS IS OF BULK AT MOST 1048576: true; the input reads as it did. -/
def frameTurnedUptoRow : OpenClaim := { program := "ytpjhaecoeiimkaa", sum := "2d874972b9720e7f52db6ab9ea8ae692d400b30b8fb04a43db518a4c5b85ad7c", func := "wherry/wherrylaw02.FrameTurned", spec := "frameTurned", apart := false, narrowed := true }
def FrameTurnedUptoSaid : Prop := frameTurnedUptoRow.holds Try.pinned (OpenSpec.upto frameTurnedSpec)

/-- 'wherrylaw02.FrameShorts', WHERE WHAT IT READS IS OF BULK AT MOST 1048576: true; the input reads as it did. -/
def frameShortsUptoRow : OpenClaim := { program := "ytpjhaecoeiimkaa", sum := "2d874972b9720e7f52db6ab9ea8ae692d400b30b8fb04a43db518a4c5b85ad7c", func := "wherry/wherrylaw02.FrameShorts", spec := "frameShorts", apart := false, narrowed := true }
def FrameShortsUptoSaid : Prop := frameShortsUptoRow.holds Try.pinned (OpenSpec.upto frameShortsSpec)

/-- 'wherrylaw01.VaryReads', WHERE WHAT IT READS IS OF BULK AT MOST 1048576: true; the input reads as it did. -/
def varyReadsUptoRow : OpenClaim := { program := "ytpjhaecoeiimkaa", sum := "2d874972b9720e7f52db6ab9ea8ae692d400b30b8fb04a43db518a4c5b85ad7c", func := "wherry/wherrylaw01.VaryReads", spec := "varyReads", apart := false, narrowed := true }
def VaryReadsUptoSaid : Prop := varyReadsUptoRow.holds Try.pinned (OpenSpec.upto varyReadsSpec)

/-- 'wherrylaw02.FrameNexts', WHERE WHAT IT READS IS OF BULK AT MOST 1048576: true; the input reads as it did. -/
def frameNextsUptoRow : OpenClaim := { program := "ytpjhaecoeiimkaa", sum := "2d874972b9720e7f52db6ab9ea8ae692d400b30b8fb04a43db518a4c5b85ad7c", func := "wherry/wherrylaw02.FrameNexts", spec := "frameNexts", apart := false, narrowed := true }
def FrameNextsUptoSaid : Prop := frameNextsUptoRow.holds Try.pinned (OpenSpec.upto frameNextsSpec)

/-- 'wherrylaw02.FrameBack', WHERE WHAT IT READS IS OF BULK AT MOST 1048576: true; the input reads as it did. -/
def frameBackUptoRow : OpenClaim := { program := "ytpjhaecoeiimkaa", sum := "2d874972b9720e7f52db6ab9ea8ae692d400b30b8fb04a43db518a4c5b85ad7c", func := "wherry/wherrylaw02.FrameBack", spec := "frameBack", apart := false, narrowed := true }
def FrameBackUptoSaid : Prop := frameBackUptoRow.holds Try.pinned (OpenSpec.upto frameBackSpec)

end Rows
end Go.Proofs.Ytpjhaecoeiimkaa
