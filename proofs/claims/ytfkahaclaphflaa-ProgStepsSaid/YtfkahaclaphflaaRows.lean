/-
  No cell of these rows narrows 'for every input' (looked for: loops, veiled, ifaces, maps, wideKeys, modest, calm, conditions, laid).
  DERIVED. THE GIVEN ROWS OF THIS SEAT. 11 by the template 'for every input the law returns true; each argument reads behind the call as it read before'; 0 by the template 'total and deterministic' (their statements: YtfkahaclaphflaaTotals.lean).
  GIVEN WITH THE SEED: the statements are not yours to turn. If you find one false, say at which input.
  Laid BY PROGRAM, IN A SANDBOX (cutbox-rows.mjs): the forced cells as the released guide's own fill.sh prints them over the translation a29202d12488f8b7… (all of the seat's roots in one cut). By AI agents, Wed Nov 11 2026. No macro, syntax, notation, axiom, sorry.
-/
import Derived.Test.YtfkahaclaphflaaChecked
import GoSem.Claim
import GoSem.ClaimJoined
import GoSem.ClaimMapViews
import Derived.JoinedTies
import Derived.KernelRfl
namespace Go.Proofs.Ytfkahaclaphflaa
/- THE CELL 'sum', in the pinned program and in every row, IS THE sha256 OF THE DUMP (.gsa) THAT YtfkahaclaphflaaProg.lean LOADS. Nothing in Lean hashes anything: it is a label: what it is worth is what the hold of that sum in a sandbox is worth. -/
noncomputable def Try.pinned : Pinned := { name := "ytfkahaclaphflaa", sum := "a29202d12488f8b73a803f4fb0be943186056fca7e110ed53151972dbb28760b", checked := Try.checked }
namespace Rows
def none {H : Type} : Left H := { results := [], args := [] }

/-- 'wherrylaw12.ProgCodes': WHATEVER THE INPUT: true; the input reads as it did. -/
def progCodesSpec : ChangeSpec := { name := "progCodes", fn := fun _ => fun
  | [d1, d2] => { results := [.lit (.bool true)], args := [d1, d2] }
  | _ => none }
def progCodesRow : OpenClaim := { program := "ytfkahaclaphflaa", sum := "a29202d12488f8b73a803f4fb0be943186056fca7e110ed53151972dbb28760b", func := "wherry/wherrylaw12.ProgCodes", spec := "progCodes", apart := false }
def ProgCodesSaid : Prop := progCodesRow.holds Try.pinned (OpenSpec.ofChange progCodesSpec)

/-- ITS FALSE NEIGHBOUR: 'it returns false'. Refute it at one input. -/
def progCodesWrong : ChangeSpec := { name := "progCodes", fn := fun _ => fun
  | [d1, d2] => { results := [.lit (.bool false)], args := [d1, d2] }
  | _ => none }
def ProgCodesWrongFalsely : Prop := progCodesRow.holds Try.pinned (OpenSpec.ofChange progCodesWrong)

/-- 'wherrylaw12.ProgReads': WHATEVER THE INPUT: true; the input reads as it did. -/
def progReadsSpec : ChangeSpec := { name := "progReads", fn := fun _ => fun
  | [d] => { results := [.lit (.bool true)], args := [d] }
  | _ => none }
def progReadsRow : OpenClaim := { program := "ytfkahaclaphflaa", sum := "a29202d12488f8b73a803f4fb0be943186056fca7e110ed53151972dbb28760b", func := "wherry/wherrylaw12.ProgReads", spec := "progReads", apart := false }
def ProgReadsSaid : Prop := progReadsRow.holds Try.pinned (OpenSpec.ofChange progReadsSpec)

/-- ITS FALSE NEIGHBOUR: 'it returns false'. Refute it at one input. -/
def progReadsWrong : ChangeSpec := { name := "progReads", fn := fun _ => fun
  | [d] => { results := [.lit (.bool false)], args := [d] }
  | _ => none }
def ProgReadsWrongFalsely : Prop := progReadsRow.holds Try.pinned (OpenSpec.ofChange progReadsWrong)

/-- 'wherrylaw12.ProgBack': WHATEVER THE INPUT: true; the input reads as it did. -/
def progBackSpec : ChangeSpec := { name := "progBack", fn := fun _ => fun
  | [d1, d2] => { results := [.lit (.bool true)], args := [d1, d2] }
  | _ => none }
def progBackRow : OpenClaim := { program := "ytfkahaclaphflaa", sum := "a29202d12488f8b73a803f4fb0be943186056fca7e110ed53151972dbb28760b", func := "wherry/wherrylaw12.ProgBack", spec := "progBack", apart := false }
def ProgBackSaid : Prop := progBackRow.holds Try.pinned (OpenSpec.ofChange progBackSpec)

/-- ITS FALSE NEIGHBOUR: 'it returns false'. Refute it at one input. -/
def progBackWrong : ChangeSpec := { name := "progBack", fn := fun _ => fun
  | [d1, d2] => { results := [.lit (.bool false)], args := [d1, d2] }
  | _ => none }
def ProgBackWrongFalsely : Prop := progBackRow.holds Try.pinned (OpenSpec.ofChange progBackWrong)

/-- 'wherrylaw12.ProgSteps': WHATEVER THE INPUT: true; the input reads as it did. -/
def progStepsSpec : ChangeSpec := { name := "progSteps", fn := fun _ => fun
  | [d] => { results := [.lit (.bool true)], args := [d] }
  | _ => none }
def progStepsRow : OpenClaim := { program := "ytfkahaclaphflaa", sum := "a29202d12488f8b73a803f4fb0be943186056fca7e110ed53151972dbb28760b", func := "wherry/wherrylaw12.ProgSteps", spec := "progSteps", apart := false }
def ProgStepsSaid : Prop := progStepsRow.holds Try.pinned (OpenSpec.ofChange progStepsSpec)

/-- ITS FALSE NEIGHBOUR: 'it returns false'. Refute it at one input. -/
def progStepsWrong : ChangeSpec := { name := "progSteps", fn := fun _ => fun
  | [d] => { results := [.lit (.bool false)], args := [d] }
  | _ => none }
def ProgStepsWrongFalsely : Prop := progStepsRow.holds Try.pinned (OpenSpec.ofChange progStepsWrong)

/-- 'wherrylaw12.ProgApart': WHATEVER THE INPUT: true; the input reads as it did. -/
def progApartSpec : ChangeSpec := { name := "progApart", fn := fun _ => fun
  | [d1, d2] => { results := [.lit (.bool true)], args := [d1, d2] }
  | _ => none }
def progApartRow : OpenClaim := { program := "ytfkahaclaphflaa", sum := "a29202d12488f8b73a803f4fb0be943186056fca7e110ed53151972dbb28760b", func := "wherry/wherrylaw12.ProgApart", spec := "progApart", apart := false }
def ProgApartSaid : Prop := progApartRow.holds Try.pinned (OpenSpec.ofChange progApartSpec)

/-- ITS FALSE NEIGHBOUR: 'it returns false'. Refute it at one input. -/
def progApartWrong : ChangeSpec := { name := "progApart", fn := fun _ => fun
  | [d1, d2] => { results := [.lit (.bool false)], args := [d1, d2] }
  | _ => none }
def ProgApartWrongFalsely : Prop := progApartRow.holds Try.pinned (OpenSpec.ofChange progApartWrong)

/-- 'wherrylaw13.EventFields': WHATEVER THE INPUT: true; the input reads as it did. -/
def eventFieldsSpec : ChangeSpec := { name := "eventFields", fn := fun _ => fun
  | [d1, d2] => { results := [.lit (.bool true)], args := [d1, d2] }
  | _ => none }
def eventFieldsRow : OpenClaim := { program := "ytfkahaclaphflaa", sum := "a29202d12488f8b73a803f4fb0be943186056fca7e110ed53151972dbb28760b", func := "wherry/wherrylaw13.EventFields", spec := "eventFields", unfollowed := true, recurses := true, apart := false }
def EventFieldsSaid : Prop := eventFieldsRow.holds Try.pinned (OpenSpec.ofChange eventFieldsSpec)

/-- ITS FALSE NEIGHBOUR: 'it returns false'. Refute it at one input. -/
def eventFieldsWrong : ChangeSpec := { name := "eventFields", fn := fun _ => fun
  | [d1, d2] => { results := [.lit (.bool false)], args := [d1, d2] }
  | _ => none }
def EventFieldsWrongFalsely : Prop := eventFieldsRow.holds Try.pinned (OpenSpec.ofChange eventFieldsWrong)

/-- 'wherrylaw13.EventApart': WHATEVER THE INPUT: true; the input reads as it did. -/
def eventApartSpec : ChangeSpec := { name := "eventApart", fn := fun _ => fun
  | [d1, d2] => { results := [.lit (.bool true)], args := [d1, d2] }
  | _ => none }
def eventApartRow : OpenClaim := { program := "ytfkahaclaphflaa", sum := "a29202d12488f8b73a803f4fb0be943186056fca7e110ed53151972dbb28760b", func := "wherry/wherrylaw13.EventApart", spec := "eventApart", unfollowed := true, recurses := true, apart := false }
def EventApartSaid : Prop := eventApartRow.holds Try.pinned (OpenSpec.ofChange eventApartSpec)

/-- ITS FALSE NEIGHBOUR: 'it returns false'. Refute it at one input. -/
def eventApartWrong : ChangeSpec := { name := "eventApart", fn := fun _ => fun
  | [d1, d2] => { results := [.lit (.bool false)], args := [d1, d2] }
  | _ => none }
def EventApartWrongFalsely : Prop := eventApartRow.holds Try.pinned (OpenSpec.ofChange eventApartWrong)

/-- 'wherrylaw13.EventBack': WHATEVER THE INPUT: true; the input reads as it did. -/
def eventBackSpec : ChangeSpec := { name := "eventBack", fn := fun _ => fun
  | [d1, d2] => { results := [.lit (.bool true)], args := [d1, d2] }
  | _ => none }
def eventBackRow : OpenClaim := { program := "ytfkahaclaphflaa", sum := "a29202d12488f8b73a803f4fb0be943186056fca7e110ed53151972dbb28760b", func := "wherry/wherrylaw13.EventBack", spec := "eventBack", unfollowed := true, recurses := true, apart := false }
def EventBackSaid : Prop := eventBackRow.holds Try.pinned (OpenSpec.ofChange eventBackSpec)

/-- ITS FALSE NEIGHBOUR: 'it returns false'. Refute it at one input. -/
def eventBackWrong : ChangeSpec := { name := "eventBack", fn := fun _ => fun
  | [d1, d2] => { results := [.lit (.bool false)], args := [d1, d2] }
  | _ => none }
def EventBackWrongFalsely : Prop := eventBackRow.holds Try.pinned (OpenSpec.ofChange eventBackWrong)

/-- 'wherrylaw13.EventCodes': WHATEVER THE INPUT: true; the input reads as it did. -/
def eventCodesSpec : ChangeSpec := { name := "eventCodes", fn := fun _ => fun
  | [d] => { results := [.lit (.bool true)], args := [d] }
  | _ => none }
def eventCodesRow : OpenClaim := { program := "ytfkahaclaphflaa", sum := "a29202d12488f8b73a803f4fb0be943186056fca7e110ed53151972dbb28760b", func := "wherry/wherrylaw13.EventCodes", spec := "eventCodes", inPlace := ["internal/bytealg.IndexByteString", "internal/bytealg.IndexString"], unfollowed := true, recurses := true, named := ["internal/bytealg.MaxLen"], apart := false }
def EventCodesSaid : Prop := eventCodesRow.holds Try.pinned (OpenSpec.ofChange eventCodesSpec)

/-- ITS FALSE NEIGHBOUR: 'it returns false'. Refute it at one input. -/
def eventCodesWrong : ChangeSpec := { name := "eventCodes", fn := fun _ => fun
  | [d] => { results := [.lit (.bool false)], args := [d] }
  | _ => none }
def EventCodesWrongFalsely : Prop := eventCodesRow.holds Try.pinned (OpenSpec.ofChange eventCodesWrong)

/-- 'wherrylaw13.EventPacks': WHATEVER THE INPUT: true; the input reads as it did. -/
def eventPacksSpec : ChangeSpec := { name := "eventPacks", fn := fun _ => fun
  | [d] => { results := [.lit (.bool true)], args := [d] }
  | _ => none }
def eventPacksRow : OpenClaim := { program := "ytfkahaclaphflaa", sum := "a29202d12488f8b73a803f4fb0be943186056fca7e110ed53151972dbb28760b", func := "wherry/wherrylaw13.EventPacks", spec := "eventPacks", inPlace := ["internal/bytealg.IndexByteString", "internal/bytealg.IndexString"], unfollowed := true, recurses := true, named := ["internal/bytealg.MaxLen"], apart := false }
def EventPacksSaid : Prop := eventPacksRow.holds Try.pinned (OpenSpec.ofChange eventPacksSpec)

/-- ITS FALSE NEIGHBOUR: 'it returns false'. Refute it at one input. -/
def eventPacksWrong : ChangeSpec := { name := "eventPacks", fn := fun _ => fun
  | [d] => { results := [.lit (.bool false)], args := [d] }
  | _ => none }
def EventPacksWrongFalsely : Prop := eventPacksRow.holds Try.pinned (OpenSpec.ofChange eventPacksWrong)

/-- 'wherrylaw13.EventReads': WHATEVER THE INPUT: true; the input reads as it did. -/
def eventReadsSpec : ChangeSpec := { name := "eventReads", fn := fun _ => fun
  | [d] => { results := [.lit (.bool true)], args := [d] }
  | _ => none }
def eventReadsRow : OpenClaim := { program := "ytfkahaclaphflaa", sum := "a29202d12488f8b73a803f4fb0be943186056fca7e110ed53151972dbb28760b", func := "wherry/wherrylaw13.EventReads", spec := "eventReads", inPlace := ["internal/bytealg.IndexByteString", "internal/bytealg.IndexString"], unfollowed := true, recurses := true, named := ["internal/bytealg.MaxLen"], apart := false }
def EventReadsSaid : Prop := eventReadsRow.holds Try.pinned (OpenSpec.ofChange eventReadsSpec)

/-- ITS FALSE NEIGHBOUR: 'it returns false'. Refute it at one input. -/
def eventReadsWrong : ChangeSpec := { name := "eventReads", fn := fun _ => fun
  | [d] => { results := [.lit (.bool false)], args := [d] }
  | _ => none }
def EventReadsWrongFalsely : Prop := eventReadsRow.holds Try.pinned (OpenSpec.ofChange eventReadsWrong)

/- THE SECOND FORM. 'bulk': how many values and letters a reading holds, each counted each time it is reached (what is shared counts as often as it is met; a slice's spare places count too). A statement '..UptoSaid' is the law's where the arguments, and the package variables that the reading takes, are together of bulk at most 1048576: NARROWER than '..Said'. Prove '..Said' where nothing that the law and all that it calls make is longer than what came in: it says more and counts as full. Else prove '..UptoSaid'. A law counts once. -/
mutual
def uptoBulk {H : Type} : DataW H → Nat
  | .lit (.string bytes) => bytes.length + 1
  | .lit _ => 1
  | .nil => 1
  | .ptr d => uptoBulk d + 1
  | .slice elems spare => uptoBulkAll elems + uptoBulkAll spare + 1
  | .agg parts => uptoBulkAll parts + 1
  | .iface _ d => uptoBulk d + 1
  | .map entries => uptoBulkEntries entries + 1
  | .held _ => 1
def uptoBulkAll {H : Type} : List (DataW H) → Nat
  | [] => 0
  | d :: r => uptoBulk d + uptoBulkAll r
def uptoBulkEntries {H : Type} : List (Lit × DataW H) → Nat
  | [] => 0
  | x :: r => uptoBulkEntry x + uptoBulkEntries r
def uptoBulkEntry {H : Type} : Lit × DataW H → Nat
  | (.string bytes, d) => bytes.length + uptoBulk d + 1
  | (_, d) => uptoBulk d + 1
 end
def uptoSmall : (H : Type) → List (DataW H) → Bool := fun _ ds => decide (uptoBulkAll ds ≤ 1048576)
def OpenSpec.upto (s : _root_.Go.ChangeSpec) : _root_.Go.OpenSpec := { _root_.Go.OpenSpec.ofChange s with cond := some uptoSmall }

/-- 'wherrylaw12.ProgCodes', WHERE WHAT IT READS IS OF BULK AT MOST 1048576: true; the input reads as it did. -/
def progCodesUptoRow : OpenClaim := { program := "ytfkahaclaphflaa", sum := "a29202d12488f8b73a803f4fb0be943186056fca7e110ed53151972dbb28760b", func := "wherry/wherrylaw12.ProgCodes", spec := "progCodes", apart := false, narrowed := true }
def ProgCodesUptoSaid : Prop := progCodesUptoRow.holds Try.pinned (OpenSpec.upto progCodesSpec)

/-- 'wherrylaw12.ProgReads', WHERE WHAT IT READS IS OF BULK AT MOST 1048576: true; the input reads as it did. -/
def progReadsUptoRow : OpenClaim := { program := "ytfkahaclaphflaa", sum := "a29202d12488f8b73a803f4fb0be943186056fca7e110ed53151972dbb28760b", func := "wherry/wherrylaw12.ProgReads", spec := "progReads", apart := false, narrowed := true }
def ProgReadsUptoSaid : Prop := progReadsUptoRow.holds Try.pinned (OpenSpec.upto progReadsSpec)

/-- 'wherrylaw12.ProgBack', WHERE WHAT IT READS IS OF BULK AT MOST 1048576: true; the input reads as it did. -/
def progBackUptoRow : OpenClaim := { program := "ytfkahaclaphflaa", sum := "a29202d12488f8b73a803f4fb0be943186056fca7e110ed53151972dbb28760b", func := "wherry/wherrylaw12.ProgBack", spec := "progBack", apart := false, narrowed := true }
def ProgBackUptoSaid : Prop := progBackUptoRow.holds Try.pinned (OpenSpec.upto progBackSpec)

/-- 'wherrylaw12.ProgSteps', WHERE WHAT IT READS IS OF BULK AT MOST 1048576: true; the input reads as it did. -/
def progStepsUptoRow : OpenClaim := { program := "ytfkahaclaphflaa", sum := "a29202d12488f8b73a803f4fb0be943186056fca7e110ed53151972dbb28760b", func := "wherry/wherrylaw12.ProgSteps", spec := "progSteps", apart := false, narrowed := true }
def ProgStepsUptoSaid : Prop := progStepsUptoRow.holds Try.pinned (OpenSpec.upto progStepsSpec)

/-- 'wherrylaw12.ProgApart', WHERE WHAT IT READS IS OF BULK AT MOST 1048576: true; the input reads as it did. -/
def progApartUptoRow : OpenClaim := { program := "ytfkahaclaphflaa", sum := "a29202d12488f8b73a803f4fb0be943186056fca7e110ed53151972dbb28760b", func := "wherry/wherrylaw12.ProgApart", spec := "progApart", apart := false, narrowed := true }
def ProgApartUptoSaid : Prop := progApartUptoRow.holds Try.pinned (OpenSpec.upto progApartSpec)

/-- 'wherrylaw13.EventFields', WHERE WHAT IT READS IS OF BULK AT MOST 1048576: true; the input reads as it did. -/
def eventFieldsUptoRow : OpenClaim := { program := "ytfkahaclaphflaa", sum := "a29202d12488f8b73a803f4fb0be943186056fca7e110ed53151972dbb28760b", func := "wherry/wherrylaw13.EventFields", spec := "eventFields", unfollowed := true, recurses := true, apart := false, narrowed := true }
def EventFieldsUptoSaid : Prop := eventFieldsUptoRow.holds Try.pinned (OpenSpec.upto eventFieldsSpec)

/-- 'wherrylaw13.EventApart', WHERE WHAT IT READS IS OF BULK AT MOST 1048576: true; the input reads as it did. -/
def eventApartUptoRow : OpenClaim := { program := "ytfkahaclaphflaa", sum := "a29202d12488f8b73a803f4fb0be943186056fca7e110ed53151972dbb28760b", func := "wherry/wherrylaw13.EventApart", spec := "eventApart", unfollowed := true, recurses := true, apart := false, narrowed := true }
def EventApartUptoSaid : Prop := eventApartUptoRow.holds Try.pinned (OpenSpec.upto eventApartSpec)

/-- 'wherrylaw13.EventBack', WHERE WHAT IT READS IS OF BULK AT MOST 1048576: true; the input reads as it did. -/
def eventBackUptoRow : OpenClaim := { program := "ytfkahaclaphflaa", sum := "a29202d12488f8b73a803f4fb0be943186056fca7e110ed53151972dbb28760b", func := "wherry/wherrylaw13.EventBack", spec := "eventBack", unfollowed := true, recurses := true, apart := false, narrowed := true }
def EventBackUptoSaid : Prop := eventBackUptoRow.holds Try.pinned (OpenSpec.upto eventBackSpec)

/-- 'wherrylaw13.EventCodes', WHERE WHAT IT READS IS OF BULK AT MOST 1048576: true; the input reads as it did. -/
def eventCodesUptoRow : OpenClaim := { program := "ytfkahaclaphflaa", sum := "a29202d12488f8b73a803f4fb0be943186056fca7e110ed53151972dbb28760b", func := "wherry/wherrylaw13.EventCodes", spec := "eventCodes", inPlace := ["internal/bytealg.IndexByteString", "internal/bytealg.IndexString"], unfollowed := true, recurses := true, named := ["internal/bytealg.MaxLen"], apart := false, narrowed := true }
def EventCodesUptoSaid : Prop := eventCodesUptoRow.holds Try.pinned (OpenSpec.upto eventCodesSpec)

/-- 'wherrylaw13.EventPacks', WHERE WHAT IT READS IS OF BULK AT MOST 1048576: true; the input reads as it did. -/
def eventPacksUptoRow : OpenClaim := { program := "ytfkahaclaphflaa", sum := "a29202d12488f8b73a803f4fb0be943186056fca7e110ed53151972dbb28760b", func := "wherry/wherrylaw13.EventPacks", spec := "eventPacks", inPlace := ["internal/bytealg.IndexByteString", "internal/bytealg.IndexString"], unfollowed := true, recurses := true, named := ["internal/bytealg.MaxLen"], apart := false, narrowed := true }
def EventPacksUptoSaid : Prop := eventPacksUptoRow.holds Try.pinned (OpenSpec.upto eventPacksSpec)

/-- 'wherrylaw13.EventReads', WHERE WHAT IT READS IS OF BULK AT MOST 1048576: true; the input reads as it did. -/
def eventReadsUptoRow : OpenClaim := { program := "ytfkahaclaphflaa", sum := "a29202d12488f8b73a803f4fb0be943186056fca7e110ed53151972dbb28760b", func := "wherry/wherrylaw13.EventReads", spec := "eventReads", inPlace := ["internal/bytealg.IndexByteString", "internal/bytealg.IndexString"], unfollowed := true, recurses := true, named := ["internal/bytealg.MaxLen"], apart := false, narrowed := true }
def EventReadsUptoSaid : Prop := eventReadsUptoRow.holds Try.pinned (OpenSpec.upto eventReadsSpec)

end Rows
end Go.Proofs.Ytfkahaclaphflaa
