/-
  No cell of these rows narrows 'for every input' (looked for: loops, veiled, ifaces, maps, wideKeys, modest, calm, conditions, laid).
  DERIVED. THE GIVEN ROWS OF THIS SEAT. 7 by the template 'for every input the law returns true; each argument reads behind the call as it read before'; 0 by the template 'total and deterministic' (their statements: YtjpbhdbmblalmaaTotals.lean).
  GIVEN WITH THE SEED: the statements are not yours to turn. If you find one false, say at which input.
  Laid BY PROGRAM, IN A SANDBOX (cutbox-rows.mjs): the forced cells as the released guide's own fill.sh prints them over the translation 248405caf888e962… (all of the seat's roots in one cut). By AI agents, Wed Nov 11 2026. No macro, syntax, notation, axiom, sorry.
-/
import Derived.Test.YtjpbhdbmblalmaaChecked
import GoSem.Claim
import GoSem.ClaimJoined
import GoSem.ClaimMapViews
import Derived.JoinedTies
import Derived.KernelRfl
namespace Go.Proofs.Ytjpbhdbmblalmaa
/- THE CELL 'sum', in the pinned program and in every row, IS THE sha256 OF THE DUMP (.gsa) THAT YtjpbhdbmblalmaaProg.lean LOADS. Nothing in Lean hashes anything: it is a label: what it is worth is what the hold of that sum in a sandbox is worth. -/
noncomputable def Try.pinned : Pinned := { name := "ytjpbhdbmblalmaa", sum := "248405caf888e962dbfabc919161080825be580be1399768675c1c16e227276d", checked := Try.checked }
namespace Rows
def none {H : Type} : Left H := { results := [], args := [] }

/-- 'wherrylaw13.EventFields': WHATEVER THE INPUT: true; the input reads as it did. -/
def eventFieldsSpec : ChangeSpec := { name := "eventFields", fn := fun _ => fun
  | [d1, d2] => { results := [.lit (.bool true)], args := [d1, d2] }
  | _ => none }
def eventFieldsRow : OpenClaim := { program := "ytjpbhdbmblalmaa", sum := "248405caf888e962dbfabc919161080825be580be1399768675c1c16e227276d", func := "wherry/wherrylaw13.EventFields", spec := "eventFields", unfollowed := true, recurses := true, apart := false }
def EventFieldsSaid : Prop := eventFieldsRow.holds Try.pinned (OpenSpec.ofChange eventFieldsSpec)

/-- ITS FALSE NEIGHBOUR: 'it returns false'. Refute it at one input. -/
def eventFieldsWrong : ChangeSpec := { name := "eventFields", fn := fun _ => fun
  | [d1, d2] => { results := [.lit (.bool false)], args := [d1, d2] }
  | _ => none }
def EventFieldsWrongFalsely : Prop := eventFieldsRow.holds Try.pinned (OpenSpec.ofChange eventFieldsWrong)

/-- 'wherrylaw13.EventApart': WHATEVER THE INPUT: true; the input reads as it did. -/
def eventApartSpec : ChangeSpec := { name := "eventApart", fn := fun _ => fun
  | [d1, d2] => { results := [.lit (.bool true)], args := [d1, d2] }
  | _ => none }
def eventApartRow : OpenClaim := { program := "ytjpbhdbmblalmaa", sum := "248405caf888e962dbfabc919161080825be580be1399768675c1c16e227276d", func := "wherry/wherrylaw13.EventApart", spec := "eventApart", unfollowed := true, recurses := true, apart := false }
def EventApartSaid : Prop := eventApartRow.holds Try.pinned (OpenSpec.ofChange eventApartSpec)

/-- ITS FALSE NEIGHBOUR: 'it returns false'. Refute it at one input. -/
def eventApartWrong : ChangeSpec := { name := "eventApart", fn := fun _ => fun
  | [d1, d2] => { results := [.lit (.bool false)], args := [d1, d2] }
  | _ => none }
def EventApartWrongFalsely : Prop := eventApartRow.holds Try.pinned (OpenSpec.ofChange eventApartWrong)

/-- 'wherrylaw13.EventBack': WHATEVER THE INPUT: true; the input reads as it did. -/
def eventBackSpec : ChangeSpec := { name := "eventBack", fn := fun _ => fun
  | [d1, d2] => { results := [.lit (.bool true)], args := [d1, d2] }
  | _ => none }
def eventBackRow : OpenClaim := { program := "ytjpbhdbmblalmaa", sum := "248405caf888e962dbfabc919161080825be580be1399768675c1c16e227276d", func := "wherry/wherrylaw13.EventBack", spec := "eventBack", unfollowed := true, recurses := true, apart := false }
def EventBackSaid : Prop := eventBackRow.holds Try.pinned (OpenSpec.ofChange eventBackSpec)

/-- ITS FALSE NEIGHBOUR: 'it returns false'. Refute it at one input. -/
def eventBackWrong : ChangeSpec := { name := "eventBack", fn := fun _ => fun
  | [d1, d2] => { results := [.lit (.bool false)], args := [d1, d2] }
  | _ => none }
def EventBackWrongFalsely : Prop := eventBackRow.holds Try.pinned (OpenSpec.ofChange eventBackWrong)

/-- 'wherrylaw13.EventCodes': WHATEVER THE INPUT: true; the input reads as it did. -/
def eventCodesSpec : ChangeSpec := { name := "eventCodes", fn := fun _ => fun
  | [d] => { results := [.lit (.bool true)], args := [d] }
  | _ => none }
def eventCodesRow : OpenClaim := { program := "ytjpbhdbmblalmaa", sum := "248405caf888e962dbfabc919161080825be580be1399768675c1c16e227276d", func := "wherry/wherrylaw13.EventCodes", spec := "eventCodes", inPlace := ["internal/bytealg.IndexByteString", "internal/bytealg.IndexString"], unfollowed := true, recurses := true, named := ["internal/bytealg.MaxLen"], apart := false }
def EventCodesSaid : Prop := eventCodesRow.holds Try.pinned (OpenSpec.ofChange eventCodesSpec)

/-- ITS FALSE NEIGHBOUR: 'it returns false'. Refute it at one input. -/
def eventCodesWrong : ChangeSpec := { name := "eventCodes", fn := fun _ => fun
  | [d] => { results := [.lit (.bool false)], args := [d] }
  | _ => none }
def EventCodesWrongFalsely : Prop := eventCodesRow.holds Try.pinned (OpenSpec.ofChange eventCodesWrong)

/-- 'wherrylaw13.EventPacks': WHATEVER THE INPUT: true; the input reads as it did. -/
def eventPacksSpec : ChangeSpec := { name := "eventPacks", fn := fun _ => fun
  | [d] => { results := [.lit (.bool true)], args := [d] }
  | _ => none }
def eventPacksRow : OpenClaim := { program := "ytjpbhdbmblalmaa", sum := "248405caf888e962dbfabc919161080825be580be1399768675c1c16e227276d", func := "wherry/wherrylaw13.EventPacks", spec := "eventPacks", inPlace := ["internal/bytealg.IndexByteString", "internal/bytealg.IndexString"], unfollowed := true, recurses := true, named := ["internal/bytealg.MaxLen"], apart := false }
def EventPacksSaid : Prop := eventPacksRow.holds Try.pinned (OpenSpec.ofChange eventPacksSpec)

/-- ITS FALSE NEIGHBOUR: 'it returns false'. Refute it at one input. -/
def eventPacksWrong : ChangeSpec := { name := "eventPacks", fn := fun _ => fun
  | [d] => { results := [.lit (.bool false)], args := [d] }
  | _ => none }
def EventPacksWrongFalsely : Prop := eventPacksRow.holds Try.pinned (OpenSpec.ofChange eventPacksWrong)

/-- 'wherrylaw13.EventReads': WHATEVER THE INPUT: true; the input reads as it did. -/
def eventReadsSpec : ChangeSpec := { name := "eventReads", fn := fun _ => fun
  | [d] => { results := [.lit (.bool true)], args := [d] }
  | _ => none }
def eventReadsRow : OpenClaim := { program := "ytjpbhdbmblalmaa", sum := "248405caf888e962dbfabc919161080825be580be1399768675c1c16e227276d", func := "wherry/wherrylaw13.EventReads", spec := "eventReads", inPlace := ["internal/bytealg.IndexByteString", "internal/bytealg.IndexString"], unfollowed := true, recurses := true, named := ["internal/bytealg.MaxLen"], apart := false }
def EventReadsSaid : Prop := eventReadsRow.holds Try.pinned (OpenSpec.ofChange eventReadsSpec)

/-- ITS FALSE NEIGHBOUR: 'it returns false'. Refute it at one input. -/
def eventReadsWrong : ChangeSpec := { name := "eventReads", fn := fun _ => fun
  | [d] => { results := [.lit (.bool false)], args := [d] }
  | _ => none }
def EventReadsWrongFalsely : Prop := eventReadsRow.holds Try.pinned (OpenSpec.ofChange eventReadsWrong)

/-- 'wherrylaw17.RowsPuts': WHATEVER THE INPUT: true; the input reads as it did. -/
def rowsPutsSpec : ChangeSpec := { name := "rowsPuts", fn := fun _ => fun
  | [d1, d2] => { results := [.lit (.bool true)], args := [d1, d2] }
  | _ => none }
def rowsPutsRow : OpenClaim := { program := "ytjpbhdbmblalmaa", sum := "248405caf888e962dbfabc919161080825be580be1399768675c1c16e227276d", func := "wherry/wherrylaw17.RowsPuts", spec := "rowsPuts", inPlace := ["internal/bytealg.IndexByteString", "internal/bytealg.IndexString"], unfollowed := true, recurses := true, named := ["internal/bytealg.MaxLen"], apart := false }
def RowsPutsSaid : Prop := rowsPutsRow.holds Try.pinned (OpenSpec.ofChange rowsPutsSpec)

/-- ITS FALSE NEIGHBOUR: 'it returns false'. Refute it at one input. -/
def rowsPutsWrong : ChangeSpec := { name := "rowsPuts", fn := fun _ => fun
  | [d1, d2] => { results := [.lit (.bool false)], args := [d1, d2] }
  | _ => none }
def RowsPutsWrongFalsely : Prop := rowsPutsRow.holds Try.pinned (OpenSpec.ofChange rowsPutsWrong)

/- THE SECOND FORM. 'bulk': how many values and letters a reading holds, each counted each time it is reached (what is shared counts as often as it is met; a slice's spare places count too). A statement '..UptoSaid' is the law's where the arguments, and the package variables that the reading takes, are together of bulk at most 1048576: NARROWER than '..Said'. Prove '..Said' where nothing that the law and all that it calls make is longer than what came in: it says more and counts as full. Else prove '..UptoSaid'. A law counts once. -/
mutual
def uptoBulk {H : Type} : DataW H → Nat
  | .lit (.string bytes) => bytes.length + 1
  | .lit _ => 1
  | .nil => 1
  | .ptr d => uptoBulk d + 1
  | .slice elems spare => uptoBulkAll elems + uptoBulkAll spare + 1
  | .agg parts => uptoBulkAll parts + 1
  | .iface _ d => uptoBulk d + 1
  | .map entries => uptoBulkEntries entries + 1
  | .held _ => 1
def uptoBulkAll {H : Type} : List (DataW H) → Nat
  | [] => 0
  | d :: r => uptoBulk d + uptoBulkAll r
def uptoBulkEntries {H : Type} : List (Lit × DataW H) → Nat
  | [] => 0
  | x :: r => uptoBulkEntry x + uptoBulkEntries r
def uptoBulkEntry {H : Type} : Lit × DataW H → Nat
  | (.string bytes, d) => bytes.length + uptoBulk d + 1
  | (_, d) => uptoBulk d + 1
 end
def uptoSmall : (H : Type) → List (DataW H) → Bool := fun _ ds => decide (uptoBulkAll ds ≤ 1048576)
def OpenSpec.upto (s : _root_.Go.ChangeSpec) : _root_.Go.OpenSpec := { _root_.Go.OpenSpec.ofChange s with cond := some uptoSmall }

/-- 'wherrylaw13.EventFields', WHERE WHAT IT READS IS OF BULK AT MOST 1048576: true; the input reads as it did. -/
def eventFieldsUptoRow : OpenClaim := { program := "ytjpbhdbmblalmaa", sum := "248405caf888e962dbfabc919161080825be580be1399768675c1c16e227276d", func := "wherry/wherrylaw13.EventFields", spec := "eventFields", unfollowed := true, recurses := true, apart := false, narrowed := true }
def EventFieldsUptoSaid : Prop := eventFieldsUptoRow.holds Try.pinned (OpenSpec.upto eventFieldsSpec)

/-- 'wherrylaw13.EventApart', WHERE WHAT IT READS IS OF BULK AT MOST 1048576: true; the input reads as it did. -/
def eventApartUptoRow : OpenClaim := { program := "ytjpbhdbmblalmaa", sum := "248405caf888e962dbfabc919161080825be580be1399768675c1c16e227276d", func := "wherry/wherrylaw13.EventApart", spec := "eventApart", unfollowed := true, recurses := true, apart := false, narrowed := true }
def EventApartUptoSaid : Prop := eventApartUptoRow.holds Try.pinned (OpenSpec.upto eventApartSpec)

/-- 'wherrylaw13.EventBack', WHERE WHAT IT READS IS OF BULK AT MOST 1048576: true; the input reads as it did. -/
def eventBackUptoRow : OpenClaim := { program := "ytjpbhdbmblalmaa", sum := "248405caf888e962dbfabc919161080825be580be1399768675c1c16e227276d", func := "wherry/wherrylaw13.EventBack", spec := "eventBack", unfollowed := true, recurses := true, apart := false, narrowed := true }
def EventBackUptoSaid : Prop := eventBackUptoRow.holds Try.pinned (OpenSpec.upto eventBackSpec)

/-- 'wherrylaw13.EventCodes', WHERE WHAT IT READS IS OF BULK AT MOST 1048576: true; the input reads as it did. -/
def eventCodesUptoRow : OpenClaim := { program := "ytjpbhdbmblalmaa", sum := "248405caf888e962dbfabc919161080825be580be1399768675c1c16e227276d", func := "wherry/wherrylaw13.EventCodes", spec := "eventCodes", inPlace := ["internal/bytealg.IndexByteString", "internal/bytealg.IndexString"], unfollowed := true, recurses := true, named := ["internal/bytealg.MaxLen"], apart := false, narrowed := true }
def EventCodesUptoSaid : Prop := eventCodesUptoRow.holds Try.pinned (OpenSpec.upto eventCodesSpec)

/-- 'wherrylaw13.EventPacks', WHERE WHAT IT READS IS OF BULK AT MOST 1048576: true; the input reads as it did. -/
def eventPacksUptoRow : OpenClaim := { program := "ytjpbhdbmblalmaa", sum := "248405caf888e962dbfabc919161080825be580be1399768675c1c16e227276d", func := "wherry/wherrylaw13.EventPacks", spec := "eventPacks", inPlace := ["internal/bytealg.IndexByteString", "internal/bytealg.IndexString"], unfollowed := true, recurses := true, named := ["internal/bytealg.MaxLen"], apart := false, narrowed := true }
def EventPacksUptoSaid : Prop := eventPacksUptoRow.holds Try.pinned (OpenSpec.upto eventPacksSpec)

/-- 'wherrylaw13.EventReads', WHERE WHAT IT READS IS OF BULK AT MOST 1048576: true; the input reads as it did. -/
def eventReadsUptoRow : OpenClaim := { program := "ytjpbhdbmblalmaa", sum := "248405caf888e962dbfabc919161080825be580be1399768675c1c16e227276d", func := "wherry/wherrylaw13.EventReads", spec := "eventReads", inPlace := ["internal/bytealg.IndexByteString", "internal/bytealg.IndexString"], unfollowed := true, recurses := true, named := ["internal/bytealg.MaxLen"], apart := false, narrowed := true }
def EventReadsUptoSaid : Prop := eventReadsUptoRow.holds Try.pinned (OpenSpec.upto eventReadsSpec)

/-- 'wherrylaw17.RowsPuts', WHERE WHAT IT READS IS OF BULK AT MOST 1048576: true; the input reads as it did. -/
def rowsPutsUptoRow : OpenClaim := { program := "ytjpbhdbmblalmaa", sum := "248405caf888e962dbfabc919161080825be580be1399768675c1c16e227276d", func := "wherry/wherrylaw17.RowsPuts", spec := "rowsPuts", inPlace := ["internal/bytealg.IndexByteString", "internal/bytealg.IndexString"], unfollowed := true, recurses := true, named := ["internal/bytealg.MaxLen"], apart := false, narrowed := true }
def RowsPutsUptoSaid : Prop := rowsPutsUptoRow.holds Try.pinned (OpenSpec.upto rowsPutsSpec)

end Rows
end Go.Proofs.Ytjpbhdbmblalmaa
