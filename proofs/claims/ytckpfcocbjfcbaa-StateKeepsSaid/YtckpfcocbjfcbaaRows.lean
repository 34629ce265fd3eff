/-
  No cell of these rows narrows 'for every input' (looked for: loops, veiled, ifaces, maps, wideKeys, modest, calm, conditions, laid).
  DERIVED. THE GIVEN ROWS OF THIS SEAT. 6 by the template 'for every input the law returns true; each argument reads behind the call as it read before'; 0 by the template 'total and deterministic' (their statements: YtckpfcocbjfcbaaTotals.lean).
  GIVEN WITH THE SEED: the statements are not yours to turn. If you find one false, say at which input.
  Laid BY PROGRAM, IN A SANDBOX (cutbox-rows.mjs): the forced cells as the released guide's own fill.sh prints them over the translation aaa05a9efe072497… (all of the seat's roots in one cut). By AI agents, Wed Nov 11 2026. No macro, syntax, notation, axiom, sorry.
-/
import Derived.Test.YtckpfcocbjfcbaaChecked
import GoSem.Claim
import GoSem.ClaimJoined
import GoSem.ClaimMapViews
import Derived.JoinedTies
import Derived.KernelRfl
namespace Go.Proofs.Ytckpfcocbjfcbaa
/- THE CELL 'sum', in the pinned program and in every row, IS THE sha256 OF THE DUMP (.gsa) THAT YtckpfcocbjfcbaaProg.lean LOADS. Nothing in Lean hashes anything: it is a label: what it is worth is what the hold of that sum in a sandbox is worth. -/
noncomputable def Try.pinned : Pinned := { name := "ytckpfcocbjfcbaa", sum := "aaa05a9efe07249795f5c68fde9b90ad369255debd72daea1991d7fb8865cec5", checked := Try.checked }
namespace Rows
def none {H : Type} : Left H := { results := [], args := [] }

/-- 'wherrylaw13.EventApart': WHATEVER THE INPUT: true; the input reads as it did. -/
def eventApartSpec : ChangeSpec := { name := "eventApart", fn := fun _ => fun
  | [d1, d2] => { results := [.lit (.bool true)], args := [d1, d2] }
  | _ => none }
def eventApartRow : OpenClaim := { program := "ytckpfcocbjfcbaa", sum := "aaa05a9efe07249795f5c68fde9b90ad369255debd72daea1991d7fb8865cec5", func := "wherry/wherrylaw13.EventApart", spec := "eventApart", unfollowed := true, recurses := true, plainKeys := false, apart := false }
def EventApartSaid : Prop := eventApartRow.holds Try.pinned (OpenSpec.ofChange eventApartSpec)

/-- ITS FALSE NEIGHBOUR: 'it returns false'. Refute it at one input. -/
def eventApartWrong : ChangeSpec := { name := "eventApart", fn := fun _ => fun
  | [d1, d2] => { results := [.lit (.bool false)], args := [d1, d2] }
  | _ => none }
def EventApartWrongFalsely : Prop := eventApartRow.holds Try.pinned (OpenSpec.ofChange eventApartWrong)

/-- 'wherrylaw14.StateOnce': WHATEVER THE INPUT: true; the input reads as it did. -/
def stateOnceSpec : ChangeSpec := { name := "stateOnce", fn := fun _ => fun
  | [d] => { results := [.lit (.bool true)], args := [d] }
  | _ => none }
def stateOnceRow : OpenClaim := { program := "ytckpfcocbjfcbaa", sum := "aaa05a9efe07249795f5c68fde9b90ad369255debd72daea1991d7fb8865cec5", func := "wherry/wherrylaw14.StateOnce", spec := "stateOnce", unfollowed := true, recurses := true, plainKeys := false, apart := false }
def StateOnceSaid : Prop := stateOnceRow.holds Try.pinned (OpenSpec.ofChange stateOnceSpec)

/-- ITS FALSE NEIGHBOUR: 'it returns false'. Refute it at one input. -/
def stateOnceWrong : ChangeSpec := { name := "stateOnce", fn := fun _ => fun
  | [d] => { results := [.lit (.bool false)], args := [d] }
  | _ => none }
def StateOnceWrongFalsely : Prop := stateOnceRow.holds Try.pinned (OpenSpec.ofChange stateOnceWrong)

/-- 'wherrylaw14.StateParts': WHATEVER THE INPUT: true; the input reads as it did. -/
def statePartsSpec : ChangeSpec := { name := "stateParts", fn := fun _ => fun
  | [d1, d2] => { results := [.lit (.bool true)], args := [d1, d2] }
  | _ => none }
def statePartsRow : OpenClaim := { program := "ytckpfcocbjfcbaa", sum := "aaa05a9efe07249795f5c68fde9b90ad369255debd72daea1991d7fb8865cec5", func := "wherry/wherrylaw14.StateParts", spec := "stateParts", unfollowed := true, recurses := true, plainKeys := false, apart := false }
def StatePartsSaid : Prop := statePartsRow.holds Try.pinned (OpenSpec.ofChange statePartsSpec)

/-- ITS FALSE NEIGHBOUR: 'it returns false'. Refute it at one input. -/
def statePartsWrong : ChangeSpec := { name := "stateParts", fn := fun _ => fun
  | [d1, d2] => { results := [.lit (.bool false)], args := [d1, d2] }
  | _ => none }
def StatePartsWrongFalsely : Prop := statePartsRow.holds Try.pinned (OpenSpec.ofChange statePartsWrong)

/-- 'wherrylaw14.StateBuilds': WHATEVER THE INPUT: true; the input reads as it did. -/
def stateBuildsSpec : ChangeSpec := { name := "stateBuilds", fn := fun _ => fun
  | [d] => { results := [.lit (.bool true)], args := [d] }
  | _ => none }
def stateBuildsRow : OpenClaim := { program := "ytckpfcocbjfcbaa", sum := "aaa05a9efe07249795f5c68fde9b90ad369255debd72daea1991d7fb8865cec5", func := "wherry/wherrylaw14.StateBuilds", spec := "stateBuilds", inPlace := ["internal/bytealg.IndexByteString", "internal/bytealg.IndexString"], unfollowed := true, recurses := true, named := ["internal/bytealg.MaxLen"], plainKeys := false, apart := false }
def StateBuildsSaid : Prop := stateBuildsRow.holds Try.pinned (OpenSpec.ofChange stateBuildsSpec)

/-- ITS FALSE NEIGHBOUR: 'it returns false'. Refute it at one input. -/
def stateBuildsWrong : ChangeSpec := { name := "stateBuilds", fn := fun _ => fun
  | [d] => { results := [.lit (.bool false)], args := [d] }
  | _ => none }
def StateBuildsWrongFalsely : Prop := stateBuildsRow.holds Try.pinned (OpenSpec.ofChange stateBuildsWrong)

/-- 'wherrylaw14.StateApplies': WHATEVER THE INPUT: true; the input reads as it did. -/
def stateAppliesSpec : ChangeSpec := { name := "stateApplies", fn := fun _ => fun
  | [d1, d2] => { results := [.lit (.bool true)], args := [d1, d2] }
  | _ => none }
def stateAppliesRow : OpenClaim := { program := "ytckpfcocbjfcbaa", sum := "aaa05a9efe07249795f5c68fde9b90ad369255debd72daea1991d7fb8865cec5", func := "wherry/wherrylaw14.StateApplies", spec := "stateApplies", inPlace := ["internal/bytealg.IndexByteString", "internal/bytealg.IndexString"], unfollowed := true, recurses := true, named := ["internal/bytealg.MaxLen"], plainKeys := false, apart := false }
def StateAppliesSaid : Prop := stateAppliesRow.holds Try.pinned (OpenSpec.ofChange stateAppliesSpec)

/-- ITS FALSE NEIGHBOUR: 'it returns false'. Refute it at one input. -/
def stateAppliesWrong : ChangeSpec := { name := "stateApplies", fn := fun _ => fun
  | [d1, d2] => { results := [.lit (.bool false)], args := [d1, d2] }
  | _ => none }
def StateAppliesWrongFalsely : Prop := stateAppliesRow.holds Try.pinned (OpenSpec.ofChange stateAppliesWrong)

/-- 'wherrylaw14.StateKeeps': WHATEVER THE INPUT: true; the input reads as it did. -/
def stateKeepsSpec : ChangeSpec := { name := "stateKeeps", fn := fun _ => fun
  | [d1, d2] => { results := [.lit (.bool true)], args := [d1, d2] }
  | _ => none }
def stateKeepsRow : OpenClaim := { program := "ytckpfcocbjfcbaa", sum := "aaa05a9efe07249795f5c68fde9b90ad369255debd72daea1991d7fb8865cec5", func := "wherry/wherrylaw14.StateKeeps", spec := "stateKeeps", inPlace := ["internal/bytealg.IndexByteString", "internal/bytealg.IndexString"], unfollowed := true, recurses := true, named := ["internal/bytealg.MaxLen"], plainKeys := false, apart := false }
def StateKeepsSaid : Prop := stateKeepsRow.holds Try.pinned (OpenSpec.ofChange stateKeepsSpec)

/-- ITS FALSE NEIGHBOUR: 'it returns false'. Refute it at one input. -/
def stateKeepsWrong : ChangeSpec := { name := "stateKeeps", fn := fun _ => fun
  | [d1, d2] => { results := [.lit (.bool false)], args := [d1, d2] }
  | _ => none }
def StateKeepsWrongFalsely : Prop := stateKeepsRow.holds Try.pinned (OpenSpec.ofChange stateKeepsWrong)

/- THE SECOND FORM. 'bulk': how many values and letters a reading holds, each counted each time it is reached (what is shared counts as often as it is met; a slice's spare places count too). A statement '..UptoSaid' is the law's where the arguments, and the package variables that the reading takes, are together of bulk at most 1048576: NARROWER than '..Said'. Prove '..Said' where nothing that the law and all that it calls make is longer than what came in: it says more and counts as full. Else prove '..UptoSaid'. A law counts once. -/
mutual
def uptoBulk {H : Type} : DataW H → Nat
  | .lit (.string bytes) => bytes.length + 1
  | .lit _ => 1
  | .nil => 1
  | .ptr d => uptoBulk d + 1
  | .slice elems spare => uptoBulkAll elems + uptoBulkAll spare + 1
  | .agg parts => uptoBulkAll parts + 1
  | .iface _ d => uptoBulk d + 1
  | .map entries => uptoBulkEntries entries + 1
  | .held _ => 1
def uptoBulkAll {H : Type} : List (DataW H) → Nat
  | [] => 0
  | d :: r => uptoBulk d + uptoBulkAll r
def uptoBulkEntries {H : Type} : List (Lit × DataW H) → Nat
  | [] => 0
  | x :: r => uptoBulkEntry x + uptoBulkEntries r
def uptoBulkEntry {H : Type} : Lit × DataW H → Nat
  | (.string bytes, d) => bytes.length + uptoBulk d + 1
  | (_, d) => uptoBulk d + 1
 end
def uptoSmall : (H : Type) → List (DataW H) → Bool := fun _ ds => decide (uptoBulkAll ds ≤ 1048576)
def OpenSpec.upto (s : _root_.Go.ChangeSpec) : _root_.Go.OpenSpec := { _root_.Go.OpenSpec.ofChange s with cond := some uptoSmall }

/-- 'wherrylaw13.EventApart', WHERE WHAT IT READS IS OF BULK AT MOST 1048576: true; the input reads as it did. -/
def eventApartUptoRow : OpenClaim := { program := "ytckpfcocbjfcbaa", sum := "aaa05a9efe07249795f5c68fde9b90ad369255debd72daea1991d7fb8865cec5", func := "wherry/wherrylaw13.EventApart", spec := "eventApart", unfollowed := true, recurses := true, plainKeys := false, apart := false, narrowed := true }
def EventApartUptoSaid : Prop := eventApartUptoRow.holds Try.pinned (OpenSpec.upto eventApartSpec)

/-- 'wherrylaw14.StateOnce', WHERE WHAT IT READS IS OF BULK AT MOST 1048576: true; the input reads as it did. -/
def stateOnceUptoRow : OpenClaim := { program := "ytckpfcocbjfcbaa", sum := "aaa05a9efe07249795f5c68fde9b90ad369255debd72daea1991d7fb8865cec5", func := "wherry/wherrylaw14.StateOnce", spec := "stateOnce", unfollowed := true, recurses := true, plainKeys := false, apart := false, narrowed := true }
def StateOnceUptoSaid : Prop := stateOnceUptoRow.holds Try.pinned (OpenSpec.upto stateOnceSpec)

/-- 'wherrylaw14.StateParts', WHERE WHAT IT READS IS OF BULK AT MOST 1048576: true; the input reads as it did. -/
def statePartsUptoRow : OpenClaim := { program := "ytckpfcocbjfcbaa", sum := "aaa05a9efe07249795f5c68fde9b90ad369255debd72daea1991d7fb8865cec5", func := "wherry/wherrylaw14.StateParts", spec := "stateParts", unfollowed := true, recurses := true, plainKeys := false, apart := false, narrowed := true }
def StatePartsUptoSaid : Prop := statePartsUptoRow.holds Try.pinned (OpenSpec.upto statePartsSpec)

/-- 'wherrylaw14.StateBuilds', WHERE WHAT IT READS IS OF BULK AT MOST 1048576: true; the input reads as it did. -/
def stateBuildsUptoRow : OpenClaim := { program := "ytckpfcocbjfcbaa", sum := "aaa05a9efe07249795f5c68fde9b90ad369255debd72daea1991d7fb8865cec5", func := "wherry/wherrylaw14.StateBuilds", spec := "stateBuilds", inPlace := ["internal/bytealg.IndexByteString", "internal/bytealg.IndexString"], unfollowed := true, recurses := true, named := ["internal/bytealg.MaxLen"], plainKeys := false, apart := false, narrowed := true }
def StateBuildsUptoSaid : Prop := stateBuildsUptoRow.holds Try.pinned (OpenSpec.upto stateBuildsSpec)

/-- 'wherrylaw14.StateApplies', WHERE WHAT IT READS IS OF BULK AT MOST 1048576: true; the input reads as it did. -/
def stateAppliesUptoRow : OpenClaim := { program := "ytckpfcocbjfcbaa", sum := "aaa05a9efe07249795f5c68fde9b90ad369255debd72daea1991d7fb8865cec5", func := "wherry/wherrylaw14.StateApplies", spec := "stateApplies", inPlace := ["internal/bytealg.IndexByteString", "internal/bytealg.IndexString"], unfollowed := true, recurses := true, named := ["internal/bytealg.MaxLen"], plainKeys := false, apart := false, narrowed := true }
def StateAppliesUptoSaid : Prop := stateAppliesUptoRow.holds Try.pinned (OpenSpec.upto stateAppliesSpec)

/-- 'wherrylaw14.StateKeeps', WHERE WHAT IT READS IS OF BULK AT MOST 1048576: true; the input reads as it did. -/
def stateKeepsUptoRow : OpenClaim := { program := "ytckpfcocbjfcbaa", sum := "aaa05a9efe07249795f5c68fde9b90ad369255debd72daea1991d7fb8865cec5", func := "wherry/wherrylaw14.StateKeeps", spec := "stateKeeps", inPlace := ["internal/bytealg.IndexByteString", "internal/bytealg.IndexString"], unfollowed := true, recurses := true, named := ["internal/bytealg.MaxLen"], plainKeys := false, apart := false, narrowed := true }
def StateKeepsUptoSaid : Prop := stateKeepsUptoRow.holds Try.pinned (OpenSpec.upto stateKeepsSpec)

end Rows
end Go.Proofs.Ytckpfcocbjfcbaa
