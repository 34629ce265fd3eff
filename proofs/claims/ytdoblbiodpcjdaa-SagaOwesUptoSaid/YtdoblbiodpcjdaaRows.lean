/-
  No cell of these rows narrows 'for every input' (looked for: loops, veiled, ifaces, maps, wideKeys, modest, calm, conditions, laid).
  DERIVED. THE GIVEN ROWS OF THIS SEAT. 9 by the template 'for every input the law returns true; each argument reads behind the call as it read before'; 0 by the template 'total and deterministic' (their statements: YtdoblbiodpcjdaaTotals.lean).
  GIVEN WITH THE SEED: the statements are not yours to turn. If you find one false, say at which input.
  Laid BY PROGRAM, IN A SANDBOX (cutbox-rows.mjs): the forced cells as the released guide's own fill.sh prints them over the translation 4364948b7233dabd… (all of the seat's roots in one cut). By AI agents, Wed Nov 11 2026. No macro, syntax, notation, axiom, sorry.
-/
import Derived.Test.YtdoblbiodpcjdaaChecked
import GoSem.Claim
import GoSem.ClaimJoined
import GoSem.ClaimMapViews
import Derived.JoinedTies
import Derived.KernelRfl
namespace Go.Proofs.Ytdoblbiodpcjdaa
/- THE CELL 'sum', in the pinned program and in every row, IS THE sha256 OF THE DUMP (.gsa) THAT YtdoblbiodpcjdaaProg.lean LOADS. Nothing in Lean hashes anything: it is a label: what it is worth is what the hold of that sum in a sandbox is worth. -/
noncomputable def Try.pinned : Pinned := { name := "ytdoblbiodpcjdaa", sum := "4364948b7233dabd49812f58b148a197e88d9eb0e835c8ad227877a7ea568929", checked := Try.checked }
namespace Rows
def none {H : Type} : Left H := { results := [], args := [] }

/-- 'wherrylaw13.EventApart': WHATEVER THE INPUT: true; the input reads as it did. -/
def eventApartSpec : ChangeSpec := { name := "eventApart", fn := fun _ => fun
  | [d1, d2] => { results := [.lit (.bool true)], args := [d1, d2] }
  | _ => none }
def eventApartRow : OpenClaim := { program := "ytdoblbiodpcjdaa", sum := "4364948b7233dabd49812f58b148a197e88d9eb0e835c8ad227877a7ea568929", func := "wherry/wherrylaw13.EventApart", spec := "eventApart", unfollowed := true, recurses := true, apart := false }
def EventApartSaid : Prop := eventApartRow.holds Try.pinned (OpenSpec.ofChange eventApartSpec)

/-- ITS FALSE NEIGHBOUR: 'it returns false'. Refute it at one input. -/
def eventApartWrong : ChangeSpec := { name := "eventApart", fn := fun _ => fun
  | [d1, d2] => { results := [.lit (.bool false)], args := [d1, d2] }
  | _ => none }
def EventApartWrongFalsely : Prop := eventApartRow.holds Try.pinned (OpenSpec.ofChange eventApartWrong)

/-- 'wherrylaw14.StateBuilds': WHATEVER THE INPUT: true; the input reads as it did. -/
def stateBuildsSpec : ChangeSpec := { name := "stateBuilds", fn := fun _ => fun
  | [d] => { results := [.lit (.bool true)], args := [d] }
  | _ => none }
def stateBuildsRow : OpenClaim := { program := "ytdoblbiodpcjdaa", sum := "4364948b7233dabd49812f58b148a197e88d9eb0e835c8ad227877a7ea568929", func := "wherry/wherrylaw14.StateBuilds", spec := "stateBuilds", inPlace := ["internal/bytealg.IndexByteString", "internal/bytealg.IndexString"], unfollowed := true, recurses := true, named := ["internal/bytealg.MaxLen"], apart := false }
def StateBuildsSaid : Prop := stateBuildsRow.holds Try.pinned (OpenSpec.ofChange stateBuildsSpec)

/-- ITS FALSE NEIGHBOUR: 'it returns false'. Refute it at one input. -/
def stateBuildsWrong : ChangeSpec := { name := "stateBuilds", fn := fun _ => fun
  | [d] => { results := [.lit (.bool false)], args := [d] }
  | _ => none }
def StateBuildsWrongFalsely : Prop := stateBuildsRow.holds Try.pinned (OpenSpec.ofChange stateBuildsWrong)

/-- 'wherrylaw15.PlayComes': WHATEVER THE INPUT: true; the input reads as it did. -/
def playComesSpec : ChangeSpec := { name := "playComes", fn := fun _ => fun
  | [d] => { results := [.lit (.bool true)], args := [d] }
  | _ => none }
def playComesRow : OpenClaim := { program := "ytdoblbiodpcjdaa", sum := "4364948b7233dabd49812f58b148a197e88d9eb0e835c8ad227877a7ea568929", func := "wherry/wherrylaw15.PlayComes", spec := "playComes", unfollowed := true, recurses := true, apart := false }
def PlayComesSaid : Prop := playComesRow.holds Try.pinned (OpenSpec.ofChange playComesSpec)

/-- ITS FALSE NEIGHBOUR: 'it returns false'. Refute it at one input. -/
def playComesWrong : ChangeSpec := { name := "playComes", fn := fun _ => fun
  | [d] => { results := [.lit (.bool false)], args := [d] }
  | _ => none }
def PlayComesWrongFalsely : Prop := playComesRow.holds Try.pinned (OpenSpec.ofChange playComesWrong)

/-- 'wherrylaw15.PlayRuns': WHATEVER THE INPUT: true; the input reads as it did. -/
def playRunsSpec : ChangeSpec := { name := "playRuns", fn := fun _ => fun
  | [d1, d2] => { results := [.lit (.bool true)], args := [d1, d2] }
  | _ => none }
def playRunsRow : OpenClaim := { program := "ytdoblbiodpcjdaa", sum := "4364948b7233dabd49812f58b148a197e88d9eb0e835c8ad227877a7ea568929", func := "wherry/wherrylaw15.PlayRuns", spec := "playRuns", unfollowed := true, recurses := true, apart := false }
def PlayRunsSaid : Prop := playRunsRow.holds Try.pinned (OpenSpec.ofChange playRunsSpec)

/-- ITS FALSE NEIGHBOUR: 'it returns false'. Refute it at one input. -/
def playRunsWrong : ChangeSpec := { name := "playRuns", fn := fun _ => fun
  | [d1, d2] => { results := [.lit (.bool false)], args := [d1, d2] }
  | _ => none }
def PlayRunsWrongFalsely : Prop := playRunsRow.holds Try.pinned (OpenSpec.ofChange playRunsWrong)

/-- 'wherrylaw15.PlayOne': WHATEVER THE INPUT: true; the input reads as it did. -/
def playOneSpec : ChangeSpec := { name := "playOne", fn := fun _ => fun
  | [d] => { results := [.lit (.bool true)], args := [d] }
  | _ => none }
def playOneRow : OpenClaim := { program := "ytdoblbiodpcjdaa", sum := "4364948b7233dabd49812f58b148a197e88d9eb0e835c8ad227877a7ea568929", func := "wherry/wherrylaw15.PlayOne", spec := "playOne", unfollowed := true, recurses := true, apart := false }
def PlayOneSaid : Prop := playOneRow.holds Try.pinned (OpenSpec.ofChange playOneSpec)

/-- ITS FALSE NEIGHBOUR: 'it returns false'. Refute it at one input. -/
def playOneWrong : ChangeSpec := { name := "playOne", fn := fun _ => fun
  | [d] => { results := [.lit (.bool false)], args := [d] }
  | _ => none }
def PlayOneWrongFalsely : Prop := playOneRow.holds Try.pinned (OpenSpec.ofChange playOneWrong)

/-- 'wherrylaw16.SagaKept': WHATEVER THE INPUT: true; the input reads as it did. -/
def sagaKeptSpec : ChangeSpec := { name := "sagaKept", fn := fun _ => fun
  | [d] => { results := [.lit (.bool true)], args := [d] }
  | _ => none }
def sagaKeptRow : OpenClaim := { program := "ytdoblbiodpcjdaa", sum := "4364948b7233dabd49812f58b148a197e88d9eb0e835c8ad227877a7ea568929", func := "wherry/wherrylaw16.SagaKept", spec := "sagaKept", unfollowed := true, recurses := true, apart := false }
def SagaKeptSaid : Prop := sagaKeptRow.holds Try.pinned (OpenSpec.ofChange sagaKeptSpec)

/-- ITS FALSE NEIGHBOUR: 'it returns false'. Refute it at one input. -/
def sagaKeptWrong : ChangeSpec := { name := "sagaKept", fn := fun _ => fun
  | [d] => { results := [.lit (.bool false)], args := [d] }
  | _ => none }
def SagaKeptWrongFalsely : Prop := sagaKeptRow.holds Try.pinned (OpenSpec.ofChange sagaKeptWrong)

/-- 'wherrylaw16.SagaGrows': WHATEVER THE INPUT: true; the input reads as it did. -/
def sagaGrowsSpec : ChangeSpec := { name := "sagaGrows", fn := fun _ => fun
  | [d1, d2] => { results := [.lit (.bool true)], args := [d1, d2] }
  | _ => none }
def sagaGrowsRow : OpenClaim := { program := "ytdoblbiodpcjdaa", sum := "4364948b7233dabd49812f58b148a197e88d9eb0e835c8ad227877a7ea568929", func := "wherry/wherrylaw16.SagaGrows", spec := "sagaGrows", unfollowed := true, recurses := true, apart := false }
def SagaGrowsSaid : Prop := sagaGrowsRow.holds Try.pinned (OpenSpec.ofChange sagaGrowsSpec)

/-- ITS FALSE NEIGHBOUR: 'it returns false'. Refute it at one input. -/
def sagaGrowsWrong : ChangeSpec := { name := "sagaGrows", fn := fun _ => fun
  | [d1, d2] => { results := [.lit (.bool false)], args := [d1, d2] }
  | _ => none }
def SagaGrowsWrongFalsely : Prop := sagaGrowsRow.holds Try.pinned (OpenSpec.ofChange sagaGrowsWrong)

/-- 'wherrylaw16.SagaOnce': WHATEVER THE INPUT: true; the input reads as it did. -/
def sagaOnceSpec : ChangeSpec := { name := "sagaOnce", fn := fun _ => fun
  | [d] => { results := [.lit (.bool true)], args := [d] }
  | _ => none }
def sagaOnceRow : OpenClaim := { program := "ytdoblbiodpcjdaa", sum := "4364948b7233dabd49812f58b148a197e88d9eb0e835c8ad227877a7ea568929", func := "wherry/wherrylaw16.SagaOnce", spec := "sagaOnce", unfollowed := true, recurses := true, apart := false }
def SagaOnceSaid : Prop := sagaOnceRow.holds Try.pinned (OpenSpec.ofChange sagaOnceSpec)

/-- ITS FALSE NEIGHBOUR: 'it returns false'. Refute it at one input. -/
def sagaOnceWrong : ChangeSpec := { name := "sagaOnce", fn := fun _ => fun
  | [d] => { results := [.lit (.bool false)], args := [d] }
  | _ => none }
def SagaOnceWrongFalsely : Prop := sagaOnceRow.holds Try.pinned (OpenSpec.ofChange sagaOnceWrong)

/-- 'wherrylaw16.SagaOwes': WHATEVER THE INPUT: true; the input reads as it did. -/
def sagaOwesSpec : ChangeSpec := { name := "sagaOwes", fn := fun _ => fun
  | [d1, d2, d3] => { results := [.lit (.bool true)], args := [d1, d2, d3] }
  | _ => none }
def sagaOwesRow : OpenClaim := { program := "ytdoblbiodpcjdaa", sum := "4364948b7233dabd49812f58b148a197e88d9eb0e835c8ad227877a7ea568929", func := "wherry/wherrylaw16.SagaOwes", spec := "sagaOwes", unfollowed := true, recurses := true, apart := false }
def SagaOwesSaid : Prop := sagaOwesRow.holds Try.pinned (OpenSpec.ofChange sagaOwesSpec)

/-- ITS FALSE NEIGHBOUR: 'it returns false'. Refute it at one input. -/
def sagaOwesWrong : ChangeSpec := { name := "sagaOwes", fn := fun _ => fun
  | [d1, d2, d3] => { results := [.lit (.bool false)], args := [d1, d2, d3] }
  | _ => none }
def SagaOwesWrongFalsely : Prop := sagaOwesRow.holds Try.pinned (OpenSpec.ofChange sagaOwesWrong)

/- THE SECOND FORM. 'bulk': how many values and letters a reading holds, each counted each time it is reached (what is shared counts as often as it is met; a slice's spare places count too). A statement '..UptoSaid' is the law's where the arguments, and the package variables that the reading takes, are together of bulk at most 1048576: NARROWER than '..Said'. Prove '..Said' where nothing that the law and all that it calls make is longer than what came in: it says more and counts as full. Else prove '..UptoSaid'. A law counts once. -/
mutual
def uptoBulk {H : Type} : DataW H → Nat
  | .lit (.string bytes) => bytes.length + 1
  | .lit _ => 1
  | .nil => 1
  | .ptr d => uptoBulk d + 1
  | .slice elems spare => uptoBulkAll elems + uptoBulkAll spare + 1
  | .agg parts => uptoBulkAll parts + 1
  | .iface _ d => uptoBulk d + 1
  | .map entries => uptoBulkEntries entries + 1
  | .held _ => 1
def uptoBulkAll {H : Type} : List (DataW H) → Nat
  | [] => 0
  | d :: r => uptoBulk d + uptoBulkAll r
def uptoBulkEntries {H : Type} : List (Lit × DataW H) → Nat
  | [] => 0
  | x :: r => uptoBulkEntry x + uptoBulkEntries r
def uptoBulkEntry {H : Type} : Lit × DataW H → Nat
  | (.string bytes, d) => bytes.length + uptoBulk d + 1
  | (_, d) => uptoBulk d + 1
 end
def uptoSmall : (H : Type) → List (DataW H) → Bool := fun _ ds => decide (uptoBulkAll ds ≤ 1048576)
def OpenSpec.upto (s : _root_.Go.ChangeSpec) : _root_.Go.OpenSpec := { _root_.Go.OpenSpec.ofChange s with cond := some uptoSmall }

/-- 'wherrylaw13.EventApart', WHERE WHAT IT READS IS OF BULK AT MOST 1048576: true; the input reads as it did. -/
def eventApartUptoRow : OpenClaim := { program := "ytdoblbiodpcjdaa", sum := "4364948b7233dabd49812f58b148a197e88d9eb0e835c8ad227877a7ea568929", func := "wherry/wherrylaw13.EventApart", spec := "eventApart", unfollowed := true, recurses := true, apart := false, narrowed := true }
def EventApartUptoSaid : Prop := eventApartUptoRow.holds Try.pinned (OpenSpec.upto eventApartSpec)

/-- 'wherrylaw14.StateBuilds', WHERE WHAT IT READS IS OF BULK AT MOST 1048576: true; the input reads as it did. -/
def stateBuildsUptoRow : OpenClaim := { program := "ytdoblbiodpcjdaa", sum := "4364948b7233dabd49812f58b148a197e88d9eb0e835c8ad227877a7ea568929", func := "wherry/wherrylaw14.StateBuilds", spec := "stateBuilds", inPlace := ["internal/bytealg.IndexByteString", "internal/bytealg.IndexString"], unfollowed := true, recurses := true, named := ["internal/bytealg.MaxLen"], apart := false, narrowed := true }
def StateBuildsUptoSaid : Prop := stateBuildsUptoRow.holds Try.pinned (OpenSpec.upto stateBuildsSpec)

/-- 'wherrylaw15.PlayComes', WHERE WHAT IT READS IS OF BULK AT MOST 1048576: true; the input reads as it did. -/
def playComesUptoRow : OpenClaim := { program := "ytdoblbiodpcjdaa", sum := "4364948b7233dabd49812f58b148a197e88d9eb0e835c8ad227877a7ea568929", func := "wherry/wherrylaw15.PlayComes", spec := "playComes", unfollowed := true, recurses := true, apart := false, narrowed := true }
def PlayComesUptoSaid : Prop := playComesUptoRow.holds Try.pinned (OpenSpec.upto playComesSpec)

/-- 'wherrylaw15.PlayRuns', WHERE WHAT IT READS IS OF BULK AT MOST 1048576: true; the input reads as it did. -/
def playRunsUptoRow : OpenClaim := { program := "ytdoblbiodpcjdaa", sum := "4364948b7233dabd49812f58b148a197e88d9eb0e835c8ad227877a7ea568929", func := "wherry/wherrylaw15.PlayRuns", spec := "playRuns", unfollowed := true, recurses := true, apart := false, narrowed := true }
def PlayRunsUptoSaid : Prop := playRunsUptoRow.holds Try.pinned (OpenSpec.upto playRunsSpec)

/-- 'wherrylaw15.PlayOne', WHERE WHAT IT READS IS OF BULK AT MOST 1048576: true; the input reads as it did. -/
def playOneUptoRow : OpenClaim := { program := "ytdoblbiodpcjdaa", sum := "4364948b7233dabd49812f58b148a197e88d9eb0e835c8ad227877a7ea568929", func := "wherry/wherrylaw15.PlayOne", spec := "playOne", unfollowed := true, recurses := true, apart := false, narrowed := true }
def PlayOneUptoSaid : Prop := playOneUptoRow.holds Try.pinned (OpenSpec.upto playOneSpec)

/-- 'wherrylaw16.SagaKept', WHERE WHAT IT READS IS OF BULK AT MOST 1048576: true; the input reads as it did. -/
def sagaKeptUptoRow : OpenClaim := { program := "ytdoblbiodpcjdaa", sum := "4364948b7233dabd49812f58b148a197e88d9eb0e835c8ad227877a7ea568929", func := "wherry/wherrylaw16.SagaKept", spec := "sagaKept", unfollowed := true, recurses := true, apart := false, narrowed := true }
def SagaKeptUptoSaid : Prop := sagaKeptUptoRow.holds Try.pinned (OpenSpec.upto sagaKeptSpec)

/-- 'wherrylaw16.SagaGrows', WHERE WHAT IT READS IS OF BULK AT MOST 1048576: true; the input reads as it did. -/
def sagaGrowsUptoRow : OpenClaim := { program := "ytdoblbiodpcjdaa", sum := "4364948b7233dabd49812f58b148a197e88d9eb0e835c8ad227877a7ea568929", func := "wherry/wherrylaw16.SagaGrows", spec := "sagaGrows", unfollowed := true, recurses := true, apart := false, narrowed := true }
def SagaGrowsUptoSaid : Prop := sagaGrowsUptoRow.holds Try.pinned (OpenSpec.upto sagaGrowsSpec)

/-- 'wherrylaw16.SagaOnce', WHERE WHAT IT READS IS OF BULK AT MOST 1048576: true; the input reads as it did. -/
def sagaOnceUptoRow : OpenClaim := { program := "ytdoblbiodpcjdaa", sum := "4364948b7233dabd49812f58b148a197e88d9eb0e835c8ad227877a7ea568929", func := "wherry/wherrylaw16.SagaOnce", spec := "sagaOnce", unfollowed := true, recurses := true, apart := false, narrowed := true }
def SagaOnceUptoSaid : Prop := sagaOnceUptoRow.holds Try.pinned (OpenSpec.upto sagaOnceSpec)

/-- 'wherrylaw16.SagaOwes', WHERE WHAT IT READS IS OF BULK AT MOST 1048576: true; the input reads as it did. -/
def sagaOwesUptoRow : OpenClaim := { program := "ytdoblbiodpcjdaa", sum := "4364948b7233dabd49812f58b148a197e88d9eb0e835c8ad227877a7ea568929", func := "wherry/wherrylaw16.SagaOwes", spec := "sagaOwes", unfollowed := true, recurses := true, apart := false, narrowed := true }
def SagaOwesUptoSaid : Prop := sagaOwesUptoRow.holds Try.pinned (OpenSpec.upto sagaOwesSpec)

end Rows
end Go.Proofs.Ytdoblbiodpcjdaa
