/-
  No cell of these rows narrows 'for every input' (looked for: loops, veiled, ifaces, maps, wideKeys, modest, calm, conditions, laid).
  DERIVED. THE GIVEN ROWS OF THIS SEAT. 8 by the template 'for every input the law returns true; each argument reads behind the call as it read before'; 0 by the template 'total and deterministic' (their statements: YtfdbcnpbjabjoaaTotals.lean).
  GIVEN WITH THE SEED: the statements are not yours to turn. If you find one false, say at which input.
  Laid BY PROGRAM, IN A SANDBOX (cutbox-rows.mjs): the forced cells as the released guide's own fill.sh prints them over the translation 7be888a3461c6118… (all of the seat's roots in one cut). By AI agents, Wed Nov 11 2026. No macro, syntax, notation, axiom, sorry.
-/
import Derived.Test.YtfdbcnpbjabjoaaChecked
import GoSem.Claim
import GoSem.ClaimJoined
import GoSem.ClaimMapViews
import Derived.JoinedTies
import Derived.KernelRfl
namespace Go.Proofs.Ytfdbcnpbjabjoaa
/- THE CELL 'sum', in the pinned program and in every row, IS THE sha256 OF THE DUMP (.gsa) THAT YtfdbcnpbjabjoaaProg.lean LOADS. Nothing in Lean hashes anything: it is a label: what it is worth is what the hold of that sum in a sandbox is worth. -/
noncomputable def Try.pinned : Pinned := { name := "ytfdbcnpbjabjoaa", sum := "7be888a3461c61181711bd335963d517db5233b4e91285d2e848f3ca91227f9c", checked := Try.checked }
namespace Rows
def none {H : Type} : Left H := { results := [], args := [] }

/-- 'wherrylaw23.MailRuns': WHATEVER THE INPUT: true; the input reads as it did. -/
def mailRunsSpec : ChangeSpec := { name := "mailRuns", fn := fun _ => fun
  | [d] => { results := [.lit (.bool true)], args := [d] }
  | _ => none }
def mailRunsRow : OpenClaim := { program := "ytfdbcnpbjabjoaa", sum := "7be888a3461c61181711bd335963d517db5233b4e91285d2e848f3ca91227f9c", func := "wherry/wherrylaw23.MailRuns", spec := "mailRuns", apart := false }
def MailRunsSaid : Prop := mailRunsRow.holds Try.pinned (OpenSpec.ofChange mailRunsSpec)

/-- ITS FALSE NEIGHBOUR: 'it returns false'. Refute it at one input. -/
def mailRunsWrong : ChangeSpec := { name := "mailRuns", fn := fun _ => fun
  | [d] => { results := [.lit (.bool false)], args := [d] }
  | _ => none }
def MailRunsWrongFalsely : Prop := mailRunsRow.holds Try.pinned (OpenSpec.ofChange mailRunsWrong)

/-- 'wherrylaw23.MailArrives': WHATEVER THE INPUT: true; the input reads as it did. -/
def mailArrivesSpec : ChangeSpec := { name := "mailArrives", fn := fun _ => fun
  | [d] => { results := [.lit (.bool true)], args := [d] }
  | _ => none }
def mailArrivesRow : OpenClaim := { program := "ytfdbcnpbjabjoaa", sum := "7be888a3461c61181711bd335963d517db5233b4e91285d2e848f3ca91227f9c", func := "wherry/wherrylaw23.MailArrives", spec := "mailArrives", apart := false }
def MailArrivesSaid : Prop := mailArrivesRow.holds Try.pinned (OpenSpec.ofChange mailArrivesSpec)

/-- ITS FALSE NEIGHBOUR: 'it returns false'. Refute it at one input. -/
def mailArrivesWrong : ChangeSpec := { name := "mailArrives", fn := fun _ => fun
  | [d] => { results := [.lit (.bool false)], args := [d] }
  | _ => none }
def MailArrivesWrongFalsely : Prop := mailArrivesRow.holds Try.pinned (OpenSpec.ofChange mailArrivesWrong)

/-- 'wherrylaw23.MailNone': WHATEVER THE INPUT: true; the input reads as it did. -/
def mailNoneSpec : ChangeSpec := { name := "mailNone", fn := fun _ => fun
  | [d1, d2] => { results := [.lit (.bool true)], args := [d1, d2] }
  | _ => none }
def mailNoneRow : OpenClaim := { program := "ytfdbcnpbjabjoaa", sum := "7be888a3461c61181711bd335963d517db5233b4e91285d2e848f3ca91227f9c", func := "wherry/wherrylaw23.MailNone", spec := "mailNone", apart := false }
def MailNoneSaid : Prop := mailNoneRow.holds Try.pinned (OpenSpec.ofChange mailNoneSpec)

/-- ITS FALSE NEIGHBOUR: 'it returns false'. Refute it at one input. -/
def mailNoneWrong : ChangeSpec := { name := "mailNone", fn := fun _ => fun
  | [d1, d2] => { results := [.lit (.bool false)], args := [d1, d2] }
  | _ => none }
def MailNoneWrongFalsely : Prop := mailNoneRow.holds Try.pinned (OpenSpec.ofChange mailNoneWrong)

/-- 'wherrylaw23.MailOrder': WHATEVER THE INPUT: true; the input reads as it did. -/
def mailOrderSpec : ChangeSpec := { name := "mailOrder", fn := fun _ => fun
  | [d] => { results := [.lit (.bool true)], args := [d] }
  | _ => none }
def mailOrderRow : OpenClaim := { program := "ytfdbcnpbjabjoaa", sum := "7be888a3461c61181711bd335963d517db5233b4e91285d2e848f3ca91227f9c", func := "wherry/wherrylaw23.MailOrder", spec := "mailOrder", apart := false }
def MailOrderSaid : Prop := mailOrderRow.holds Try.pinned (OpenSpec.ofChange mailOrderSpec)

/-- ITS FALSE NEIGHBOUR: 'it returns false'. Refute it at one input. -/
def mailOrderWrong : ChangeSpec := { name := "mailOrder", fn := fun _ => fun
  | [d] => { results := [.lit (.bool false)], args := [d] }
  | _ => none }
def MailOrderWrongFalsely : Prop := mailOrderRow.holds Try.pinned (OpenSpec.ofChange mailOrderWrong)

/-- 'wherrylaw07.TableBuilds': WHATEVER THE INPUT: true; the input reads as it did. -/
def tableBuildsSpec : ChangeSpec := { name := "tableBuilds", fn := fun _ => fun
  | [d] => { results := [.lit (.bool true)], args := [d] }
  | _ => none }
def tableBuildsRow : OpenClaim := { program := "ytfdbcnpbjabjoaa", sum := "7be888a3461c61181711bd335963d517db5233b4e91285d2e848f3ca91227f9c", func := "wherry/wherrylaw07.TableBuilds", spec := "tableBuilds", inPlace := ["internal/abi.NoEscape"], unfollowed := true, recurses := true, apart := false }
def TableBuildsSaid : Prop := tableBuildsRow.holds Try.pinned (OpenSpec.ofChange tableBuildsSpec)

/-- ITS FALSE NEIGHBOUR: 'it returns false'. Refute it at one input. -/
def tableBuildsWrong : ChangeSpec := { name := "tableBuilds", fn := fun _ => fun
  | [d] => { results := [.lit (.bool false)], args := [d] }
  | _ => none }
def TableBuildsWrongFalsely : Prop := tableBuildsRow.holds Try.pinned (OpenSpec.ofChange tableBuildsWrong)

/-- 'wherrylaw07.TableOpens': WHATEVER THE INPUT: true; the input reads as it did. -/
def tableOpensSpec : ChangeSpec := { name := "tableOpens", fn := fun _ => fun
  | [d1, d2] => { results := [.lit (.bool true)], args := [d1, d2] }
  | _ => none }
def tableOpensRow : OpenClaim := { program := "ytfdbcnpbjabjoaa", sum := "7be888a3461c61181711bd335963d517db5233b4e91285d2e848f3ca91227f9c", func := "wherry/wherrylaw07.TableOpens", spec := "tableOpens", inPlace := ["internal/abi.NoEscape"], unfollowed := true, recurses := true, apart := false }
def TableOpensSaid : Prop := tableOpensRow.holds Try.pinned (OpenSpec.ofChange tableOpensSpec)

/-- ITS FALSE NEIGHBOUR: 'it returns false'. Refute it at one input. -/
def tableOpensWrong : ChangeSpec := { name := "tableOpens", fn := fun _ => fun
  | [d1, d2] => { results := [.lit (.bool false)], args := [d1, d2] }
  | _ => none }
def TableOpensWrongFalsely : Prop := tableOpensRow.holds Try.pinned (OpenSpec.ofChange tableOpensWrong)

/-- 'wherrylaw07.TableBack': WHATEVER THE INPUT: true; the input reads as it did. -/
def tableBackSpec : ChangeSpec := { name := "tableBack", fn := fun _ => fun
  | [d1, d2] => { results := [.lit (.bool true)], args := [d1, d2] }
  | _ => none }
def tableBackRow : OpenClaim := { program := "ytfdbcnpbjabjoaa", sum := "7be888a3461c61181711bd335963d517db5233b4e91285d2e848f3ca91227f9c", func := "wherry/wherrylaw07.TableBack", spec := "tableBack", inPlace := ["internal/abi.NoEscape"], unfollowed := true, recurses := true, apart := false }
def TableBackSaid : Prop := tableBackRow.holds Try.pinned (OpenSpec.ofChange tableBackSpec)

/-- ITS FALSE NEIGHBOUR: 'it returns false'. Refute it at one input. -/
def tableBackWrong : ChangeSpec := { name := "tableBack", fn := fun _ => fun
  | [d1, d2] => { results := [.lit (.bool false)], args := [d1, d2] }
  | _ => none }
def TableBackWrongFalsely : Prop := tableBackRow.holds Try.pinned (OpenSpec.ofChange tableBackWrong)

/-- 'wherrylaw07.TableFroms': WHATEVER THE INPUT: true; the input reads as it did. -/
def tableFromsSpec : ChangeSpec := { name := "tableFroms", fn := fun _ => fun
  | [d1, d2, d3] => { results := [.lit (.bool true)], args := [d1, d2, d3] }
  | _ => none }
def tableFromsRow : OpenClaim := { program := "ytfdbcnpbjabjoaa", sum := "7be888a3461c61181711bd335963d517db5233b4e91285d2e848f3ca91227f9c", func := "wherry/wherrylaw07.TableFroms", spec := "tableFroms", inPlace := ["internal/abi.NoEscape"], unfollowed := true, recurses := true, apart := false }
def TableFromsSaid : Prop := tableFromsRow.holds Try.pinned (OpenSpec.ofChange tableFromsSpec)

/-- ITS FALSE NEIGHBOUR: 'it returns false'. Refute it at one input. -/
def tableFromsWrong : ChangeSpec := { name := "tableFroms", fn := fun _ => fun
  | [d1, d2, d3] => { results := [.lit (.bool false)], args := [d1, d2, d3] }
  | _ => none }
def TableFromsWrongFalsely : Prop := tableFromsRow.holds Try.pinned (OpenSpec.ofChange tableFromsWrong)

/- THE SECOND FORM. 'bulk': how many values and letters a reading holds, each counted each time it is reached (what is shared counts as often as it is met; a slice's spare places count too). A statement '..UptoSaid' is the law's where the arguments, and the package variables that the reading takes, are together of bulk at most 1048576: NARROWER than '..Said'. Prove '..Said' where nothing that the law and all that it calls make is longer than what came in: it says more and counts as full. Else prove '..UptoSaid'. A law counts once. -/
mutual
def uptoBulk {H : Type} : DataW H → Nat
  | .lit (.string bytes) => bytes.length + 1
  | .lit _ => 1
  | .nil => 1
  | .ptr d => uptoBulk d + 1
  | .slice elems spare => uptoBulkAll elems + uptoBulkAll spare + 1
  | .agg parts => uptoBulkAll parts + 1
  | .iface _ d => uptoBulk d + 1
  | .map entries => uptoBulkEntries entries + 1
  | .held _ => 1
def uptoBulkAll {H : Type} : List (DataW H) → Nat
  | [] => 0
  | d :: r => uptoBulk d + uptoBulkAll r
def uptoBulkEntries {H : Type} : List (Lit × DataW H) → Nat
  | [] => 0
  | x :: r => uptoBulkEntry x + uptoBulkEntries r
def uptoBulkEntry {H : Type} : Lit × DataW H → Nat
  | (.string bytes, d) => bytes.length + uptoBulk d + 1
  | (_, d) => uptoBulk d + 1
 end
def uptoSmall : (H : Type) → List (DataW H) → Bool := fun _ ds => decide (uptoBulkAll ds ≤ 1048576)
def OpenSpec.upto (s : _root_.Go.ChangeSpec) : _root_.Go.OpenSpec := { _root_.Go.OpenSpec.ofChange s with cond := some uptoSmall }

/-- 'wherrylaw23.MailRuns', WHERE WHAT IT READS IS OF BULK AT MOST 1048576: true; the input reads as it did. -/
def mailRunsUptoRow : OpenClaim := { program := "ytfdbcnpbjabjoaa", sum := "7be888a3461c61181711bd335963d517db5233b4e91285d2e848f3ca91227f9c", func := "wherry/wherrylaw23.MailRuns", spec := "mailRuns", apart := false, narrowed := true }
def MailRunsUptoSaid : Prop := mailRunsUptoRow.holds Try.pinned (OpenSpec.upto mailRunsSpec)

/-- 'wherrylaw23.MailArrives', WHERE WHAT IT READS IS OF BULK AT MOST 1048576: true; the input reads as it did. -/
def mailArrivesUptoRow : OpenClaim := { program := "ytfdbcnpbjabjoaa", sum := "7be888a3461c61181711bd335963d517db5233b4e91285d2e848f3ca91227f9c", func := "wherry/wherrylaw23.MailArrives", spec := "mailArrives", apart := false, narrowed := true }
def MailArrivesUptoSaid : Prop := mailArrivesUptoRow.holds Try.pinned (OpenSpec.upto mailArrivesSpec)

/-- 'wherrylaw23.MailNone', WHERE WHAT IT READS IS OF BULK AT MOST 1048576: true; the input reads as it did. -/
def mailNoneUptoRow : OpenClaim := { program := "ytfdbcnpbjabjoaa", sum := "7be888a3461c61181711bd335963d517db5233b4e91285d2e848f3ca91227f9c", func := "wherry/wherrylaw23.MailNone", spec := "mailNone", apart := false, narrowed := true }
def MailNoneUptoSaid : Prop := mailNoneUptoRow.holds Try.pinned (OpenSpec.upto mailNoneSpec)

/-- 'wherrylaw23.MailOrder', WHERE WHAT IT READS IS OF BULK AT MOST 1048576: true; the input reads as it did. -/
def mailOrderUptoRow : OpenClaim := { program := "ytfdbcnpbjabjoaa", sum := "7be888a3461c61181711bd335963d517db5233b4e91285d2e848f3ca91227f9c", func := "wherry/wherrylaw23.MailOrder", spec := "mailOrder", apart := false, narrowed := true }
def MailOrderUptoSaid : Prop := mailOrderUptoRow.holds Try.pinned (OpenSpec.upto mailOrderSpec)

/-- 'wherrylaw07.TableBuilds', WHERE WHAT IT READS IS OF BULK AT MOST 1048576: true; the input reads as it did. -/
def tableBuildsUptoRow : OpenClaim := { program := "ytfdbcnpbjabjoaa", sum := "7be888a3461c61181711bd335963d517db5233b4e91285d2e848f3ca91227f9c", func := "wherry/wherrylaw07.TableBuilds", spec := "tableBuilds", inPlace := ["internal/abi.NoEscape"], unfollowed := true, recurses := true, apart := false, narrowed := true }
def TableBuildsUptoSaid : Prop := tableBuildsUptoRow.holds Try.pinned (OpenSpec.upto tableBuildsSpec)

/-- 'wherrylaw07.TableOpens', WHERE WHAT IT READS IS OF BULK AT MOST 1048576: true; the input reads as it did. -/
def tableOpensUptoRow : OpenClaim := { program := "ytfdbcnpbjabjoaa", sum := "7be888a3461c61181711bd335963d517db5233b4e91285d2e848f3ca91227f9c", func := "wherry/wherrylaw07.TableOpens", spec := "tableOpens", inPlace := ["internal/abi.NoEscape"], unfollowed := true, recurses := true, apart := false, narrowed := true }
def TableOpensUptoSaid : Prop := tableOpensUptoRow.holds Try.pinned (OpenSpec.upto tableOpensSpec)

/-- 'wherrylaw07.TableBack', WHERE WHAT IT READS IS OF BULK AT MOST 1048576: true; the input reads as it did. -/
def tableBackUptoRow : OpenClaim := { program := "ytfdbcnpbjabjoaa", sum := "7be888a3461c61181711bd335963d517db5233b4e91285d2e848f3ca91227f9c", func := "wherry/wherrylaw07.TableBack", spec := "tableBack", inPlace := ["internal/abi.NoEscape"], unfollowed := true, recurses := true, apart := false, narrowed := true }
def TableBackUptoSaid : Prop := tableBackUptoRow.holds Try.pinned (OpenSpec.upto tableBackSpec)

/-- 'wherrylaw07.TableFroms', WHERE WHAT IT READS IS OF BULK AT MOST 1048576: true; the input reads as it did. -/
def tableFromsUptoRow : OpenClaim := { program := "ytfdbcnpbjabjoaa", sum := "7be888a3461c61181711bd335963d517db5233b4e91285d2e848f3ca91227f9c", func := "wherry/wherrylaw07.TableFroms", spec := "tableFroms", inPlace := ["internal/abi.NoEscape"], unfollowed := true, recurses := true, apart := false, narrowed := true }
def TableFromsUptoSaid : Prop := tableFromsUptoRow.holds Try.pinned (OpenSpec.upto tableFromsSpec)

end Rows
end Go.Proofs.Ytfdbcnpbjabjoaa
