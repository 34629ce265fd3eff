/-
  No cell of these rows narrows 'for every input' (looked for: loops, veiled, ifaces, maps, wideKeys, modest, calm, conditions, laid).
  DERIVED. THE GIVEN ROWS OF THIS SEAT. 8 by the template 'for every input the law returns true; each argument reads behind the call as it read before'; 0 by the template 'total and deterministic' (their statements: YtpckkijenhnppaaTotals.lean).
  GIVEN WITH THE SEED: the statements are not yours to turn. If you find one false, say at which input.
  Laid BY PROGRAM, IN A SANDBOX (cutbox-rows.mjs): the forced cells as the released guide's own fill.sh prints them over the translation 37beabddb8e1e35a… (all of the seat's roots in one cut). By AI agents, Wed Nov 11 2026. No macro, syntax, notation, axiom, sorry.
-/
import Derived.Test.YtpckkijenhnppaaChecked
import GoSem.Claim
import GoSem.ClaimJoined
import GoSem.ClaimMapViews
import Derived.JoinedTies
import Derived.KernelRfl
namespace Go.Proofs.Ytpckkijenhnppaa
/- THE CELL 'sum', in the pinned program and in every row, IS THE sha256 OF THE DUMP (.gsa) THAT YtpckkijenhnppaaProg.lean LOADS. Nothing in Lean hashes anything: it is a label: what it is worth is what the hold of that sum in a sandbox is worth. -/
noncomputable def Try.pinned : Pinned := { name := "ytpckkijenhnppaa", sum := "37beabddb8e1e35a73f65f824edf0adf69b8ea45e8f98c999cba87f3b02f9c12", checked := Try.checked }
namespace Rows
def none {H : Type} : Left H := { results := [], args := [] }

/-- 'wherrylaw06.BloomTells': WHATEVER THE INPUT: true; the input reads as it did. -/
def bloomTellsSpec : ChangeSpec := { name := "bloomTells", fn := fun _ => fun
  | [d] => { results := [.lit (.bool true)], args := [d] }
  | _ => none }
def bloomTellsRow : OpenClaim := { program := "ytpckkijenhnppaa", sum := "37beabddb8e1e35a73f65f824edf0adf69b8ea45e8f98c999cba87f3b02f9c12", func := "wherry/wherrylaw06.BloomTells", spec := "bloomTells", apart := false }
def BloomTellsSaid : Prop := bloomTellsRow.holds Try.pinned (OpenSpec.ofChange bloomTellsSpec)

/-- ITS FALSE NEIGHBOUR: 'it returns false'. Refute it at one input. -/
def bloomTellsWrong : ChangeSpec := { name := "bloomTells", fn := fun _ => fun
  | [d] => { results := [.lit (.bool false)], args := [d] }
  | _ => none }
def BloomTellsWrongFalsely : Prop := bloomTellsRow.holds Try.pinned (OpenSpec.ofChange bloomTellsWrong)

/-- 'wherrylaw06.BloomHas': WHATEVER THE INPUT: true; the input reads as it did. -/
def bloomHasSpec : ChangeSpec := { name := "bloomHas", fn := fun _ => fun
  | [d1, d2] => { results := [.lit (.bool true)], args := [d1, d2] }
  | _ => none }
def bloomHasRow : OpenClaim := { program := "ytpckkijenhnppaa", sum := "37beabddb8e1e35a73f65f824edf0adf69b8ea45e8f98c999cba87f3b02f9c12", func := "wherry/wherrylaw06.BloomHas", spec := "bloomHas", apart := false }
def BloomHasSaid : Prop := bloomHasRow.holds Try.pinned (OpenSpec.ofChange bloomHasSpec)

/-- ITS FALSE NEIGHBOUR: 'it returns false'. Refute it at one input. -/
def bloomHasWrong : ChangeSpec := { name := "bloomHas", fn := fun _ => fun
  | [d1, d2] => { results := [.lit (.bool false)], args := [d1, d2] }
  | _ => none }
def BloomHasWrongFalsely : Prop := bloomHasRow.holds Try.pinned (OpenSpec.ofChange bloomHasWrong)

/-- 'wherrylaw06.BloomMore': WHATEVER THE INPUT: true; the input reads as it did. -/
def bloomMoreSpec : ChangeSpec := { name := "bloomMore", fn := fun _ => fun
  | [d] => { results := [.lit (.bool true)], args := [d] }
  | _ => none }
def bloomMoreRow : OpenClaim := { program := "ytpckkijenhnppaa", sum := "37beabddb8e1e35a73f65f824edf0adf69b8ea45e8f98c999cba87f3b02f9c12", func := "wherry/wherrylaw06.BloomMore", spec := "bloomMore", apart := false }
def BloomMoreSaid : Prop := bloomMoreRow.holds Try.pinned (OpenSpec.ofChange bloomMoreSpec)

/-- ITS FALSE NEIGHBOUR: 'it returns false'. Refute it at one input. -/
def bloomMoreWrong : ChangeSpec := { name := "bloomMore", fn := fun _ => fun
  | [d] => { results := [.lit (.bool false)], args := [d] }
  | _ => none }
def BloomMoreWrongFalsely : Prop := bloomMoreRow.holds Try.pinned (OpenSpec.ofChange bloomMoreWrong)

/-- 'wherrylaw06.BloomJoins': WHATEVER THE INPUT: true; the input reads as it did. -/
def bloomJoinsSpec : ChangeSpec := { name := "bloomJoins", fn := fun _ => fun
  | [d1, d2, d3] => { results := [.lit (.bool true)], args := [d1, d2, d3] }
  | _ => none }
def bloomJoinsRow : OpenClaim := { program := "ytpckkijenhnppaa", sum := "37beabddb8e1e35a73f65f824edf0adf69b8ea45e8f98c999cba87f3b02f9c12", func := "wherry/wherrylaw06.BloomJoins", spec := "bloomJoins", apart := false }
def BloomJoinsSaid : Prop := bloomJoinsRow.holds Try.pinned (OpenSpec.ofChange bloomJoinsSpec)

/-- ITS FALSE NEIGHBOUR: 'it returns false'. Refute it at one input. -/
def bloomJoinsWrong : ChangeSpec := { name := "bloomJoins", fn := fun _ => fun
  | [d1, d2, d3] => { results := [.lit (.bool false)], args := [d1, d2, d3] }
  | _ => none }
def BloomJoinsWrongFalsely : Prop := bloomJoinsRow.holds Try.pinned (OpenSpec.ofChange bloomJoinsWrong)

/-- 'wherrylaw23.MailRuns': WHATEVER THE INPUT: true; the input reads as it did. -/
def mailRunsSpec : ChangeSpec := { name := "mailRuns", fn := fun _ => fun
  | [d] => { results := [.lit (.bool true)], args := [d] }
  | _ => none }
def mailRunsRow : OpenClaim := { program := "ytpckkijenhnppaa", sum := "37beabddb8e1e35a73f65f824edf0adf69b8ea45e8f98c999cba87f3b02f9c12", func := "wherry/wherrylaw23.MailRuns", spec := "mailRuns", apart := false }
def MailRunsSaid : Prop := mailRunsRow.holds Try.pinned (OpenSpec.ofChange mailRunsSpec)

/-- ITS FALSE NEIGHBOUR: 'it returns false'. Refute it at one input. -/
def mailRunsWrong : ChangeSpec := { name := "mailRuns", fn := fun _ => fun
  | [d] => { results := [.lit (.bool false)], args := [d] }
  | _ => none }
def MailRunsWrongFalsely : Prop := mailRunsRow.holds Try.pinned (OpenSpec.ofChange mailRunsWrong)

/-- 'wherrylaw23.MailArrives': WHATEVER THE INPUT: true; the input reads as it did. -/
def mailArrivesSpec : ChangeSpec := { name := "mailArrives", fn := fun _ => fun
  | [d] => { results := [.lit (.bool true)], args := [d] }
  | _ => none }
def mailArrivesRow : OpenClaim := { program := "ytpckkijenhnppaa", sum := "37beabddb8e1e35a73f65f824edf0adf69b8ea45e8f98c999cba87f3b02f9c12", func := "wherry/wherrylaw23.MailArrives", spec := "mailArrives", apart := false }
def MailArrivesSaid : Prop := mailArrivesRow.holds Try.pinned (OpenSpec.ofChange mailArrivesSpec)

/-- ITS FALSE NEIGHBOUR: 'it returns false'. Refute it at one input. -/
def mailArrivesWrong : ChangeSpec := { name := "mailArrives", fn := fun _ => fun
  | [d] => { results := [.lit (.bool false)], args := [d] }
  | _ => none }
def MailArrivesWrongFalsely : Prop := mailArrivesRow.holds Try.pinned (OpenSpec.ofChange mailArrivesWrong)

/-- 'wherrylaw23.MailNone': WHATEVER THE INPUT: true; the input reads as it did. -/
def mailNoneSpec : ChangeSpec := { name := "mailNone", fn := fun _ => fun
  | [d1, d2] => { results := [.lit (.bool true)], args := [d1, d2] }
  | _ => none }
def mailNoneRow : OpenClaim := { program := "ytpckkijenhnppaa", sum := "37beabddb8e1e35a73f65f824edf0adf69b8ea45e8f98c999cba87f3b02f9c12", func := "wherry/wherrylaw23.MailNone", spec := "mailNone", apart := false }
def MailNoneSaid : Prop := mailNoneRow.holds Try.pinned (OpenSpec.ofChange mailNoneSpec)

/-- ITS FALSE NEIGHBOUR: 'it returns false'. Refute it at one input. -/
def mailNoneWrong : ChangeSpec := { name := "mailNone", fn := fun _ => fun
  | [d1, d2] => { results := [.lit (.bool false)], args := [d1, d2] }
  | _ => none }
def MailNoneWrongFalsely : Prop := mailNoneRow.holds Try.pinned (OpenSpec.ofChange mailNoneWrong)

/-- 'wherrylaw23.MailOrder': WHATEVER THE INPUT: true; the input reads as it did. -/
def mailOrderSpec : ChangeSpec := { name := "mailOrder", fn := fun _ => fun
  | [d] => { results := [.lit (.bool true)], args := [d] }
  | _ => none }
def mailOrderRow : OpenClaim := { program := "ytpckkijenhnppaa", sum := "37beabddb8e1e35a73f65f824edf0adf69b8ea45e8f98c999cba87f3b02f9c12", func := "wherry/wherrylaw23.MailOrder", spec := "mailOrder", apart := false }
def MailOrderSaid : Prop := mailOrderRow.holds Try.pinned (OpenSpec.ofChange mailOrderSpec)

/-- ITS FALSE NEIGHBOUR: 'it returns false'. Refute it at one input. -/
def mailOrderWrong : ChangeSpec := { name := "mailOrder", fn := fun _ => fun
  | [d] => { results := [.lit (.bool false)], args := [d] }
  | _ => none }
def MailOrderWrongFalsely : Prop := mailOrderRow.holds Try.pinned (OpenSpec.ofChange mailOrderWrong)

/- THE SECOND FORM. 'bulk': how many values and letters a reading holds, each counted each time it is reached (what is shared counts as often as it is met; a slice's spare places count too). A statement '..UptoSaid' is the law's where the arguments, and the package variables that the reading takes, are together of bulk at most 1048576: NARROWER than '..Said'. Prove '..Said' where nothing that the law and all that it calls make is longer than what came in: it says more and counts as full. Else prove '..UptoSaid'. A law counts once. -/
mutual
def uptoBulk {H : Type} : DataW H → Nat
  | .lit (.string bytes) => bytes.length + 1
  | .lit _ => 1
  | .nil => 1
  | .ptr d => uptoBulk d + 1
  | .slice elems spare => uptoBulkAll elems + uptoBulkAll spare + 1
  | .agg parts => uptoBulkAll parts + 1
  | .iface _ d => uptoBulk d + 1
  | .map entries => uptoBulkEntries entries + 1
  | .held _ => 1
def uptoBulkAll {H : Type} : List (DataW H) → Nat
  | [] => 0
  | d :: r => uptoBulk d + uptoBulkAll r
def uptoBulkEntries {H : Type} : List (Lit × DataW H) → Nat
  | [] => 0
  | x :: r => uptoBulkEntry x + uptoBulkEntries r
def uptoBulkEntry {H : Type} : Lit × DataW H → Nat
  | (.string bytes, d) => bytes.length + uptoBulk d + 1
  | (_, d) => uptoBulk d + 1
 end
def uptoSmall : (H : Type) → List (DataW H) → Bool := fun _ ds => decide (uptoBulkAll ds ≤ 1048576)
def OpenSpec.upto (s : _root_.Go.ChangeSpec) : _root_.Go.OpenSpec := { _root_.Go.OpenSpec.ofChange s with cond := some uptoSmall }

/-- 'wherrylaw06.BloomTells', WHERE WHAT IT READS IS OF BULK AT MOST 1048576: true; the input reads as it did. -/
def bloomTellsUptoRow : OpenClaim := { program := "ytpckkijenhnppaa", sum := "37beabddb8e1e35a73f65f824edf0adf69b8ea45e8f98c999cba87f3b02f9c12", func := "wherry/wherrylaw06.BloomTells", spec := "bloomTells", apart := false, narrowed := true }
def BloomTellsUptoSaid : Prop := bloomTellsUptoRow.holds Try.pinned (OpenSpec.upto bloomTellsSpec)

/-- 'wherrylaw06.BloomHas', WHERE WHAT IT READS IS OF BULK AT MOST 1048576: true; the input reads as it did. -/
def bloomHasUptoRow : OpenClaim := { program := "ytpckkijenhnppaa", sum := "37beabddb8e1e35a73f65f824edf0adf69b8ea45e8f98c999cba87f3b02f9c12", func := "wherry/wherrylaw06.BloomHas", spec := "bloomHas", apart := false, narrowed := true }
def BloomHasUptoSaid : Prop := bloomHasUptoRow.holds Try.pinned (OpenSpec.upto bloomHasSpec)

/-- 'wherrylaw06.BloomMore', WHERE WHAT IT READS IS OF BULK AT MOST 1048576: true; the input reads as it did. -/
def bloomMoreUptoRow : OpenClaim := { program := "ytpckkijenhnppaa", sum := "37beabddb8e1e35a73f65f824edf0adf69b8ea45e8f98c999cba87f3b02f9c12", func := "wherry/wherrylaw06.BloomMore", spec := "bloomMore", apart := false, narrowed := true }
def BloomMoreUptoSaid : Prop := bloomMoreUptoRow.holds Try.pinned (OpenSpec.upto bloomMoreSpec)

/-- 'wherrylaw06.BloomJoins', WHERE WHAT IT READS IS OF BULK AT MOST 1048576: true; the input reads as it did. -/
def bloomJoinsUptoRow : OpenClaim := { program := "ytpckkijenhnppaa", sum := "37beabddb8e1e35a73f65f824edf0adf69b8ea45e8f98c999cba87f3b02f9c12", func := "wherry/wherrylaw06.BloomJoins", spec := "bloomJoins", apart := false, narrowed := true }
def BloomJoinsUptoSaid : Prop := bloomJoinsUptoRow.holds Try.pinned (OpenSpec.upto bloomJoinsSpec)

/-- 'wherrylaw23.MailRuns', WHERE WHAT IT READS IS OF BULK AT MOST 1048576: true; the input reads as it did. -/
def mailRunsUptoRow : OpenClaim := { program := "ytpckkijenhnppaa", sum := "37beabddb8e1e35a73f65f824edf0adf69b8ea45e8f98c999cba87f3b02f9c12", func := "wherry/wherrylaw23.MailRuns", spec := "mailRuns", apart := false, narrowed := true }
def MailRunsUptoSaid : Prop := mailRunsUptoRow.holds Try.pinned (OpenSpec.upto mailRunsSpec)

/-- 'wherrylaw23.MailArrives', WHERE WHAT IT READS IS OF BULK AT MOST 1048576: true; the input reads as it did. -/
def mailArrivesUptoRow : OpenClaim := { program := "ytpckkijenhnppaa", sum := "37beabddb8e1e35a73f65f824edf0adf69b8ea45e8f98c999cba87f3b02f9c12", func := "wherry/wherrylaw23.MailArrives", spec := "mailArrives", apart := false, narrowed := true }
def MailArrivesUptoSaid : Prop := mailArrivesUptoRow.holds Try.pinned (OpenSpec.upto mailArrivesSpec)

/-- 'wherrylaw23.MailNone', WHERE WHAT IT READS IS OF BULK AT MOST 1048576: true; the input reads as it did. -/
def mailNoneUptoRow : OpenClaim := { program := "ytpckkijenhnppaa", sum := "37beabddb8e1e35a73f65f824edf0adf69b8ea45e8f98c999cba87f3b02f9c12", func := "wherry/wherrylaw23.MailNone", spec := "mailNone", apart := false, narrowed := true }
def MailNoneUptoSaid : Prop := mailNoneUptoRow.holds Try.pinned (OpenSpec.upto mailNoneSpec)

/-- 'wherrylaw23.MailOrder', WHERE WHAT IT READS IS OF BULK AT MOST 1048576: true; the input reads as it did. -/
def mailOrderUptoRow : OpenClaim := { program := "ytpckkijenhnppaa", sum := "37beabddb8e1e35a73f65f824edf0adf69b8ea45e8f98c999cba87f3b02f9c12", func := "wherry/wherrylaw23.MailOrder", spec := "mailOrder", apart := false, narrowed := true }
def MailOrderUptoSaid : Prop := mailOrderUptoRow.holds Try.pinned (OpenSpec.upto mailOrderSpec)

end Rows
end Go.Proofs.Ytpckkijenhnppaa
