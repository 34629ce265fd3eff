/- CONTRACTS of the reference: Status, last, ended, Asked, Taken, Fresh. CONTRACTS of the reference: program, kind, Tries. CONTRACT of the reference: Jobs. CONTRACT of the reference: Clocks. CONTRACTS of the reference: tried, fired. CONTRACT of the reference: fired. -/
import Derived.Test.YtdoblbiodpcjdaaSmM
import Derived.Test.YtdoblbiodpcjdaaPgmRDec
import Derived.Deep.RegionLaw
import Derived.WalkSpells
import Derived.IntWalk
import Derived.Deep.RegionHeld3
import Derived.BigQuiet
namespace Go.Proofs.Ytdoblbiodpcjdaa
open Go.RowKit
set_option linter.unusedVariables false
set_option linter.unusedSimpArgs false
def evc (x : Ev) : List Value := [.int .i64 x.id, .int .i64 x.kd, .int .i64 x.tk, .int .i64 x.rf, .int .i64 x.sp, .int .i64 x.ty, .bool x.ud, .string ⟨x.dt.toArray⟩]
theorem evc_len (x : Ev) : (evc x).length = 8 := rfl
def FitE (l : List Ev) : Prop := ∀ x ∈ l, x.dt.length ≤ 140737488355328
theorem ev_cell {w : World} {l : List Ev} {b off : Nat} (hc : ∀ j (_ : j < (l.flatMap evc).length), w.cell? ⟨b, off + j, none⟩ = some (l.flatMap evc)[j]) (k j : Nat) (hj : j < 8) (hk : k < l.length) (v : Value) (hv : (evc l[k])[j]? = some v) : w.cell? ⟨b, off + k * 8 + j, none⟩ = some v := by
 rw [Nat.add_assoc]; exact Sl.cell evc_len hc k j hj hk v hv
theorem take_snoc {α : Type} {l : List α} {k : Nat} (h : k < l.length) : l.take (k + 1) = l.take k ++ [l[k]] := by
 rw [List.take_add_one, List.getElem?_eq_getElem h]; rfl
theorem Hs.fit {l : List Ev} (h : Hs l) : FitE l := by
 intro x hx
 have := (h.nth.rf hx).1
 have := dataP_len this.2.2.2.2.2.2.2
 omega
theorem Hs.tick {l : List Ev} (h : Hs l) {x : Ev} (hx : x ∈ l) : 0 ≤ x.tk ∧ x.tk ≤ 1099511627776 := (h.nth.rf hx).1.2.2.1
end Go.Proofs.Ytdoblbiodpcjdaa
