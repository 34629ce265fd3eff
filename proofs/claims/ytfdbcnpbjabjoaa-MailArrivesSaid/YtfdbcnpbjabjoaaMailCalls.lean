/- CALLS OF THE NET, as they come in. -/
import Derived.Test.YtfdbcnpbjabjoaaRows
import Derived.Test.YtfdbcnpbjabjoaaFrames
import Derived.Test.YtfdbcnpbjabjoaaSlices
import Derived.SliceStrings
import Derived.Deep.Fields
namespace Go.Proofs.Ytfdbcnpbjabjoaa
set_option maxRecDepth 100000
open Go.ChangeShapes Go.WideShapes Go.ChangeAt Go.RowKit Go.Deep

def I64 (n : Int) : Prop := -9223372036854775808 ≤ n ∧ n ≤ 9223372036854775807
/-- kind, place, to whom, text -/
abbrev MCall := Int × Int × List UInt8 × List UInt8
def callC (a : MCall) : List Value := [.int .i64 a.1, .int .i64 a.2.1, .string ⟨a.2.2.1.toArray⟩, .string ⟨a.2.2.2.toArray⟩]
theorem open_calls {H : Type} {enc : TypeId × Value → H} {W : World} {base : Nat} {v : Value} {d : DataW H} {p : List MemPlace} (hv : Value.okWide Try.prog W .any base 22 v)
    (h : DataW.Trod enc Try.prog W 0 (fun _ => true) true 22 v d p) : ∃ qs : List MCall, Sl W v 4 qs.length (qs.flatMap callC) ∧ (∀ a ∈ qs, I64 a.1 ∧ I64 a.2.1) := by
  obtain ⟨qs, h1, h2, _⟩ := open_sl (P := Try.prog) Try.underlying22 4 (by kernel_rfl) (by omega) callC (fun _ => rfl) (fun a => I64 a.1 ∧ I64 a.2.1) (fun _ => 0) (fun _ => 0) (fun n cs x hx => by
    obtain ⟨ys, m, _, _, hcl, hf⟩ := trod_fields Try.underlying31 (by kernel_rfl) (by kernel_rfl) hx
    obtain ⟨c0, y0, e0, _, t0⟩ := hf 0 _ rfl
    obtain ⟨c1, y1, e1, _, t1⟩ := hf 1 _ rfl
    obtain ⟨c2, y2, e2, _, t2⟩ := hf 2 _ rfl
    obtain ⟨c3, y3, e3, _, t3⟩ := hf 3 _ rfl
    obtain ⟨K, k0, _, wk⟩ := DataW.trod_int Try.underlying3 t0
    obtain ⟨N, k1, _, wn⟩ := DataW.trod_int Try.underlying3 t1
    obtain ⟨s2, k2, _, _⟩ := DataW.trod_string Try.underlying9 t2
    obtain ⟨s3, k3, _, _⟩ := DataW.trod_string Try.underlying9 t3
    simp only [List.cons.injEq, and_true] at k0 k1 k2 k3
    subst k0; subst k1; subst k2; subst k3
    match cs, hcl with
    | [d0, d1, d2, d3], _ =>
      simp at e0 e1 e2 e3
      subst e0; subst e1; subst e2; subst e3
      exact ⟨(K, N, s2.data.toList, s3.data.toList), rfl, ⟨i64_of_wf wk, i64_of_wf wn⟩, Nat.zero_le _⟩) hv h
  exact ⟨qs, h1, h2⟩
end Go.Proofs.Ytfdbcnpbjabjoaa
