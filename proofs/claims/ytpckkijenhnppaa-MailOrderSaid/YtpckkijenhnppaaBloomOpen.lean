/- WHAT THE ROWS OF chapter 6 HAND OVER. -/
import Derived.Test.YtpckkijenhnppaaBulk
import Derived.Test.YtpckkijenhnppaaFrames
import Derived.Test.YtpckkijenhnppaaSlices
namespace Go.Proofs.Ytpckkijenhnppaa
open Go.ChangeShapes Go.WideShapes Go.ChangeAt Go.RowKit Go.Deep

def letters (ss : List (List UInt8)) : Nat := sumBy (fun s => s.length + 1) ss
theorem open_strs {H : Type} {enc : TypeId × Value → H} {W : World} {base : Nat} {v : Value} {d : DataW H} {p : List MemPlace} (hv : Value.okWide Try.prog W .any base 22 v)
    (h : DataW.Trod enc Try.prog W 0 (fun _ => true) true 22 v d p) : ∃ ss : List (List UInt8), Sl W v 1 ss.length (ss.map strV) ∧ (∀ s ∈ ss, s.length ≤ maxLen) ∧ letters ss + 1 ≤ Rows.uptoBulk d := by
  obtain ⟨a0, len0, cap0, rfl⟩ := okWide_slice Try.underlying22 hv
  obtain ⟨fuel, hf⟩ := h
  obtain ⟨ss, h1, h2, h3⟩ := trod_strs (P := Try.prog) Try.underlying22 Try.underlying9 (by kernel_rfl) (fun d : DataW H => Rows.uptoBulk d) (fun l => by rw [bulk_string]; exact Nat.le_refl _) (by simpa [Value.cells] using hf)
  exact ⟨ss, h1, h2, bulk_sl (h3.imp (fun ⟨a, b⟩ => ⟨a, by rw [b]; rfl⟩) id)⟩
theorem open_asked {H : Type} {enc : TypeId × Value → H} {W : World} {base : Nat} {v : Value} {d : DataW H} {p : List MemPlace} (hv : Value.okWide Try.prog W .any base 24 v)
    (h : DataW.Trod enc Try.prog W 0 (fun _ => true) true 24 v d p) : ∃ (v0 : Value) (ks : List (List UInt8)) (n : Int) (k f : List UInt8),
      v = .agg #[v0, .int .i64 n, .string ⟨k.toArray⟩, .string ⟨f.toArray⟩] ∧ Sl W v0 1 ks.length (ks.map strV) ∧ (∀ s ∈ ks, s.length ≤ maxLen) ∧ (-9223372036854775808 ≤ n ∧ n ≤ 9223372036854775807) ∧ k.length ≤ maxLen ∧ f.length ≤ maxLen := by
  obtain ⟨cs, rfl, hsz⟩ := okWide_struct Try.underlying24 hv
  obtain ⟨fuel, hf⟩ := h
  obtain ⟨ys, n, _, _, hcl, hg⟩ := trod_fields Try.underlying24 (by kernel_rfl) (by kernel_rfl) hf
  obtain ⟨c0, y0, e0, _, t0⟩ := hg 0 _ rfl
  obtain ⟨c1, y1, e1, _, t1⟩ := hg 1 _ rfl
  obtain ⟨c2, y2, e2, _, t2⟩ := hg 2 _ rfl
  obtain ⟨c3, y3, e3, _, t3⟩ := hg 3 _ rfl
  obtain ⟨ks, g1, g2, _⟩ := trod_strs (P := Try.prog) Try.underlying22 Try.underlying9 (by kernel_rfl) (fun d : DataW H => Rows.uptoBulk d) (fun l => by rw [bulk_string]; exact Nat.le_refl _) t0
  obtain ⟨N, k1, _, wn⟩ := DataW.trod_int Try.underlying3 t1
  obtain ⟨K, k2, _, wk⟩ := DataW.trod_string Try.underlying9 t2
  obtain ⟨F, k3, _, wf⟩ := DataW.trod_string Try.underlying9 t3
  simp only [List.cons.injEq, and_true] at k1 k2 k3
  subst k1; subst k2; subst k3
  obtain ⟨l⟩ := cs
  simp only [Value.cells] at hcl e0 e1 e2 e3
  match l, hcl with
  | [d0, d1, d2, d3], _ =>
    simp at e0 e1 e2 e3
    subst e0; subst e1; subst e2; subst e3
    refine ⟨d0, ks, N, K.data.toList, F.data.toList, ?_, g1, g2, i64_of_wf wn, (by rw [← Lib.size_eq]; exact wk), (by rw [← Lib.size_eq]; exact wf)⟩
    rw [Lib.mk_data, Lib.mk_data]
end Go.Proofs.Ytpckkijenhnppaa
