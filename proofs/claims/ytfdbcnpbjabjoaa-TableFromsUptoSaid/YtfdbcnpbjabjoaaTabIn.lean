/- WHAT THE ROWS OF chapter 7 HAND OVER: pairs. -/
import Derived.Test.YtfdbcnpbjabjoaaBulk
import Derived.Test.YtfdbcnpbjabjoaaTabWt
import Derived.SliceStrings
import Derived.Deep.Fields
namespace Go.Proofs.Ytfdbcnpbjabjoaa
open Go.ChangeShapes Go.WideShapes Go.ChangeAt Go.RowKit Go.Deep
set_option linter.unusedVariables false
set_option linter.unusedSimpArgs false

theorem sumBy_wt (l : List Pr) : sumBy (fun p : Pr => p.1.length + p.2.1.length + 3) l = wtP l := by
  induction l with
  | nil => rfl
  | cons p l ih => rw [sumBy, ih, wtP_cons]
theorem bulk3 {H : Type} (ys : List (DataW H × List MemPlace)) {y0 y1 y2 : DataW H × List MemPlace} (hl : ys.length = 3) (z0 : ys[0]? = some y0) (z1 : ys[1]? = some y1) (z2 : ys[2]? = some y2) : Rows.uptoBulk (.agg (ys.map (·.1))) = Rows.uptoBulk y0.1 + Rows.uptoBulk y1.1 + Rows.uptoBulk y2.1 + 1 := by
  match ys, hl with
  | [w0, w1, w2], _ =>
    simp only [List.getElem?_cons_zero, List.getElem?_cons_succ, Option.some.injEq] at z0 z1 z2
    subst z0; subst z1; subst z2
    simp only [List.map_cons, List.map_nil, Rows.uptoBulk, Rows.uptoBulkAll]
    omega
theorem ith {α β : Type} {l : List α} {f : α → β} {j : Nat} {a : α} (h : l[j]? = some a) : (l.map f)[j]? = some (f a) := by rw [List.getElem?_map, h]; rfl
theorem pair_cells {H : Type} {enc : TypeId × Value → H} {W : World} {base : Nat} {spare : Nat → Bool} {held : Bool} {fuel : Nat} {cs : List Value} {x : DataW H × List MemPlace}
    (hx : DataW.trod enc Try.prog W base spare held fuel 70 cs = some x) : ∃ p : Pr, cs = prC p ∧ p.1.length + p.2.1.length + 3 ≤ Rows.uptoBulk x.1 := by
  obtain ⟨ys, m, hd, hyl, hcl, hf⟩ := trod_fields Try.underlying70 (by kernel_rfl) (by kernel_rfl) hx
  obtain ⟨c0, y0, e0, z0, t0⟩ := hf 0 _ rfl
  obtain ⟨c1, y1, e1, z1, t1⟩ := hf 1 _ rfl
  obtain ⟨c2, y2, e2, z2, t2⟩ := hf 2 _ rfl
  obtain ⟨s0, k0, j0, _⟩ := DataW.trod_string Try.underlying9 t0
  obtain ⟨s1, k1, j1, _⟩ := DataW.trod_string Try.underlying9 t1
  obtain ⟨G, k2, j2⟩ := DataW.trod_bool Try.underlying4 t2
  simp only [List.cons.injEq, and_true] at k0 k1 k2
  subst k0; subst k1; subst k2
  have hb : s0.data.toList.length + s1.data.toList.length + 3 ≤ Rows.uptoBulk x.1 := by
    rw [hd, bulk3 ys hyl z0 z1 z2, j0, j1, bulk_string, bulk_string]
    have := bulk_one y2.1
    omega
  match cs, hcl with
  | [d0, d1, d2], _ =>
    simp at e0 e1 e2
    subst e0; subst e1; subst e2
    exact ⟨(s0.data.toList, s1.data.toList, G), rfl, hb⟩
set_option maxRecDepth 100000 in
theorem open_prs {H : Type} {enc : TypeId × Value → H} {W : World} {base : Nat} {v : Value} {d : DataW H} {p : List MemPlace} (hv : Value.okWide Try.prog W .any base 55 v)
    (h : DataW.Trod enc Try.prog W 0 (fun _ => true) true 55 v d p) : ∃ l : List Pr, Sl W v 3 l.length (l.flatMap prC) ∧ (∀ a n c, v = .slice a n c → n ≤ c) ∧ wtP l + 1 ≤ Rows.uptoBulk d := by
  obtain ⟨a0, len0, cap0, rfl⟩ := okWide_slice Try.underlying55 hv
  obtain ⟨fuel, hf⟩ := h
  obtain ⟨l, g1, _, g3⟩ := trod_sl (P := Try.prog) Try.underlying55 3 (by kernel_rfl) (by omega) prC prC_len (fun _ => True) (fun d : DataW H => Rows.uptoBulk d) (fun p : Pr => p.1.length + p.2.1.length + 3) (fun n cs x hx => by
    obtain ⟨y, hy, hb⟩ := pair_cells hx
    exact ⟨y, hy, trivial, hb⟩) (by simpa [Value.cells] using hf)
  refine ⟨l, g1, ?_, bulk_sl (g3.imp (fun ⟨x, y⟩ => ⟨x, by rw [y]; rfl⟩) (fun ⟨es, rest, he, hs⟩ => ⟨es, rest, he, by rw [sumBy_wt] at hs; exact hs⟩))⟩
  rcases open_slice Try.underlying55 hf with ⟨hcs, hx⟩ | ⟨a, len, cap, m, n, D, Pl, hcs, _, hl, hm, hmm, hx, hi⟩
  · simp [Value.cells] at hcs
    obtain ⟨rfl, rfl, rfl⟩ := hcs
    intro a n c e; simp at e; omega
  · simp [Value.cells] at hcs
    obtain ⟨rfl, rfl, rfl⟩ := hcs
    intro a n c e; simp at e; omega
end Go.Proofs.Ytfdbcnpbjabjoaa
