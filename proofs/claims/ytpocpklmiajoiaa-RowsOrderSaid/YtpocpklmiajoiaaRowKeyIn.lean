/- WHAT COMES IN: a key's parts; the walk of RowsOrder as the frame wants it. -/
import Derived.Test.YtpocpklmiajoiaaRowOpen
import Derived.Test.YtpocpklmiajoiaaRowOrder
namespace Go.Proofs.Ytpocpklmiajoiaa
open Go.ChangeShapes Go.WideShapes Go.ChangeAt Go.RowKit Go.Deep
set_option linter.unusedVariables false

set_option maxRecDepth 100000 in
theorem open_key {H : Type} {enc : TypeId × Value → H} {W : World} {base : Nat} {v : Value} {d : DataW H} {p : List MemPlace} (hw : ∀ n ∈ d.weights Try.prog 24, LenB n) (hv : Value.okWide Try.prog W .any base 24 v)
    (h : DataW.Trod enc Try.prog W 0 (fun _ => true) true 24 v d p) : ∃ (s : Int) (wd nm : List UInt8) (i : Int) (u : Nat), v = .agg #[.int .i64 s, .string ⟨wd.toArray⟩, .string ⟨nm.toArray⟩, .int .i64 i, .int .u64 (u : Int)] ∧ U64 u ∧ wd.length ≤ 140737488351232 ∧ nm.length ≤ 140737488351232 := by
  obtain ⟨cs, rfl, hsz⟩ := okWide_struct Try.underlying24 hv
  obtain ⟨fuel, hf⟩ := h
  obtain ⟨ys, n, hx, _, hcl, hg⟩ := trod_fields Try.underlying24 (by kernel_rfl) (by kernel_rfl) hf
  obtain ⟨c0, y0, e0, z0, t0⟩ := hg 0 _ rfl
  obtain ⟨c1, y1, e1, z1, t1⟩ := hg 1 _ rfl
  obtain ⟨c2, y2, e2, z2, t2⟩ := hg 2 _ rfl
  obtain ⟨c3, y3, e3, z3, t3⟩ := hg 3 _ rfl
  obtain ⟨c4, y4, e4, z4, t4⟩ := hg 4 _ rfl
  obtain ⟨S, k0, _, _⟩ := DataW.trod_int Try.underlying3 t0
  obtain ⟨s1, k1, j1, _⟩ := DataW.trod_string Try.underlying9 t1
  obtain ⟨s2, k2, j2, _⟩ := DataW.trod_string Try.underlying9 t2
  obtain ⟨I, k3, _, _⟩ := DataW.trod_int Try.underlying3 t3
  obtain ⟨U, k4, _, w4⟩ := DataW.trod_int Try.underlying22 t4
  obtain ⟨u, rfl, hu⟩ := u64_of_wf w4
  simp only [List.cons.injEq, and_true] at k0 k1 k2 k3 k4
  subst k0; subst k1; subst k2; subst k3; subst k4; subst j1; subst j2
  have hd : d = .agg (ys.map (·.1)) := hx
  subst hd
  have l1 := text_le (part_le Try.underlying24 hw (j := 1) rfl (by rw [List.getElem?_map, z1]; rfl))
  have l2 := text_le (part_le Try.underlying24 hw (j := 2) rfl (by rw [List.getElem?_map, z2]; rfl))
  obtain ⟨l⟩ := cs
  simp only [Value.cells] at hcl e0 e1 e2 e3 e4
  match l, hcl with
  | [d0, d1, d2, d3, d4], _ =>
    simp at e0 e1 e2 e3 e4
    subst e0; subst e1; subst e2; subst e3; subst e4
    exact ⟨S, s1.data.toList, s2.data.toList, I, u, rfl, hu, l1, l2⟩
theorem rowsOrder_w (v : Value) (as_ : Int) (aw an : List UInt8) (ai : Int) (au : Nat) (hau : U64 au) (haw : aw.length ≤ 140737488351232) (han : an.length ≤ 140737488351232) (v' : Value) (bs : Int) (bw bn : List UInt8) (bi : Int) (bu : Nat) (hbu : U64 bu) (hbw : bw.length ≤ 140737488351232) (hbn : bn.length ≤ 140737488351232) (w : World)
    (e : v = .agg #[.int .i64 as_, .string ⟨aw.toArray⟩, .string ⟨an.toArray⟩, .int .i64 ai, .int .u64 (au : Int)]) (e' : v' = .agg #[.int .i64 bs, .string ⟨bw.toArray⟩, .string ⟨bn.toArray⟩, .int .i64 bi, .int .u64 (bu : Int)]) :
    Calls Try.prog 3 #[v, v'] w fun e w' => e = .returned (.bool true) ∧ Below w.heap.size w w' := by
  rw [e, e']; exact rowsOrder_walk as_ aw an ai au bs bw bn bi bu hau hbu haw han hbw hbn w
end Go.Proofs.Ytpocpklmiajoiaa
