/- WHAT COMES IN: a task, a workflow's bytes, a key's parts; how long the texts in it are. -/
import Derived.Test.YtpocpklmiajoiaaRowPlain
import Derived.Test.YtpocpklmiajoiaaRows
import Derived.Test.YtpocpklmiajoiaaSlices
import Derived.ProofKit
import Derived.OpenShut
import Derived.ShutString
import Derived.Test.YtpocpklmiajoiaaFrames
import Derived.SliceStrings
import Derived.Deep.Fields
import Derived.SizedLaws
namespace Go.Proofs.Ytpocpklmiajoiaa
open Go.ChangeShapes Go.WideShapes Go.ChangeAt Go.RowKit Go.Deep
set_option linter.unusedVariables false

def LenB (n : Nat) : Prop := n ≤ 140737488351232
theorem nest_le {H : Type} {P : Program} {ts : List TypeId} {ds : List (DataW H)} (h : (DataW.weightsEach P ts ds).all (· ≤ reachBytes) = true) {j : Nat} {t : TypeId} {d : DataW H} (ht : ts[j]? = some t) (hd : ds[j]? = some d) : ∀ n ∈ d.weights P t, LenB n := fun n hn => by
  have := List.all_eq_true.1 h _ (DataW.weights_mem_each ht hd n hn)
  exact Nat.le_trans (of_decide_eq_true this) (by decide)
theorem each_mem {H : Type} {P : Program} {fs : Array Field} {t : TypeId} {ps : List (DataW H)} (ht : P.underlying t = some (.struct fs)) : (DataW.agg ps).weights P t = DataW.weightsEach P (fs.toList.map (·.type)) ps := by
  simp only [DataW.weights, ht]
theorem part_le {H : Type} {P : Program} {fs : Array Field} {t : TypeId} {ps : List (DataW H)} (ht : P.underlying t = some (.struct fs)) (h : ∀ n ∈ (DataW.agg ps).weights P t, LenB n) {j : Nat} {f : Field} {d : DataW H} (hf : fs[j]? = some f) (hd : ps[j]? = some d) : ∀ n ∈ d.weights P f.type, LenB n := fun n hn => by
  rw [each_mem ht] at h
  refine h n (DataW.weights_mem_each (t := f.type) (j := j) ?_ hd n hn)
  rw [List.getElem?_map]
  have : fs.toList[j]? = some f := by rw [Array.getElem?_toList]; exact hf
  rw [this]; rfl
theorem text_le {H : Type} {P : Program} {t : TypeId} {l : List UInt8} (h : ∀ n ∈ (DataW.lit (H := H) (.string l)).weights P t, LenB n) : l.length ≤ 140737488351232 := h _ (by simp [DataW.weights])

theorem part_at {H : Type} {P : Program} {enc : TypeId × Value → H} {W : World} {base : Nat} {spare : Nat → Bool} {held : Bool} {m : Nat} {cs : List Value} {fs : Array Field} {xs : List (DataW H × List MemPlace)}
    (hg : ∀ (i : Nat) (f : Field), fs[i]? = some f → DataW.trod enc P W base spare held m f.type ((cs.drop f.offset).take (P.cellsOf f.type)) = xs[i]?) (i : Nat) {f : Field} (hf : fs[i]? = some f) (t o c : Nat) (ht : f.type = t) (ho : f.offset = o) (hc : P.cellsOf t = c) (hi : i < xs.length) :
    DataW.trod enc P W base spare held m t ((cs.drop o).take c) = some xs[i] := by
  have := hg i f hf
  rw [ht, ho, hc, List.getElem?_eq_getElem hi] at this
  exact this
set_option maxRecDepth 100000 in
theorem task_cells {H : Type} {enc : TypeId × Value → H} {W : World} {base : Nat} {spare : Nat → Bool} {held : Bool} {fuel : Nat} {cs : List Value} {x : DataW H × List MemPlace}
    (h : DataW.trod enc Try.prog W base spare held fuel 33 cs = some x) (hw : ∀ n ∈ x.1.weights Try.prog 33, LenB n) : ∃ (K : Int) (s : ByteArray) (R T : Int), cs = [.int .i64 K, .string s, .int .i64 R, .int .i64 T] ∧ s.data.toList.length ≤ 140737488351232 := by
  obtain ⟨ys, n, hx, _, hcl, hf⟩ := trod_fields Try.underlying33 (by kernel_rfl) (by kernel_rfl) h
  obtain ⟨c0, y0, e0, z0, t0⟩ := hf 0 _ rfl
  obtain ⟨c1, y1, e1, z1, t1⟩ := hf 1 _ rfl
  obtain ⟨c2, y2, e2, z2, t2⟩ := hf 2 _ rfl
  obtain ⟨c3, y3, e3, z3, t3⟩ := hf 3 _ rfl
  obtain ⟨K, k0, _, _⟩ := DataW.trod_int Try.underlying3 t0
  obtain ⟨s1, k1, j1, w1⟩ := DataW.trod_string Try.underlying9 t1
  obtain ⟨R, k2, _, _⟩ := DataW.trod_int Try.underlying3 t2
  obtain ⟨T, k3, _, _⟩ := DataW.trod_int Try.underlying3 t3
  simp only [List.cons.injEq, and_true] at k0 k1 k2 k3
  subst k0; subst k1; subst k2; subst k3; subst j1
  rw [hx] at hw
  have hl := text_le (part_le Try.underlying33 hw (j := 1) rfl (by rw [List.getElem?_map, z1]; rfl))
  match cs, hcl with
  | [d0, d1, d2, d3], _ =>
    simp at e0 e1 e2 e3
    subst e0; subst e1; subst e2; subst e3
    exact ⟨K, s1, R, T, rfl, hl⟩
set_option maxRecDepth 100000 in
theorem open_task {H : Type} {enc : TypeId × Value → H} {W : World} {base : Nat} {v : Value} {d : DataW H} {p : List MemPlace} (hw : ∀ n ∈ d.weights Try.prog 33, LenB n) (hv : Value.okWide Try.prog W .any base 33 v)
    (h : DataW.Trod enc Try.prog W 0 (fun _ => true) true 33 v d p) : ∃ (k : Int) (nm : List UInt8) (r t : Int), v = .agg #[.int .i64 k, .string ⟨nm.toArray⟩, .int .i64 r, .int .i64 t] ∧ nm.length ≤ 140737488351232 := by
  obtain ⟨cs, rfl, hsz⟩ := okWide_struct Try.underlying33 hv
  obtain ⟨fuel, hf⟩ := h
  obtain ⟨K, s, R, T, e, hl⟩ := task_cells hf hw
  obtain ⟨l⟩ := cs
  simp only [Value.cells] at e
  subst e
  exact ⟨K, s.data.toList, R, T, rfl, hl⟩
set_option maxRecDepth 100000 in
theorem open_bytes {H : Type} {enc : TypeId × Value → H} {W : World} {base : Nat} {v : Value} {d : DataW H} {p : List MemPlace} (hw : ∀ n ∈ d.weights Try.prog 35, LenB n) (hv : Value.okWide Try.prog W .any base 35 v)
    (h : DataW.Trod enc Try.prog W 0 (fun _ => true) true 35 v d p) : ∃ (k : Int) (nm : List UInt8) (r t n : Int) (host s : List UInt8), v = .agg #[.int .i64 k, .string ⟨nm.toArray⟩, .int .i64 r, .int .i64 t, .int .i64 n, .string ⟨host.toArray⟩, .string ⟨s.toArray⟩] ∧ nm.length ≤ 140737488351232 ∧ host.length ≤ 140737488351232 ∧ s.length ≤ 140737488351232 := by
  obtain ⟨cs, rfl, hsz⟩ := okWide_struct Try.underlying35 hv
  obtain ⟨fuel, hf⟩ := h
  obtain ⟨xs, m, _, hx, hcl, hxl, hg⟩ := DataW.trod_struct Try.underlying35 hf
  have hc7 : cs.toList.length = 7 := hcl.trans (by kernel_rfl)
  have h4 : xs.length = 4 := hxl
  have g0 := part_at hg 0 rfl 33 0 4 rfl rfl (by kernel_rfl) (by omega)
  have g1 := part_at hg 1 rfl 3 4 1 rfl rfl (by kernel_rfl) (by omega)
  have g2 := part_at hg 2 rfl 9 5 1 rfl rfl (by kernel_rfl) (by omega)
  have g3 := part_at hg 3 rfl 9 6 1 rfl rfl (by kernel_rfl) (by omega)
  have hd : d = .agg (xs.map (·.1)) := congrArg Prod.fst hx
  subst hd
  have w0 := part_le Try.underlying35 hw (j := 0) rfl (by rw [List.getElem?_map, List.getElem?_eq_getElem (show 0 < xs.length by omega)]; rfl)
  have w2 := part_le Try.underlying35 hw (j := 2) rfl (by rw [List.getElem?_map, List.getElem?_eq_getElem (show 2 < xs.length by omega)]; rfl)
  have w3 := part_le Try.underlying35 hw (j := 3) rfl (by rw [List.getElem?_map, List.getElem?_eq_getElem (show 3 < xs.length by omega)]; rfl)
  obtain ⟨K, s, R, T, e0, l0⟩ := task_cells g0 w0
  obtain ⟨N, e1, _, _⟩ := DataW.trod_int Try.underlying3 g1
  obtain ⟨s2, e2, j2, _⟩ := DataW.trod_string Try.underlying9 g2
  obtain ⟨s3, e3, j3, _⟩ := DataW.trod_string Try.underlying9 g3
  rw [j2] at w2
  rw [j3] at w3
  have l2 := text_le w2
  have l3 := text_le w3
  obtain ⟨l⟩ := cs
  simp only [Value.cells] at e0 e1 e2 e3 hc7
  clear w0 w2 w3 g0 g1 g2 g3 hg hx hcl hw hf hsz hv
  match l, hc7 with
  | [d0, d1, d2, d3, d4, d5, d6], _ =>
    simp at e0 e1 e2 e3
    obtain ⟨rfl, rfl, rfl, rfl⟩ := e0
    subst e1; subst e2; subst e3
    exact ⟨K, s.data.toList, R, T, N, s2.data.toList, s3.data.toList, rfl, l0, l2, l3⟩
end Go.Proofs.Ytpocpklmiajoiaa
