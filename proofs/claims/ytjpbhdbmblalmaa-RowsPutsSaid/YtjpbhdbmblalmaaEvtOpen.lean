/- WHAT COMES IN: an event; how long the texts in it are. The walks as the frames want them. -/
import Derived.Test.YtjpbhdbmblalmaaEvtLaws1
import Derived.Test.YtjpbhdbmblalmaaRows
import Derived.Test.YtjpbhdbmblalmaaSlices
import Derived.ProofKit
import Derived.OpenShut
import Derived.ShutString
import Derived.SliceStrings
import Derived.Deep.Fields
import Derived.SizedLaws
namespace Go.Proofs.Ytjpbhdbmblalmaa
open Go.ChangeShapes Go.WideShapes Go.ChangeAt Go.RowKit Go.Deep
set_option linter.unusedVariables false

def LenB (n : Nat) : Prop := n ≤ 140737488351232
theorem nest_le {H : Type} {P : Program} {ts : List TypeId} {ds : List (DataW H)} (h : (DataW.weightsEach P ts ds).all (· ≤ reachBytes) = true) {j : Nat} {t : TypeId} {d : DataW H} (ht : ts[j]? = some t) (hd : ds[j]? = some d) : ∀ n ∈ d.weights P t, LenB n := fun n hn => by
  have := List.all_eq_true.1 h _ (DataW.weights_mem_each ht hd n hn)
  exact Nat.le_trans (of_decide_eq_true this) (by decide)
theorem each_mem {H : Type} {P : Program} {fs : Array Field} {t : TypeId} {ps : List (DataW H)} (ht : P.underlying t = some (.struct fs)) : (DataW.agg ps).weights P t = DataW.weightsEach P (fs.toList.map (·.type)) ps := by
  simp only [DataW.weights, ht]
theorem part_le {H : Type} {P : Program} {fs : Array Field} {t : TypeId} {ps : List (DataW H)} (ht : P.underlying t = some (.struct fs)) (h : ∀ n ∈ (DataW.agg ps).weights P t, LenB n) {j : Nat} {f : Field} {d : DataW H} (hf : fs[j]? = some f) (hd : ps[j]? = some d) : ∀ n ∈ d.weights P f.type, LenB n := fun n hn => by
  rw [each_mem ht] at h
  refine h n (DataW.weights_mem_each (t := f.type) (j := j) ?_ hd n hn)
  rw [List.getElem?_map]
  have : fs.toList[j]? = some f := by rw [Array.getElem?_toList]; exact hf
  rw [this]; rfl
theorem text_le {H : Type} {P : Program} {t : TypeId} {l : List UInt8} (h : ∀ n ∈ (DataW.lit (H := H) (.string l)).weights P t, LenB n) : l.length ≤ 140737488351232 := h _ (by simp [DataW.weights])
set_option maxRecDepth 100000 in
theorem event_cells {H : Type} {enc : TypeId × Value → H} {W : World} {base : Nat} {spare : Nat → Bool} {held : Bool} {fuel : Nat} {cs : List Value} {x : DataW H × List MemPlace}
    (h : DataW.trod enc Try.prog W base spare held fuel 23 cs = some x) : ∃ (y : Ev) (ps : List (DataW H)), cs = evc y ∧ x.1 = .agg ps ∧ ps[7]? = some (.lit (.string y.dt)) := by
  obtain ⟨ys, n, hx, _, hcl, hf⟩ := trod_fields Try.underlying23 (by kernel_rfl) (by kernel_rfl) h
  obtain ⟨c0, y0, e0, z0, t0⟩ := hf 0 _ rfl
  obtain ⟨c1, y1, e1, z1, t1⟩ := hf 1 _ rfl
  obtain ⟨c2, y2, e2, z2, t2⟩ := hf 2 _ rfl
  obtain ⟨c3, y3, e3, z3, t3⟩ := hf 3 _ rfl
  obtain ⟨c4, y4, e4, z4, t4⟩ := hf 4 _ rfl
  obtain ⟨c5, y5, e5, z5, t5⟩ := hf 5 _ rfl
  obtain ⟨c6, y6, e6, z6, t6⟩ := hf 6 _ rfl
  obtain ⟨c7, y7, e7, z7, t7⟩ := hf 7 _ rfl
  obtain ⟨A, k0, _, _⟩ := DataW.trod_int Try.underlying3 t0
  obtain ⟨B, k1, _, _⟩ := DataW.trod_int Try.underlying3 t1
  obtain ⟨C, k2, _, _⟩ := DataW.trod_int Try.underlying3 t2
  obtain ⟨D, k3, _, _⟩ := DataW.trod_int Try.underlying3 t3
  obtain ⟨E, k4, _, _⟩ := DataW.trod_int Try.underlying3 t4
  obtain ⟨F, k5, _, _⟩ := DataW.trod_int Try.underlying3 t5
  obtain ⟨G, k6, _⟩ := DataW.trod_bool Try.underlying4 t6
  obtain ⟨s, k7, j7, _⟩ := DataW.trod_string Try.underlying9 t7
  simp only [List.cons.injEq, and_true] at k0 k1 k2 k3 k4 k5 k6 k7
  subst k0; subst k1; subst k2; subst k3; subst k4; subst k5; subst k6; subst k7; subst j7
  refine ⟨(A, B, C, D, E, F, G, s.data.toList), ys.map (·.1), ?_, hx, by rw [List.getElem?_map, z7]; rfl⟩
  match cs, hcl with
  | [d0, d1, d2, d3, d4, d5, d6, d7], _ =>
    simp at e0 e1 e2 e3 e4 e5 e6 e7
    subst e0; subst e1; subst e2; subst e3; subst e4; subst e5; subst e6; subst e7
    rfl
theorem event_le {H : Type} {ps : List (DataW H)} {l : List UInt8} (hw : ∀ n ∈ (DataW.agg ps).weights Try.prog 23, LenB n) (h : ps[7]? = some (.lit (.string l))) : l.length ≤ 140737488351232 :=
  text_le (part_le Try.underlying23 hw (j := 7) rfl h)
set_option maxRecDepth 100000 in
theorem open_event {H : Type} {enc : TypeId × Value → H} {W : World} {base : Nat} {v : Value} {d : DataW H} {p : List MemPlace} (hw : ∀ n ∈ d.weights Try.prog 23, LenB n) (hv : Value.okWide Try.prog W .any base 23 v)
    (h : DataW.Trod enc Try.prog W 0 (fun _ => true) true 23 v d p) : ∃ (id k tk rf sp ty : Int) (ud : Bool) (dt : List UInt8), v = .agg #[.int .i64 id, .int .i64 k, .int .i64 tk, .int .i64 rf, .int .i64 sp, .int .i64 ty, .bool ud, .string ⟨dt.toArray⟩] ∧ dt.length ≤ 140737488351232 := by
  obtain ⟨cs, rfl, hsz⟩ := okWide_struct Try.underlying23 hv
  obtain ⟨fuel, hf⟩ := h
  obtain ⟨y, ps, e, hx, h7⟩ := event_cells hf
  have hd : d = .agg ps := hx
  subst hd
  have hl := event_le hw h7
  obtain ⟨l⟩ := cs
  obtain ⟨id, k, tk, rf, sp, ty, ud, dt⟩ := y
  unfold evc at e
  simp only [Value.cells, Ev.id, Ev.kd, Ev.tk, Ev.rf, Ev.sp, Ev.ty, Ev.ud, Ev.dt] at e
  subst e
  exact ⟨id, k, tk, rf, sp, ty, ud, dt, rfl, hl⟩
theorem eventCodes_w (v : Value) (id k tk rf sp ty : Int) (ud : Bool) (dt : List UInt8) (hdt : dt.length ≤ 140737488351232) (w : World) (e : v = .agg #[.int .i64 id, .int .i64 k, .int .i64 tk, .int .i64 rf, .int .i64 sp, .int .i64 ty, .bool ud, .string ⟨dt.toArray⟩]) :
    Calls Try.prog 6 #[v] w fun e w' => e = .returned (.bool true) ∧ Below w.heap.size w w' := by
  rw [e]; exact eventCodes_walk id k tk rf sp ty ud dt hdt w
theorem eventApart_w (v : Value) (id k tk rf sp ty : Int) (ud : Bool) (dt : List UInt8) (hdt : dt.length ≤ 140737488351232) (v' : Value) (id' k' tk' rf' sp' ty' : Int) (ud' : Bool) (dt' : List UInt8) (hdt' : dt'.length ≤ 140737488351232) (w : World)
    (e : v = .agg #[.int .i64 id, .int .i64 k, .int .i64 tk, .int .i64 rf, .int .i64 sp, .int .i64 ty, .bool ud, .string ⟨dt.toArray⟩]) (e' : v' = .agg #[.int .i64 id', .int .i64 k', .int .i64 tk', .int .i64 rf', .int .i64 sp', .int .i64 ty', .bool ud', .string ⟨dt'.toArray⟩]) :
    Calls Try.prog 4 #[v, v'] w fun e w' => e = .returned (.bool true) ∧ Below w.heap.size w w' := by
  rw [e, e']; exact eventApart_walk id k tk rf sp ty ud dt hdt id' k' tk' rf' sp' ty' ud' dt' hdt' w
end Go.Proofs.Ytjpbhdbmblalmaa
