/- WHAT COMES IN: a request, a reply. -/
import Derived.Test.YtelacmchofehcaaWireSame
import Derived.Test.YtelacmchofehcaaRows
import Derived.ProofKit
import Derived.OpenShut
import Derived.ShutString
import Derived.SliceStrings
import Derived.Deep.Fields
import Derived.SizedLaws
namespace Go.Proofs.Ytelacmchofehcaa
open Go.ChangeShapes Go.WideShapes Go.ChangeAt Go.RowKit Go.Deep
set_option linter.unusedVariables false
set_option linter.unusedSimpArgs false

def LenB (n : Nat) : Prop := n ≤ 140737488351232
theorem nest_le {H : Type} {P : Program} {ts : List TypeId} {ds : List (DataW H)} (h : (DataW.weightsEach P ts ds).all (· ≤ reachBytes) = true) {j : Nat} {t : TypeId} {d : DataW H} (ht : ts[j]? = some t) (hd : ds[j]? = some d) : ∀ n ∈ d.weights P t, LenB n := fun n hn => by
  have := List.all_eq_true.1 h _ (DataW.weights_mem_each ht hd n hn)
  exact Nat.le_trans (of_decide_eq_true this) (by decide)
theorem each_mem {H : Type} {P : Program} {fs : Array Field} {t : TypeId} {ps : List (DataW H)} (ht : P.underlying t = some (.struct fs)) : (DataW.agg ps).weights P t = DataW.weightsEach P (fs.toList.map (·.type)) ps := by
  simp only [DataW.weights, ht]
theorem part_le {H : Type} {P : Program} {fs : Array Field} {t : TypeId} {ps : List (DataW H)} (ht : P.underlying t = some (.struct fs)) (h : ∀ n ∈ (DataW.agg ps).weights P t, LenB n) {j : Nat} {f : Field} {d : DataW H} (hf : fs[j]? = some f) (hd : ps[j]? = some d) : ∀ n ∈ d.weights P f.type, LenB n := fun n hn => by
  rw [each_mem ht] at h
  refine h n (DataW.weights_mem_each (t := f.type) (j := j) ?_ hd n hn)
  rw [List.getElem?_map]
  have : fs.toList[j]? = some f := by rw [Array.getElem?_toList]; exact hf
  rw [this]; rfl
theorem text_le {H : Type} {P : Program} {t : TypeId} {l : List UInt8} (h : ∀ n ∈ (DataW.lit (H := H) (.string l)).weights P t, LenB n) : l.length ≤ 140737488351232 := h _ (by simp [DataW.weights])

theorem part_at {H : Type} {P : Program} {enc : TypeId × Value → H} {W : World} {base : Nat} {spare : Nat → Bool} {held : Bool} {m : Nat} {cs : List Value} {fs : Array Field} {xs : List (DataW H × List MemPlace)}
    (hg : ∀ (i : Nat) (f : Field), fs[i]? = some f → DataW.trod enc P W base spare held m f.type ((cs.drop f.offset).take (P.cellsOf f.type)) = xs[i]?) (i : Nat) {f : Field} (hf : fs[i]? = some f) (t o c : Nat) (ht : f.type = t) (ho : f.offset = o) (hc : P.cellsOf t = c) (hi : i < xs.length) :
    DataW.trod enc P W base spare held m t ((cs.drop o).take c) = some xs[i] := by
  have := hg i f hf
  rw [ht, ho, hc, List.getElem?_eq_getElem hi] at this
  exact this
set_option maxRecDepth 100000 in
theorem task_cells {H : Type} {enc : TypeId × Value → H} {W : World} {base : Nat} {spare : Nat → Bool} {held : Bool} {fuel : Nat} {cs : List Value} {x : DataW H × List MemPlace}
    (h : DataW.trod enc Try.prog W base spare held fuel 30 cs = some x) (hw : ∀ n ∈ x.1.weights Try.prog 30, LenB n) : ∃ (K : Int) (s : ByteArray) (R T : Int), cs = [.int .i64 K, .string s, .int .i64 R, .int .i64 T] ∧ s.data.toList.length ≤ 140737488351232 := by
  obtain ⟨ys, n, hx, _, hcl, hf⟩ := trod_fields Try.underlying30 (by kernel_rfl) (by kernel_rfl) h
  obtain ⟨c0, y0, e0, z0, t0⟩ := hf 0 _ rfl
  obtain ⟨c1, y1, e1, z1, t1⟩ := hf 1 _ rfl
  obtain ⟨c2, y2, e2, z2, t2⟩ := hf 2 _ rfl
  obtain ⟨c3, y3, e3, z3, t3⟩ := hf 3 _ rfl
  obtain ⟨K, k0, _, _⟩ := DataW.trod_int Try.underlying3 t0
  obtain ⟨s1, k1, j1, w1⟩ := DataW.trod_string Try.underlying9 t1
  obtain ⟨R, k2, _, _⟩ := DataW.trod_int Try.underlying3 t2
  obtain ⟨T, k3, _, _⟩ := DataW.trod_int Try.underlying3 t3
  simp only [List.cons.injEq, and_true] at k0 k1 k2 k3
  subst k0; subst k1; subst k2; subst k3; subst j1
  rw [hx] at hw
  have hl := text_le (part_le Try.underlying30 hw (j := 1) rfl (by rw [List.getElem?_map, z1]; rfl))
  match cs, hcl with
  | [d0, d1, d2, d3], _ =>
    simp at e0 e1 e2 e3
    subst e0; subst e1; subst e2; subst e3
    exact ⟨K, s1, R, T, rfl, hl⟩
set_option maxRecDepth 100000 in
theorem event_cells {H : Type} {enc : TypeId × Value → H} {W : World} {base : Nat} {spare : Nat → Bool} {held : Bool} {fuel : Nat} {cs : List Value} {x : DataW H × List MemPlace}
    (h : DataW.trod enc Try.prog W base spare held fuel 82 cs = some x) : ∃ (y : Ev) (ps : List (DataW H)), cs = evc y ∧ x.1 = .agg ps ∧ ps[7]? = some (.lit (.string y.dt)) := by
  obtain ⟨ys, n, hx, _, hcl, hf⟩ := trod_fields Try.underlying82 (by kernel_rfl) (by kernel_rfl) h
  obtain ⟨c0, y0, e0, z0, t0⟩ := hf 0 _ rfl
  obtain ⟨c1, y1, e1, z1, t1⟩ := hf 1 _ rfl
  obtain ⟨c2, y2, e2, z2, t2⟩ := hf 2 _ rfl
  obtain ⟨c3, y3, e3, z3, t3⟩ := hf 3 _ rfl
  obtain ⟨c4, y4, e4, z4, t4⟩ := hf 4 _ rfl
  obtain ⟨c5, y5, e5, z5, t5⟩ := hf 5 _ rfl
  obtain ⟨c6, y6, e6, z6, t6⟩ := hf 6 _ rfl
  obtain ⟨c7, y7, e7, z7, t7⟩ := hf 7 _ rfl
  obtain ⟨A, k0, _, _⟩ := DataW.trod_int Try.underlying3 t0
  obtain ⟨B, k1, _, _⟩ := DataW.trod_int Try.underlying3 t1
  obtain ⟨C, k2, _, _⟩ := DataW.trod_int Try.underlying3 t2
  obtain ⟨D, k3, _, _⟩ := DataW.trod_int Try.underlying3 t3
  obtain ⟨E, k4, _, _⟩ := DataW.trod_int Try.underlying3 t4
  obtain ⟨F, k5, _, _⟩ := DataW.trod_int Try.underlying3 t5
  obtain ⟨G, k6, _⟩ := DataW.trod_bool Try.underlying4 t6
  obtain ⟨s, k7, j7, _⟩ := DataW.trod_string Try.underlying9 t7
  simp only [List.cons.injEq, and_true] at k0 k1 k2 k3 k4 k5 k6 k7
  subst k0; subst k1; subst k2; subst k3; subst k4; subst k5; subst k6; subst k7; subst j7
  refine ⟨(A, B, C, D, E, F, G, s.data.toList), ys.map (·.1), ?_, hx, by rw [List.getElem?_map, z7]; rfl⟩
  match cs, hcl with
  | [d0, d1, d2, d3, d4, d5, d6, d7], _ =>
    simp at e0 e1 e2 e3 e4 e5 e6 e7
    subst e0; subst e1; subst e2; subst e3; subst e4; subst e5; subst e6; subst e7
    rfl
theorem event_le {H : Type} {ps : List (DataW H)} {l : List UInt8} (hw : ∀ n ∈ (DataW.agg ps).weights Try.prog 82, LenB n) (h : ps[7]? = some (.lit (.string l))) : l.length ≤ 140737488351232 :=
  text_le (part_le Try.underlying82 hw (j := 7) rfl h)
/-- a slice of whatever elements, opened: what is said of an element is said of its datum -/
theorem trod_slm {P : Program} {H : Type} {enc : TypeId × Value → H} {W : World} {t e : TypeId} {fuel : Nat} {v : Value} {d : DataW H × List MemPlace} {α : Type} [Inhabited α]
    (ht : P.underlying t = some (.slice e)) (k : Nat) (hk : P.cellsOf e = k) (hk0 : 0 < k) (cells : α → List Value) (hlen : ∀ a, (cells a).length = k) (rel : α → DataW H → Prop)
    (hel : ∀ (n : Nat) (cs : List Value) (x : DataW H × List MemPlace), DataW.trod enc P W 0 (fun _ => true) true n e cs = some x → ∃ a : α, cs = cells a ∧ rel a x.1)
    (hf : DataW.trod enc P W 0 (fun _ => true) true fuel t [v] = some d) :
    ∃ zs : List α, Sl W v k zs.length (zs.flatMap cells) ∧ ((d.1 = .nil ∧ zs = []) ∨ ∃ es rest : List (DataW H), d.1 = .slice es rest ∧ ∀ a ∈ zs, ∃ y ∈ es, rel a y) := by
  rcases open_slice ht hf with ⟨hcs, hx⟩ | ⟨a, len, cap, m, n, D, Pl, hcs, _, hl, hm, hmm, hx, hi⟩
  · simp at hcs
    subst hcs
    subst hx
    exact ⟨[], Sl.none _ _, .inl ⟨rfl, rfl⟩⟩
  · simp at hcs
    subst hcs
    simp only [if_true] at hmm
    subst hmm
    have hi' : ∀ i, i < len → ∃ y : α, W.cells? 0 (a.add (i * k)) k = some (cells y) ∧ rel y (D i) := fun i hil => by
      obtain ⟨cs', h1, h2⟩ := hi i (by omega)
      rw [hk] at h1
      obtain ⟨y, rfl, h3⟩ := hel n cs' _ h2
      exact ⟨y, h1, h3⟩
    obtain ⟨f, hf'⟩ := choose_lt hi'
    have hll : ((List.range len).map f).length = len := by simp
    refine ⟨(List.range len).map f, ?_, .inr ⟨_, _, by rw [hx], ?_⟩⟩
    · rw [hll]
      refine Sl.of_add (by rw [length_flatMap_const hlen, hll]) (by omega) hk0 (fun j hj => ?_)
      rw [length_flatMap_const hlen, hll] at hj
      have hq : j / k < len := by rw [Nat.div_lt_iff_lt_mul hk0]; exact hj
      have hr : j % k < k := Nat.mod_lt _ hk0
      obtain ⟨hc, _⟩ := hf' (j / k) hq
      obtain ⟨_, _, hat⟩ := World.cells?_some hc
      have h1 := hat (j % k) hr
      rw [add_add] at h1
      have e : j / k * k + j % k = j := Nat.div_add_mod' _ _
      rw [e] at h1
      rw [h1, ← List.getElem?_eq_getElem]
      have h2 := getElem?_flatMap_const hlen ((List.range len).map f) (j / k) (j % k) hr (by rw [hll]; exact hq)
      rw [e] at h2
      rw [h2]; simp
    · intro y hy
      simp only [List.mem_map, List.mem_range] at hy
      obtain ⟨i, hil, rfl⟩ := hy
      exact ⟨D i, List.mem_map.2 ⟨i, List.mem_range.2 hil, rfl⟩, (hf' i hil).2⟩
theorem all_mem {H : Type} {P : Program} {e : TypeId} {es : List (DataW H)} {y : DataW H} (hy : y ∈ es) : ∀ n ∈ y.weights P e, n ∈ DataW.weightsAll P e es := by
  induction es with
  | nil => cases hy
  | cons z r ih =>
    intro n hn
    simp only [DataW.weightsAll, List.mem_append]
    rcases List.mem_cons.1 hy with rfl | h
    · exact .inl hn
    · exact .inr (ih h n hn)
theorem elem_le {H : Type} {P : Program} {t e : TypeId} {es rest : List (DataW H)} (ht : P.underlying t = some (.slice e)) (h : ∀ n ∈ (DataW.slice es rest).weights P t, LenB n) {y : DataW H} (hy : y ∈ es) : ∀ n ∈ y.weights P e, LenB n := fun n hn => by
  refine h n ?_
  simp only [DataW.weights, ht, List.mem_cons, List.mem_append]
  exact .inr (.inl (all_mem hy n hn))
instance : Inhabited Ev := ⟨(0, 0, 0, 0, 0, 0, false, [])⟩
set_option maxRecDepth 100000 in
theorem prog_cells {H : Type} {enc : TypeId × Value → H} {W : World} {fuel : Nat} {cs : List Value} {x : DataW H × List MemPlace}
    (h : DataW.trod enc Try.prog W 0 (fun _ => true) true fuel 24 cs = some x) : ∃ (a : Option Addr) (c : Nat) (lim : Int) (ss : List St), cs = [.slice a ss.length c, .int .i64 lim] ∧ Sl W (.slice a ss.length c) 6 ss.length (ss.flatMap stC) ∧ Fit ss := by
  obtain ⟨ys, n, _, _, hcl, hg⟩ := trod_fields Try.underlying24 (by kernel_rfl) (by kernel_rfl) h
  obtain ⟨c0, y0, e0, _, t0⟩ := hg 0 _ rfl
  obtain ⟨c1, y1, e1, _, t1⟩ := hg 1 _ rfl
  obtain ⟨ss, g1, g2, _⟩ := trod_sl (P := Try.prog) Try.underlying22 6 (by kernel_rfl) (by omega) stC stC_len (fun a => a.nm.length ≤ maxLen ∧ a.un.length ≤ maxLen) (fun _ => 0) (fun _ => 0) (fun n cs x hx => by
    obtain ⟨ys, m, _, _, hcl, hf⟩ := trod_fields Try.underlying103 (by kernel_rfl) (by kernel_rfl) hx
    obtain ⟨c0, y0, e0, _, t0⟩ := hf 0 _ rfl
    obtain ⟨c1, y1, e1, _, t1⟩ := hf 1 _ rfl
    obtain ⟨c2, y2, e2, _, t2⟩ := hf 2 _ rfl
    obtain ⟨c3, y3, e3, _, t3⟩ := hf 3 _ rfl
    obtain ⟨c4, y4, e4, _, t4⟩ := hf 4 _ rfl
    obtain ⟨c5, y5, e5, _, t5⟩ := hf 5 _ rfl
    obtain ⟨K, k0, _, _⟩ := DataW.trod_int Try.underlying3 t0
    obtain ⟨s1, k1, _, w1⟩ := DataW.trod_string Try.underlying9 t1
    obtain ⟨s2, k2, _, w2⟩ := DataW.trod_string Try.underlying9 t2
    obtain ⟨T, k3, _, _⟩ := DataW.trod_int Try.underlying3 t3
    obtain ⟨U, k4, _, _⟩ := DataW.trod_int Try.underlying3 t4
    obtain ⟨V, k5, _, _⟩ := DataW.trod_int Try.underlying3 t5
    simp only [List.cons.injEq, and_true] at k0 k1 k2 k3 k4 k5
    subst k0; subst k1; subst k2; subst k3; subst k4; subst k5
    match cs, hcl with
    | [d0, d1, d2, d3, d4, d5], _ =>
      simp at e0 e1 e2 e3 e4 e5
      subst e0; subst e1; subst e2; subst e3; subst e4; subst e5
      refine ⟨(K, s1.data.toList, s2.data.toList, T, U, V), ?_, ⟨by rw [← Lib.size_eq]; exact w1, by rw [← Lib.size_eq]; exact w2⟩, Nat.zero_le _⟩
      unfold stC
      simp only [St.kd, St.nm, St.un, St.tr, St.ut, St.wt]) t0
  obtain ⟨N, k1, _, wn⟩ := DataW.trod_int Try.underlying3 t1
  simp only [List.cons.injEq, and_true] at k1
  subst k1
  obtain ⟨a, c, rfl⟩ := g1.shape
  match cs, hcl with
  | [d0, d1], _ =>
    simp at e0 e1
    subst e0; subst e1
    exact ⟨a, c, N, ss, rfl, g1, g2⟩
set_option maxRecDepth 100000 in
theorem cmds_cells {H : Type} {enc : TypeId × Value → H} {W : World} {fuel : Nat} {v : Value} {x : DataW H × List MemPlace}
    (h : DataW.trod enc Try.prog W 0 (fun _ => true) true fuel 25 [v] = some x) : ∃ (a : Option Addr) (c : Nat) (cs : List Cm), v = .slice a cs.length c ∧ Sl W (.slice a cs.length c) 3 cs.length (cs.flatMap cmc) := by
  obtain ⟨cs, g1, _⟩ := trod_slm (P := Try.prog) Try.underlying25 3 (by kernel_rfl) (by omega) cmc cmc_len (fun _ _ => True) (fun n cs x hx => by
    obtain ⟨ys, m, _, _, hcl, hf⟩ := trod_fields Try.underlying65 (by kernel_rfl) (by kernel_rfl) hx
    obtain ⟨c0, y0, e0, _, t0⟩ := hf 0 _ rfl
    obtain ⟨c1, y1, e1, _, t1⟩ := hf 1 _ rfl
    obtain ⟨c2, y2, e2, _, t2⟩ := hf 2 _ rfl
    obtain ⟨K, k0, _, _⟩ := DataW.trod_int Try.underlying3 t0
    obtain ⟨L, k1, _, _⟩ := DataW.trod_int Try.underlying3 t1
    obtain ⟨B, k2, _⟩ := DataW.trod_bool Try.underlying4 t2
    simp only [List.cons.injEq, and_true] at k0 k1 k2
    subst k0; subst k1; subst k2
    match cs, hcl with
    | [d0, d1, d2], _ =>
      simp at e0 e1 e2
      subst e0; subst e1; subst e2
      exact ⟨(K, L, B), rfl, trivial⟩) h
  obtain ⟨a, c, rfl⟩ := g1.shape
  exact ⟨a, c, cs, rfl, g1⟩
set_option maxRecDepth 100000 in
theorem evs_cells {H : Type} {enc : TypeId × Value → H} {W : World} {fuel : Nat} {v : Value} {x : DataW H × List MemPlace} (hw : ∀ n ∈ x.1.weights Try.prog 31, LenB n)
    (h : DataW.trod enc Try.prog W 0 (fun _ => true) true fuel 31 [v] = some x) : ∃ (a : Option Addr) (c : Nat) (l : List Ev), v = .slice a l.length c ∧ Sl W (.slice a l.length c) 8 l.length (l.flatMap evc) ∧ FitE l := by
  obtain ⟨l, g1, g2⟩ := trod_slm (P := Try.prog) Try.underlying31 8 (by kernel_rfl) (by omega) evc evc_len (fun a y => ∃ ps : List (DataW H), y = .agg ps ∧ ps[7]? = some (.lit (.string a.dt))) (fun n cs x hx => by
    obtain ⟨y, ps, e1, e2, e3⟩ := event_cells hx
    exact ⟨y, e1, ps, e2, e3⟩) h
  obtain ⟨a, c, rfl⟩ := g1.shape
  refine ⟨a, c, l, rfl, g1, fun y hy => ?_⟩
  rcases g2 with ⟨_, rfl⟩ | ⟨es, rest, hd, hrel⟩
  · cases hy
  · obtain ⟨z, hz, ps, rfl, h7⟩ := hrel y hy
    rw [hd] at hw
    have := event_le (elem_le Try.underlying31 hw hz) h7
    omega
set_option maxRecDepth 100000 in
set_option maxHeartbeats 1600000 in
theorem open_request {H : Type} {enc : TypeId × Value → H} {W : World} {base : Nat} {v : Value} {d : DataW H} {p : List MemPlace} (hw : ∀ n ∈ d.weights Try.prog 27, LenB n) (hv : Value.okWide Try.prog W .any base 27 v)
    (h : DataW.Trod enc Try.prog W 0 (fun _ => true) true 27 v d p) : ∃ (kd : Int) (rq wd nm : List UInt8) (pa : Option Addr) (pc : Nat) (ss : List St) (lim : Int) (ua : Option Addr) (uc : Nat) (cs : List Cm) (rf ty fr sh : Int) (gd : Bool), v = .agg #[.int .i64 kd, .string ⟨rq.toArray⟩, .string ⟨wd.toArray⟩, .string ⟨nm.toArray⟩, .slice pa ss.length pc, .int .i64 lim, .slice ua cs.length uc, .int .i64 rf, .int .i64 ty, .int .i64 fr, .int .i64 sh, .bool gd] ∧ (rq.length ≤ 140737488351232 ∧ wd.length ≤ 140737488351232 ∧ nm.length ≤ 140737488351232) ∧ Sl W (.slice pa ss.length pc) 6 ss.length (ss.flatMap stC) ∧ Fit ss ∧ Sl W (.slice ua cs.length uc) 3 cs.length (cs.flatMap cmc) := by
  obtain ⟨cs, rfl, hsz⟩ := okWide_struct Try.underlying27 hv
  obtain ⟨fuel, hf⟩ := h
  obtain ⟨xs, m, _, hx, hcl, hxl, hg⟩ := DataW.trod_struct Try.underlying27 hf
  have hcN : cs.toList.length = 12 := hcl.trans (by kernel_rfl)
  have hF : xs.length = 11 := hxl
  have g0 := part_at hg 0 rfl 3 0 1 rfl rfl (by kernel_rfl) (by omega)
  have g1 := part_at hg 1 rfl 9 1 1 rfl rfl (by kernel_rfl) (by omega)
  have g2 := part_at hg 2 rfl 9 2 1 rfl rfl (by kernel_rfl) (by omega)
  have g3 := part_at hg 3 rfl 9 3 1 rfl rfl (by kernel_rfl) (by omega)
  have g4 := part_at hg 4 rfl 24 4 2 rfl rfl (by kernel_rfl) (by omega)
  have g5 := part_at hg 5 rfl 25 6 1 rfl rfl (by kernel_rfl) (by omega)
  have g6 := part_at hg 6 rfl 3 7 1 rfl rfl (by kernel_rfl) (by omega)
  have g7 := part_at hg 7 rfl 3 8 1 rfl rfl (by kernel_rfl) (by omega)
  have g8 := part_at hg 8 rfl 3 9 1 rfl rfl (by kernel_rfl) (by omega)
  have g9 := part_at hg 9 rfl 3 10 1 rfl rfl (by kernel_rfl) (by omega)
  have g10 := part_at hg 10 rfl 4 11 1 rfl rfl (by kernel_rfl) (by omega)
  have hd : d = .agg (xs.map (·.1)) := congrArg Prod.fst hx
  subst hd
  have u1 := part_le Try.underlying27 hw (j := 1) rfl (by rw [List.getElem?_map, List.getElem?_eq_getElem (show 1 < xs.length by omega)]; rfl)
  have u2 := part_le Try.underlying27 hw (j := 2) rfl (by rw [List.getElem?_map, List.getElem?_eq_getElem (show 2 < xs.length by omega)]; rfl)
  have u3 := part_le Try.underlying27 hw (j := 3) rfl (by rw [List.getElem?_map, List.getElem?_eq_getElem (show 3 < xs.length by omega)]; rfl)
  obtain ⟨l⟩ := cs
  simp only [Value.cells] at hcN g0 g1 g2 g3 g4 g5 g6 g7 g8 g9 g10
  clear hg hx hcl hw hf hsz hv
  match l, hcN with
  | [d0, d1, d2, d3, d4, d5, d6, d7, d8, d9, d10, d11], _ =>
    replace g0 : DataW.trod enc Try.prog W 0 (fun _ => true) true m 3 [d0] = some xs[0] := g0
    replace g1 : DataW.trod enc Try.prog W 0 (fun _ => true) true m 9 [d1] = some xs[1] := g1
    replace g2 : DataW.trod enc Try.prog W 0 (fun _ => true) true m 9 [d2] = some xs[2] := g2
    replace g3 : DataW.trod enc Try.prog W 0 (fun _ => true) true m 9 [d3] = some xs[3] := g3
    replace g4 : DataW.trod enc Try.prog W 0 (fun _ => true) true m 24 [d4, d5] = some xs[4] := g4
    replace g5 : DataW.trod enc Try.prog W 0 (fun _ => true) true m 25 [d6] = some xs[5] := g5
    replace g6 : DataW.trod enc Try.prog W 0 (fun _ => true) true m 3 [d7] = some xs[6] := g6
    replace g7 : DataW.trod enc Try.prog W 0 (fun _ => true) true m 3 [d8] = some xs[7] := g7
    replace g8 : DataW.trod enc Try.prog W 0 (fun _ => true) true m 3 [d9] = some xs[8] := g8
    replace g9 : DataW.trod enc Try.prog W 0 (fun _ => true) true m 3 [d10] = some xs[9] := g9
    replace g10 : DataW.trod enc Try.prog W 0 (fun _ => true) true m 4 [d11] = some xs[10] := g10
    obtain ⟨A0, k0, _, _⟩ := DataW.trod_int Try.underlying3 g0
    obtain ⟨A6, k6, _, _⟩ := DataW.trod_int Try.underlying3 g6
    obtain ⟨A7, k7, _, _⟩ := DataW.trod_int Try.underlying3 g7
    obtain ⟨A8, k8, _, _⟩ := DataW.trod_int Try.underlying3 g8
    obtain ⟨A9, k9, _, _⟩ := DataW.trod_int Try.underlying3 g9
    obtain ⟨A1, k1, j1, _⟩ := DataW.trod_string Try.underlying9 g1
    rw [j1] at u1
    have l1 := text_le u1
    obtain ⟨A2, k2, j2, _⟩ := DataW.trod_string Try.underlying9 g2
    rw [j2] at u2
    have l2 := text_le u2
    obtain ⟨A3, k3, j3, _⟩ := DataW.trod_string Try.underlying9 g3
    rw [j3] at u3
    have l3 := text_le u3
    obtain ⟨A10, k10, _⟩ := DataW.trod_bool Try.underlying4 g10
    obtain ⟨pa, pc, lim, ss, k4, z1, z2⟩ := prog_cells g4
    obtain ⟨ua, uc, cs, k5, z3⟩ := cmds_cells g5
    simp only [List.cons.injEq, and_true] at k0 k1 k2 k3 k4 k6 k7 k8 k9 k10
    obtain ⟨rfl, rfl⟩ := k4
    subst k0; subst k1; subst k2; subst k3; subst k5; subst k6; subst k7; subst k8; subst k9; subst k10
    exact ⟨A0, A1.data.toList, A2.data.toList, A3.data.toList, pa, pc, ss, lim, ua, uc, cs, A6, A7, A8, A9, A10, rfl, ⟨l1, l2, l3⟩, z1, z2, z3⟩
set_option maxRecDepth 100000 in
set_option maxHeartbeats 1600000 in
theorem open_reply {H : Type} {enc : TypeId × Value → H} {W : World} {base : Nat} {v : Value} {d : DataW H} {p : List MemPlace} (hw : ∀ n ∈ d.weights Try.prog 33, LenB n) (hv : Value.okWide Try.prog W .any base 33 v)
    (h : DataW.Trod enc Try.prog W 0 (fun _ => true) true 33 v d p) : ∃ (er st nx tn : Int) (tw : List UInt8) (tr tt : Int) (nm : List UInt8) (ua : Option Addr) (uc : Nat) (ev : List Ev), v = .agg #[.int .i64 er, .int .i64 st, .int .i64 nx, .int .i64 tn, .string ⟨tw.toArray⟩, .int .i64 tr, .int .i64 tt, .string ⟨nm.toArray⟩, .slice ua ev.length uc] ∧ (tw.length ≤ 140737488351232 ∧ nm.length ≤ 140737488351232) ∧ Sl W (.slice ua ev.length uc) 8 ev.length (ev.flatMap evc) ∧ FitE ev := by
  obtain ⟨cs, rfl, hsz⟩ := okWide_struct Try.underlying33 hv
  obtain ⟨fuel, hf⟩ := h
  obtain ⟨xs, m, _, hx, hcl, hxl, hg⟩ := DataW.trod_struct Try.underlying33 hf
  have hcN : cs.toList.length = 9 := hcl.trans (by kernel_rfl)
  have hF : xs.length = 6 := hxl
  have g0 := part_at hg 0 rfl 28 0 1 rfl rfl (by kernel_rfl) (by omega)
  have g1 := part_at hg 1 rfl 3 1 1 rfl rfl (by kernel_rfl) (by omega)
  have g2 := part_at hg 2 rfl 3 2 1 rfl rfl (by kernel_rfl) (by omega)
  have g3 := part_at hg 3 rfl 30 3 4 rfl rfl (by kernel_rfl) (by omega)
  have g4 := part_at hg 4 rfl 9 7 1 rfl rfl (by kernel_rfl) (by omega)
  have g5 := part_at hg 5 rfl 31 8 1 rfl rfl (by kernel_rfl) (by omega)
  have hd : d = .agg (xs.map (·.1)) := congrArg Prod.fst hx
  subst hd
  have u3 := part_le Try.underlying33 hw (j := 3) rfl (by rw [List.getElem?_map, List.getElem?_eq_getElem (show 3 < xs.length by omega)]; rfl)
  have u4 := part_le Try.underlying33 hw (j := 4) rfl (by rw [List.getElem?_map, List.getElem?_eq_getElem (show 4 < xs.length by omega)]; rfl)
  have u5 := part_le Try.underlying33 hw (j := 5) rfl (by rw [List.getElem?_map, List.getElem?_eq_getElem (show 5 < xs.length by omega)]; rfl)
  obtain ⟨l⟩ := cs
  simp only [Value.cells] at hcN g0 g1 g2 g3 g4 g5
  clear hg hx hcl hw hf hsz hv
  match l, hcN with
  | [d0, d1, d2, d3, d4, d5, d6, d7, d8], _ =>
    replace g0 : DataW.trod enc Try.prog W 0 (fun _ => true) true m 28 [d0] = some xs[0] := g0
    replace g1 : DataW.trod enc Try.prog W 0 (fun _ => true) true m 3 [d1] = some xs[1] := g1
    replace g2 : DataW.trod enc Try.prog W 0 (fun _ => true) true m 3 [d2] = some xs[2] := g2
    replace g3 : DataW.trod enc Try.prog W 0 (fun _ => true) true m 30 [d3, d4, d5, d6] = some xs[3] := g3
    replace g4 : DataW.trod enc Try.prog W 0 (fun _ => true) true m 9 [d7] = some xs[4] := g4
    replace g5 : DataW.trod enc Try.prog W 0 (fun _ => true) true m 31 [d8] = some xs[5] := g5
    obtain ⟨A0, k0, _, _⟩ := DataW.trod_int Try.underlying28 g0
    obtain ⟨A1, k1, _, _⟩ := DataW.trod_int Try.underlying3 g1
    obtain ⟨A2, k2, _, _⟩ := DataW.trod_int Try.underlying3 g2
    obtain ⟨K, s, R, T, k3, l3⟩ := task_cells g3 u3
    obtain ⟨A4, k4, j4, _⟩ := DataW.trod_string Try.underlying9 g4
    rw [j4] at u4
    have l4 := text_le u4
    obtain ⟨ua, uc, ev, k5, z1, z2⟩ := evs_cells u5 g5
    simp only [List.cons.injEq, and_true] at k0 k1 k2 k3 k4
    obtain ⟨rfl, rfl, rfl, rfl⟩ := k3
    subst k0; subst k1; subst k2; subst k4; subst k5
    exact ⟨A0, A1, A2, K, s.data.toList, R, T, A4.data.toList, ua, uc, ev, rfl, ⟨l3, l4⟩, z1, z2⟩
end Go.Proofs.Ytelacmchofehcaa
