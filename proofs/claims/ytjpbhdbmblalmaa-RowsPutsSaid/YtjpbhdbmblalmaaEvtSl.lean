/- WHAT COMES IN: a history; the walk of EventPacks as the frame wants it. -/
import Derived.Test.YtjpbhdbmblalmaaEvtOpen
import Derived.Test.YtjpbhdbmblalmaaEvtRPack
namespace Go.Proofs.Ytjpbhdbmblalmaa
open Go.ChangeShapes Go.WideShapes Go.ChangeAt Go.RowKit Go.Deep
set_option linter.unusedVariables false

/-- a slice of whatever elements, opened: what is said of an element is said of its datum -/
theorem trod_slm {P : Program} {H : Type} {enc : TypeId × Value → H} {W : World} {t e : TypeId} {fuel : Nat} {v : Value} {d : DataW H × List MemPlace} {α : Type} [Inhabited α]
    (ht : P.underlying t = some (.slice e)) (k : Nat) (hk : P.cellsOf e = k) (hk0 : 0 < k) (cells : α → List Value) (hlen : ∀ a, (cells a).length = k) (rel : α → DataW H → Prop)
    (hel : ∀ (n : Nat) (cs : List Value) (x : DataW H × List MemPlace), DataW.trod enc P W 0 (fun _ => true) true n e cs = some x → ∃ a : α, cs = cells a ∧ rel a x.1)
    (hf : DataW.trod enc P W 0 (fun _ => true) true fuel t [v] = some d) :
    ∃ zs : List α, Sl W v k zs.length (zs.flatMap cells) ∧ ((d.1 = .nil ∧ zs = []) ∨ ∃ es rest : List (DataW H), d.1 = .slice es rest ∧ ∀ a ∈ zs, ∃ y ∈ es, rel a y) := by
  rcases open_slice ht hf with ⟨hcs, hx⟩ | ⟨a, len, cap, m, n, D, Pl, hcs, _, hl, hm, hmm, hx, hi⟩
  · simp at hcs
    subst hcs
    subst hx
    exact ⟨[], Sl.none _ _, .inl ⟨rfl, rfl⟩⟩
  · simp at hcs
    subst hcs
    simp only [if_true] at hmm
    subst hmm
    have hi' : ∀ i, i < len → ∃ y : α, W.cells? 0 (a.add (i * k)) k = some (cells y) ∧ rel y (D i) := fun i hil => by
      obtain ⟨cs', h1, h2⟩ := hi i (by omega)
      rw [hk] at h1
      obtain ⟨y, rfl, h3⟩ := hel n cs' _ h2
      exact ⟨y, h1, h3⟩
    obtain ⟨f, hf'⟩ := choose_lt hi'
    have hll : ((List.range len).map f).length = len := by simp
    refine ⟨(List.range len).map f, ?_, .inr ⟨_, _, by rw [hx], ?_⟩⟩
    · rw [hll]
      refine Sl.of_add (by rw [length_flatMap_const hlen, hll]) (by omega) hk0 (fun j hj => ?_)
      rw [length_flatMap_const hlen, hll] at hj
      have hq : j / k < len := by rw [Nat.div_lt_iff_lt_mul hk0]; exact hj
      have hr : j % k < k := Nat.mod_lt _ hk0
      obtain ⟨hc, _⟩ := hf' (j / k) hq
      obtain ⟨_, _, hat⟩ := World.cells?_some hc
      have h1 := hat (j % k) hr
      rw [add_add] at h1
      have e : j / k * k + j % k = j := Nat.div_add_mod' _ _
      rw [e] at h1
      rw [h1, ← List.getElem?_eq_getElem]
      have h2 := getElem?_flatMap_const hlen ((List.range len).map f) (j / k) (j % k) hr (by rw [hll]; exact hq)
      rw [e] at h2
      rw [h2]; simp
    · intro y hy
      simp only [List.mem_map, List.mem_range] at hy
      obtain ⟨i, hil, rfl⟩ := hy
      exact ⟨D i, List.mem_map.2 ⟨i, List.mem_range.2 hil, rfl⟩, (hf' i hil).2⟩
theorem all_mem {H : Type} {P : Program} {e : TypeId} {es : List (DataW H)} {y : DataW H} (hy : y ∈ es) : ∀ n ∈ y.weights P e, n ∈ DataW.weightsAll P e es := by
  induction es with
  | nil => cases hy
  | cons z r ih =>
    intro n hn
    simp only [DataW.weightsAll, List.mem_append]
    rcases List.mem_cons.1 hy with rfl | h
    · exact .inl hn
    · exact .inr (ih h n hn)
theorem elem_le {H : Type} {P : Program} {t e : TypeId} {es rest : List (DataW H)} (ht : P.underlying t = some (.slice e)) (h : ∀ n ∈ (DataW.slice es rest).weights P t, LenB n) {y : DataW H} (hy : y ∈ es) : ∀ n ∈ y.weights P e, LenB n := fun n hn => by
  refine h n ?_
  simp only [DataW.weights, ht, List.mem_cons, List.mem_append]
  exact .inr (.inl (all_mem hy n hn))
instance : Inhabited Ev := ⟨(0, 0, 0, 0, 0, 0, false, [])⟩
set_option maxRecDepth 100000 in
theorem open_events {H : Type} {enc : TypeId × Value → H} {W : World} {base : Nat} {v : Value} {d : DataW H} {p : List MemPlace} (hw : ∀ n ∈ d.weights Try.prog 31, LenB n) (hv : Value.okWide Try.prog W .any base 31 v)
    (h : DataW.Trod enc Try.prog W 0 (fun _ => true) true 31 v d p) : ∃ l : List Ev, Sl W v 8 l.length (l.flatMap evc) ∧ FitE l := by
  obtain ⟨a0, len0, cap0, rfl⟩ := okWide_slice Try.underlying31 hv
  obtain ⟨fuel, hf⟩ := h
  obtain ⟨l, g1, g2⟩ := trod_slm (P := Try.prog) Try.underlying31 8 (by kernel_rfl) (by omega) evc evc_len (fun a y => ∃ ps : List (DataW H), y = .agg ps ∧ ps[7]? = some (.lit (.string a.dt))) (fun n cs x hx => by
    obtain ⟨y, ps, e1, e2, e3⟩ := event_cells hx
    exact ⟨y, e1, ps, e2, e3⟩) (by simpa [Value.cells] using hf)
  refine ⟨l, g1, fun x hx => ?_⟩
  rcases g2 with ⟨_, rfl⟩ | ⟨es, rest, hd, hrel⟩
  · cases hx
  · obtain ⟨y, hy, ps, rfl, h7⟩ := hrel x hx
    have hd' : d = .slice es rest := hd
    rw [hd'] at hw
    have := event_le (elem_le Try.underlying31 hw hy) h7
    omega
set_option maxHeartbeats 800000 in
set_option maxRecDepth 100000 in
theorem eventPacks_w (v : Value) (l : List Ev) (w : World) (hs : Sl w v 8 l.length (l.flatMap evc)) (hf : FitE l) :
    Calls Try.prog 7 #[v] w fun e w' => e = .returned (.bool true) ∧ Below w.heap.size w w' := by
  go_enter Try.func7, Try.ntmps7
  go_wp2_with fail
  refine (eawake_any w).mono ?_
  rintro _ w1 ⟨rfl, b1⟩
  go_wp2_with fail
  refine (pack_any v l w1 (hs.below b1) hf).mono ?_
  rintro _ w2 ⟨rfl, b2⟩
  generalize hL : hiV l = L
  generalize hV : hiE l = V
  have HL := hid hL
  have HV := hid hV
  clear hL hV
  go_wp2_with fail
  refine (rpack_any v l w2 (hs.below (bnext b1 b2)) hf).mono ?_
  rw [HL.out, HV.out]
  rintro _ w3 ⟨rfl, b3⟩
  go_wp2_with fail
  go_ret
  exact ⟨rfl, bnext (bnext b1 b2) b3⟩
end Go.Proofs.Ytjpbhdbmblalmaa
