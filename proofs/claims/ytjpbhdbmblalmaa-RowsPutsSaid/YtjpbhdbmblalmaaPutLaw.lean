/- RowsPuts: the reference's Same of pairs; what comes in; the walk. -/
import Derived.Test.YtjpbhdbmblalmaaRPuts
import Derived.Test.YtjpbhdbmblalmaaPutAwake
import Derived.Test.YtjpbhdbmblalmaaEvtSl
import Derived.Deep.QuietTactic
import Derived.BigQuiet
namespace Go.Proofs.Ytjpbhdbmblalmaa
open Go.ChangeShapes Go.WideShapes Go.ChangeAt Go.RowKit Go.Deep
set_option linter.unusedVariables false

theorem pr_cell {w : World} {l : List Pr} {b off : Nat} (hc : ∀ j (_ : j < (l.flatMap prc).length), w.cell? ⟨b, off + j, none⟩ = some (l.flatMap prc)[j]) (k j : Nat) (hj : j < 3) (hk : k < l.length) (v : Value) (hv : (prc l[k])[j]? = some v) : w.cell? ⟨b, off + k * 3 + j, none⟩ = some v := by
  rw [Nat.add_assoc]; exact Sl.cell prc_len hc k j hj hk v hv
set_option maxHeartbeats 1600000 in
set_option maxRecDepth 100000 in
theorem samePr_any (v v' : Value) (l : List Pr) (w : World) (hs : Sl w v 3 l.length (l.flatMap prc)) (hs' : Sl w v' 3 l.length (l.flatMap prc)) : Calls Try.prog 24 #[v, v'] w fun e w' => e = .returned (.bool true) ∧ Below w.heap.size w w' := by
  have hm : l.length ≤ 9223372036854775807 := hs.2.1.1
  obtain ⟨_, _, a, cap, rfl, hc⟩ := hs
  obtain ⟨_, _, a', cap', rfl, hc'⟩ := hs'
  have C1 := hid hc
  have C2 := hid hc'
  clear hc hc'
  go_enter Try.func24, Try.ntmps24
  go_wp2_with fail
  go_loopw [5] (fun i0 wr => ∃ k : Nat, k ≤ l.length ∧ i0 = .int .i64 k ∧ Below w.heap.size w wr) (fun i0 _ => l.length - (intOf i0).toNat)
  case atStart => exact ⟨0, Nat.zero_le _, rfl, Below.refl _ _⟩
  case round =>
    obtain ⟨k, hk, rfl, hb⟩ := hrel
    by_cases hlt : k < l.length
    · obtain ⟨b, off, rfl, hblt, hc⟩ := C1.out.resolve_left (by omega)
      obtain ⟨b', off', rfl, hblt', hc'⟩ := C2.out.resolve_left (by omega)
      have c0 : wr.cell? ⟨b, off + k * 3, none⟩ = some (.string ⟨l[k].1.toArray⟩) := (hb.cell (p := ⟨b, off + k * 3 + 0, none⟩) hblt).trans (pr_cell hc k 0 (by decide) hlt _ rfl)
      have c1 : wr.cell? ⟨b, off + k * 3 + 1, none⟩ = some (.string ⟨l[k].2.toArray⟩) := (hb.cell (p := ⟨b, off + k * 3 + 1, none⟩) hblt).trans (pr_cell hc k 1 (by decide) hlt _ rfl)
      have c2 : wr.cell? ⟨b, off + k * 3 + 2, none⟩ = some (.bool false) := (hb.cell (p := ⟨b, off + k * 3 + 2, none⟩) hblt).trans (pr_cell hc k 2 (by decide) hlt _ rfl)
      have d0 : wr.cell? ⟨b', off' + k * 3, none⟩ = some (.string ⟨l[k].1.toArray⟩) := (hb.cell (p := ⟨b', off' + k * 3 + 0, none⟩) hblt').trans (pr_cell hc' k 0 (by decide) hlt _ rfl)
      have d1 : wr.cell? ⟨b', off' + k * 3 + 1, none⟩ = some (.string ⟨l[k].2.toArray⟩) := (hb.cell (p := ⟨b', off' + k * 3 + 1, none⟩) hblt').trans (pr_cell hc' k 1 (by decide) hlt _ rfl)
      have d2 : wr.cell? ⟨b', off' + k * 3 + 2, none⟩ = some (.bool false) := (hb.cell (p := ⟨b', off' + k * 3 + 2, none⟩) hblt').trans (pr_cell hc' k 2 (by decide) hlt _ rfl)
      have hlt2 := hid (show k + 1 ≤ l.length from hlt)
      clear hc hc'
      generalize l[k] = x at c0 c1 c2 d0 d1 d2
      obtain ⟨k1, v1⟩ := x
      simp only at c0 c1 c2 d0 d1 d2
      go_wp2_with fail
      go_quiet (fail)
      go_wp2_with fail
      go_roundw
      case rel => exact ⟨k + 1, hlt2.out, by go_num, bnext hb (below_drewN _ _ _)⟩
      case measure => have := hlt2.out; simp [intOf]; omega
    · obtain rfl : k = l.length := by omega
      go_wp2_with fail
      go_ret
      exact ⟨rfl, hb⟩
/-- a history, with how many events it may be -/
theorem slm_len {P : Program} {H : Type} {enc : TypeId × Value → H} {W : World} {t e : TypeId} {fuel : Nat} {a : Option Addr} {len cap : Nat} {d : DataW H × List MemPlace} {es rest : List (DataW H)}
    (ht : P.underlying t = some (.slice e)) (hf : DataW.trod enc P W 0 (fun _ => true) true fuel t [.slice a len cap] = some d) (hd : d.1 = .slice es rest) : es.length = len := by
  rcases open_slice ht hf with ⟨hcs, hx⟩ | ⟨a, len, cap, m, n, D, Pl, hcs, _, hl, hm, hmm, hx, hi⟩
  · rw [hx] at hd; cases hd
  · simp at hcs
    simp only [if_true] at hmm
    subst hmm
    rw [hx] at hd
    simp only [DataW.slice.injEq] at hd
    rw [← hd.1]
    simp only [List.length_map, List.length_range]
    omega
set_option maxRecDepth 100000 in
theorem open_events72 {H : Type} {enc : TypeId × Value → H} {W : World} {base : Nat} {v : Value} {d : DataW H} {p : List MemPlace} (hw : ∀ n ∈ d.weights Try.prog 31, LenB n) (hv : Value.okWide Try.prog W .any base 31 v)
    (h : DataW.Trod enc Try.prog W 0 (fun _ => true) true 31 v d p) : ∃ l : List Ev, Sl W v 8 l.length (l.flatMap evc) ∧ FitE l ∧ l.length * 72 ≤ 140737488351232 := by
  obtain ⟨l, g1, g2⟩ := open_events hw hv h
  refine ⟨l, g1, g2, ?_⟩
  obtain ⟨_, _, a, cap, rfl, _⟩ := g1
  obtain ⟨fuel, hf⟩ := h
  have hf' : DataW.trod enc Try.prog W 0 (fun _ => true) true fuel 31 [.slice a l.length cap] = some (d, p) := by simpa [Value.cells] using hf
  rcases open_slice Try.underlying31 hf' with ⟨hcs, hx⟩ | ⟨a, len, cap, m, n, D, Pl, hcs, _, hl, hm, hmm, hx, hi⟩
  · simp at hcs
    rw [hcs.2.1]; simp
  · obtain ⟨es, rest, hd⟩ : ∃ es rest, d = .slice es rest := ⟨_, _, congrArg Prod.fst hx⟩
    have hlen := slm_len Try.underlying31 hf' hd
    rw [hd] at hw
    have := hw ((es.length + rest.length) * Try.prog.bytesOf 23) (by simp only [DataW.weights, Try.underlying31, List.mem_cons, true_or])
    rw [show Try.prog.bytesOf 23 = 72 by kernel_rfl] at this
    unfold LenB at this
    omega
set_option maxHeartbeats 1600000 in
set_option maxRecDepth 100000 in
theorem rowsPuts_w (wid : List UInt8) (hwl : wid.length ≤ 140737488351232) (v : Value) (l : List Ev) (w : World) (hs : Sl w v 8 l.length (l.flatMap evc)) (hf : FitE l) (h72 : l.length * 72 ≤ 140737488351232) :
    Calls Try.prog 9 #[.string ⟨wid.toArray⟩, v] w fun e w' => e = .returned (.bool true) ∧ Below w.heap.size w w' := by
  have hmx : maxLen = 9223372036854775807 := rfl
  go_enter Try.func9, Try.ntmps9
  go_wp2_with fail
  refine (rawake_any w).mono ?_
  rintro _ w1 ⟨rfl, b1⟩
  go_wp2_with fail
  refine (puts_any wid hwl v l w1 (hs.below b1) hf h72).mono ?_
  rintro _ w2 ⟨p1, er, rfl, he, o1, b2⟩
  rw [he]
  clear he
  have hb2 := bnext b1 b2
  have hpl : (puL wid l).length ≤ maxLen := by
    unfold puL
    split
    · rw [putsK_len _ _ _ (Nat.le_refl _)]; omega
    · simp
  have s1 := Sl.of_own o1 hpl
  go_wp2_with fail
  refine (rputs_any wid hwl v l w2 (hs.below hb2) hf h72).mono ?_
  rintro _ w3 ⟨p2, er2, rfl, he, o2, b3⟩
  rw [he]
  clear he
  have hb3 := bnext hb2 b3
  have s2 := Sl.of_own o2 hpl
  have s1' := s1.below b3
  generalize puE wid l = E
  generalize puL wid l = L at *
  clear o1 o2 s1
  go_wp2_with fail
  refine (samePr_any p1 p2 L w3 s1' s2).mono ?_
  rintro _ w4 ⟨rfl, b4⟩
  go_wp2_with fail
  go_ret
  exact ⟨rfl, bnext hb3 b4⟩
end Go.Proofs.Ytjpbhdbmblalmaa
