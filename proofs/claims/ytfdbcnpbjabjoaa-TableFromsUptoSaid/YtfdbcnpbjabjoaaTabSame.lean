/- CONTRACT: wherryref05.Same. -/
import Derived.Test.YtfdbcnpbjabjoaaTabPairs
import Derived.Test.YtfdbcnpbjabjoaaTabChunk
import Derived.Laws.StructEq
import Derived.Deep.QuietTactic
import Derived.BigQuiet
namespace Go.Proofs.Ytfdbcnpbjabjoaa
open Go.RowKit Go.Shelf
set_option linter.unusedVariables false
set_option linter.unusedSimpArgs false

set_option maxRecDepth 100000 in
set_option maxHeartbeats 8000000 in
theorem same_in (xs ys : List Pr) (v1 v2 : Value) (hn : xs.length ≤ 1099511627776) (hl : xs.length = ys.length) (w : World) (h1 : Sl w v1 3 xs.length (xs.flatMap prC)) (h2 : Sl w v2 3 ys.length (ys.flatMap prC)) :
    Calls Try.prog 29 #[v1, v2] w fun e w' => e = .returned (.bool (decide (xs = ys))) ∧ ∃ q, w' = w.drewN q := by
  obtain ⟨-, -, a1, c1, rfl, hc1⟩ := h1
  obtain ⟨-, -, a2, c2, rfl, hc2⟩ := h2
  have hLI : (xs.length : Int) ≤ 1099511627776 := by omega
  have HL := hid hl
  rw [← hl]
  have HC1 := hid hc1
  have HC2 := hid hc2
  clear hc1 hc2 hl
  go_enter Try.func29, Try.ntmps29
  go_wp2_with fail
  go_loopw [5] (fun i wr => ∃ m : Nat, m ≤ xs.length ∧ i = .int .i64 m ∧ (∃ q, wr = w.drewN q) ∧ xs.take m = ys.take m) (fun i _ => xs.length - (intOf i).toNat)
  case atStart => exact ⟨0, by omega, rfl, ⟨0, rfl⟩, rfl⟩
  case round =>
    obtain ⟨m, hm, rfl, ⟨q, rfl⟩, heq⟩ := hrel
    by_cases hmq : m < xs.length
    case neg =>
      obtain rfl : m = xs.length := by omega
      have HE := hid (show xs = ys by rw [List.take_length] at heq; rw [heq, HL.out, List.take_length])
      clear heq
      go_wp2_with fail
      go_ret
      exact ⟨by rw [decide_eq_true HE.out]; rfl, _, rfl⟩
    case pos =>
    have hmy : m < ys.length := by rw [← HL.out]; exact hmq
    obtain ⟨b1, o1, rfl, hb1, k1⟩ := HC1.out.resolve_left (by omega)
    obtain ⟨b2, o2, rfl, hb2, k2⟩ := HC2.out.resolve_left (by rw [← HL.out]; omega)
    have x0 : (w.drewN q).cell? ⟨b1, o1 + m * 3, none⟩ = some (strV xs[m].1) := Sl.cell (f := prC) (k := 3) prC_len k1 m 0 (by omega) hmq _ rfl
    have x1 : (w.drewN q).cell? ⟨b1, o1 + m * 3 + 1, none⟩ = some (strV xs[m].2.1) := Sl.cell (f := prC) (k := 3) prC_len k1 m 1 (by omega) hmq _ rfl
    have x2 : (w.drewN q).cell? ⟨b1, o1 + m * 3 + 2, none⟩ = some (.bool xs[m].2.2) := Sl.cell (f := prC) (k := 3) prC_len k1 m 2 (by omega) hmq _ rfl
    have y0 : (w.drewN q).cell? ⟨b2, o2 + m * 3, none⟩ = some (strV ys[m].1) := Sl.cell (f := prC) (k := 3) prC_len k2 m 0 (by omega) hmy _ rfl
    have y1 : (w.drewN q).cell? ⟨b2, o2 + m * 3 + 1, none⟩ = some (strV ys[m].2.1) := Sl.cell (f := prC) (k := 3) prC_len k2 m 1 (by omega) hmy _ rfl
    have y2 : (w.drewN q).cell? ⟨b2, o2 + m * 3 + 2, none⟩ = some (.bool ys[m].2.2) := Sl.cell (f := prC) (k := 3) prC_len k2 m 2 (by omega) hmy _ rfl
    have HN := hid (show xs[m] = ys[m] → xs.take (m + 1) = ys.take (m + 1) from fun e => by rw [List.take_succ_eq_append_getElem hmq, List.take_succ_eq_append_getElem hmy, heq, e])
    have HNE := hid (show xs[m] ≠ ys[m] → xs ≠ ys from fun e f => e (by subst f; rfl))
    clear k1 k2 heq HC1 HC2
    generalize xs[m] = p1 at *
    generalize ys[m] = p2 at *
    obtain ⟨ka, va, ga⟩ := p1
    obtain ⟨kb, vb, gb⟩ := p2
    dsimp only [strV] at x0 x1 x2 y0 y1 y2
    have hmi : (m : Int) < (xs.length : Int) := by omega
    have hm0 : (0 : Int) ≤ (m : Int) := by omega
    go_wp2_with fail
    refine wp_region_noPanic ?_
    refine wp_region_held_drew (S := (fun w' => (∃ q, w' = w.drewN q) ∧ w'.cell? ⟨b1, o1 + m * 3, none⟩ = some (.string ⟨ka.toArray⟩) ∧ w'.cell? ⟨b1, o1 + m * 3 + 1, none⟩ = some (.string ⟨va.toArray⟩) ∧ w'.cell? ⟨b1, o1 + m * 3 + 2, none⟩ = some (.bool ga) ∧ w'.cell? ⟨b2, o2 + m * 3, none⟩ = some (.string ⟨kb.toArray⟩) ∧ w'.cell? ⟨b2, o2 + m * 3 + 1, none⟩ = some (.string ⟨vb.toArray⟩) ∧ w'.cell? ⟨b2, o2 + m * 3 + 2, none⟩ = some (.bool gb))) (by kernel_rfl) ?_ (fun hHeld => ?_)
    · exact ⟨⟨q + 1, rfl⟩, x0, x1, x2, y0, y1, y2⟩
    refine wpAnyH_take (i := 0) (oi := ?fo0) (v := ?fv0) ?fe0 (by kernel_rfl) (by kernel_rfl) (by kernel_rfl) (fun _ _ _ h => h) (Or.inl ⟨?fw0, ?fy0⟩) (by assumption) ?fr0
    case fe0 => ((simp only [List.getElem?_toArray, List.getElem?_cons_succ, List.getElem?_cons_zero]) <;> rfl)
    case fw0 => rfl
    case fy0 => (intro w hSw; (try dsimp only at hSw); go_simp; (try with_reducible rfl))
    try simp only [Act.put, List.setIfInBounds_toArray, List.set_cons_zero, List.set_cons_succ]
    refine wpAnyH_take (i := 1) (oi := ?fo1) (v := ?fv1) ?fe1 (by kernel_rfl) (by kernel_rfl) (by kernel_rfl) (fun _ _ _ h => h) (Or.inl ⟨?fw1, ?fy1⟩) (by assumption) ?fr1
    case fe1 => ((simp only [List.getElem?_toArray, List.getElem?_cons_succ, List.getElem?_cons_zero]) <;> rfl)
    case fw1 => rfl
    case fy1 => (intro w hSw; (try dsimp only at hSw); go_simp; (try with_reducible rfl))
    try simp only [Act.put, List.setIfInBounds_toArray, List.set_cons_zero, List.set_cons_succ]
    refine wpAnyH_take (i := 2) (oi := ?fo2) (v := ?fv2) ?fe2 (by kernel_rfl) (by kernel_rfl) (by kernel_rfl) (fun _ _ _ h => h) (Or.inl ⟨?fw2, ?fy2⟩) (by assumption) ?fr2
    case fe2 => ((simp only [List.getElem?_toArray, List.getElem?_cons_succ, List.getElem?_cons_zero]) <;> rfl)
    case fw2 => rfl
    case fy2 => (intro w hSw; (try dsimp only at hSw); go_simp; (try with_reducible rfl))
    try simp only [Act.put, List.setIfInBounds_toArray, List.set_cons_zero, List.set_cons_succ]
    refine wpAnyH_take (i := 3) (oi := ?fo3) (v := ?fv3) ?fe3 (by kernel_rfl) (by kernel_rfl) (by kernel_rfl) (fun _ _ _ h => h) (Or.inl ⟨?fw3, ?fy3⟩) (by assumption) ?fr3
    case fe3 => ((simp only [List.getElem?_toArray, List.getElem?_cons_succ, List.getElem?_cons_zero]) <;> rfl)
    case fw3 => rfl
    case fy3 => (intro w hSw; (try dsimp only at hSw); go_simp; (try with_reducible rfl))
    try simp only [Act.put, List.setIfInBounds_toArray, List.set_cons_zero, List.set_cons_succ]
    refine wpAnyH_take (i := 4) (oi := ?fo4) (v := ?fv4) ?fe4 (by kernel_rfl) (by kernel_rfl) (by kernel_rfl) (fun _ _ _ h => h) (Or.inl ⟨?fw4, ?fy4⟩) (by assumption) ?fr4
    case fe4 => ((simp only [List.getElem?_toArray, List.getElem?_cons_succ, List.getElem?_cons_zero]) <;> rfl)
    case fw4 => rfl
    case fy4 => (intro w hSw; (try dsimp only at hSw); go_simp; (try with_reducible rfl))
    try simp only [Act.put, List.setIfInBounds_toArray, List.set_cons_zero, List.set_cons_succ]
    refine wpAnyH_take (i := 5) (oi := ?fo5) (v := ?fv5) ?fe5 (by kernel_rfl) (by kernel_rfl) (by kernel_rfl) (fun _ _ _ h => h) (Or.inl ⟨?fw5, ?fy5⟩) (by assumption) ?fr5
    case fe5 => ((simp only [List.getElem?_toArray, List.getElem?_cons_succ, List.getElem?_cons_zero]) <;> rfl)
    case fw5 => rfl
    case fy5 => (intro w hSw; (try dsimp only at hSw); go_simp; (try with_reducible rfl))
    try simp only [Act.put, List.setIfInBounds_toArray, List.set_cons_zero, List.set_cons_succ]
    refine wpAnyH_take (i := 6) (oi := ?fo6) (v := ?fv6) ?fe6 (by kernel_rfl) (by kernel_rfl) (by kernel_rfl) (fun _ _ _ h => h) (Or.inl ⟨?fw6, ?fy6⟩) (by assumption) ?fr6
    case fe6 => ((simp only [List.getElem?_toArray, List.getElem?_cons_succ, List.getElem?_cons_zero]) <;> rfl)
    case fw6 => rfl
    case fy6 => (intro w hSw; (try dsimp only at hSw); go_simp; (try with_reducible rfl))
    try simp only [Act.put, List.setIfInBounds_toArray, List.set_cons_zero, List.set_cons_succ]
    refine wpAnyH_take (i := 7) (oi := ?fo7) (v := ?fv7) ?fe7 (by kernel_rfl) (by kernel_rfl) (by kernel_rfl) (fun _ _ _ h => h) (Or.inl ⟨?fw7, ?fy7⟩) (by assumption) ?fr7
    case fe7 => ((simp only [List.getElem?_toArray, List.getElem?_cons_succ, List.getElem?_cons_zero]) <;> rfl)
    case fw7 => rfl
    case fy7 => (intro w hSw; (try dsimp only at hSw); go_simp; (try with_reducible rfl))
    try simp only [Act.put, List.setIfInBounds_toArray, List.set_cons_zero, List.set_cons_succ]
    refine wpAnyH_take (i := 8) (oi := ?fo8) (v := (.bool (!decide ((ka, va, ga) = (kb, vb, gb))))) ?fe8 (by kernel_rfl) (by kernel_rfl) (by kernel_rfl) (fun _ _ _ h => h) (Or.inl ⟨?fw8, ?fy8⟩) (by assumption) ?fr8
    case fe8 => ((simp only [List.getElem?_toArray, List.getElem?_cons_succ, List.getElem?_cons_zero]) <;> rfl)
    case fw8 => rfl
    case fy8 => (intro w hSw; (try dsimp only at hSw); go_simp; (try ((repeat' split) <;> simp_all)))
    try simp only [Act.put, List.setIfInBounds_toArray, List.set_cons_zero, List.set_cons_succ]
    refine wpAnyH_done (by kernel_rfl) ?_ _
    refine NoPanic.normal ?_
    clear hHeld
    by_cases he : (ka, va, ga) = (kb, vb, gb)
    · have HT := hid (HN.out he)
      rw [show (!decide ((ka, va, ga) = (kb, vb, gb))) = false by rw [decide_eq_true he]; rfl]
      clear he
      go_wp2_with fail
      go_roundw
      case rel => exact ⟨m + 1, by omega, by go_num, ⟨q + 1, rfl⟩, HT.out⟩
      case measure => simp [intOf]; omega
    · have HT := hid (HNE.out he)
      rw [show (!decide ((ka, va, ga) = (kb, vb, gb))) = true by rw [decide_eq_false he]; rfl]
      clear he
      go_wp2_with fail
      go_ret
      exact ⟨by rw [decide_eq_false HT.out]; rfl, q + 1, rfl⟩
theorem same_no (xs ys : List Pr) (v1 v2 : Value) (hn : xs.length ≤ 1099511627776) (hm : ys.length ≤ 1099511627776) (hl : xs.length ≠ ys.length) (w : World) (h1 : Sl w v1 3 xs.length (xs.flatMap prC)) (h2 : Sl w v2 3 ys.length (ys.flatMap prC)) :
    Calls Try.prog 29 #[v1, v2] w fun e w' => e = .returned (.bool false) ∧ ∃ q, w' = w.drewN q := by
  obtain ⟨-, -, a1, c1, rfl, -⟩ := h1
  obtain ⟨-, -, a2, c2, rfl, -⟩ := h2
  have hne : ¬ (xs.length : Int) = (ys.length : Int) := by omega
  go_enter Try.func29, Try.ntmps29
  go_wp2_with fail
  go_ret
  exact ⟨rfl, 0, rfl⟩
theorem same_any (xs ys : List Pr) (v1 v2 : Value) (hn : xs.length ≤ 1099511627776) (hm : ys.length ≤ 1099511627776) (w : World) (h1 : Sl w v1 3 xs.length (xs.flatMap prC)) (h2 : Sl w v2 3 ys.length (ys.flatMap prC)) :
    Calls Try.prog 29 #[v1, v2] w fun e w' => e = .returned (.bool (decide (xs = ys))) ∧ ∃ q, w' = w.drewN q := by
  by_cases hl : xs.length = ys.length
  · exact same_in xs ys v1 v2 hn hl w h1 h2
  · rw [decide_eq_false (fun e => hl (by rw [e]))]
    exact same_no xs ys v1 v2 hn hm hl w h1 h2
end Go.Proofs.Ytfdbcnpbjabjoaa
