/- CONTRACT: the reference's Same. -/
import Derived.Test.YtckpfcocbjfcbaaPgmCheck
import Derived.Deep.QuietTactic
import Derived.BigQuiet
namespace Go.Proofs.Ytckpfcocbjfcbaa
open Go.RowKit
set_option linter.unusedVariables false

set_option maxHeartbeats 1600000 in
set_option maxRecDepth 100000 in
theorem psame_any (v v' : Value) (lim lim' : Int) (ss ss' : List St) (w : World) (hs : Sl w v 6 ss.length (ss.flatMap stC)) (hs' : Sl w v' 6 ss'.length (ss'.flatMap stC)) :
    Calls Try.prog 33 #[.agg #[v, .int .i64 lim], .agg #[v', .int .i64 lim']] w fun e w' => e = .returned (.bool (decide (lim = lim' ∧ ss = ss'))) ∧ Below w.heap.size w w' := by
  have hm := hs.2.1.1
  have hm' := hs'.2.1.1
  obtain ⟨_, _, a, cap, rfl, hc⟩ := hs
  obtain ⟨_, _, a', cap', rfl, hc'⟩ := hs'
  have C1 := hid hc
  have C2 := hid hc'
  clear hc hc'
  unfold maxLen at hm hm'
  by_cases h1 : lim = lim'
  · subst h1
    by_cases h2 : ss.length = ss'.length
    · have e1 : ((ss.length : Int) == (ss'.length : Int)) = true := by rw [h2]; simp
      go_enter Try.func33, Try.ntmps33
      go_wp2_with fail
      obtain ⟨W, hW⟩ : ∃ W, W = (w.alloc (.cells #[.slice a ss'.length cap, .int .i64 lim] 32)).alloc (.cells #[.slice a' ss'.length cap', .int .i64 lim] 32) := ⟨_, rfl⟩
      have b1 : Below w.heap.size w (w.alloc (.cells #[.slice a ss'.length cap, .int .i64 lim] 32)) := (Below.refl _ _).alloc (Nat.le_refl _) _
      have s1 : (w.alloc (.cells #[.slice a ss'.length cap, .int .i64 lim] 32)).heap.size = w.heap.size + 1 := Array.size_push ..
      have b2 := (Below.refl (w.alloc (.cells #[.slice a ss'.length cap, .int .i64 lim] 32)).heap.size (w.alloc (.cells #[.slice a ss'.length cap, .int .i64 lim] 32))).alloc (Nat.le_refl _) (.cells #[.slice a' ss'.length cap', .int .i64 lim] 32)
      have bW : Below w.heap.size w W := by rw [hW]; exact bnext b1 b2
      have pa : W.cell? ⟨w.heap.size, 0, none⟩ = some (.slice a ss'.length cap) := by rw [hW]; exact ((Obj2.new w _ _ _).keep b2).c0
      have pb : W.cell? ⟨w.heap.size + 1, 0, none⟩ = some (.slice a' ss'.length cap') := by rw [hW, ← s1]; exact (Obj2.new _ _ _ _).c0
      have hbc : ∀ b o, b < w.heap.size → W.cell? ⟨b, o, none⟩ = w.cell? ⟨b, o, none⟩ := fun b o hlt => bW.cell (p := ⟨b, o, none⟩) hlt
      have HBC := hid hbc
      have sW : W.heap.size = w.heap.size + 2 := by rw [hW]; show ((w.heap.push _).push _).size = _; rw [Array.size_push, Array.size_push]
      have hl1 : w.heap.size + 1 < W.heap.size := by omega
      rw [← hW]
      clear hW b1 b2 s1 sW hbc
      go_loopw [5] (fun i wr => ∃ k : Nat, k ≤ ss.length ∧ i = .int .i64 k ∧ ss.take k = ss'.take k ∧ Below W.heap.size W wr) (fun i _ => ss.length - (intOf i).toNat)
      case atStart => exact ⟨0, by omega, rfl, rfl, Below.refl _ _⟩
      case round =>
        obtain ⟨k, hk, rfl, hall, hb⟩ := hrel
        have hpa := (hb.cell (p := ⟨w.heap.size, 0, none⟩) (by show w.heap.size < _; omega)).trans pa
        have hpb := (hb.cell (p := ⟨w.heap.size + 1, 0, none⟩) (by show w.heap.size + 1 < _; omega)).trans pb
        by_cases hlt : k < ss.length
        · obtain ⟨b, off, rfl, hblt, hc⟩ := C1.out.resolve_left (by omega)
          obtain ⟨b', off', rfl, hblt', hc'⟩ := C2.out.resolve_left (by omega)
          have hbc : ∀ b o, b < w.heap.size → wr.cell? ⟨b, o, none⟩ = w.cell? ⟨b, o, none⟩ := fun b o hl => (hb.cell (p := ⟨b, o, none⟩) (by show b < _; omega)).trans (HBC.out b o hl)
          have ha0 : wr.cell? ⟨b, off + k * 6, none⟩ = some (.int .i64 ss[k].1) := (hbc b (off + k * 6 + 0) hblt).trans (st_cell hc k 0 (by decide) hlt _ rfl)
          have ha1 : wr.cell? ⟨b, off + k * 6 + 1, none⟩ = some (.string ⟨ss[k].2.1.toArray⟩) := (hbc b (off + k * 6 + 1) hblt).trans (st_cell hc k 1 (by decide) hlt _ rfl)
          have ha2 : wr.cell? ⟨b, off + k * 6 + 2, none⟩ = some (.string ⟨ss[k].2.2.1.toArray⟩) := (hbc b (off + k * 6 + 2) hblt).trans (st_cell hc k 2 (by decide) hlt _ rfl)
          have ha3 : wr.cell? ⟨b, off + k * 6 + 3, none⟩ = some (.int .i64 ss[k].2.2.2.1) := (hbc b (off + k * 6 + 3) hblt).trans (st_cell hc k 3 (by decide) hlt _ rfl)
          have ha4 : wr.cell? ⟨b, off + k * 6 + 4, none⟩ = some (.int .i64 ss[k].2.2.2.2.1) := (hbc b (off + k * 6 + 4) hblt).trans (st_cell hc k 4 (by decide) hlt _ rfl)
          have ha5 : wr.cell? ⟨b, off + k * 6 + 5, none⟩ = some (.int .i64 ss[k].2.2.2.2.2) := (hbc b (off + k * 6 + 5) hblt).trans (st_cell hc k 5 (by decide) hlt _ rfl)
          have hb0 : wr.cell? ⟨b', off' + k * 6, none⟩ = some (.int .i64 ss'[k].1) := (hbc b' (off' + k * 6 + 0) hblt').trans (st_cell hc' k 0 (by decide) (by omega) _ rfl)
          have hb1 : wr.cell? ⟨b', off' + k * 6 + 1, none⟩ = some (.string ⟨ss'[k].2.1.toArray⟩) := (hbc b' (off' + k * 6 + 1) hblt').trans (st_cell hc' k 1 (by decide) (by omega) _ rfl)
          have hb2 : wr.cell? ⟨b', off' + k * 6 + 2, none⟩ = some (.string ⟨ss'[k].2.2.1.toArray⟩) := (hbc b' (off' + k * 6 + 2) hblt').trans (st_cell hc' k 2 (by decide) (by omega) _ rfl)
          have hb3 : wr.cell? ⟨b', off' + k * 6 + 3, none⟩ = some (.int .i64 ss'[k].2.2.2.1) := (hbc b' (off' + k * 6 + 3) hblt').trans (st_cell hc' k 3 (by decide) (by omega) _ rfl)
          have hb4 : wr.cell? ⟨b', off' + k * 6 + 4, none⟩ = some (.int .i64 ss'[k].2.2.2.2.1) := (hbc b' (off' + k * 6 + 4) hblt').trans (st_cell hc' k 4 (by decide) (by omega) _ rfl)
          have hb5 : wr.cell? ⟨b', off' + k * 6 + 5, none⟩ = some (.int .i64 ss'[k].2.2.2.2.2) := (hbc b' (off' + k * 6 + 5) hblt').trans (st_cell hc' k 5 (by decide) (by omega) _ rfl)
          clear hc hc' hbc
          have hlt' : k < ss'.length := by omega
          have hI : (k : Int) < (ss'.length : Int) := by omega
          have hA := hid hall
          clear hall
          by_cases hx : ss[k] = ss'[k]
          · have hsn : ss.take (k + 1) = ss'.take (k + 1) := by rw [List.take_succ_eq_append_getElem hlt, List.take_succ_eq_append_getElem hlt', hA.out, hx]
            have HSn := hid hsn
            clear hsn
            rw [hx] at ha0 ha1 ha2 ha3 ha4 ha5
            clear hx
            generalize ss'[k] = y at *
            go_wp2_with fail
            go_quiet (fail)
            go_wp2_with fail
            go_roundw
            case rel => exact ⟨k + 1, by omega, by go_num, HSn.out, bnext hb (below_drewN _ _ _)⟩
            case measure => simp [intOf]; omega
          · have hne : ¬ (ss = ss') := fun h => hx (by simp [h])
            have hv : decide (lim = lim ∧ ss = ss') = false := decide_eq_false (fun h => hne h.2)
            have HV := hid hv
            have HN := hid hne
            have HX := hid hx
            clear hv hne hx
            generalize ss[k] = x at *
            generalize ss'[k] = y at *
            obtain ⟨x1, x2, x3, x4, x5, x6⟩ := x
            obtain ⟨y1, y2, y3, y4, y5, y6⟩ := y
            simp only at ha0 ha1 ha2 ha3 ha4 ha5 hb0 hb1 hb2 hb3 hb4 hb5
            by_cases q1 : x1 = y1
            · subst q1
              by_cases q2 : x2 = y2
              · subst q2
                by_cases q3 : x3 = y3
                · subst q3
                  by_cases q4 : x4 = y4
                  · subst q4
                    by_cases q5 : x5 = y5
                    · subst q5
                      by_cases q6 : x6 = y6
                      · subst q6
                        exact absurd rfl HX.out
                      · have e6 : (x6 == y6) = false := by simpa using q6
                        clear q6 HX
                        go_wp2_with fail
                        go_quiet (fail)
                        go_wp2_with fail
                        go_ret
                        exact ⟨by first | rfl | (rw [HV.out]; rfl) | (simp only [HN.out, and_false, decide_false]; rfl), bnext bW (bnext hb (below_drewN _ _ _))⟩
                    · have e5 : (x5 == y5) = false := by simpa using q5
                      clear q5 HX
                      go_wp2_with fail
                      go_quiet (fail)
                      go_wp2_with fail
                      go_ret
                      exact ⟨by first | rfl | (rw [HV.out]; rfl) | (simp only [HN.out, and_false, decide_false]; rfl), bnext bW (bnext hb (below_drewN _ _ _))⟩
                  · have e4 : (x4 == y4) = false := by simpa using q4
                    clear q4 HX
                    go_wp2_with fail
                    go_quiet (fail)
                    go_wp2_with fail
                    go_ret
                    exact ⟨by first | rfl | (rw [HV.out]; rfl) | (simp only [HN.out, and_false, decide_false]; rfl), bnext bW (bnext hb (below_drewN _ _ _))⟩
                · have e3 : (x3 == y3) = false := by simpa using q3
                  clear q3 HX
                  go_wp2_with fail
                  go_quiet (fail)
                  go_wp2_with fail
                  go_ret
                  exact ⟨by first | rfl | (rw [HV.out]; rfl) | (simp only [HN.out, and_false, decide_false]; rfl), bnext bW (bnext hb (below_drewN _ _ _))⟩
              · have e2 : (x2 == y2) = false := by simpa using q2
                clear q2 HX
                go_wp2_with fail
                go_quiet (fail)
                go_wp2_with fail
                go_ret
                exact ⟨by first | rfl | (rw [HV.out]; rfl) | (simp only [HN.out, and_false, decide_false]; rfl), bnext bW (bnext hb (below_drewN _ _ _))⟩
            · have e1 : (x1 == y1) = false := by simpa using q1
              clear q1 HX
              go_wp2_with fail
              go_quiet (fail)
              go_wp2_with fail
              go_ret
              exact ⟨by first | rfl | (rw [HV.out]; rfl) | (simp only [HN.out, and_false, decide_false]; rfl), bnext bW (bnext hb (below_drewN _ _ _))⟩
        · obtain rfl : k = ss.length := by omega
          have he : ss = ss' := by
            rw [List.take_of_length_le (Nat.le_refl _), List.take_of_length_le (by omega)] at hall
            exact hall
          have HE := hid he
          have hv : decide (lim = lim ∧ ss = ss') = true := decide_eq_true ⟨rfl, he⟩
          have HV := hid hv
          have hI : ¬ (ss.length : Int) < (ss'.length : Int) := by omega
          clear hv he hall
          go_wp2_with fail
          go_ret
          exact ⟨by first | rfl | (rw [HV.out]; rfl) | (simp only [HE.out, decide_true]; rfl), bnext bW hb⟩
    · have hv : decide (lim = lim ∧ ss = ss') = false := decide_eq_false (fun h => h2 (by rw [h.2]))
      have e1 : ((ss.length : Int) == (ss'.length : Int)) = false := by simpa using (show (ss.length : Int) ≠ (ss'.length : Int) by omega)
      rw [hv]
      clear hv
      go_enter Try.func33, Try.ntmps33
      go_wp2_with fail
      go_ret
      exact ⟨rfl, ((Below.refl _ _).alloc (Nat.le_refl _) _).alloc (by simp) _⟩
  · have hv : decide (lim = lim' ∧ ss = ss') = false := decide_eq_false (fun h => h1 h.1)
    have e1 : (lim == lim') = false := by simpa using h1
    rw [hv]
    clear hv
    go_enter Try.func33, Try.ntmps33
    go_wp2_with fail
    go_ret
    exact ⟨rfl, ((Below.refl _ _).alloc (Nat.le_refl _) _).alloc (by simp) _⟩
end Go.Proofs.Ytckpfcocbjfcbaa
