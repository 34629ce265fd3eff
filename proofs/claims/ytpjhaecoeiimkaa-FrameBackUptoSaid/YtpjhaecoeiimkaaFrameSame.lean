/- CONTRACT: wherryref02.Same; the walk of FrameNexts. -/
import Derived.Test.YtpjhaecoeiimkaaFrameScan
namespace Go.Proofs.Ytpjhaecoeiimkaa
open Go.RowKit

theorem drewN_two (w : World) (n m : Nat) : (w.drewN n).drewN m = w.drewN (n + m) := by
  induction m with
  | zero => rfl
  | succ m ih => rw [← Nat.add_assoc]; exact congrArg World.drew ih
theorem Sl.drewN {w : World} {v : Value} {k n : Nat} {cells : List Value} (h : Sl w v k n cells) (m : Nat) : Sl (w.drewN m) v k n cells := h.below (below_drewN _ _ _)

set_option maxHeartbeats 1600000 in
theorem same_any (w : World) (a b : Value) (xs ys : List (List UInt8)) (ha : Sl w a 1 xs.length (xs.map strV)) (hb : Sl w b 1 ys.length (ys.map strV)) :
    Calls Try.prog 43 #[a, b] w fun e w' => e = .returned (.bool (decide (xs = ys))) ∧ ∃ n, w' = w.drewN n := by
  obtain ⟨hla, ⟨hma, hna⟩, ada, capa, rfl, hca⟩ := ha
  obtain ⟨hlb, ⟨hmb, hnb⟩, adb, capb, rfl, hcb⟩ := hb
  unfold maxLen at hma hmb
  by_cases hl : xs.length = ys.length
  · have hl' : ((xs.length : Int) == (ys.length : Int)) = true := by rw [beq_iff_eq]; omega
    have HA := hid hca
    have HB := hid hcb
    have HV : Hid (∀ k, xs.take k = ys.take k → k = xs.length → decide (xs = ys) = true) := fun k hk e => by
      subst e; rw [List.take_of_length_le (Nat.le_refl _), hl, List.take_of_length_le (Nat.le_refl _)] at hk; simpa using hk
    have HN : Hid (∀ k (h1 : k < xs.length) (h2 : k < ys.length), xs[k] ≠ ys[k] → decide (xs = ys) = false) := fun k h1 h2 h => decide_eq_false (fun e => h (by subst e; rfl))
    generalize decide (xs = ys) = d at HV HN ⊢
    clear hca hcb hla hlb hna hnb
    go_enter Try.func43, Try.ntmps43
    go_wp2_with fail
    go_loopw [5] (fun i wr => ∃ k n : Nat, i = .int .i64 k ∧ k ≤ xs.length ∧ wr = w.drewN n ∧ Hid (xs.take k = ys.take k)) (fun i _ => xs.length - (intOf i).toNat)
    case atStart => exact ⟨0, 0, rfl, by omega, rfl, hid rfl⟩
    case round =>
      obtain ⟨k, n, rfl, hk, hwr, ht⟩ := hrel
      by_cases hlt : k < xs.length
      · obtain ⟨ba, oa, rfl, hba, hca⟩ := HA.out.resolve_left (by omega)
        obtain ⟨bb, ob, rfl, hbb, hcb⟩ := HB.out.resolve_left (by omega)
        have c1 : wr.cell? ⟨ba, oa + k, none⟩ = some (.string ⟨(xs[k]'hlt).toArray⟩) := by subst hwr; have := hca k (by simpa using hlt); simp only [List.getElem_map] at this; exact this
        have c2 : wr.cell? ⟨bb, ob + k, none⟩ = some (.string ⟨(ys[k]'(by omega)).toArray⟩) := by subst hwr; have := hcb k (by simp; omega); simp only [List.getElem_map] at this; exact this
        clear hca hcb HA HB
        by_cases he : xs[k]'hlt = ys[k]'(by omega)
        · have h0 : (xs[k]'hlt == ys[k]'(by omega)) = true := by simpa using he
          have hn : xs.take (k + 1) = ys.take (k + 1) := by
            rw [List.take_add_one, List.take_add_one, List.getElem?_eq_getElem hlt, List.getElem?_eq_getElem (show k < ys.length by omega), ht.out, he]
          have HNX := hid hn
          have HWR := hid hwr
          clear hn hwr he ht
          go_wp2_with fail
          go_quiet (fail)
          go_wp2_with fail
          go_roundw
          case rel => exact ⟨k + 1, _, by go_num, by omega, by rw [HWR.out, drewN_two], HNX⟩
          case measure => simp [intOf]; omega
        · have h0 : (xs[k]'hlt == ys[k]'(by omega)) = false := by simpa using he
          have hd := HN.out k hlt (by omega) he
          subst hd
          have HWR := hid hwr
          clear hwr he ht
          go_wp2_with fail
          go_quiet (fail)
          go_wp2_with fail
          go_ret
          exact ⟨rfl, _, by rw [HWR.out, drewN_two]⟩
      · have hd := HV.out k ht.out (by omega)
        subst hd
        subst hwr
        go_wp2_with fail
        go_ret
        exact ⟨rfl, n, rfl⟩
  · have hv : decide (xs = ys) = false := decide_eq_false (fun h => hl (by rw [h]))
    rw [hv]
    clear hv
    go_enter Try.func43, Try.ntmps43
    have hl' : ((xs.length : Int) == (ys.length : Int)) = false := by rw [beq_eq_false_iff_ne]; omega
    go_wp2_with fail
    go_ret
    exact ⟨rfl, 0, rfl⟩

set_option maxHeartbeats 1600000 in
theorem frameNexts_walk (l : List UInt8) (_hl : l.length ≤ 140737488351232) (w : World) (hs : l.length ≤ 1048576) :
    Calls Try.prog 11 #[.string ⟨l.toArray⟩] w fun e w' => e = .returned (.bool true) ∧ Below w.heap.size w w' := by
  have c1 := next_any l (by unfold maxLen; omega)
  have c2 := rnext_any l (by unfold maxLen; omega)
  have c3 := scan_any l (by omega)
  have c4 := rscan_any l (by omega)
  generalize nextF l = N at c1 c2
  generalize scanL l = S at c3 c4
  go_enter Try.func11, Try.ntmps11
  go_wp2_with fail
  refine (fawake_any _).mono ?_
  rintro e w1 ⟨rfl, hb1⟩
  go_wp2_with fail
  refine (c1 _).mono ?_
  rintro e w2 ⟨rfl, hb2⟩
  go_wp2_with fail
  refine (c2 _).mono ?_
  rintro e w3 ⟨rfl, hb3⟩
  go_wp2_with fail
  refine (c3 _).mono ?_
  rintro e w4 ⟨v1, rfl, ho1, hn1, hb4⟩
  go_wp2_with fail
  refine (c4 _).mono ?_
  rintro e w5 ⟨v2, rfl, ho2, hn2, hb5⟩
  have s1 := (ho1.keep hb5).sl (by simp; unfold maxLen; omega)
  have s2 := ho2.sl (by simp; unfold maxLen; omega)
  rw [List.length_map] at s1 s2
  go_wp2_with fail
  refine (same_any _ _ _ _ _ s1 s2).mono ?_
  rintro e w6 ⟨rfl, n, rfl⟩
  go_wp2_with fail
  go_ret
  exact ⟨rfl, bnext (bnext (bnext (bnext (bnext hb1 hb2) hb3) hb4) hb5) (below_drewN _ _ _)⟩
end Go.Proofs.Ytpjhaecoeiimkaa
