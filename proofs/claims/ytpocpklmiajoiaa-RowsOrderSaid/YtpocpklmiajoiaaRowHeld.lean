/- CONTRACTS: rows.Held; the reference's Held. -/
import Derived.Test.YtpocpklmiajoiaaRowTask
namespace Go.Proofs.Ytpocpklmiajoiaa
open Go.RowKit
set_option linter.unusedVariables false

theorem held_no {n : Int} {h : List UInt8} (q : ¬ HeldP n h) : encHV n h = [] ∧ hdV n h = 1 := by
  unfold encHV hdV; rw [if_neg q, if_neg q]; exact ⟨rfl, rfl⟩
set_option maxHeartbeats 1600000 in
theorem held_any (n : Int) (h : List UInt8) (hn : h.length ≤ maxLen) (w : World) : Calls Try.prog 21 #[.int .i64 n, .string ⟨h.toArray⟩] w fun e w' => e = .returned (.tuple #[.string ⟨(encHV n h).toArray⟩, .int .i64 (hdV n h)]) ∧ Below w.heap.size w w' := by
  by_cases c1 : n < 1
  · have hv : encHV n h = [] ∧ hdV n h = 1 := held_no (fun q => by have := q.1; omega)
    rw [hv.1, hv.2]
    clear hv
    go_enter Try.func21, Try.ntmps21
    go_wp2_with fail
    go_ret2
    exact ⟨rfl, Below.refl _ _⟩
  · by_cases c2 : 2147483647 < n
    · have hv : encHV n h = [] ∧ hdV n h = 1 := held_no (fun q => by have := q.1; omega)
      rw [hv.1, hv.2]
      clear hv
      go_enter Try.func21, Try.ntmps21
      go_wp2_with fail
      go_ret2
      exact ⟨rfl, Below.refl _ _⟩
    · by_cases c3 : NamedP h
      · have hp : HeldP n h := ⟨⟨by omega, by omega⟩, c3⟩
        have hd : decide (NamedP h) = true := decide_eq_true c3
        have hnl := c3.2.1
        obtain ⟨n, rfl⟩ := Int.eq_ofNat_of_zero_le (show 0 ≤ n by omega)
        have hE : encHV (n : Int) h = putL n ++ textL h := by
          unfold encHV encH
          rw [if_pos hp, Int.toNat_natCast]
        have hv : hdV (n : Int) h = 0 := by unfold hdV; rw [if_pos hp]
        rw [hE, hv]
        have un : U64 n := by unfold U64; omega
        have g1 := textL_len hnl
        have g2 := putL_len10 (n := n) (by unfold U64; omega)
        have f1 := fun w => run_cat (P := Try.prog) w (putL n) (textL h) (by omega)
        clear hp hE hv g1 g2 c3
        go_enter Try.func21, Try.ntmps21
        go_wp2_with fail
        refine (named_any h hn _).mono ?_
        rintro _ w9 ⟨rfl, hw9⟩
        rw [hw9, hd]
        clear hw9 w9
        go_wp2_with fail
        refine (put_any n un _).mono ?_
        rintro _ w1 ⟨rfl, b1⟩
        go_wp2_with fail
        refine (text_any h (by omega) _).mono ?_
        rintro _ w2 ⟨rfl, b2⟩
        have b3 := bnext b1 b2
        go_wp2_with fail
        go_ret2
        exact ⟨rfl, b3⟩
      · have hd : decide (NamedP h) = false := decide_eq_false c3
        have hv : encHV n h = [] ∧ hdV n h = 1 := held_no (fun q => c3 q.2)
        rw [hv.1, hv.2]
        clear hv
        go_enter Try.func21, Try.ntmps21
        go_wp2_with fail
        refine (named_any h hn _).mono ?_
        rintro _ w9 ⟨rfl, hw9⟩
        rw [hw9, hd]
        clear hw9 w9
        go_wp2_with fail
        go_ret2
        exact ⟨rfl, Below.refl _ _⟩
set_option maxHeartbeats 1600000 in
theorem rheld_any (n : Int) (h : List UInt8) (hn : h.length ≤ maxLen) (w : World) : Calls Try.prog 22 #[.int .i64 n, .string ⟨h.toArray⟩] w fun e w' => e = .returned (.tuple #[.string ⟨(encHV n h).toArray⟩, .int .i64 (hdV n h)]) ∧ Below w.heap.size w w' := by
  by_cases c1 : n < 1
  · have hv : encHV n h = [] ∧ hdV n h = 1 := held_no (fun q => by have := q.1; omega)
    rw [hv.1, hv.2]
    clear hv
    go_enter Try.func22, Try.ntmps22
    go_wp2_with fail
    go_ret2
    exact ⟨rfl, Below.refl _ _⟩
  · by_cases c2 : 2147483647 < n
    · have hv : encHV n h = [] ∧ hdV n h = 1 := held_no (fun q => by have := q.1; omega)
      rw [hv.1, hv.2]
      clear hv
      go_enter Try.func22, Try.ntmps22
      go_wp2_with fail
      go_ret2
      exact ⟨rfl, Below.refl _ _⟩
    · by_cases c3 : NamedP h
      · have hp : HeldP n h := ⟨⟨by omega, by omega⟩, c3⟩
        have hd : decide (NamedP h) = true := decide_eq_true c3
        have hnl := c3.2.1
        obtain ⟨n, rfl⟩ := Int.eq_ofNat_of_zero_le (show 0 ≤ n by omega)
        have hE : encHV (n : Int) h = putL n ++ textL h := by
          unfold encHV encH
          rw [if_pos hp, Int.toNat_natCast]
        have hv : hdV (n : Int) h = 0 := by unfold hdV; rw [if_pos hp]
        rw [hE, hv]
        have un : n ≤ 2147483647 := by omega
        have g1 := textL_len hnl
        have g2 := putL_len10 (n := n) (by unfold U64; omega)
        have f1 := fun w => run_cat (P := Try.prog) w (putL n) (textL h) (by omega)
        clear hp hE hv g1 g2 c3
        go_enter Try.func22, Try.ntmps22
        go_wp2_with fail
        refine (rnamed_any h hn _).mono ?_
        rintro _ w9 ⟨rfl, hw9⟩
        rw [hw9, hd]
        clear hw9 w9
        go_wp2_with fail
        refine (rint_natR n un _).mono ?_
        rintro _ w1 ⟨rfl, b1⟩
        go_wp2_with fail
        refine (rtext_any h (by omega) _).mono ?_
        rintro _ w2 ⟨rfl, b2⟩
        have b3 := bnext b1 b2
        go_wp2_with fail
        go_ret2
        exact ⟨rfl, b3⟩
      · have hd : decide (NamedP h) = false := decide_eq_false c3
        have hv : encHV n h = [] ∧ hdV n h = 1 := held_no (fun q => c3 q.2)
        rw [hv.1, hv.2]
        clear hv
        go_enter Try.func22, Try.ntmps22
        go_wp2_with fail
        refine (rnamed_any h hn _).mono ?_
        rintro _ w9 ⟨rfl, hw9⟩
        rw [hw9, hd]
        clear hw9 w9
        go_wp2_with fail
        go_ret2
        exact ⟨rfl, Below.refl _ _⟩
end Go.Proofs.Ytpocpklmiajoiaa
