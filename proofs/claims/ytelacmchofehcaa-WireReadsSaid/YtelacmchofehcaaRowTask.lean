/- CONTRACTS: rows.Task; the reference's Task. -/
import Derived.Test.YtelacmchofehcaaRowPlain
import Derived.Test.YtelacmchofehcaaPgmNamed
import Derived.Test.YtelacmchofehcaaHeld
import Derived.Deep.RegionHeld3
import Derived.Deep.QuietTactic
import Derived.BigQuiet
namespace Go.Proofs.Ytelacmchofehcaa
open Go.RowKit
set_option linter.unusedVariables false

def tkV' (x : Tk) : Value := .agg #[.int .i64 x.1, .string ⟨x.2.1.toArray⟩, .int .i64 x.2.2.1, .int .i64 x.2.2.2]
theorem rint_natR (n : Nat) (hn : n ≤ 2147483647) (w : World) :
    Calls Try.prog 38 #[.int .i64 n] w fun e w' => e = .returned (.string ⟨(putL n).toArray⟩) ∧ Below w.heap.size w w' := by
  have := rint_any n (by omega) (by omega) w
  rw [Int.toNat_natCast] at this
  exact this
theorem task_no {x : Tk} (h : ¬ TaskP x) : encTV x = [] ∧ tkV x = 1 := by
  unfold encTV tkV; rw [if_neg h, if_neg h]; exact ⟨rfl, rfl⟩
set_option maxHeartbeats 3200000 in
set_option maxRecDepth 100000 in
theorem task_any (k : Int) (n : List UInt8) (r t : Int) (hn : n.length ≤ maxLen) (w : World) : Calls Try.prog 32 #[.agg #[.int .i64 k, .string ⟨n.toArray⟩, .int .i64 r, .int .i64 t]] w fun e w' => e = .returned (.tuple #[.string ⟨(encTV (k, n, r, t)).toArray⟩, .int .i64 (tkV (k, n, r, t))]) ∧ Below w.heap.size w w' := by
  by_cases c1 : k < 1
  · have hv : encTV (k, n, r, t) = [] ∧ tkV (k, n, r, t) = 1 := task_no (fun h => by have := h.1; simp only at this; omega)
    rw [hv.1, hv.2]
    clear hv
    go_enter Try.func32, Try.ntmps32
    go_wp2_with fail
    go_ret2
    exact ⟨rfl, (Below.refl _ _).alloc (Nat.le_refl _) _⟩
  · by_cases c2 : 7 < k
    · have hv : encTV (k, n, r, t) = [] ∧ tkV (k, n, r, t) = 1 := task_no (fun h => by have := h.1; simp only at this; omega)
      rw [hv.1, hv.2]
      clear hv
      go_enter Try.func32, Try.ntmps32
      go_wp2_with fail
      go_ret2
      exact ⟨rfl, (Below.refl _ _).alloc (Nat.le_refl _) _⟩
    · by_cases c3 : NamedP n
      · have hd : decide (NamedP n) = true := decide_eq_true c3
        have HN := hid c3
        clear c3
        by_cases c4 : r < 0
        · have hv : encTV (k, n, r, t) = [] ∧ tkV (k, n, r, t) = 1 := task_no (fun h => by have := h.2.2.1; simp only at this; omega)
          rw [hv.1, hv.2]
          clear hv
          go_enter Try.func32, Try.ntmps32
          go_wp2_with fail
          refine (named_any n hn _).mono ?_
          rintro _ w9 ⟨rfl, hw9⟩
          rw [hw9, hd]
          clear hw9 w9
          go_wp2_with fail
          go_ret2
          exact ⟨rfl, (Below.refl _ _).alloc (Nat.le_refl _) _⟩
        · by_cases c5 : 500 < r
          · have hv : encTV (k, n, r, t) = [] ∧ tkV (k, n, r, t) = 1 := task_no (fun h => by have := h.2.2.1; simp only at this; omega)
            rw [hv.1, hv.2]
            clear hv
            go_enter Try.func32, Try.ntmps32
            go_wp2_with fail
            refine (named_any n hn _).mono ?_
            rintro _ w9 ⟨rfl, hw9⟩
            rw [hw9, hd]
            clear hw9 w9
            go_wp2_with fail
            go_ret2
            exact ⟨rfl, (Below.refl _ _).alloc (Nat.le_refl _) _⟩
          · by_cases c6 : t < 0
            · have hv : encTV (k, n, r, t) = [] ∧ tkV (k, n, r, t) = 1 := task_no (fun h => by have := h.2.2.2; simp only at this; omega)
              rw [hv.1, hv.2]
              clear hv
              go_enter Try.func32, Try.ntmps32
              go_wp2_with fail
              refine (named_any n hn _).mono ?_
              rintro _ w9 ⟨rfl, hw9⟩
              rw [hw9, hd]
              clear hw9 w9
              go_wp2_with fail
              go_ret2
              exact ⟨rfl, (Below.refl _ _).alloc (Nat.le_refl _) _⟩
            · by_cases c7 : 5 < t
              · have hv : encTV (k, n, r, t) = [] ∧ tkV (k, n, r, t) = 1 := task_no (fun h => by have := h.2.2.2; simp only at this; omega)
                rw [hv.1, hv.2]
                clear hv
                go_enter Try.func32, Try.ntmps32
                go_wp2_with fail
                refine (named_any n hn _).mono ?_
                rintro _ w9 ⟨rfl, hw9⟩
                rw [hw9, hd]
                clear hw9 w9
                go_wp2_with fail
                go_ret2
                exact ⟨rfl, (Below.refl _ _).alloc (Nat.le_refl _) _⟩
              · have hp : TaskP (k, n, r, t) := ⟨⟨by simp only; omega, by simp only; omega⟩, HN.out, ⟨by simp only; omega, by simp only; omega⟩, ⟨by simp only; omega, by simp only; omega⟩⟩
                have hnl := HN.out.2.1
                obtain ⟨k, rfl⟩ := Int.eq_ofNat_of_zero_le (show 0 ≤ k by omega)
                obtain ⟨r, rfl⟩ := Int.eq_ofNat_of_zero_le (show 0 ≤ r by omega)
                obtain ⟨t, rfl⟩ := Int.eq_ofNat_of_zero_le (show 0 ≤ t by omega)
                have hE : encTV ((k : Int), n, (r : Int), (t : Int)) = putL k ++ (textL n ++ (putL r ++ putL t)) := by
                  unfold encTV encT
                  rw [if_pos hp]
                  simp only [Int.toNat_natCast]
                have hv : tkV ((k : Int), n, (r : Int), (t : Int)) = 0 := by unfold tkV; rw [if_pos hp]
                rw [hE, hv]
                have uk : U64 k := by unfold U64; omega
                have ur : U64 r := by unfold U64; omega
                have ut : U64 t := by unfold U64; omega
                have g1 := textL_len hnl
                have g2 := putL_len10' k (by omega)
                have g3 := putL_len10' r (by omega)
                have g4 := putL_len10' t (by omega)
                have f1 := fun w => run_cat (P := Try.prog) w (putL k) (textL n) (by omega)
                have f2 := fun w => run_cat (P := Try.prog) w (putL k ++ textL n) (putL r) (by simp only [List.length_append]; omega)
                have f3 := fun w => run_cat (P := Try.prog) w (putL k ++ (textL n ++ putL r)) (putL t) (by simp only [List.length_append]; omega)
                clear hp hE hv g1 g2 g3 g4
                obtain ⟨W, hW⟩ : ∃ W, W = w.alloc (.cells #[.int .i64 k, .string ⟨n.toArray⟩, .int .i64 r, .int .i64 t] 30) := ⟨_, rfl⟩
                have bW : Below w.heap.size w W := by rw [hW]; exact (Below.refl _ _).alloc (Nat.le_refl _) _
                have hC : W.heap[w.heap.size]? = some (.cells #[.int .i64 k, .string ⟨n.toArray⟩, .int .i64 r, .int .i64 t] 30 (0, 0)) := by rw [hW]; exact heap_alloc_new w _
                have hl4 : w.heap.size < W.heap.size := (Array.getElem?_eq_some_iff.1 hC).1
                have x0 : W.cell? ⟨w.heap.size, 0, none⟩ = some (.int .i64 k) := by rw [cell_of_row W _ 0 _ _ (0, 0) hC]; rfl
                have x1 : W.cell? ⟨w.heap.size, 1, none⟩ = some (.string ⟨n.toArray⟩) := by rw [cell_of_row W _ 1 _ _ (0, 0) hC]; rfl
                have x2 : W.cell? ⟨w.heap.size, 2, none⟩ = some (.int .i64 r) := by rw [cell_of_row W _ 2 _ _ (0, 0) hC]; rfl
                have x3 : W.cell? ⟨w.heap.size, 3, none⟩ = some (.int .i64 t) := by rw [cell_of_row W _ 3 _ _ (0, 0) hC]; rfl
                have HX := hid hW
                clear hW hC
                go_enter Try.func32, Try.ntmps32
                go_wp2_with fail
                rw [← HX.out]
                refine (named_any n hn _).mono ?_
                rintro _ w9 ⟨rfl, hw9⟩
                rw [hw9, hd]
                clear hw9 w9
                go_wp2_with fail
                have hkeep := fun w' w'' h k => held4 (A := ⟨w.heap.size, 0, none⟩) (C := ⟨w.heap.size, 1, none⟩) (D := ⟨w.heap.size, 2, none⟩) (E := ⟨w.heap.size, 3, none⟩) hl4 hl4 hl4 hl4 x0 x1 x2 x3 (w' := w') (w'' := w'') h k
                go_region_held3 (fun w' => Below W.heap.size W w' ∧ w'.cell? ⟨w.heap.size, 0, none⟩ = some (.int .i64 k) ∧ w'.cell? ⟨w.heap.size, 1, none⟩ = some (.string ⟨n.toArray⟩) ∧ w'.cell? ⟨w.heap.size, 2, none⟩ = some (.int .i64 r) ∧ w'.cell? ⟨w.heap.size, 3, none⟩ = some (.int .i64 t)) (first | exact hS | exact ⟨below_drewN _ _ 1, x0, x1, x2, x3⟩)
                  (first | (go_at_call 22; refine (put_mod _ (by first | exact uk | exact ur | exact ut) _).mono ?_; rintro _ w5 ⟨rfl, hb5⟩; have hS := hkeep _ _ (by assumption) hb5) | (go_at_call 23; refine (text_any _ (by omega) _).mono ?_; rintro _ w5 ⟨rfl, hb5⟩; have hS := hkeep _ _ (by assumption) hb5))
                have hbf := bnext bW hS.1
                go_wp2_with fail
                go_ret2
                exact ⟨rfl, hbf⟩
      · have hd : decide (NamedP n) = false := decide_eq_false c3
        have hv : encTV (k, n, r, t) = [] ∧ tkV (k, n, r, t) = 1 := task_no (fun h => c3 h.2.1)
        rw [hv.1, hv.2]
        clear hv
        go_enter Try.func32, Try.ntmps32
        go_wp2_with fail
        refine (named_any n hn _).mono ?_
        rintro _ w9 ⟨rfl, hw9⟩
        rw [hw9, hd]
        clear hw9 w9
        go_wp2_with fail
        go_ret2
        exact ⟨rfl, (Below.refl _ _).alloc (Nat.le_refl _) _⟩
set_option maxHeartbeats 3200000 in
set_option maxRecDepth 100000 in
theorem rtask_any (k : Int) (n : List UInt8) (r t : Int) (hn : n.length ≤ maxLen) (w : World) : Calls Try.prog 42 #[.agg #[.int .i64 k, .string ⟨n.toArray⟩, .int .i64 r, .int .i64 t]] w fun e w' => e = .returned (.tuple #[.string ⟨(encTV (k, n, r, t)).toArray⟩, .int .i64 (tkV (k, n, r, t))]) ∧ Below w.heap.size w w' := by
  by_cases c1 : k < 1
  · have hv : encTV (k, n, r, t) = [] ∧ tkV (k, n, r, t) = 1 := task_no (fun h => by have := h.1; simp only at this; omega)
    rw [hv.1, hv.2]
    clear hv
    go_enter Try.func42, Try.ntmps42
    go_wp2_with fail
    go_ret2
    exact ⟨rfl, (Below.refl _ _).alloc (Nat.le_refl _) _⟩
  · by_cases c2 : 7 < k
    · have hv : encTV (k, n, r, t) = [] ∧ tkV (k, n, r, t) = 1 := task_no (fun h => by have := h.1; simp only at this; omega)
      rw [hv.1, hv.2]
      clear hv
      go_enter Try.func42, Try.ntmps42
      go_wp2_with fail
      go_ret2
      exact ⟨rfl, (Below.refl _ _).alloc (Nat.le_refl _) _⟩
    · by_cases c3 : NamedP n
      · have hd : decide (NamedP n) = true := decide_eq_true c3
        have HN := hid c3
        clear c3
        by_cases c4 : r < 0
        · have hv : encTV (k, n, r, t) = [] ∧ tkV (k, n, r, t) = 1 := task_no (fun h => by have := h.2.2.1; simp only at this; omega)
          rw [hv.1, hv.2]
          clear hv
          go_enter Try.func42, Try.ntmps42
          go_wp2_with fail
          refine (rnamed_any n hn _).mono ?_
          rintro _ w9 ⟨rfl, hw9⟩
          rw [hw9, hd]
          clear hw9 w9
          go_wp2_with fail
          go_ret2
          exact ⟨rfl, (Below.refl _ _).alloc (Nat.le_refl _) _⟩
        · by_cases c5 : 500 < r
          · have hv : encTV (k, n, r, t) = [] ∧ tkV (k, n, r, t) = 1 := task_no (fun h => by have := h.2.2.1; simp only at this; omega)
            rw [hv.1, hv.2]
            clear hv
            go_enter Try.func42, Try.ntmps42
            go_wp2_with fail
            refine (rnamed_any n hn _).mono ?_
            rintro _ w9 ⟨rfl, hw9⟩
            rw [hw9, hd]
            clear hw9 w9
            go_wp2_with fail
            go_ret2
            exact ⟨rfl, (Below.refl _ _).alloc (Nat.le_refl _) _⟩
          · by_cases c6 : t < 0
            · have hv : encTV (k, n, r, t) = [] ∧ tkV (k, n, r, t) = 1 := task_no (fun h => by have := h.2.2.2; simp only at this; omega)
              rw [hv.1, hv.2]
              clear hv
              go_enter Try.func42, Try.ntmps42
              go_wp2_with fail
              refine (rnamed_any n hn _).mono ?_
              rintro _ w9 ⟨rfl, hw9⟩
              rw [hw9, hd]
              clear hw9 w9
              go_wp2_with fail
              go_ret2
              exact ⟨rfl, (Below.refl _ _).alloc (Nat.le_refl _) _⟩
            · by_cases c7 : 5 < t
              · have hv : encTV (k, n, r, t) = [] ∧ tkV (k, n, r, t) = 1 := task_no (fun h => by have := h.2.2.2; simp only at this; omega)
                rw [hv.1, hv.2]
                clear hv
                go_enter Try.func42, Try.ntmps42
                go_wp2_with fail
                refine (rnamed_any n hn _).mono ?_
                rintro _ w9 ⟨rfl, hw9⟩
                rw [hw9, hd]
                clear hw9 w9
                go_wp2_with fail
                go_ret2
                exact ⟨rfl, (Below.refl _ _).alloc (Nat.le_refl _) _⟩
              · have hp : TaskP (k, n, r, t) := ⟨⟨by simp only; omega, by simp only; omega⟩, HN.out, ⟨by simp only; omega, by simp only; omega⟩, ⟨by simp only; omega, by simp only; omega⟩⟩
                have hnl := HN.out.2.1
                obtain ⟨k, rfl⟩ := Int.eq_ofNat_of_zero_le (show 0 ≤ k by omega)
                obtain ⟨r, rfl⟩ := Int.eq_ofNat_of_zero_le (show 0 ≤ r by omega)
                obtain ⟨t, rfl⟩ := Int.eq_ofNat_of_zero_le (show 0 ≤ t by omega)
                have hE : encTV ((k : Int), n, (r : Int), (t : Int)) = putL k ++ (textL n ++ (putL r ++ putL t)) := by
                  unfold encTV encT
                  rw [if_pos hp]
                  simp only [Int.toNat_natCast]
                have hv : tkV ((k : Int), n, (r : Int), (t : Int)) = 0 := by unfold tkV; rw [if_pos hp]
                rw [hE, hv]
                have uk : k ≤ 2147483647 := by omega
                have ur : r ≤ 2147483647 := by omega
                have ut : t ≤ 2147483647 := by omega
                have g1 := textL_len hnl
                have g2 := putL_len10' k (by omega)
                have g3 := putL_len10' r (by omega)
                have g4 := putL_len10' t (by omega)
                have f1 := fun w => run_cat (P := Try.prog) w (putL k) (textL n) (by omega)
                have f2 := fun w => run_cat (P := Try.prog) w (putL k ++ textL n) (putL r) (by simp only [List.length_append]; omega)
                have f3 := fun w => run_cat (P := Try.prog) w (putL k ++ (textL n ++ putL r)) (putL t) (by simp only [List.length_append]; omega)
                clear hp hE hv g1 g2 g3 g4
                obtain ⟨W, hW⟩ : ∃ W, W = w.alloc (.cells #[.int .i64 k, .string ⟨n.toArray⟩, .int .i64 r, .int .i64 t] 30) := ⟨_, rfl⟩
                have bW : Below w.heap.size w W := by rw [hW]; exact (Below.refl _ _).alloc (Nat.le_refl _) _
                have hC : W.heap[w.heap.size]? = some (.cells #[.int .i64 k, .string ⟨n.toArray⟩, .int .i64 r, .int .i64 t] 30 (0, 0)) := by rw [hW]; exact heap_alloc_new w _
                have hl4 : w.heap.size < W.heap.size := (Array.getElem?_eq_some_iff.1 hC).1
                have x0 : W.cell? ⟨w.heap.size, 0, none⟩ = some (.int .i64 k) := by rw [cell_of_row W _ 0 _ _ (0, 0) hC]; rfl
                have x1 : W.cell? ⟨w.heap.size, 1, none⟩ = some (.string ⟨n.toArray⟩) := by rw [cell_of_row W _ 1 _ _ (0, 0) hC]; rfl
                have x2 : W.cell? ⟨w.heap.size, 2, none⟩ = some (.int .i64 r) := by rw [cell_of_row W _ 2 _ _ (0, 0) hC]; rfl
                have x3 : W.cell? ⟨w.heap.size, 3, none⟩ = some (.int .i64 t) := by rw [cell_of_row W _ 3 _ _ (0, 0) hC]; rfl
                have HX := hid hW
                clear hW hC
                go_enter Try.func42, Try.ntmps42
                go_wp2_with fail
                rw [← HX.out]
                refine (rnamed_any n hn _).mono ?_
                rintro _ w9 ⟨rfl, hw9⟩
                rw [hw9, hd]
                clear hw9 w9
                go_wp2_with fail
                have hkeep := fun w' w'' h k => held4 (A := ⟨w.heap.size, 0, none⟩) (C := ⟨w.heap.size, 1, none⟩) (D := ⟨w.heap.size, 2, none⟩) (E := ⟨w.heap.size, 3, none⟩) hl4 hl4 hl4 hl4 x0 x1 x2 x3 (w' := w') (w'' := w'') h k
                go_region_held3 (fun w' => Below W.heap.size W w' ∧ w'.cell? ⟨w.heap.size, 0, none⟩ = some (.int .i64 k) ∧ w'.cell? ⟨w.heap.size, 1, none⟩ = some (.string ⟨n.toArray⟩) ∧ w'.cell? ⟨w.heap.size, 2, none⟩ = some (.int .i64 r) ∧ w'.cell? ⟨w.heap.size, 3, none⟩ = some (.int .i64 t)) (first | exact hS | exact ⟨below_drewN _ _ 1, x0, x1, x2, x3⟩)
                  (first | (go_at_call 38; refine (rint_natR _ (by first | exact uk | exact ur | exact ut) _).mono ?_; rintro _ w5 ⟨rfl, hb5⟩; have hS := hkeep _ _ (by assumption) hb5) | (go_at_call 39; refine (rtext_any _ (by omega) _).mono ?_; rintro _ w5 ⟨rfl, hb5⟩; have hS := hkeep _ _ (by assumption) hb5))
                have hbf := bnext bW hS.1
                go_wp2_with fail
                go_ret2
                exact ⟨rfl, hbf⟩
      · have hd : decide (NamedP n) = false := decide_eq_false c3
        have hv : encTV (k, n, r, t) = [] ∧ tkV (k, n, r, t) = 1 := task_no (fun h => c3 h.2.1)
        rw [hv.1, hv.2]
        clear hv
        go_enter Try.func42, Try.ntmps42
        go_wp2_with fail
        refine (rnamed_any n hn _).mono ?_
        rintro _ w9 ⟨rfl, hw9⟩
        rw [hw9, hd]
        clear hw9 w9
        go_wp2_with fail
        go_ret2
        exact ⟨rfl, (Below.refl _ _).alloc (Nat.le_refl _) _⟩
end Go.Proofs.Ytelacmchofehcaa
