/- CONTRACTS: a pair as bytes, of the program and of the reference. -/
import Derived.Test.YtfdbcnpbjabjoaaTabP
import Derived.Test.YtfdbcnpbjabjoaaVaryRPut
import Derived.Deep.RegionHeld3
namespace Go.Proofs.Ytfdbcnpbjabjoaa
open Go.RowKit
set_option linter.unusedVariables false
set_option linter.unusedSimpArgs false

def prV (p : Pr) : Value := .agg #[.string ⟨p.1.toArray⟩, .string ⟨p.2.1.toArray⟩, .bool p.2.2]
theorem put1 (n : Nat) (hn : n ≤ 8192) (w : World) : Calls Try.prog 42 #[.int .u64 (IntKind.u64.wrap (IntKind.u64.wrap (n : Int) + 1))] w fun e w' => e = .returned (.string ⟨(putL (n + 1)).toArray⟩) ∧ Below w.heap.size w w' := by
  have h1 : IntKind.u64.wrap (n : Int) = (n : Int) := wrap_u64 (by omega) (by omega)
  have h2 : IntKind.u64.wrap ((n : Int) + 1) = ((n + 1 : Nat) : Int) := by rw [wrap_u64 (by omega) (by omega)]; omega
  rw [h1, h2]
  exact put_any (n + 1) (by unfold U64; omega) w
theorem held3 {w2 w' w'' : World} {g : Nat} {x y z : Value} (hg : g < w2.heap.size) (h0 : w2.cell? ⟨g, 0, none⟩ = some x) (h1 : w2.cell? ⟨g, 1, none⟩ = some y) (h2 : w2.cell? ⟨g, 2, none⟩ = some z) (h : Below w2.heap.size w2 w') (k : Below w'.heap.size w' w'') :
    Below w2.heap.size w2 w'' ∧ w''.cell? ⟨g, 0, none⟩ = some x ∧ w''.cell? ⟨g, 1, none⟩ = some y ∧ w''.cell? ⟨g, 2, none⟩ = some z := by
  have hb := bnext h k
  exact ⟨hb, (hb.cell (p := ⟨g, 0, none⟩) hg).trans h0, (hb.cell (p := ⟨g, 1, none⟩) hg).trans h1, (hb.cell (p := ⟨g, 2, none⟩) hg).trans h2⟩
set_option maxHeartbeats 3200000 in
set_option maxRecDepth 100000 in
theorem pair_any (p : Pr) (hp : PrOk p) (w : World) : Calls Try.prog 37 #[prV p] w fun e w' => e = .returned (.string ⟨(pairL p).toArray⟩) ∧ Below w.heap.size w w' := by
  obtain ⟨k, v, g⟩ := p
  obtain ⟨-, hk6, hv8, -⟩ := hp
  simp only at hk6 hv8
  unfold prV
  simp only
  obtain ⟨w1, hw1⟩ : ∃ x, x = w.alloc (.cells #[.string ⟨k.toArray⟩, .string ⟨v.toArray⟩, .bool g] 70) := ⟨_, rfl⟩
  have b1 : Below w.heap.size w w1 := by rw [hw1]; exact (Below.refl _ _).alloc (Nat.le_refl _) _
  have hr : w1.heap[w.heap.size]? = some (.cells #[.string ⟨k.toArray⟩, .string ⟨v.toArray⟩, .bool g] 70 (0, 0)) := by rw [hw1]; exact heap_alloc_new w _
  have x0 : w1.cell? ⟨w.heap.size, 0, none⟩ = some (.string ⟨k.toArray⟩) := by rw [cell_of_row _ _ 0 _ _ (0, 0) hr]; rfl
  have x1 : w1.cell? ⟨w.heap.size, 1, none⟩ = some (.string ⟨v.toArray⟩) := by rw [cell_of_row _ _ 1 _ _ (0, 0) hr]; rfl
  have x2 : w1.cell? ⟨w.heap.size, 2, none⟩ = some (.bool g) := by rw [cell_of_row _ _ 2 _ _ (0, 0) hr]; rfl
  have hl := (Array.getElem?_eq_some_iff.1 hr).1
  have HW1 := hid hw1
  have B1 := hid b1
  clear hw1 b1 hr
  have h10 := putL_len10 (n := k.length) (by unfold U64; omega)
  have h11 := putL_len10 (n := v.length + 1) (by unfold U64; omega)
  have h12 := putL_len10 (n := 0) (by unfold U64; omega)
  have htl : (textL k).length ≤ 100 := by unfold textL; rw [List.length_append]; omega
  cases g with
  | true =>
    have hpl : pairL (k, v, true) = textL k ++ putL 0 := rfl
    rw [hpl]
    have hcat := fun w => run_cat (P := Try.prog) w (textL k) (putL 0) (by omega)
    go_enter Try.func37, Try.ntmps37
    go_wp2_with (rw [← HW1.out])
    refine (text_any k (by omega) w1).mono ?_
    rintro _ w2 ⟨rfl, b2⟩
    go_wp2_with fail
    refine (put_any 0 (by unfold U64; omega) w2).mono ?_
    rintro _ w3 ⟨rfl, b3⟩
    go_wp2_with fail
    go_ret
    exact ⟨rfl, bnext B1.out (bnext b2 b3)⟩
  | false =>
    have hpl : pairL (k, v, false) = textL k ++ (putL (v.length + 1) ++ v) := rfl
    rw [hpl]
    have hcat := fun w => run_cat (P := Try.prog) w (textL k) (putL (v.length + 1)) (by omega)
    have hcat2 := fun w => run_cat (P := Try.prog) w (textL k ++ putL (v.length + 1)) v (by rw [List.length_append]; omega)
    rw [List.append_assoc] at hcat2
    have hkeep := fun w' w'' h q => held3 hl x0 x1 x2 (w' := w') (w'' := w'') h q
    go_enter Try.func37, Try.ntmps37
    go_wp2_with (rw [← HW1.out])
    go_region_held3 (fun w' => Below w1.heap.size w1 w' ∧ w'.cell? ⟨w.heap.size, 0, none⟩ = some (.string ⟨k.toArray⟩) ∧ w'.cell? ⟨w.heap.size, 1, none⟩ = some (.string ⟨v.toArray⟩) ∧ w'.cell? ⟨w.heap.size, 2, none⟩ = some (.bool false)) (first | exact hS | exact ⟨below_drewN _ _ 1, x0, x1, x2⟩)
      (first | (go_at_call 40; refine (text_any k (by omega) _).mono ?_; rintro _ w3 ⟨rfl, hb3⟩; have hS := hkeep _ _ (by first | exact hS.1 | exact below_drewN _ _ 1) hb3) | (go_at_call 42; refine (put1 v.length hv8 _).mono ?_; rintro _ w3 ⟨rfl, hb3⟩; have hS := hkeep _ _ (by first | exact hS.1 | exact below_drewN _ _ 1) hb3))
    all_goals
      have HS := hid hS.1
      clear hS
      go_wp2_with fail
      go_ret
      exact ⟨rfl, bnext B1.out HS.out⟩
set_option maxHeartbeats 3200000 in
set_option maxRecDepth 100000 in
theorem rpair_any (p : Pr) (hp : PrOk p) (w : World) : Calls Try.prog 45 #[prV p] w fun e w' => e = .returned (.string ⟨(pairL p).toArray⟩) ∧ Below w.heap.size w w' := by
  obtain ⟨k, v, g⟩ := p
  obtain ⟨-, hk6, hv8, -⟩ := hp
  simp only at hk6 hv8
  unfold prV
  simp only
  obtain ⟨w1, hw1⟩ : ∃ x, x = w.alloc (.cells #[.string ⟨k.toArray⟩, .string ⟨v.toArray⟩, .bool g] 70) := ⟨_, rfl⟩
  have b1 : Below w.heap.size w w1 := by rw [hw1]; exact (Below.refl _ _).alloc (Nat.le_refl _) _
  have hr : w1.heap[w.heap.size]? = some (.cells #[.string ⟨k.toArray⟩, .string ⟨v.toArray⟩, .bool g] 70 (0, 0)) := by rw [hw1]; exact heap_alloc_new w _
  have x0 : w1.cell? ⟨w.heap.size, 0, none⟩ = some (.string ⟨k.toArray⟩) := by rw [cell_of_row _ _ 0 _ _ (0, 0) hr]; rfl
  have x1 : w1.cell? ⟨w.heap.size, 1, none⟩ = some (.string ⟨v.toArray⟩) := by rw [cell_of_row _ _ 1 _ _ (0, 0) hr]; rfl
  have x2 : w1.cell? ⟨w.heap.size, 2, none⟩ = some (.bool g) := by rw [cell_of_row _ _ 2 _ _ (0, 0) hr]; rfl
  have hl := (Array.getElem?_eq_some_iff.1 hr).1
  have HW1 := hid hw1
  have B1 := hid b1
  clear hw1 b1 hr
  have h10 := putL_len10 (n := k.length) (by unfold U64; omega)
  have h11 := putL_len10 (n := v.length + 1) (by unfold U64; omega)
  have h12 := putL_len10 (n := 0) (by unfold U64; omega)
  have htl : (textL k).length ≤ 100 := by unfold textL; rw [List.length_append]; omega
  cases g with
  | true =>
    have hpl : pairL (k, v, true) = textL k ++ putL 0 := rfl
    rw [hpl]
    have hcat := fun w => run_cat (P := Try.prog) w (textL k) (putL 0) (by omega)
    go_enter Try.func45, Try.ntmps45
    go_wp2_with (rw [← HW1.out])
    refine (rtext_any k (by omega) w1).mono ?_
    rintro _ w2 ⟨rfl, b2⟩
    go_wp2_with fail
    refine (rint_any 0 (by omega) (by omega) w2).mono ?_
    rintro _ w3 ⟨rfl, b3⟩
    go_wp2_with fail
    go_ret
    exact ⟨rfl, bnext B1.out (bnext b2 b3)⟩
  | false =>
    have hpl : pairL (k, v, false) = textL k ++ (putL (v.length + 1) ++ v) := rfl
    rw [hpl]
    have hcat := fun w => run_cat (P := Try.prog) w (textL k) (putL (v.length + 1)) (by omega)
    have hcat2 := fun w => run_cat (P := Try.prog) w (textL k ++ putL (v.length + 1)) v (by rw [List.length_append]; omega)
    rw [List.append_assoc] at hcat2
    have hkeep := fun w' w'' h q => held3 hl x0 x1 x2 (w' := w') (w'' := w'') h q
    have hwr : IntKind.i64.wrap ((v.length : Int) + 1) = (v.length : Int) + 1 := IntWalk.i64_in _ (by omega)
    have hint := fun w => rint_any ((v.length : Int) + 1) (by omega) (by omega) w
    rw [show ((v.length : Int) + 1).toNat = v.length + 1 by omega] at hint
    go_enter Try.func45, Try.ntmps45
    go_wp2_with (rw [← HW1.out])
    go_region_held3 (fun w' => Below w1.heap.size w1 w' ∧ w'.cell? ⟨w.heap.size, 0, none⟩ = some (.string ⟨k.toArray⟩) ∧ w'.cell? ⟨w.heap.size, 1, none⟩ = some (.string ⟨v.toArray⟩) ∧ w'.cell? ⟨w.heap.size, 2, none⟩ = some (.bool false)) (first | exact hS | exact ⟨below_drewN _ _ 1, x0, x1, x2⟩)
      (first | (go_at_call 44; refine (rtext_any k (by omega) _).mono ?_; rintro _ w3 ⟨rfl, hb3⟩; have hS := hkeep _ _ (by first | exact hS.1 | exact below_drewN _ _ 1) hb3) | (go_at_call 48; refine (hint _).mono ?_; rintro _ w3 ⟨rfl, hb3⟩; have hS := hkeep _ _ (by first | exact hS.1 | exact below_drewN _ _ 1) hb3))
    all_goals
      have HS := hid hS.1
      clear hS
      go_wp2_with fail
      go_ret
      exact ⟨rfl, bnext B1.out HS.out⟩
end Go.Proofs.Ytfdbcnpbjabjoaa
