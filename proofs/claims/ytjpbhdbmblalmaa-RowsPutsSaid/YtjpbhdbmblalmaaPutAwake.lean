/- CONTRACT: wherrylaw17.awake. -/
import Derived.Test.YtjpbhdbmblalmaaPutKeys
namespace Go.Proofs.Ytjpbhdbmblalmaa
open Go.RowKit
set_option linter.unusedVariables false

theorem putL_0r : putL 0 = [0] := by rw [putL_lt (by decide)]; rfl
theorem putL_1r : putL 1 = [1] := by rw [putL_lt (by decide)]; rfl
theorem putL_2r : putL 2 = [2] := by rw [putL_lt (by decide)]; rfl
def awT : Tk := (1, [119], 2, 0)
theorem aw_task : TaskP (1, [119], 2, 0) := ⟨by decide, by decide, by decide, by decide⟩
theorem aw_encT : encT awT = [1, 1, 119, 2, 0] := by
  unfold encT awT textL
  simp only [List.length_cons, List.length_nil]
  rw [show (1 : Int).toNat = 1 from rfl, show (0 : Int).toNat = 0 from rfl, show (2 : Int).toNat = 2 from rfl, show 0 + 1 = 1 from rfl, putL_0r, putL_1r, putL_2r]
  rfl
set_option maxHeartbeats 1600000 in
set_option maxRecDepth 100000 in
theorem rawake_any (w : World) : Calls Try.prog 21 #[] w fun e w' => e = .returned (.bool true) ∧ Below w.heap.size w w' := by
  have c1 := fun w => task_any 1 [119] 2 0 (by unfold maxLen; decide) w
  rw [show encTV (1, [119], 2, 0) = [1, 1, 119, 2, 0] by unfold encTV; rw [if_pos aw_task]; exact aw_encT, show tkV (1, [119], 2, 0) = 0 by unfold tkV; rw [if_pos aw_task]] at c1
  have hpf : taskF [1, 1, 119, 2, 0] = some awT := taskF_iff.2 ⟨aw_task, aw_encT.symm⟩
  have HPF := hid hpf
  clear hpf
  have ho : oneB 3 = 3 := rfl
  go_enter Try.func21, Try.ntmps21
  go_wp2_with fail
  refine (c1 _).mono ?_
  rintro _ w1 ⟨rfl, b1⟩
  go_wp2_with fail
  refine (tasked_any [1, 1, 119, 2, 0] (by decide) w1).mono ?_
  rintro _ w2 ⟨x, er, rfl, b2, hres⟩
  rw [HPF.out] at hres
  rcases hres with ⟨h1, rfl⟩ | ⟨h1, _⟩
  · cases h1
    unfold tkV' awT
    go_wp2_with fail
    obtain ⟨W, hW⟩ : ∃ W, W = w2.alloc (.cells #[.int .i64 1, .string ⟨#[119]⟩, .int .i64 2, .int .i64 0] 80) := ⟨_, rfl⟩
    rw [← hW]
    have bW : Below w2.heap.size w2 W := by rw [hW]; exact (Below.refl _ _).alloc (Nat.le_refl _) _
    have hC : W.heap[w2.heap.size]? = some (.cells #[.int .i64 1, .string ⟨#[119]⟩, .int .i64 2, .int .i64 0] 80 (0, 0)) := by rw [hW]; exact heap_alloc_new w2 _
    have hl4 : w2.heap.size < W.heap.size := (Array.getElem?_eq_some_iff.1 hC).1
    have x2 : W.cell? ⟨w2.heap.size, 2, none⟩ = some (.int .i64 2) := by rw [cell_of_row W _ 2 _ _ (0, 0) hC]; rfl
    clear hC hW
    refine (lease_any 3 _).mono ?_
    rintro _ w3 ⟨rfl, b3⟩
    rw [ho]
    go_wp2_with fail
    refine (timer_any 1 5 9 (by unfold U64; decide) (by decide) (by decide) _).mono ?_
    rintro _ w4 ⟨rfl, b4⟩
    have y2 : w4.cell? ⟨w2.heap.size, 2, none⟩ = some (.int .i64 2) := ((bnext b3 b4).cell (p := ⟨w2.heap.size, 2, none⟩) hl4).trans x2
    have bf := bnext (bnext (bnext b1 b2) bW) (bnext b3 b4)
    clear x2 hl4
    go_wp2_with fail
    refine (due_any (oneB 1) 5 (fixedL 9) (by decide) (fixedL_len 9) _).mono ?_
    rintro _ w5 ⟨rfl, hw5⟩
    rw [hw5]
    clear hw5 w5
    go_wp2_with fail
    go_ret
    exact ⟨rfl, bf⟩
  · cases h1
end Go.Proofs.Ytjpbhdbmblalmaa
