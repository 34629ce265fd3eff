/- CONTRACT: wherrylaw13.awake. -/
import Derived.Test.YtjpbhdbmblalmaaEvtPack
namespace Go.Proofs.Ytjpbhdbmblalmaa
open Go.RowKit
set_option linter.unusedVariables false

theorem putL_0 : putL 0 = [0] := by rw [putL_lt (by decide)]; rfl
theorem putL_1 : putL 1 = [1] := by rw [putL_lt (by decide)]; rfl
theorem putL_6 : putL 6 = [6] := by rw [putL_lt (by decide)]; rfl
theorem putL_7 : putL 7 = [7] := by rw [putL_lt (by decide)]; rfl
theorem putL_9 : putL 9 = [9] := by rw [putL_lt (by decide)]; rfl
theorem putL_300 : putL 300 = [172, 2] := by rw [putL_ge (by decide), putL_lt (by decide)]; rfl
theorem aw_ev : EvP (9, 7, 300, 6, 0, 1, false, []) := by
  refine ⟨by decide, by decide, by decide, ?_, ?_, ?_, by decide, ?_⟩
  · rw [if_pos (by decide)]; decide
  · rw [if_neg (by decide)]
  · rw [if_pos (by decide)]; decide
  · exact ⟨fun h => absurd h (by decide), fun h => absurd h (by decide), fun _ _ => rfl⟩
theorem aw_enc : encE (9, 7, 300, 6, 0, 1, false, []) = [9, 7, 172, 2, 6, 1] := by
  unfold encE encTl
  simp only [Ev.id, Ev.kd, Ev.tk, Ev.rf, Ev.sp, Ev.ty, Ev.ud, Ev.dt]
  rw [show evB 7 = 5 from rfl, show (9 : Int).toNat = 9 from rfl, show (7 : Int).toNat = 7 from rfl, show (300 : Int).toNat = 300 from rfl, show (6 : Int).toNat = 6 from rfl, show (1 : Int).toNat = 1 from rfl, putL_9, putL_7, putL_300, putL_6, putL_1]
  rfl
theorem no_ev : ¬ EvP (0, 0, 0, 0, 0, 0, false, []) := fun h => absurd h.1 (by decide)
set_option maxHeartbeats 1600000 in
set_option maxRecDepth 100000 in
theorem eawake_any (w : World) : Calls Try.prog 10 #[] w fun e w' => e = .returned (.bool true) ∧ Below w.heap.size w w' := by
  have c1 := fun w => eencode_any 9 7 300 6 0 1 false [] (by decide) w
  rw [show encEV (9, 7, 300, 6, 0, 1, false, []) = [9, 7, 172, 2, 6, 1] by unfold encEV; rw [if_pos aw_ev]; exact aw_enc, ev_yes aw_ev] at c1
  have hpf : evF [9, 7, 172, 2, 6, 1] = some (9, 7, 300, 6, 0, 1, false, []) := evF_iff.2 ⟨aw_ev, aw_enc.symm⟩
  have HPF := hid hpf
  clear hpf
  have hpk := fun w => pack_any (.slice none 0 0) [] w (Sl.none _ _) (fun x hx => by cases hx)
  rw [show hiV [] = [0] by unfold hiV; rw [if_pos ⟨by decide, fun x hx => by cases hx⟩]; unfold encHi encHs; rw [List.flatMap_nil, List.append_nil]; exact putL_0, show hiE [] = 0 by unfold hiE; rw [if_neg (by decide), if_pos ⟨by decide, fun x hx => by cases hx⟩]] at hpk
  have hck := fun w => echeck_any 0 0 0 0 0 0 false [] (by decide) w
  rw [ev_no no_ev] at hck
  go_enter Try.func10, Try.ntmps10
  go_wp2_with fail
  refine (c1 _).mono ?_
  rintro _ w1 ⟨rfl, b1⟩
  go_wp2_with fail
  refine (edecode_any [9, 7, 172, 2, 6, 1] (by decide) w1).mono ?_
  rintro _ w2 ⟨x, er, rfl, b2, hres⟩
  rw [HPF.out] at hres
  rcases hres with ⟨h1, rfl⟩ | ⟨h1, _⟩
  · cases h1
    unfold evV'
    simp only [Ev.id, Ev.kd, Ev.tk, Ev.rf, Ev.sp, Ev.ty, Ev.ud, Ev.dt]
    go_wp2_with fail
    have h0 := EHeld.new w2 (9, 7, 300, 6, 0, 1, false, [])
    unfold evC at h0
    simp only [Ev.id, Ev.kd, Ev.tk, Ev.rf, Ev.sp, Ev.ty, Ev.ud, Ev.dt] at h0
    obtain ⟨W, hW⟩ : ∃ W, W = w2.alloc (.cells #[.int .i64 9, .int .i64 7, .int .i64 300, .int .i64 6, .int .i64 0, .int .i64 1, .bool false, .string ⟨#[]⟩] 23) := ⟨_, rfl⟩
    rw [← hW] at h0 ⊢
    clear hW
    refine (hpk _).mono ?_
    rintro _ w3 ⟨rfl, b3⟩
    have h3 := h0.next b3
    have p3 := h3.c3
    simp only [Ev.rf] at p3
    go_wp2_with fail
    refine (hck _).mono ?_
    rintro _ w4 ⟨rfl, b4⟩
    have h4 := h3.next b4
    go_wp2_with fail
    go_ret
    exact ⟨rfl, bnext (bnext b1 b2) h4.below⟩
  · cases h1
end Go.Proofs.Ytjpbhdbmblalmaa
