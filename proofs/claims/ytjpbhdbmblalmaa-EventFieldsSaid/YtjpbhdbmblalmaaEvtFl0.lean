/- THE WALK of EventFields. -/
import Derived.Test.YtjpbhdbmblalmaaEvtOpen
import Derived.Deep.RegionHeld3
import Derived.Deep.QuietTactic
import Derived.BigQuiet
namespace Go.Proofs.Ytjpbhdbmblalmaa
open Go.RowKit
set_option linter.unusedVariables false

theorem wrap64_id' {x : Int} (h0 : -9223372036854775808 ≤ x) (h1 : x ≤ 9223372036854775807) : wrap64 x = x := by
  unfold wrap64; omega
theorem tmod_bd' (k m : Int) (hm : 0 < m) : -m < k.tmod m ∧ k.tmod m < m := by
  by_cases h : 0 ≤ k
  · rw [Int.tmod_eq_emod_of_nonneg h]
    have h1 := Int.emod_nonneg k (show m ≠ 0 by omega)
    have h2 := Int.emod_lt_of_pos k hm
    omega
  · obtain ⟨j, rfl⟩ : ∃ j, k = -j := ⟨-k, by omega⟩
    rw [Int.neg_tmod, Int.tmod_eq_emod_of_nonneg (by omega)]
    have h1 := Int.emod_nonneg j (show m ≠ 0 by omega)
    have h2 := Int.emod_lt_of_pos j hm
    omega
theorem mod5' (k : Int) : ∃ s : Nat, s ≤ 4 ∧ (wrap64 (k.tmod 5 + 5)).tmod 5 = s := by
  have h1 := tmod_bd' k 5 (by omega)
  rw [wrap64_id' (by omega) (by omega), Int.tmod_eq_emod_of_nonneg (show 0 ≤ k.tmod 5 + 5 by omega)]
  exact ⟨((k.tmod 5 + 5) % 5).toNat, by omega, by omega⟩
theorem nil_ev (k : Int) : DataP k [] → k ≠ 1 ∧ k ≠ 12 := fun h => by
  refine ⟨fun e => ?_, fun e => ?_⟩
  · obtain ⟨lim, ss, hp⟩ := h.1 e
    have := (progF_iff.1 hp).2
    have hp0 := putL_pos lim.toNat
    unfold encP at this
    have := congrArg List.length this
    rw [List.length_append] at this
    simp at this
    omega
  · have := (h.2.1 e).1
    simp at this
/-- the parts of an event that one field more or less turns -/
theorem ev_ref {id k tk rf sp ty : Int} {ud : Bool} {dt : List UInt8} (h : EvP (id, k, tk, rf, sp, ty, ud, dt)) (hr : rf ≠ 0) : ¬ EvP (id, k, tk, 0, sp, ty, ud, dt) ∧ k ≠ 6 ∧ k ≠ 10 := by
  have h4 := h.2.2.2.1
  simp only [Ev.kd, Ev.rf, Ev.id] at h4
  have hb : evB k = 1 ∨ evB k = 5 := by
    by_cases q : evB k = 1 ∨ evB k = 5
    · exact q
    · rw [if_neg q] at h4; exact absurd h4 hr
  refine ⟨fun q => ?_, fun e => ?_, fun e => ?_⟩
  · have q4 := q.2.2.2.1
    simp only [Ev.kd, Ev.rf, Ev.id] at q4
    rw [if_pos hb] at q4; omega
  · rw [e] at hb; exact absurd hb (by decide)
  · rw [e] at hb; exact absurd hb (by decide)
theorem ev_step {id k tk rf sp ty : Int} {ud : Bool} {dt : List UInt8} (h : EvP (id, k, tk, rf, sp, ty, ud, dt)) (hr : sp ≠ 0) : EvP (id, k, tk, rf, 0, ty, ud, dt) ∧ (k = 6 ∨ k = 10) := by
  obtain ⟨h1, h2, h3, h4, h5, h6, h7, h8⟩ := h
  simp only [Ev.id, Ev.kd, Ev.tk, Ev.rf, Ev.sp, Ev.ty, Ev.ud, Ev.dt] at *
  have hb : evB k = 2 ∨ evB k = 10 := by
    by_cases q : evB k = 2 ∨ evB k = 10
    · exact q
    · rw [if_neg q] at h5; exact absurd h5 hr
  refine ⟨⟨h1, h2, h3, h4, ?_, h6, h7, h8⟩, ?_⟩
  · simp only [Ev.kd, Ev.sp]; rw [if_pos hb]; omega
  · have : ∀ j : Fin 19, (evB (j.val : Int) = 2 ∨ evB (j.val : Int) = 10) → ((j.val : Int) = 6 ∨ (j.val : Int) = 10) := by decide
    have := this ⟨k.toNat, by omega⟩
    simp only at this
    rw [Int.toNat_of_nonneg (by omega)] at this
    exact this hb
theorem ev_try {id k tk rf sp ty : Int} {ud : Bool} {dt : List UInt8} (h : EvP (id, k, tk, rf, sp, ty, ud, dt)) (hr : ty ≠ 0) : ¬ EvP (id, k, tk, rf, sp, 0, ud, dt) ∧ k ≠ 6 ∧ k ≠ 10 := by
  have h6 := h.2.2.2.2.2.1
  simp only [Ev.kd, Ev.ty] at h6
  have hb : evB k = 5 := by
    by_cases q : evB k = 5
    · exact q
    · rw [if_neg q] at h6; exact absurd h6 hr
  refine ⟨fun q => ?_, fun e => ?_, fun e => ?_⟩
  · have q6 := q.2.2.2.2.2.1
    simp only [Ev.kd, Ev.ty] at q6
    rw [if_pos hb] at q6; omega
  · rw [e] at hb; exact absurd hb (by decide)
  · rw [e] at hb; exact absurd hb (by decide)
theorem ev_undo {id k tk rf sp ty : Int} {ud : Bool} {dt : List UInt8} (h : EvP (id, k, tk, rf, sp, ty, ud, dt)) : (EvP (id, k, tk, rf, sp, ty, !ud, dt) ↔ k = 6) ∧ (k = 10 → ud = false) := by
  obtain ⟨h1, h2, h3, h4, h5, h6, h7, h8⟩ := h
  simp only [Ev.id, Ev.kd, Ev.tk, Ev.rf, Ev.sp, Ev.ty, Ev.ud, Ev.dt] at *
  have hk : evB k = 10 ↔ k = 6 := by
    have : ∀ j : Fin 19, (evB (j.val : Int) = 10 ↔ (j.val : Int) = 6) := by decide
    have := this ⟨k.toNat, by omega⟩
    simp only at this
    rw [Int.toNat_of_nonneg (by omega)] at this
    exact this
  refine ⟨⟨fun q => ?_, fun e => ⟨h1, h2, h3, h4, h5, h6, fun _ => hk.2 e, h8⟩⟩, fun e => ?_⟩
  · have q7 := q.2.2.2.2.2.2.1
    simp only [Ev.kd, Ev.ud] at q7
    cases ud with
    | true => exact hk.1 (h7 rfl)
    | false => exact hk.1 (q7 rfl)
  · cases ud with
    | false => rfl
    | true => have := hk.1 (h7 rfl); omega
theorem ev_data {id k tk rf sp ty : Int} {ud : Bool} {dt : List UInt8} (h : EvP (id, k, tk, rf, sp, ty, ud, dt)) (hr : dt ≠ []) : ¬ EvP (id, k, tk, rf, sp, ty, ud, []) ∧ k ≠ 6 ∧ k ≠ 10 := by
  have h8 := h.2.2.2.2.2.2.2
  simp only [Ev.kd, Ev.dt] at h8
  have hk : k = 1 ∨ k = 12 := by
    by_cases q1 : k = 1
    · exact .inl q1
    · by_cases q2 : k = 12
      · exact .inr q2
      · exact absurd (h8.2.2 q1 q2) hr
  refine ⟨fun q => ?_, by omega, by omega⟩
  have := nil_ev k q.2.2.2.2.2.2.2
  omega
theorem held16 {w2 w' w'' : World} {g h : Nat} {x0 x1 x2 x3 x4 x5 x6 x7 y0 y1 y2 y3 y4 y5 y6 y7 : Value} (hg : g < w2.heap.size) (hh : h < w2.heap.size)
 (a0 : w2.cell? ⟨g, 0, none⟩ = some x0) (a1 : w2.cell? ⟨g, 1, none⟩ = some x1) (a2 : w2.cell? ⟨g, 2, none⟩ = some x2) (a3 : w2.cell? ⟨g, 3, none⟩ = some x3) (a4 : w2.cell? ⟨g, 4, none⟩ = some x4) (a5 : w2.cell? ⟨g, 5, none⟩ = some x5) (a6 : w2.cell? ⟨g, 6, none⟩ = some x6) (a7 : w2.cell? ⟨g, 7, none⟩ = some x7) (b0 : w2.cell? ⟨h, 0, none⟩ = some y0) (b1 : w2.cell? ⟨h, 1, none⟩ = some y1) (b2 : w2.cell? ⟨h, 2, none⟩ = some y2) (b3 : w2.cell? ⟨h, 3, none⟩ = some y3) (b4 : w2.cell? ⟨h, 4, none⟩ = some y4) (b5 : w2.cell? ⟨h, 5, none⟩ = some y5) (b6 : w2.cell? ⟨h, 6, none⟩ = some y6) (b7 : w2.cell? ⟨h, 7, none⟩ = some y7)
    (hS : Below w2.heap.size w2 w' ∧ w'.cell? ⟨g, 0, none⟩ = some (x0) ∧ w'.cell? ⟨g, 1, none⟩ = some (x1) ∧ w'.cell? ⟨g, 2, none⟩ = some (x2) ∧ w'.cell? ⟨g, 3, none⟩ = some (x3) ∧ w'.cell? ⟨g, 4, none⟩ = some (x4) ∧ w'.cell? ⟨g, 5, none⟩ = some (x5) ∧ w'.cell? ⟨g, 6, none⟩ = some (x6) ∧ w'.cell? ⟨g, 7, none⟩ = some (x7) ∧ w'.cell? ⟨h, 0, none⟩ = some (y0) ∧ w'.cell? ⟨h, 1, none⟩ = some (y1) ∧ w'.cell? ⟨h, 2, none⟩ = some (y2) ∧ w'.cell? ⟨h, 3, none⟩ = some (y3) ∧ w'.cell? ⟨h, 4, none⟩ = some (y4) ∧ w'.cell? ⟨h, 5, none⟩ = some (y5) ∧ w'.cell? ⟨h, 6, none⟩ = some (y6) ∧ w'.cell? ⟨h, 7, none⟩ = some (y7)) (k : Below w'.heap.size w' w'') :
    Below w2.heap.size w2 w'' ∧ w''.cell? ⟨g, 0, none⟩ = some (x0) ∧ w''.cell? ⟨g, 1, none⟩ = some (x1) ∧ w''.cell? ⟨g, 2, none⟩ = some (x2) ∧ w''.cell? ⟨g, 3, none⟩ = some (x3) ∧ w''.cell? ⟨g, 4, none⟩ = some (x4) ∧ w''.cell? ⟨g, 5, none⟩ = some (x5) ∧ w''.cell? ⟨g, 6, none⟩ = some (x6) ∧ w''.cell? ⟨g, 7, none⟩ = some (x7) ∧ w''.cell? ⟨h, 0, none⟩ = some (y0) ∧ w''.cell? ⟨h, 1, none⟩ = some (y1) ∧ w''.cell? ⟨h, 2, none⟩ = some (y2) ∧ w''.cell? ⟨h, 3, none⟩ = some (y3) ∧ w''.cell? ⟨h, 4, none⟩ = some (y4) ∧ w''.cell? ⟨h, 5, none⟩ = some (y5) ∧ w''.cell? ⟨h, 6, none⟩ = some (y6) ∧ w''.cell? ⟨h, 7, none⟩ = some (y7) := by
  have hb := bnext hS.1 k
  exact ⟨hb, (hb.cell hg).trans a0, (hb.cell hg).trans a1, (hb.cell hg).trans a2, (hb.cell hg).trans a3, (hb.cell hg).trans a4, (hb.cell hg).trans a5, (hb.cell hg).trans a6, (hb.cell hg).trans a7, (hb.cell hh).trans b0, (hb.cell hh).trans b1, (hb.cell hh).trans b2, (hb.cell hh).trans b3, (hb.cell hh).trans b4, (hb.cell hh).trans b5, (hb.cell hh).trans b6, (hb.cell hh).trans b7⟩
end Go.Proofs.Ytjpbhdbmblalmaa
