/- CONTRACT: the reference's Reader.Text, at whatever length. -/
import Derived.Test.YtckpfcocbjfcbaaRdrPlain
namespace Go.Proofs.Ytckpfcocbjfcbaa
open Go.RowKit
set_option linter.unusedVariables false

set_option maxHeartbeats 1600000 in
theorem rtext_full (g : Nat) (r : List UInt8) (b : Bool) (w : World) (h : RRdr w g r b) (hs : Sane r b) (hl : r.length ≤ 140737488355328) :
    Calls Try.prog 77 #[.pointer (some ⟨g, 0, none⟩)] w fun e w' =>
      e = .returned (.string ⟨(rtextF r b).1.toArray⟩) ∧ RRdr w' g (rtextF r b).2.1 (rtextF r b).2.2 ∧ At g w w' := by
  have hu := numF_u64 r b
  have hln := numF_len r b
  have hs1 := sane_numF hs
  obtain ⟨⟨N, r1, b1⟩, hx⟩ : ∃ x, numF r b = x := ⟨_, rfl⟩
  have HX := hid hx
  rw [hx] at hu hln hs1
  clear hx
  simp only at hu hln hs1
  cases b1 with
  | true =>
    obtain rfl := hs1 rfl
    rw [show rtextF r b = ([], [], true) by unfold rtextF; rw [HX.out]; rfl]
    go_enter Try.func77, Try.ntmps77
    go_wp2_with fail
    refine (rnum_any g r b _ h hs (by unfold maxLen; omega)).mono ?_
    rw [HX.out]
    rintro e w1 ⟨rfl, h1, hg1⟩
    have c0 := h1.c0; have c1 := h1.c1; have f0 := h1.fz 0; have f1 := h1.fz 1
    go_wp2_with fail
    refine (fail_any g _ _ _ h1).mono ?_
    rintro e w2 ⟨rfl, h2, hg2⟩
    go_wp2_with fail
    go_ret
    exact ⟨rfl, h2, hg1.trans hg2⟩
  | false =>
    rw [show rtextF r b = takeF r1 false (N : Int) by unfold rtextF; rw [HX.out]]
    by_cases hgt : r1.length < N
    · rw [takeF_no (.inr (by omega))]
      go_enter Try.func77, Try.ntmps77
      go_wp2_with fail
      refine (rnum_any g r b _ h hs (by unfold maxLen; omega)).mono ?_
      rw [HX.out]
      rintro e w1 ⟨rfl, h1, hg1⟩
      have c0 := h1.c0; have c1 := h1.c1; have f0 := h1.fz 0; have f1 := h1.fz 1
      go_wp2_with fail
      refine (fail_any g _ _ _ h1).mono ?_
      rintro e w2 ⟨rfl, h2, hg2⟩
      go_wp2_with fail
      go_ret
      exact ⟨rfl, h2, hg1.trans hg2⟩
    · have hw2 : IntKind.i64.wrap (N : Int) = (N : Int) := IntWalk.i64_in _ (by omega)
      go_enter Try.func77, Try.ntmps77
      go_wp2_with fail
      refine (rnum_any g r b _ h hs (by unfold maxLen; omega)).mono ?_
      rw [HX.out]
      rintro e w1 ⟨rfl, h1, hg1⟩
      have c0 := h1.c0; have c1 := h1.c1; have f0 := h1.fz 0; have f1 := h1.fz 1
      go_wp2_with fail
      refine (rtake_any g r1 false _ _ h1 hs1 (by unfold maxLen; omega)).mono ?_
      rintro e w2 ⟨rfl, h2, hg2⟩
      go_wp2_with fail
      go_ret
      exact ⟨rfl, h2, hg1.trans hg2⟩

end Go.Proofs.Ytckpfcocbjfcbaa
