/- THE WALK of EventBack. -/
import Derived.Test.YtjpbhdbmblalmaaEvtLaws2
namespace Go.Proofs.Ytjpbhdbmblalmaa
open Go.RowKit
set_option linter.unusedVariables false

/-- the second half: a text's event, a text's history -/
theorem encHi_len {l : List Ev} (h : HistP l) : (encHi l).length ≤ 800000 := by
  have := encHk_len h.1 l.length (fun x hx => h.2 x (List.mem_of_mem_take hx))
  unfold encHk at this
  rw [List.take_length] at this
  exact this
theorem encHi_cap {l : List UInt8} {xs : List Ev} (h : unF l = some xs) : l = encHi xs ∧ HistP xs := ⟨(unF_iff.1 h).2, (unF_iff.1 h).1⟩
set_option maxHeartbeats 3200000 in
set_option maxRecDepth 100000 in
theorem eventBack_w (v : Value) (l : List Ev) (s : List UInt8) (hsl : s.length ≤ 140737488351232) (w : World) (hs : Sl w v 8 l.length (l.flatMap evc)) (hf : FitE l) :
    Calls Try.prog 5 #[v, .string ⟨s.toArray⟩] w fun e w' => e = .returned (.bool true) ∧ Below w.heap.size w w' := by
  go_enter Try.func5, Try.ntmps5
  go_wp2_with fail
  refine (eawake_any w).mono ?_
  rintro _ w1 ⟨rfl, b1⟩
  go_wp2_with fail
  refine (pack_any v l w1 (hs.below b1) hf).mono ?_
  rintro _ w2 ⟨rfl, b2⟩
  have hb2 := bnext b1 b2
  by_cases hp : HistP l
  · have hV : hiV l = encHi l := by unfold hiV; rw [if_pos hp]
    have hE : hiE l = 0 := by unfold hiE; rw [if_neg (by have := hp.1; omega), if_pos hp]
    have hu : unF (encHi l) = some l := unF_iff.2 ⟨hp, rfl⟩
    have hln := encHi_len hp
    rw [hV, hE]
    have HU := hid hu
    clear hV hE hu hp
    generalize encHi l = L at *
    go_wp2_with fail
    refine (eunpack_any L (by omega) _).mono ?_
    rintro _ w3 ⟨v', xs, er, rfl, hs3, hf3, b3, hr3⟩
    rw [HU.out] at hr3
    have hb3 := bnext hb2 b3
    obtain ⟨q1, q2⟩ | ⟨q1, _⟩ := hr3
    · cases q1
      subst q2
      go_wp2_with fail
      refine (same_any v v' l w3 (hs.below hb3) hs3).mono ?_
      rintro _ w4 ⟨rfl, b4⟩
      have hb4 := bnext hb3 b4
      go_wp2_with fail
      refine (edecode_any s (by omega) _).mono ?_
      rintro _ t1 ⟨x, er, rfl, bt, hr1⟩
      have hbt := bnext hb4 bt
      obtain ⟨id, kd, tk, rf, sp, ty, ud, dt⟩ := x
      rw [show evV' (id, kd, tk, rf, sp, ty, ud, dt) = .agg #[.int .i64 id, .int .i64 kd, .int .i64 tk, .int .i64 rf, .int .i64 sp, .int .i64 ty, .bool ud, .string ⟨dt.toArray⟩] from rfl]
      rcases hr1 with ⟨g1, rfl⟩ | ⟨g1, rfl, _⟩
      · obtain ⟨hpx, hse⟩ := evF_iff.1 g1
        have hdl := dataP_len hpx.2.2.2.2.2.2.2
        simp only [Ev.dt] at hdl
        have HV := hid (show encEV (id, kd, tk, rf, sp, ty, ud, dt) = s from by unfold encEV; rw [if_pos hpx, ← hse])
        have HE := hid (ev_yes hpx)
        clear g1 hse hpx
        go_wp2_with fail
        refine (eencode_any id kd tk rf sp ty ud dt (by omega) _).mono ?_
        rintro _ t2 ⟨rfl, bt2⟩
        rw [HV.out, HE.out]
        have hbt2 := bnext (hbt.alloc hbt.size _) bt2
        go_wp2_with fail
        refine (eunpack_any s (by omega) _).mono ?_
        rintro _ u1 ⟨v2, ys, e2, rfl, hs2, hf2, bu, hr2⟩
        have hbu := bnext hbt2 bu
        rcases hr2 with ⟨g1, rfl⟩ | ⟨g1, rfl, rfl⟩
        · obtain ⟨hse, hpy⟩ := encHi_cap g1
          have HV := hid (show hiV ys = s from by unfold hiV; rw [if_pos hpy, ← hse])
          have HE := hid (show hiE ys = 0 from by unfold hiE; rw [if_neg (by have := hpy.1; omega), if_pos hpy])
          clear g1 hse hpy
          go_wp2_with fail
          refine (pack_any v2 ys u1 hs2 hf2).mono ?_
          rintro _ u2 ⟨rfl, bu2⟩
          rw [HV.out, HE.out]
          go_wp2_with fail
          go_ret
          exact ⟨rfl, bnext hbu bu2⟩
        · clear g1
          obtain ⟨_, _, aa, cc, rfl, _⟩ := hs2
          go_wp2_with fail
          go_ret
          exact ⟨rfl, hbu⟩
      · clear g1
        go_wp2_with fail
        refine (eunpack_any s (by omega) _).mono ?_
        rintro _ u1 ⟨v2, ys, e2, rfl, hs2, hf2, bu, hr2⟩
        have hbu := bnext (hbt.alloc hbt.size _) bu
        rcases hr2 with ⟨g1, rfl⟩ | ⟨g1, rfl, rfl⟩
        · obtain ⟨hse, hpy⟩ := encHi_cap g1
          have HV := hid (show hiV ys = s from by unfold hiV; rw [if_pos hpy, ← hse])
          have HE := hid (show hiE ys = 0 from by unfold hiE; rw [if_neg (by have := hpy.1; omega), if_pos hpy])
          clear g1 hse hpy
          go_wp2_with fail
          refine (pack_any v2 ys u1 hs2 hf2).mono ?_
          rintro _ u2 ⟨rfl, bu2⟩
          rw [HV.out, HE.out]
          go_wp2_with fail
          go_ret
          exact ⟨rfl, bnext hbu bu2⟩
        · clear g1
          obtain ⟨_, _, aa, cc, rfl, _⟩ := hs2
          go_wp2_with fail
          go_ret
          exact ⟨rfl, hbu⟩
    · cases q1
  · have hV : hiV l = [] := by unfold hiV; rw [if_neg hp]
    have hE : hiE l = 2 ∨ hiE l = 120 := by
      unfold hiE
      by_cases h : 500 < l.length
      · rw [if_pos h]; exact .inl rfl
      · rw [if_neg h, if_neg hp]; exact .inr rfl
    rw [hV]
    rcases hE with hE | hE
    all_goals
      rw [hE]
      clear hE hV hp
      go_wp2_with fail
      refine (edecode_any s (by omega) _).mono ?_
      rintro _ t1 ⟨x, er, rfl, bt, hr1⟩
      have hbt := bnext hb2 bt
      obtain ⟨id, kd, tk, rf, sp, ty, ud, dt⟩ := x
      rw [show evV' (id, kd, tk, rf, sp, ty, ud, dt) = .agg #[.int .i64 id, .int .i64 kd, .int .i64 tk, .int .i64 rf, .int .i64 sp, .int .i64 ty, .bool ud, .string ⟨dt.toArray⟩] from rfl]
      rcases hr1 with ⟨g1, rfl⟩ | ⟨g1, rfl, _⟩
      · obtain ⟨hpx, hse⟩ := evF_iff.1 g1
        have hdl := dataP_len hpx.2.2.2.2.2.2.2
        simp only [Ev.dt] at hdl
        have HV := hid (show encEV (id, kd, tk, rf, sp, ty, ud, dt) = s from by unfold encEV; rw [if_pos hpx, ← hse])
        have HE := hid (ev_yes hpx)
        clear g1 hse hpx
        go_wp2_with fail
        refine (eencode_any id kd tk rf sp ty ud dt (by omega) _).mono ?_
        rintro _ t2 ⟨rfl, bt2⟩
        rw [HV.out, HE.out]
        have hbt2 := bnext (hbt.alloc hbt.size _) bt2
        go_wp2_with fail
        refine (eunpack_any s (by omega) _).mono ?_
        rintro _ u1 ⟨v2, ys, e2, rfl, hs2, hf2, bu, hr2⟩
        have hbu := bnext hbt2 bu
        rcases hr2 with ⟨g1, rfl⟩ | ⟨g1, rfl, rfl⟩
        · obtain ⟨hse, hpy⟩ := encHi_cap g1
          have HV := hid (show hiV ys = s from by unfold hiV; rw [if_pos hpy, ← hse])
          have HE := hid (show hiE ys = 0 from by unfold hiE; rw [if_neg (by have := hpy.1; omega), if_pos hpy])
          clear g1 hse hpy
          go_wp2_with fail
          refine (pack_any v2 ys u1 hs2 hf2).mono ?_
          rintro _ u2 ⟨rfl, bu2⟩
          rw [HV.out, HE.out]
          go_wp2_with fail
          go_ret
          exact ⟨rfl, bnext hbu bu2⟩
        · clear g1
          obtain ⟨_, _, aa, cc, rfl, _⟩ := hs2
          go_wp2_with fail
          go_ret
          exact ⟨rfl, hbu⟩
      · clear g1
        go_wp2_with fail
        refine (eunpack_any s (by omega) _).mono ?_
        rintro _ u1 ⟨v2, ys, e2, rfl, hs2, hf2, bu, hr2⟩
        have hbu := bnext (hbt.alloc hbt.size _) bu
        rcases hr2 with ⟨g1, rfl⟩ | ⟨g1, rfl, rfl⟩
        · obtain ⟨hse, hpy⟩ := encHi_cap g1
          have HV := hid (show hiV ys = s from by unfold hiV; rw [if_pos hpy, ← hse])
          have HE := hid (show hiE ys = 0 from by unfold hiE; rw [if_neg (by have := hpy.1; omega), if_pos hpy])
          clear g1 hse hpy
          go_wp2_with fail
          refine (pack_any v2 ys u1 hs2 hf2).mono ?_
          rintro _ u2 ⟨rfl, bu2⟩
          rw [HV.out, HE.out]
          go_wp2_with fail
          go_ret
          exact ⟨rfl, bnext hbu bu2⟩
        · clear g1
          obtain ⟨_, _, aa, cc, rfl, _⟩ := hs2
          go_wp2_with fail
          go_ret
          exact ⟨rfl, hbu⟩
end Go.Proofs.Ytjpbhdbmblalmaa
