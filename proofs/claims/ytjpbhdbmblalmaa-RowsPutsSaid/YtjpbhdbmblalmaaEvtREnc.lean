/- CONTRACT: the reference's Encode of an event. -/
import Derived.Test.YtjpbhdbmblalmaaEvtRight
import Derived.Test.YtjpbhdbmblalmaaPgmREnc
import Derived.Deep.RegionHeld3
import Derived.Deep.QuietTactic
import Derived.BigQuiet
namespace Go.Proofs.Ytjpbhdbmblalmaa
open Go.RowKit
set_option linter.unusedVariables false

theorem rint_w (n : Int) (h : 0 ≤ n ∧ n ≤ 4611686018427387904) (w : World) : Calls Try.prog 38 #[.int .i64 n] w fun e w' => e = .returned (.string ⟨(putL n.toNat).toArray⟩) ∧ Below w.heap.size w w' := rint_any n h.1 (by omega) w
theorem putL_len1410 (n : Nat) (h : n ≤ 1000) : (putL n).length ≤ 1410 := by
  have := putL_len10 (n := n) (by unfold U64; omega)
  omega
theorem text1410 (d : List UInt8) (h : d.length ≤ 1400) : (textL d).length ≤ 1410 := by
  have := putL_len10' d.length (by omega)
  unfold textL; rw [List.length_append]; omega
/-- a letter's field -/
def fldE (x : Ev) (c : UInt8) : List UInt8 := if c = 114 then putL x.rf.toNat else if c = 115 then putL x.sp.toNat else if c = 116 then putL x.ty.toNat else if c = 117 then putL (udN x.ud) else textL x.dt
theorem evS_len (k : Int) : (evS k).length ≤ 2 := by
  unfold evS; repeat' split
  all_goals decide
theorem evS_mem {k : Int} {c : UInt8} (h : c ∈ evS k) : c = 112 ∨ c = 110 ∨ c = 114 ∨ c = 115 ∨ c = 116 ∨ c = 117 := by
  unfold evS at h
  split at h
  · simp at h; exact .inl h
  split at h
  · simp at h; exact .inr (.inl h)
  split at h
  · simp at h; exact .inr (.inr (.inl h))
  split at h
  · simp at h; rcases h with h | h
    · exact .inr (.inr (.inr (.inl h)))
    · exact .inr (.inr (.inr (.inr (.inr h))))
  split at h
  · simp at h; rcases h with h | h
    · exact .inr (.inr (.inl h))
    · exact .inr (.inr (.inr (.inr (.inl h))))
  split at h
  · simp at h; exact .inr (.inr (.inr (.inl h)))
  · cases h
theorem encTl_flat (x : Ev) : encTl x = (evS x.kd).flatMap (fldE x) := by
  unfold encTl evS
  by_cases h1 : x.kd = 1
  · rw [h1]
    simp only [show evB 1 = 16 from rfl, Int.reduceEq, if_false, if_true, List.flatMap_cons, List.flatMap_nil, List.append_nil]
    rfl
  by_cases h2 : x.kd = 12
  · rw [h2]
    simp only [show evB 12 = 16 from rfl, Int.reduceEq, if_false, if_true, List.flatMap_cons, List.flatMap_nil, List.append_nil]
    rfl
  have h16 : ¬ evB x.kd = 16 := fun h => by rcases (data16 x.kd).1 h with h | h; exact h1 h; exact h2 h
  rw [if_neg h1, if_neg h2]
  rcases evB_cases x.kd with e | e | e | e | e | e
  · exact absurd e h16
  all_goals
    rw [e]
    simp only [Int.reduceEq, if_false, if_true, List.flatMap_cons, List.flatMap_nil, List.append_nil]
    try rfl
theorem flat_len {α : Type} (f : α → List UInt8) (m : Nat) (h : ∀ a, (f a).length ≤ m) (l : List α) : (l.flatMap f).length ≤ m * l.length := by
  induction l with
  | nil => simp
  | cons a l ih =>
    have := h a
    rw [List.flatMap_cons, List.length_append, List.length_cons, Nat.mul_add]; omega
theorem take_flat {α : Type} (f : α → List UInt8) (l : List α) (j : Nat) (h : j < l.length) : (l.take (j + 1)).flatMap f = (l.take j).flatMap f ++ f l[j] := by
  rw [List.take_succ_eq_append_getElem h, List.flatMap_append, List.flatMap_cons, List.flatMap_nil, List.append_nil]
theorem held3r {w2 w' w'' : World} {g : Nat} {x y z : Value} (hg : g < w2.heap.size) (h0 : w2.cell? ⟨g, 0, none⟩ = some x) (h1 : w2.cell? ⟨g, 1, none⟩ = some y) (h2 : w2.cell? ⟨g, 2, none⟩ = some z)
    (h : Below w2.heap.size w2 w' ∧ w'.cell? ⟨g, 0, none⟩ = some x ∧ w'.cell? ⟨g, 1, none⟩ = some y ∧ w'.cell? ⟨g, 2, none⟩ = some z) (k : Below w'.heap.size w' w'') :
    Below w2.heap.size w2 w'' ∧ w''.cell? ⟨g, 0, none⟩ = some x ∧ w''.cell? ⟨g, 1, none⟩ = some y ∧ w''.cell? ⟨g, 2, none⟩ = some z := held3 hg h0 h1 h2 h k
set_option maxHeartbeats 3200000 in
set_option maxRecDepth 100000 in
theorem rencodeE_any (id k tk rf sp ty : Int) (ud : Bool) (dt : List UInt8) (hdt : dt.length ≤ 140737488355328) (w : World) : Calls Try.prog 17 #[.agg #[.int .i64 id, .int .i64 k, .int .i64 tk, .int .i64 rf, .int .i64 sp, .int .i64 ty, .bool ud, .string ⟨dt.toArray⟩]] w fun e w' => e = .returned (.tuple #[.string ⟨(encEV (id, k, tk, rf, sp, ty, ud, dt)).toArray⟩, .int .i64 (evV (id, k, tk, rf, sp, ty, ud, dt))]) ∧ Below w.heap.size w w' := by
  have h0 := EHeld.new w (id, k, tk, rf, sp, ty, ud, dt)
  unfold evC at h0
  simp only [Ev.id, Ev.kd, Ev.tk, Ev.rf, Ev.sp, Ev.ty, Ev.ud, Ev.dt] at h0
  obtain ⟨W, hW⟩ : ∃ W, W = w.alloc (.cells #[.int .i64 id, .int .i64 k, .int .i64 tk, .int .i64 rf, .int .i64 sp, .int .i64 ty, .bool ud, .string ⟨dt.toArray⟩] 23) := ⟨_, rfl⟩
  rw [← hW] at h0
  have HX := hid hW
  clear hW
  by_cases hp : EvP (id, k, tk, rf, sp, ty, ud, dt)
  · have hv := ev_yes hp
    have hE : encEV (id, k, tk, rf, sp, ty, ud, dt) = encE (id, k, tk, rf, sp, ty, ud, dt) := by unfold encEV; rw [if_pos hp]
    obtain ⟨R, hR⟩ : ∃ R, R = encE (id, k, tk, rf, sp, ty, ud, dt) := ⟨_, rfl⟩
    rw [hE, hv, ← hR]
    have HR := hid hR
    have HV := hid (decide_eq_true hp)
    clear hE hv hR
    have p0 := h0.c0
    have p1 := h0.c1
    have p2 := h0.c2
    have p3 := h0.c3
    have p4 := h0.c4
    have p5 := h0.c5
    have p6 := h0.c6
    have p7 := h0.c7
    simp only [Ev.id, Ev.kd, Ev.tk, Ev.rf, Ev.sp, Ev.ty, Ev.ud, Ev.dt] at p0 p1 p2 p3 p4 p5 p6 p7
    go_enter Try.func17, Try.ntmps17
    go_wp2_with fail
    rw [← HX.out]
    refine (eright_any id k tk rf sp ty ud dt hdt W).mono ?_
    rintro _ w1 ⟨rfl, b1⟩
    rw [HV.out]
    have h1 := h0.next b1
    clear p0 p1 p2 p3 p4 p5 p6 p7 h0
    have p1 := h1.c1
    simp only [Ev.kd] at p1
    go_wp2_with fail
    refine (rfields_any k _).mono ?_
    rintro _ w2 ⟨rfl, b2⟩
    have h2 := h1.next b2
    clear p1 h1
    have p0 := h2.c0
    have p1 := h2.c1
    have p2 := h2.c2
    simp only [Ev.id, Ev.kd, Ev.tk] at p0 p1 p2
    go_wp2_with fail
    -- BEGIN
    obtain ⟨⟨k1, k18⟩, ⟨i1, i500⟩, ⟨t0, t40⟩, hrf, hsp, hty, hud, hda⟩ := hp
    simp only [Ev.id, Ev.kd, Ev.tk, Ev.rf, Ev.sp, Ev.ty, Ev.ud, Ev.dt] at k1 k18 i1 i500 t0 t40 hrf hsp hty hud hda
    have brf : 0 ≤ rf ∧ rf ≤ 1000 := by split at hrf <;> omega
    have bsp : 0 ≤ sp ∧ sp ≤ 1000 := by split at hsp <;> omega
    have bty : 0 ≤ ty ∧ ty ≤ 1000 := by split at hty <;> omega
    have bdt := dataP_len hda
    clear hrf hsp hty hud hda
    have l1 := putL_len10 (n := id.toNat) (by unfold U64; omega)
    have l2 := putL_len10 (n := k.toNat) (by unfold U64; omega)
    have l3 := putL_len10 (n := tk.toNat) (by unfold U64; omega)
    have f1 := fun w => run_cat (P := Try.prog) w (putL id.toNat) (putL k.toNat) (by omega)
    have f2 := fun w => run_cat (P := Try.prog) w (putL id.toNat ++ putL k.toNat) (putL tk.toNat) (by simp only [List.length_append]; omega)
    simp only [List.append_assoc] at f2
    have hg := h2.lt
    have hkeep := fun w' w'' h k => held3r (g := w.heap.size) hg p0 p1 p2 (w' := w') (w'' := w'') h k
    go_region_held3 (fun w' => Below w2.heap.size w2 w' ∧ w'.cell? ⟨w.heap.size, 0, none⟩ = some (.int .i64 id) ∧ w'.cell? ⟨w.heap.size, 1, none⟩ = some (.int .i64 k) ∧ w'.cell? ⟨w.heap.size, 2, none⟩ = some (.int .i64 tk)) (first | exact hS | exact ⟨Below.refl _ _, p0, p1, p2⟩ | exact ⟨below_drewN _ _ 1, p0, p1, p2⟩)
      ((go_at_call 38; refine (rint_w _ (by omega) _).mono ?_; rintro _ w3 ⟨rfl, hb3⟩; have hS := hkeep _ _ (by assumption) hb3))
    have h3 := h2.next hS.1
    clear hS hkeep p0 p1 p2 h2 f1 f2
    have hl : (putL id.toNat ++ (putL k.toNat ++ putL tk.toNat)).length ≤ 30 := by simp only [List.length_append]; omega
    have hEe : R = (putL id.toNat ++ (putL k.toNat ++ putL tk.toNat)) ++ (evS k).flatMap (fldE (id, k, tk, rf, sp, ty, ud, dt)) := by
      rw [HR.out]
      unfold encE
      rw [encTl_flat]
      simp only [List.append_assoc]
    clear HR
    generalize putL id.toNat ++ (putL k.toNat ++ putL tk.toNat) = S at *
    have HR := hid hEe
    clear hEe l1 l2 l3
    have hfl : ∀ c, (fldE (id, k, tk, rf, sp, ty, ud, dt) c).length ≤ 1410 := fun c => by
      have z1 := putL_len10 (n := rf.toNat) (by unfold U64; omega)
      have z2 := putL_len10 (n := sp.toNat) (by unfold U64; omega)
      have z3 := putL_len10 (n := ty.toNat) (by unfold U64; omega)
      have z4 := putL_len10 (n := udN ud) (by unfold U64 udN; split <;> omega)
      have z5 := putL_len10' dt.length (by omega)
      unfold fldE
      simp only [Ev.rf, Ev.sp, Ev.ty, Ev.ud, Ev.dt]
      repeat' split
      all_goals try omega
      unfold textL; rw [List.length_append]; omega
    have hs2 := evS_len k
    have hmem := fun j (h : j < (evS k).length) => evS_mem (List.getElem_mem h)
    go_wp2_with fail
    go_loopw [6, 7] (fun s0 i0 wr => ∃ j : Nat, j ≤ (evS k).length ∧ s0 = .string ⟨(S ++ ((evS k).take j).flatMap (fldE (id, k, tk, rf, sp, ty, ud, dt))).toArray⟩ ∧ i0 = .int .i64 j ∧ EHeld w wr w.heap.size (id, k, tk, rf, sp, ty, ud, dt)) (fun _ i0 _ => (evS k).length - (intOf i0).toNat)
    case atStart => exact ⟨0, Nat.zero_le _, by simp, rfl, h3⟩
    case round =>
      obtain ⟨j, hj, rfl, rfl, hr⟩ := hrel
      by_cases hlt : j < (evS k).length
      · have hsucc := take_flat (fldE (id, k, tk, rf, sp, ty, ud, dt)) (evS k) j hlt
        have hlen := flat_len (fldE (id, k, tk, rf, sp, ty, ud, dt)) 1410 hfl ((evS k).take j)
        rw [List.length_take] at hlen
        have hm := hmem j hlt
        have hcc : (((⟨(evS k).toArray⟩ : ByteArray)[j]'hlt).toNat : Int) = (((evS k)[j]'hlt).toNat : Int) := rfl
        have p3 := hr.c3
        have p4 := hr.c4
        have p5 := hr.c5
        have p6 := hr.c6
        have p7 := hr.c7
        simp only [Ev.rf, Ev.sp, Ev.ty, Ev.ud, Ev.dt] at p3 p4 p5 p6 p7
        generalize (evS k)[j] = c at hcc hm hsucc
        generalize ((evS k).take j).flatMap (fldE (id, k, tk, rf, sp, ty, ud, dt)) = pre at *
        have hSl : (S ++ pre).length ≤ 10000 := by rw [List.length_append]; omega
        have HS := hid hsucc
        clear hsucc hlen
        rcases hm with rfl | rfl | rfl | rfl | rfl | rfl
        · have hcc' : (((⟨(evS k).toArray⟩ : ByteArray)[j]'hlt).toNat : Int) = 112 := hcc
          clear hcc
          go_wp2_with fail
          refine (rtext_any dt (by omega) _).mono ?_
          rintro _ w5 ⟨rfl, b5⟩
          have h5 := hr.next b5
          have zl : (textL dt).length ≤ 1410 := by first | exact putL_len1410 _ (by omega) | exact text1410 _ bdt
          have hcat := run_cat (P := Try.prog) w5 (S ++ pre) (textL dt) (by omega)
          (try simp only [List.append_assoc] at hcat)
          clear p3 p4 p5 p6 p7
          go_wp2_with fail
          go_roundw
          case rel => exact ⟨j + 1, by omega, by rw [HS.out]; (try simp only [List.append_assoc]); rfl, by go_num, h5⟩
          case measure => simp [intOf]; omega
        · have hcc' : (((⟨(evS k).toArray⟩ : ByteArray)[j]'hlt).toNat : Int) = 110 := hcc
          clear hcc
          go_wp2_with fail
          refine (rtext_any dt (by omega) _).mono ?_
          rintro _ w5 ⟨rfl, b5⟩
          have h5 := hr.next b5
          have zl : (textL dt).length ≤ 1410 := by first | exact putL_len1410 _ (by omega) | exact text1410 _ bdt
          have hcat := run_cat (P := Try.prog) w5 (S ++ pre) (textL dt) (by omega)
          (try simp only [List.append_assoc] at hcat)
          clear p3 p4 p5 p6 p7
          go_wp2_with fail
          go_roundw
          case rel => exact ⟨j + 1, by omega, by rw [HS.out]; (try simp only [List.append_assoc]); rfl, by go_num, h5⟩
          case measure => simp [intOf]; omega
        · have hcc' : (((⟨(evS k).toArray⟩ : ByteArray)[j]'hlt).toNat : Int) = 114 := hcc
          clear hcc
          go_wp2_with fail
          refine (rint_w rf (by omega) _).mono ?_
          rintro _ w5 ⟨rfl, b5⟩
          have h5 := hr.next b5
          have zl : (putL rf.toNat).length ≤ 1410 := by first | exact putL_len1410 _ (by omega) | exact text1410 _ bdt
          have hcat := run_cat (P := Try.prog) w5 (S ++ pre) (putL rf.toNat) (by omega)
          (try simp only [List.append_assoc] at hcat)
          clear p3 p4 p5 p6 p7
          go_wp2_with fail
          go_roundw
          case rel => exact ⟨j + 1, by omega, by rw [HS.out]; (try simp only [List.append_assoc]); rfl, by go_num, h5⟩
          case measure => simp [intOf]; omega
        · have hcc' : (((⟨(evS k).toArray⟩ : ByteArray)[j]'hlt).toNat : Int) = 115 := hcc
          clear hcc
          go_wp2_with fail
          refine (rint_w sp (by omega) _).mono ?_
          rintro _ w5 ⟨rfl, b5⟩
          have h5 := hr.next b5
          have zl : (putL sp.toNat).length ≤ 1410 := by first | exact putL_len1410 _ (by omega) | exact text1410 _ bdt
          have hcat := run_cat (P := Try.prog) w5 (S ++ pre) (putL sp.toNat) (by omega)
          (try simp only [List.append_assoc] at hcat)
          clear p3 p4 p5 p6 p7
          go_wp2_with fail
          go_roundw
          case rel => exact ⟨j + 1, by omega, by rw [HS.out]; (try simp only [List.append_assoc]); rfl, by go_num, h5⟩
          case measure => simp [intOf]; omega
        · have hcc' : (((⟨(evS k).toArray⟩ : ByteArray)[j]'hlt).toNat : Int) = 116 := hcc
          clear hcc
          go_wp2_with fail
          refine (rint_w ty (by omega) _).mono ?_
          rintro _ w5 ⟨rfl, b5⟩
          have h5 := hr.next b5
          have zl : (putL ty.toNat).length ≤ 1410 := by first | exact putL_len1410 _ (by omega) | exact text1410 _ bdt
          have hcat := run_cat (P := Try.prog) w5 (S ++ pre) (putL ty.toNat) (by omega)
          (try simp only [List.append_assoc] at hcat)
          clear p3 p4 p5 p6 p7
          go_wp2_with fail
          go_roundw
          case rel => exact ⟨j + 1, by omega, by rw [HS.out]; (try simp only [List.append_assoc]); rfl, by go_num, h5⟩
          case measure => simp [intOf]; omega
        · have hcc' : (((⟨(evS k).toArray⟩ : ByteArray)[j]'hlt).toNat : Int) = 117 := hcc
          clear hcc
          cases ud
          · go_wp2_with fail
            refine (rint_w 0 (by omega) _).mono ?_
            rintro _ w5 ⟨rfl, b5⟩
            have h5 := hr.next b5
            have zl : (putL 0).length ≤ 1410 := by first | exact putL_len1410 _ (by omega) | exact text1410 _ bdt
            have hcat := run_cat (P := Try.prog) w5 (S ++ pre) (putL 0) (by omega)
            (try simp only [List.append_assoc] at hcat)
            clear p3 p4 p5 p6 p7
            go_wp2_with fail
            go_roundw
            case rel => exact ⟨j + 1, by omega, by rw [HS.out]; (try simp only [List.append_assoc]); rfl, by go_num, h5⟩
            case measure => simp [intOf]; omega
          · go_wp2_with fail
            refine (rint_w 1 (by omega) _).mono ?_
            rintro _ w5 ⟨rfl, b5⟩
            have h5 := hr.next b5
            have zl : (putL 1).length ≤ 1410 := by first | exact putL_len1410 _ (by omega) | exact text1410 _ bdt
            have hcat := run_cat (P := Try.prog) w5 (S ++ pre) (putL 1) (by omega)
            (try simp only [List.append_assoc] at hcat)
            clear p3 p4 p5 p6 p7
            go_wp2_with fail
            go_roundw
            case rel => exact ⟨j + 1, by omega, by rw [HS.out]; (try simp only [List.append_assoc]); rfl, by go_num, h5⟩
            case measure => simp [intOf]; omega
      · obtain rfl : j = (evS k).length := by omega
        have HT := hid (show R = S ++ ((evS k).take (evS k).length).flatMap (fldE (id, k, tk, rf, sp, ty, ud, dt)) by rw [HR.out, List.take_length])
        go_wp2_with fail
        go_ret2
        exact ⟨by rw [HT.out]; rfl, hr.below⟩
  · have hv := ev_no hp
    have hE : encEV (id, k, tk, rf, sp, ty, ud, dt) = [] := by unfold encEV; rw [if_neg hp]
    rw [hE, hv]
    have HV := hid (decide_eq_false hp)
    clear hE hv
    go_enter Try.func17, Try.ntmps17
    go_wp2_with fail
    rw [← HX.out]
    refine (eright_any id k tk rf sp ty ud dt hdt W).mono ?_
    rintro _ w1 ⟨rfl, b1⟩
    rw [HV.out]
    have h1 := h0.next b1
    clear h0
    go_wp2_with fail
    go_ret2
    exact ⟨rfl, h1.below⟩
end Go.Proofs.Ytjpbhdbmblalmaa
