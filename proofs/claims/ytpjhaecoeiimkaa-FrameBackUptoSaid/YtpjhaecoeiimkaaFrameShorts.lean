/- THE WALK OF FrameShorts. -/
import Derived.Test.YtpjhaecoeiimkaaFrameLaws
namespace Go.Proofs.Ytpjhaecoeiimkaa
open Go.RowKit

theorem hi_split : ∀ {l : List UInt8}, hiL l = true → split7 l = none
  | [], _ => rfl
  | c :: r, h => by
    simp only [hiL, List.all_cons, Bool.and_eq_true, decide_eq_true_eq] at h
    rw [split7, if_neg (by omega), hi_split (l := r) h.2]; rfl
theorem hi_get {l : List UInt8} (h : hiL l = true) : getFrom 0 l = none := by
  cases hg : getFrom 0 l with
  | none => rfl
  | some x =>
    obtain ⟨_, hl⟩ := (get_iff l x.1 x.2).1 hg
    have h1 := split7_putL x.1 x.2
    rw [← hl, hi_split h] at h1
    cases h1
theorem put_take_hi (n : Nat) : ∀ j, j < (putL n).length → hiL ((putL n).take j) = true := by
  induction n using put_ind with
  | lo n h => intro j hj; rw [putL_lt h] at hj ⊢; obtain rfl : j = 0 := by simpa using hj
              rfl
  | hi n h ih =>
    intro j hj
    rw [putL_ge h] at hj ⊢
    cases j with
    | zero => rfl
    | succ j =>
      rw [List.take_succ_cons]
      have := ih j (by simpa using hj)
      simp only [hiL, List.all_cons] at this ⊢
      rw [this, more7_nat]; simp
theorem next_take (s : List UInt8) (hs : s.length ≤ 1048576) (k : Nat) (hk : k < (wrapL s).length) : nextF ((wrapL s).take k) = ([], [], 20) := by
  have hu : U64 s.length := by unfold U64; omega
  have h10 := putL_len10 hu
  have hlen : (wrapL s).length = (putL s.length).length + (4 + s.length) := by simp [wrapL, fourL_len]
  by_cases h : k < (putL s.length).length
  · have e : (wrapL s).take k = (putL s.length).take k := by unfold wrapL; rw [List.take_append_of_le_length (by omega)]
    have hh := put_take_hi s.length k h
    rw [e]
    exact next_short (hi_get hh) (by rw [List.length_take]; omega) hh
  · have e : (wrapL s).take k = putL s.length ++ (fourL s ++ s).take (k - (putL s.length).length) := by unfold wrapL; rw [List.take_append, List.take_of_length_le (by omega)]
    have hg : getFrom 0 ((wrapL s).take k) = some (s.length, (fourL s ++ s).take (k - (putL s.length).length)) := (get_iff _ _ _).2 ⟨hu, e⟩
    refine next_cut hg (by omega) ?_
    rw [List.length_take, List.length_append, fourL_len]
    omega

set_option maxHeartbeats 1600000 in
theorem frameShorts_walk (l : List UInt8) (hl : l.length ≤ 140737488351232) (cut : Int) (hc : -9223372036854775808 ≤ cut ∧ cut ≤ 9223372036854775807) (w : World) :
    Calls Try.prog 9 #[.string ⟨l.toArray⟩, .int .i64 cut] w fun e w' => e = .returned (.bool true) ∧ Below w.heap.size w w' := by
  by_cases h : l.length ≤ 1048576
  · have hu : U64 l.length := by unfold U64; omega
    have h10 := putL_len10 hu
    have hlen : (wrapL l).length ≤ 1048600 := by simp only [wrapL, List.length_append, fourL_len]; omega
    by_cases hneg : cut < 0
    · go_enter Try.func9, Try.ntmps9
      go_wp2_with fail
      refine (fawake_any _).mono ?_
      rintro e w1 ⟨rfl, hb1⟩
      go_wp2_with fail
      refine (wrap_any l h _).mono ?_
      rintro e w2 ⟨rfl, hb2⟩
      go_wp2_with fail
      go_ret
      exact ⟨rfl, bnext hb1 hb2⟩
    · obtain ⟨k, rfl⟩ := Int.eq_ofNat_of_zero_le (Int.not_lt.1 hneg)
      have hnt := fun hk => next_take l h k hk
      obtain ⟨W, hW⟩ : ∃ W, W = wrapL l := ⟨_, rfl⟩
      have HW := hid hW
      rw [← hW] at hnt hlen
      clear hW
      have HNT := hid hnt
      clear hnt
      by_cases hk : k < W.length
      · have hex : (⟨W.toArray⟩ : ByteArray).extract 0 k = ⟨(W.take k).toArray⟩ := by rw [ext_mid]; simp
        have hkl : ¬ (W.length : Int) ≤ (k : Int) := by omega
        go_enter Try.func9, Try.ntmps9
        go_wp2_with fail
        refine (fawake_any _).mono ?_
        rintro e w1 ⟨rfl, hb1⟩
        go_wp2_with fail
        refine (wrap_any l h _).mono ?_
        rw [← HW.out]
        rintro e w2 ⟨rfl, hb2⟩
        go_wp2_with fail
        refine (next_any (W.take k) (by rw [List.length_take]; unfold maxLen; omega) _).mono ?_
        rw [HNT.out hk]
        rintro e w3 ⟨rfl, hb3⟩
        go_wp2_with fail
        go_ret
        exact ⟨rfl, bnext (bnext hb1 hb2) hb3⟩
      · go_enter Try.func9, Try.ntmps9
        go_wp2_with fail
        refine (fawake_any _).mono ?_
        rintro e w1 ⟨rfl, hb1⟩
        go_wp2_with fail
        refine (wrap_any l h _).mono ?_
        rw [← HW.out]
        rintro e w2 ⟨rfl, hb2⟩
        go_wp2_with fail
        go_ret
        exact ⟨rfl, bnext hb1 hb2⟩
  · go_enter Try.func9, Try.ntmps9
    go_wp2_with fail
    refine (fawake_any _).mono ?_
    rintro e w1 ⟨rfl, hb1⟩
    go_wp2_with fail
    refine (wrap_no l (by omega) (by unfold maxLen; omega) _).mono ?_
    rintro e w2 ⟨rfl, hb2⟩
    go_wp2_with fail
    go_ret
    exact ⟨rfl, bnext hb1 hb2⟩
end Go.Proofs.Ytpjhaecoeiimkaa
