/- CONTRACTS: the methods of wherryref01.Reader, over a reader of the call's own (block g); whoever is bad has nothing left. -/
import Derived.Test.YtfdbcnpbjabjoaaRdr
import Derived.Test.YtfdbcnpbjabjoaaVaryRGet
namespace Go.Proofs.Ytfdbcnpbjabjoaa
open Go.RowKit

/-- the reader in block g: what is left, and whether something was missing -/
def RRdr (w : World) (g : Nat) (r : List UInt8) (b : Bool) : Prop := Obj2 w g 121 (.string ⟨r.toArray⟩) (.bool b)
/-- who is bad has nothing left -/
def Sane (r : List UInt8) (b : Bool) : Prop := b = true → r = []
theorem sane_numF {r : List UInt8} {b : Bool} (h : Sane r b) : Sane (numF r b).2.1 (numF r b).2.2 := by
  cases b with
  | true => exact h
  | false =>
    intro h2
    have h3 : getB r = false := by simpa [numF] using h2
    cases hg : getFrom 0 r with
    | none => exact (get_none hg).2.1
    | some x => obtain ⟨n, s⟩ := x; rw [(get_some hg).2.2] at h3; cases h3
theorem sane_takeF {r : List UInt8} {b : Bool} (n : Int) (h : Sane r b) : Sane (takeF r b n).2.1 (takeF r b n).2.2 := by
  cases b with
  | true => exact h
  | false =>
    unfold takeF
    rw [if_neg (by simp)]
    split
    · intro _; rfl
    · intro h; cases h
theorem sane_intF {r : List UInt8} {b : Bool} (most : Int) (h : Sane r b) : Sane (intF r b most).2.1 (intF r b most).2.2 := by
  have h1 := sane_numF h
  unfold intF
  split
  · rename_i h2; rw [h2] at h1; exact fun _ => h1 rfl
  · split
    · intro _; rfl
    · intro h; cases h
theorem sane_textF {r : List UInt8} {b : Bool} (h : Sane r b) : Sane (textF r b).2.1 (textF r b).2.2 := sane_takeF _ (sane_numF h)

theorem fail_any (g : Nat) (r : List UInt8) (b : Bool) (w : World) (h : RRdr w g r b) :
    Calls Try.prog 81 #[.pointer (some ⟨g, 0, none⟩)] w fun e w' => e = .returned (.tuple #[]) ∧ RRdr w' g [] true ∧ At g w w' := by
  have c0 := h.c0; have c1 := h.c1; have f0 := h.fz 0; have f1 := h.fz 1
  go_enter Try.func81, Try.ntmps81
  go_wp2_with fail
  go_end0
  exact ⟨rfl, (h.set0 _).set1 _, ((At.refl _ _).set 0 _).set 1 _⟩

theorem getK_cases (r : List UInt8) : (getB r = false ∧ getN r = 0 ∧ getK r = 0) ∨ (getB r = true ∧ 0 < getK r ∧ getK r ≤ r.length ∧ getR r = r.drop (getK r)) := by
  cases hg : getFrom 0 r with
  | none => obtain ⟨e1, e2, e3⟩ := get_none hg; exact .inl ⟨e3, e1, (getK_none hg).2⟩
  | some x =>
    obtain ⟨m, s⟩ := x
    obtain ⟨e1, e2, e3⟩ := get_some hg
    obtain ⟨hu, hr⟩ := (get_iff r m s).1 hg
    have hp := putL_pos m
    have hlen : r.length = (putL m).length + s.length := by rw [hr]; simp
    have hK : getK r = (putL m).length := by unfold getK; rw [e3, e2]; simp; omega
    refine .inr ⟨e3, by omega, by omega, ?_⟩
    rw [hK, e2, hr]; simp
theorem numF_no {r : List UInt8} (h : getB r = false) (h2 : getN r = 0) : numF r false = (0, [], true) := by
  have : getR r = [] := by
    cases hg : getFrom 0 r with
    | none => exact (get_none hg).2.1
    | some x => obtain ⟨n, s⟩ := x; rw [(get_some hg).2.2] at h; cases h
  simp [numF, h, h2, this]
theorem numF_ok {r : List UInt8} (h : getB r = true) (h2 : getR r = r.drop (getK r)) : numF r false = (getN r, r.drop (getK r), false) := by simp [numF, h, h2]

set_option maxHeartbeats 1600000 in
theorem rnum_any (g : Nat) (r : List UInt8) (b : Bool) (w : World) (h : RRdr w g r b) (hs : Sane r b) (hl : r.length ≤ maxLen) :
    Calls Try.prog 80 #[.pointer (some ⟨g, 0, none⟩)] w fun e w' =>
      e = .returned (.int .u64 (numF r b).1) ∧ RRdr w' g (numF r b).2.1 (numF r b).2.2 ∧ At g w w' := by
  have c0 := h.c0
  cases b with
  | true =>
    obtain rfl := hs rfl
    rw [show numF [] true = (0, [], true) from rfl]
    go_enter Try.func80, Try.ntmps80
    go_wp2_with fail
    refine (rget_any [] hl _).mono ?_
    rintro e w1 ⟨rfl, hb1⟩
    have h1 := h.keep hb1
    have c1 := h1.c1
    go_wp2_with fail
    refine (fail_any g _ _ _ h1).mono ?_
    rintro e w2 ⟨rfl, h2, hg2⟩
    go_wp2_with fail
    go_ret
    exact ⟨rfl, h2, (At.of_below hb1).trans hg2⟩
  | false =>
    rcases getK_cases r with ⟨e1, e2, e3⟩ | ⟨e1, e2, e3, e4⟩
    · rw [numF_no e1 e2]
      go_enter Try.func80, Try.ntmps80
      go_wp2_with fail
      refine (rget_any r hl _).mono ?_
      rintro e w1 ⟨rfl, hb1⟩
      rw [e2, e3]
      have h1 := h.keep hb1
      have c1 := h1.c1
      go_wp2_with fail
      refine (fail_any g _ _ _ h1).mono ?_
      rintro e w2 ⟨rfl, h2, hg2⟩
      go_wp2_with fail
      go_ret
      exact ⟨rfl, h2, (At.of_below hb1).trans hg2⟩
    · rw [numF_ok e1 e4]
      clear e4
      have hd := ext_drop r (getK r)
      have hz : ((getK r : Int) == 0) = false := by rw [beq_eq_false_iff_ne]; omega
      have hi : (getK r : Int) ≤ (r.length : Int) := by omega
      go_enter Try.func80, Try.ntmps80
      go_wp2_with fail
      refine (rget_any r hl _).mono ?_
      rintro e w1 ⟨rfl, hb1⟩
      have h1 := h.keep hb1
      have d0 := h1.c0; have c1 := h1.c1; have f0 := h1.fz 0; have f1 := h1.fz 1
      go_wp2_with fail
      go_ret
      exact ⟨rfl, h1.set0 _, (At.of_below hb1).set 0 _⟩

set_option maxHeartbeats 1600000 in
theorem rint_any_r (g : Nat) (r : List UInt8) (b : Bool) (most : Int) (w : World) (h : RRdr w g r b) (hs : Sane r b) (hl : r.length ≤ maxLen) (hm0 : -9223372036854775808 ≤ most) (hm1 : most ≤ 9223372036854775807) :
    Calls Try.prog 57 #[.pointer (some ⟨g, 0, none⟩), .int .i64 most] w fun e w' =>
      e = .returned (.int .i64 (intF r b most).1) ∧ RRdr w' g (intF r b most).2.1 (intF r b most).2.2 ∧ At g w w' := by
  have hu := numF_u64 r b
  have hs1 := sane_numF hs
  obtain ⟨⟨N, r1, b1⟩, hx⟩ : ∃ x, numF r b = x := ⟨_, rfl⟩
  have HX := hid hx
  rw [hx] at hu hs1
  clear hx
  simp only at hu hs1
  cases b1 with
  | true =>
    obtain rfl := hs1 rfl
    rw [intF_bad HX.out]
    go_enter Try.func57, Try.ntmps57
    go_wp2_with fail
    refine (rnum_any g r b _ h hs hl).mono ?_
    rw [HX.out]
    rintro e w1 ⟨rfl, h1, hg1⟩
    have c0 := h1.c0; have c1 := h1.c1; have f0 := h1.fz 0; have f1 := h1.fz 1
    go_wp2_with fail
    refine (fail_any g _ _ _ h1).mono ?_
    rintro e w2 ⟨rfl, h2, hg2⟩
    go_wp2_with fail
    go_ret
    exact ⟨rfl, h2, hg1.trans hg2⟩
  | false =>
    by_cases hn : most < 0
    · rw [intF_no HX.out (.inl hn)]
      go_enter Try.func57, Try.ntmps57
      go_wp2_with fail
      refine (rnum_any g r b _ h hs hl).mono ?_
      rw [HX.out]
      rintro e w1 ⟨rfl, h1, hg1⟩
      have c0 := h1.c0; have c1 := h1.c1; have f0 := h1.fz 0; have f1 := h1.fz 1
      go_wp2_with fail
      refine (fail_any g _ _ _ h1).mono ?_
      rintro e w2 ⟨rfl, h2, hg2⟩
      go_wp2_with fail
      go_ret
      exact ⟨rfl, h2, hg1.trans hg2⟩
    · obtain ⟨m, rfl⟩ := Int.eq_ofNat_of_zero_le (Int.not_lt.1 hn)
      have hw : IntKind.u64.wrap (m : Int) = (m : Int) := wrap_u64 (by omega) (by omega)
      by_cases hgt : m < N
      · rw [intF_no HX.out (.inr (by omega))]
        go_enter Try.func57, Try.ntmps57
        go_wp2_with fail
        refine (rnum_any g r b _ h hs hl).mono ?_
        rw [HX.out]
        rintro e w1 ⟨rfl, h1, hg1⟩
        have c0 := h1.c0; have c1 := h1.c1; have f0 := h1.fz 0; have f1 := h1.fz 1
        go_wp2_with fail
        refine (fail_any g _ _ _ h1).mono ?_
        rintro e w2 ⟨rfl, h2, hg2⟩
        go_wp2_with fail
        go_ret
        exact ⟨rfl, h2, hg1.trans hg2⟩
      · have hw2 : IntKind.i64.wrap (N : Int) = (N : Int) := IntWalk.i64_in _ (by omega)
        rw [intF_ok HX.out (by omega)]
        go_enter Try.func57, Try.ntmps57
        go_wp2_with fail
        refine (rnum_any g r b _ h hs hl).mono ?_
        rw [HX.out]
        rintro e w1 ⟨rfl, h1, hg1⟩
        have c0 := h1.c0; have c1 := h1.c1; have f0 := h1.fz 0; have f1 := h1.fz 1
        go_wp2_with fail
        go_ret
        exact ⟨rfl, h1, hg1⟩

set_option maxHeartbeats 1600000 in
theorem rtake_any (g : Nat) (r : List UInt8) (b : Bool) (n : Int) (w : World) (h : RRdr w g r b) (hs : Sane r b) (hl : r.length ≤ maxLen) :
    Calls Try.prog 82 #[.pointer (some ⟨g, 0, none⟩), .int .i64 n] w fun e w' =>
      e = .returned (.string ⟨(takeF r b n).1.toArray⟩) ∧ RRdr w' g (takeF r b n).2.1 (takeF r b n).2.2 ∧ At g w w' := by
  unfold maxLen at hl
  have c0 := h.c0; have c1 := h.c1; have f0 := h.fz 0; have f1 := h.fz 1
  cases b with
  | true =>
    obtain rfl := hs rfl
    rw [show takeF [] true n = ([], [], true) from rfl]
    go_enter Try.func82, Try.ntmps82
    go_wp2_with fail
    refine (fail_any g _ _ _ h).mono ?_
    rintro e w2 ⟨rfl, h2, hg2⟩
    go_wp2_with fail
    go_ret
    exact ⟨rfl, h2, hg2⟩
  | false =>
    by_cases hn : n < 0
    · rw [takeF_no (.inl hn)]
      go_enter Try.func82, Try.ntmps82
      go_wp2_with fail
      refine (fail_any g _ _ _ h).mono ?_
      rintro e w2 ⟨rfl, h2, hg2⟩
      go_wp2_with fail
      go_ret
      exact ⟨rfl, h2, hg2⟩
    · obtain ⟨m, rfl⟩ := Int.eq_ofNat_of_zero_le (Int.not_lt.1 hn)
      by_cases hgt : r.length < m
      · rw [takeF_no (.inr (by omega))]
        go_enter Try.func82, Try.ntmps82
        go_wp2_with fail
        refine (fail_any g _ _ _ h).mono ?_
        rintro e w2 ⟨rfl, h2, hg2⟩
        go_wp2_with fail
        go_ret
        exact ⟨rfl, h2, hg2⟩
      · have hd := ext_drop r m
        have ht : (⟨r.toArray⟩ : ByteArray).extract 0 m = ⟨(r.take m).toArray⟩ := by rw [ext_mid]; simp
        rw [takeF_ok (by omega)]
        go_enter Try.func82, Try.ntmps82
        go_wp2_with fail
        go_ret
        exact ⟨rfl, h.set0 _, (At.refl _ _).set 0 _⟩

set_option maxHeartbeats 1600000 in
theorem rtext_any_r (g : Nat) (r : List UInt8) (b : Bool) (w : World) (h : RRdr w g r b) (hs : Sane r b) (hl : r.length < 1099511627776) :
    Calls Try.prog 59 #[.pointer (some ⟨g, 0, none⟩)] w fun e w' =>
      e = .returned (.string ⟨(textF r b).1.toArray⟩) ∧ RRdr w' g (textF r b).2.1 (textF r b).2.2 ∧ At g w w' := by
  have hu := numF_u64 r b
  have hln := numF_len r b
  have hs1 := sane_numF hs
  obtain ⟨⟨N, r1, b1⟩, hx⟩ : ∃ x, numF r b = x := ⟨_, rfl⟩
  have HX := hid hx
  rw [hx] at hu hln hs1
  clear hx
  simp only at hu hln hs1
  cases b1 with
  | true =>
    obtain rfl := hs1 rfl
    rw [textF_bad HX.out]
    go_enter Try.func59, Try.ntmps59
    go_wp2_with fail
    refine (rnum_any g r b _ h hs (by unfold maxLen; omega)).mono ?_
    rw [HX.out]
    rintro e w1 ⟨rfl, h1, hg1⟩
    have c0 := h1.c0; have c1 := h1.c1; have f0 := h1.fz 0; have f1 := h1.fz 1
    go_wp2_with fail
    refine (fail_any g _ _ _ h1).mono ?_
    rintro e w2 ⟨rfl, h2, hg2⟩
    go_wp2_with fail
    go_ret
    exact ⟨rfl, h2, hg1.trans hg2⟩
  | false =>
    rw [textF_go HX.out]
    by_cases hgt : r1.length < N
    · rw [takeF_no (.inr (by omega))]
      go_enter Try.func59, Try.ntmps59
      go_wp2_with fail
      refine (rnum_any g r b _ h hs (by unfold maxLen; omega)).mono ?_
      rw [HX.out]
      rintro e w1 ⟨rfl, h1, hg1⟩
      have c0 := h1.c0; have c1 := h1.c1; have f0 := h1.fz 0; have f1 := h1.fz 1
      go_wp2_with fail
      refine (fail_any g _ _ _ h1).mono ?_
      rintro e w2 ⟨rfl, h2, hg2⟩
      go_wp2_with fail
      go_ret
      exact ⟨rfl, h2, hg1.trans hg2⟩
    · have hmin : min (N : Int) 1099511627776 = (N : Int) := by omega
      rw [hmin]
      clear hmin
      have hw2 : IntKind.i64.wrap (N : Int) = (N : Int) := IntWalk.i64_in _ (by omega)
      go_enter Try.func59, Try.ntmps59
      go_wp2_with fail
      refine (rnum_any g r b _ h hs (by unfold maxLen; omega)).mono ?_
      rw [HX.out]
      rintro e w1 ⟨rfl, h1, hg1⟩
      have c0 := h1.c0; have c1 := h1.c1; have f0 := h1.fz 0; have f1 := h1.fz 1
      go_wp2_with fail
      refine (rtake_any g r1 false _ _ h1 hs1 (by unfold maxLen; omega)).mono ?_
      rintro e w2 ⟨rfl, h2, hg2⟩
      go_wp2_with fail
      go_ret
      exact ⟨rfl, h2, hg1.trans hg2⟩

set_option maxHeartbeats 800000 in
theorem rend_any (g : Nat) (r : List UInt8) (b : Bool) (w : World) (h : RRdr w g r b) :
    Calls Try.prog 60 #[.pointer (some ⟨g, 0, none⟩)] w fun e w' => e = .returned (.bool (endF r b)) ∧ w' = w := by
  have c0 := h.c0; have c1 := h.c1
  cases b <;> cases r
  all_goals
    go_enter Try.func60, Try.ntmps60
    go_wp2_with fail
    go_ret
    exact ⟨rfl, rfl⟩
end Go.Proofs.Ytfdbcnpbjabjoaa
