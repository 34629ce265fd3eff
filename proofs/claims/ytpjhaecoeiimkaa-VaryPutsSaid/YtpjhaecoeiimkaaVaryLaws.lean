/- THE WALKS OF THE LAWS VaryOnce, VaryOrder, VaryPuts: each call by its contract. -/
import Derived.Test.YtpjhaecoeiimkaaVaryAwake
import Derived.Test.YtpjhaecoeiimkaaVaryRGet
import Derived.Test.YtpjhaecoeiimkaaVaryFixed
import Derived.Test.YtpjhaecoeiimkaaVaryOrd
namespace Go.Proofs.Ytpjhaecoeiimkaa
open Go.RowKit

set_option maxHeartbeats 1600000 in
theorem varyOnce_walk (l : List UInt8) (hl : l.length ≤ 140737488351232) (w : World) :
    Calls Try.prog 3 #[.string ⟨l.toArray⟩] w fun e w' => e = .returned (.bool true) ∧ Below w.heap.size w w' := by
  cases hg : getFrom 0 l with
  | none =>
    obtain ⟨e1, e2, e3⟩ := get_none hg
    clear hg
    go_enter Try.func3, Try.ntmps3
    go_wp2_with fail
    refine (vawake_any _).mono ?_
    rintro e w1 ⟨rfl, hb1⟩
    go_wp2_with fail
    refine (get_any l (by unfold maxLen; omega) _).mono ?_
    rintro e w2 ⟨rfl, n, rfl⟩
    rw [e1, e2, e3]
    go_wp2_with fail
    go_ret
    exact ⟨rfl, bnext hb1 (below_drewN _ _ _)⟩
  | some x =>
    obtain ⟨n, r⟩ := x
    obtain ⟨e1, e2, e3⟩ := get_some hg
    obtain ⟨hu, hr⟩ := (get_iff l n r).1 hg
    clear hg
    have h10 := putL_len10 hu
    have hlr : (putL n).length + r.length = l.length := by rw [hr]; simp
    have hbe : (putL n ++ r == l) = true := by rw [hr]; simp
    clear hr
    have h10' : ((putL n).length : Int) ≤ 10 := by omega
    have E1 := hid e1; have E2 := hid e2; have E3 := hid e3
    have HL := hid hlr
    clear e1 e2 e3 hlr
    go_enter Try.func3, Try.ntmps3
    go_wp2_with fail
    refine (vawake_any _).mono ?_
    rintro e w1 ⟨rfl, hb1⟩
    go_wp2_with fail
    refine (get_any l (by unfold maxLen; omega) _).mono ?_
    rintro e w2 ⟨rfl, k, rfl⟩
    rw [E1.out, E2.out, E3.out]
    go_wp2_with fail
    refine (put_any n hu _).mono ?_
    rintro e w3 ⟨rfl, hb3⟩
    have hcat := run_cat (P := Try.prog) w3 (putL n) r (by have := HL.out; omega)
    go_wp2_with fail
    refine (put_any n hu _).mono ?_
    rintro e w4 ⟨rfl, hb4⟩
    go_wp2_with fail
    go_ret
    exact ⟨rfl, bnext (bnext (bnext hb1 (below_drewN _ _ _)) hb3) hb4⟩

set_option maxHeartbeats 1600000 in
theorem varyOrder_walk (a : Nat) (ha : U64 a) (b : Nat) (hb : U64 b) (w : World) :
    Calls Try.prog 5 #[.int .u64 a, .int .u64 b] w fun e w' => e = .returned (.bool true) ∧ Below w.heap.size w w' := by
  have hL : Op.bytesLess (fixedL a) (fixedL b) = decide ((a : Int) < (b : Int)) := by rw [fixedL_less ha hb]; simp
  have hE : (fixedL a == fixedL b) = ((a : Int) == (b : Int)) := by rw [fixedL_beq ha hb, Bool.eq_iff_iff]; simp; omega
  have hl := fixedL_len a
  go_enter Try.func5, Try.ntmps5
  go_wp2_with fail
  refine (vawake_any _).mono ?_
  rintro e w1 ⟨rfl, hb1⟩
  go_wp2_with fail
  refine (fixed_any a ha _).mono ?_
  rintro e w2 ⟨rfl, hb2⟩
  go_wp2_with fail
  refine (fixed_any b hb _).mono ?_
  rintro e w3 ⟨rfl, hb3⟩
  go_wp2_with fail
  go_ret
  exact ⟨rfl, bnext (bnext hb1 hb2) hb3⟩

set_option maxHeartbeats 1600000 in
theorem varyPuts_walk (n : Nat) (hn : U64 n) (l : List UInt8) (hl : l.length ≤ 140737488351232) (w : World) :
    Calls Try.prog 4 #[.int .u64 n, .string ⟨l.toArray⟩] w fun e w' => e = .returned (.bool true) ∧ Below w.heap.size w w' := by
  have hk : (getFrom 0 l = none ∧ getN l = 0 ∧ getR l = [] ∧ getB l = false ∧ getK l = 0) ∨ (getB l = true ∧ 0 < getK l ∧ getK l ≤ l.length ∧ getR l = l.drop (getK l)) := by
    cases hg : getFrom 0 l with
    | none => obtain ⟨e1, e2, e3⟩ := get_none hg; exact .inl ⟨rfl, e1, e2, e3, (getK_none hg).2⟩
    | some x =>
      obtain ⟨m, r⟩ := x
      obtain ⟨e1, e2, e3⟩ := get_some hg
      obtain ⟨hu, hr⟩ := (get_iff l m r).1 hg
      have hp := putL_pos m
      have hlen : l.length = (putL m).length + r.length := by rw [hr]; simp
      have hK : getK l = (putL m).length := by unfold getK; rw [e3, e2]; simp; omega
      refine .inr ⟨e3, by omega, by omega, ?_⟩
      rw [hK, e2, hr]; simp
  rcases hk with ⟨_, e1, e2, e3, e4⟩ | ⟨e1, e2, e3, e4⟩
  · go_enter Try.func4, Try.ntmps4
    go_wp2_with fail
    refine (vawake_any _).mono ?_
    rintro e w1 ⟨rfl, hb1⟩
    go_wp2_with fail
    refine (get_any l (by unfold maxLen; omega) _).mono ?_
    rintro e w2 ⟨rfl, k, rfl⟩
    rw [e1, e2, e3]
    go_wp2_with fail
    refine (rget_any l (by unfold maxLen; omega) _).mono ?_
    rintro e w3 ⟨rfl, hb3⟩
    rw [e1, e4]
    go_wp2_with fail
    refine (put_any n hn _).mono ?_
    rintro e w4 ⟨rfl, hb4⟩
    go_wp2_with fail
    refine (rput_any n hn _).mono ?_
    rintro e w5 ⟨rfl, hb5⟩
    go_wp2_with fail
    refine (fixed_any n hn _).mono ?_
    rintro e w6 ⟨rfl, hb6⟩
    go_wp2_with fail
    refine (rfixed_any n hn _).mono ?_
    rintro e w7 ⟨rfl, hb7⟩
    go_wp2_with fail
    refine (text_any l (by omega) _).mono ?_
    rintro e w8 ⟨rfl, hb8⟩
    go_wp2_with fail
    refine (rtext_any l (by omega) _).mono ?_
    rintro e w9 ⟨rfl, hb9⟩
    go_wp2_with fail
    go_ret
    exact ⟨rfl, bnext (bnext (bnext (bnext (bnext (bnext (bnext hb1 (bnext (below_drewN _ _ _) hb3)) hb4) hb5) hb6) hb7) hb8) hb9⟩
  · have hs1 : (0 : Int) < (getK l : Int) := by omega
    have hs2 : (getK l : Int) ≤ (l.length : Int) := by omega
    have hs3 := ext_drop l (getK l)
    have E4 := hid e4
    clear e4
    go_enter Try.func4, Try.ntmps4
    go_wp2_with fail
    refine (vawake_any _).mono ?_
    rintro e w1 ⟨rfl, hb1⟩
    go_wp2_with fail
    refine (get_any l (by unfold maxLen; omega) _).mono ?_
    rintro e w2 ⟨rfl, k, rfl⟩
    rw [e1, E4.out]
    go_wp2_with fail
    refine (rget_any l (by unfold maxLen; omega) _).mono ?_
    rintro e w3 ⟨rfl, hb3⟩
    go_wp2_with fail
    refine (put_any n hn _).mono ?_
    rintro e w4 ⟨rfl, hb4⟩
    go_wp2_with fail
    refine (rput_any n hn _).mono ?_
    rintro e w5 ⟨rfl, hb5⟩
    go_wp2_with fail
    refine (fixed_any n hn _).mono ?_
    rintro e w6 ⟨rfl, hb6⟩
    go_wp2_with fail
    refine (rfixed_any n hn _).mono ?_
    rintro e w7 ⟨rfl, hb7⟩
    go_wp2_with fail
    refine (text_any l (by omega) _).mono ?_
    rintro e w8 ⟨rfl, hb8⟩
    go_wp2_with fail
    refine (rtext_any l (by omega) _).mono ?_
    rintro e w9 ⟨rfl, hb9⟩
    go_wp2_with fail
    go_ret
    exact ⟨rfl, bnext (bnext (bnext (bnext (bnext (bnext (bnext hb1 (bnext (below_drewN _ _ _) hb3)) hb4) hb5) hb6) hb7) hb8) hb9⟩
end Go.Proofs.Ytpjhaecoeiimkaa
