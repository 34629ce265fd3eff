/- WALK of PlayRuns. -/
import Derived.Test.YtnbmfffppajniaaPmN
import Derived.Test.YtnbmfffppajniaaPmP
import Derived.IntWalk
namespace Go.Proofs.Ytnbmfffppajniaa
open Go.RowKit
set_option linter.unusedVariables false
set_option linter.unusedSimpArgs false

theorem tmod_at (n : Int) (m : Nat) (hm : 0 < m) : ∃ K : Nat, K < m ∧ (n.tmod (m : Int) + (m : Int)).tmod (m : Int) = (K : Int) ∧ -(m : Int) ≤ n.tmod (m : Int) ∧ n.tmod (m : Int) ≤ (m : Int) := by
  have h1 : (n.tmod (m : Int)) < (m : Int) := Int.tmod_lt_of_pos n (by omega)
  have h2 : -(m : Int) < n.tmod (m : Int) := by
    have := Int.tmod_lt_of_pos (-n) (b := (m : Int)) (by omega)
    rw [Int.neg_tmod] at this
    omega
  have h3 : 0 ≤ (n.tmod (m : Int) + (m : Int)).tmod (m : Int) := Int.tmod_nonneg _ (by omega)
  have h4 : (n.tmod (m : Int) + (m : Int)).tmod (m : Int) < (m : Int) := Int.tmod_lt_of_pos _ (by omega)
  exact ⟨((n.tmod (m : Int) + (m : Int)).tmod (m : Int)).toNat, by omega, by omega, by omega, by omega⟩
set_option maxHeartbeats 64000000 in
set_option maxRecDepth 100000 in
theorem playRuns_b (a : Option Addr) (c : Nat) (l : List Ev) (n : Int) (hn : -9223372036854775808 ≤ n ∧ n ≤ 9223372036854775807) (w : World) (hs : Sl w (.slice a l.length c) 8 l.length (l.flatMap evc)) (hcap : l.length ≤ c) (hfit : FitE l) :
    Calls Try.prog 6 #[.slice a l.length c, .int .i64 n] w fun e w' => e = .returned (.bool true) ∧ Below w.heap.size w w' := by
  have hm : l.length ≤ 9223372036854775807 := hs.2.1.1
  go_enter Try.func6, Try.ntmps6
  go_wp2_with fail
  refine (pawake_any w).mono ?_
  rintro _ w1 ⟨rfl, b1⟩
  have hs1 := hs.below b1
  have HC := hid (plcheck_any a c l w1 hs1 hfit hcap)
  go_wp2_with fail
  refine HC.out.mono ?_
  rintro _ w2 ⟨rfl, b2⟩
  have b02 := bnext b1 b2
  have hs2 := hs1.below b2
  obtain ⟨hi0, hi1⟩ := check_range l
  by_cases hc0 : (checkF l).2 = 0
  case neg =>
    have hq : ((checkF l).2 == 0) = false := by simpa using hc0
    have hq' : ((checkF l).2 != 0) = true := by simpa using hc0
    have HB := hid b02
    clear hc0 hs hs1 hs2 b1 b2 b02 HC
    generalize (checkF l).2 = e9 at *
    generalize (checkF l).1 = i9 at *
    go_wp2_with fail
    go_ret
    exact ⟨rfl, HB.out⟩
  rw [hc0]
  obtain ⟨hl, hcf⟩ := check_ok.1 hc0
  have hH := hcf.hs
  have h500 := hH.short
  by_cases h300 : 300 < l.length
  · have hq : (300 : Int) < (l.length : Int) := by omega
    have HB := hid b02
    clear hc0 hs hs1 hs2 b1 b2 b02 HC
    generalize (checkF l).1 = i9 at *
    go_wp2_with fail
    go_ret
    exact ⟨rfl, HB.out⟩
  have hq : (l.length : Int) ≤ 300 := by omega
  have hl0 : 0 < l.length := by
    rcases Nat.eq_zero_or_pos l.length with q | q
    · exact absurd (List.eq_nil_of_length_eq_zero q) hl
    · exact q
  have hlp : (0 : Int) < (l.length : Int) := by omega
  obtain ⟨K0, hK0, hz1, hz2, hz3⟩ := tmod_at n l.length hl0
  have HCF := hid hcf
  have HS := hid hs2
  have HFT := hid hfit
  have HB := hid b02
  clear hc0 hs hs1 hs2 b1 b2 b02 HC hl hcf hH hi0 hi1
  generalize (checkF l).1 = i9 at *
  have hw2 : wrap64 (n.tmod (l.length : Int) + (l.length : Int)) = n.tmod (l.length : Int) + (l.length : Int) := IntWalk.wrap64_in _ (by omega)
  have hd0 : ¬ ((l.length : Int) = 0) := by omega
  have hw3 : wrap64 ((K0 : Int) + 1) = (K0 : Int) + 1 := IntWalk.wrap64_in _ (by omega)
  have hK0I : (K0 : Int) < (l.length : Int) := by omega
  obtain ⟨_, _, a', cap, hv, hc⟩ := HS.out
  rw [Value.slice.injEq] at hv
  obtain ⟨rfl, -, rfl⟩ := hv
  obtain ⟨b, off, rfl, hblt, hc⟩ := hc.resolve_left (by omega)
  have HCC := hid (fun (K : Nat) (hK : K < l.length) => (ev_cell hc K 1 (by decide) hK _ rfl : w2.cell? ⟨b, off + K * 8 + 1, none⟩ = some (.int .i64 (l[K]).2.1)))
  clear hc
  go_wp2_with fail
  go_loop [1] (fun n0 => ∃ K : Nat, K < l.length ∧ n0 = .int .i64 ((K : Int) + 1)) (fun n0 => l.length - (intOf n0).toNat)
  case atStart => exact ⟨K0, hK0, by first | rfl | rw [hz1, hw3]⟩
  case round =>
    clear hz1 hz2 hz3 hw2 hw3 hK0I
    obtain ⟨K, hK, rfl⟩ := hrel
    have hKI : (K : Int) < (l.length : Int) := by omega
    have hKp : (0 : Int) ≤ (K : Int) := by omega
    have hK5 : (K : Int) ≤ 300 := by omega
    by_cases hlt : K + 1 < l.length
    case neg =>
      have hg : decide ((K : Int) + 1 < (l.length : Int)) = false := by simp; omega
      have hg2 : ¬ ((K : Int) + 1 < (l.length : Int)) := by omega
      have hK1 : K + 1 ≤ l.length := by omega
      have hlk : (l.take (K + 1)).length = K + 1 := by rw [List.length_take, Nat.min_eq_left hK1]
      have hCK := plcheck_any (some ⟨b, off, none⟩) c (l.take (K + 1)) w2 (by rw [hlk]; exact HS.out.take hK1) (HCF.out.hs.take (K + 1)).fit (by omega)
      rw [hlk] at hCK
      have HCK := hid hCK
      have HCU := hid (check_cut HCF.out (Nat.succ_le_succ (Nat.zero_le K)) hK1)
      have hcut : ∀ wx : World, (Instr.sliceAt 29 (.slice (some ⟨b, off, none⟩) l.length c) none (some (.int .i64 ((K : Int) + 1))) none).run Try.prog wx = .ok (.slice (some ⟨b, off, none⟩) (K + 1) c) wx := fun wx => by
        have h1 : (K : Int) + 1 ≤ (c : Int) := by omega
        have h2 : ¬ ((K : Int) + 1 < 0) := by omega
        go_simp
      have hc1 := HCC.out K hK
      have HH2 := hid hblt
      clear hCK hlk
      go_wp2_with fail
      refine HCK.out.mono ?_
      rintro _ w5 ⟨rfl, b5⟩
      have HB5 := hid (HB.out.trans (b5.mono HB.out.size))
      have hc5 := (b5.cell (p := ⟨b, off + K * 8 + 1, none⟩) hblt).trans hc1
      clear hc1 hcut b5
      rcases HCU.out with q | ⟨q, qk⟩
      · rw [q]
        clear HCU q
        generalize (checkF (List.take (K + 1) l)).1 = i8 at *
        go_wp2_with fail
        go_ret
        exact ⟨rfl, HB5.out⟩
      · rw [q]
        have qk' : (l[K]).2.1 = 4 := qk
        rw [qk'] at hc5
        clear HCU q qk qk'
        generalize (checkF (List.take (K + 1) l)).1 = i8 at *
        go_wp2_with fail
        go_ret
        exact ⟨rfl, HB5.out⟩

    have hg : (K : Int) + 1 < (l.length : Int) := by omega
    have hc0' := HCC.out K hK
    by_cases k4 : (l[K]).2.1 = 4
    · rw [k4] at hc0'
      go_wp2_with fail
      go_round
      case rel => exact ⟨K + 1, hlt, by go_num⟩
      case measure => simp [intOf]; omega
    · have k4' : ((l[K]).2.1 == 4) = false := by simpa using k4
      have hK1 : K + 1 ≤ l.length := by omega
      have hlk : (l.take (K + 1)).length = K + 1 := by rw [List.length_take, Nat.min_eq_left hK1]
      have hCK := plcheck_any (some ⟨b, off, none⟩) c (l.take (K + 1)) w2 (by rw [hlk]; exact HS.out.take hK1) (HCF.out.hs.take (K + 1)).fit (by omega)
      rw [hlk] at hCK
      have HCK := hid hCK
      have HCU := hid (check_cut HCF.out (Nat.succ_le_succ (Nat.zero_le K)) hK1)
      have hcut : ∀ wx : World, (Instr.sliceAt 29 (.slice (some ⟨b, off, none⟩) l.length c) none (some (.int .i64 ((K : Int) + 1))) none).run Try.prog wx = .ok (.slice (some ⟨b, off, none⟩) (K + 1) c) wx := fun wx => by
        have h1 : (K : Int) + 1 ≤ (c : Int) := by omega
        have h2 : ¬ ((K : Int) + 1 < 0) := by omega
        go_simp
      have hc1 := HCC.out K hK
      have HH2 := hid hblt
      clear hCK hlk
      go_wp2_with fail
      refine HCK.out.mono ?_
      rintro _ w5 ⟨rfl, b5⟩
      have HB5 := hid (HB.out.trans (b5.mono HB.out.size))
      have hc5 := (b5.cell (p := ⟨b, off + K * 8 + 1, none⟩) hblt).trans hc1
      clear hc1 hcut b5
      rcases HCU.out with q | ⟨q, qk⟩
      · rw [q]
        clear HCU q
        generalize (checkF (List.take (K + 1) l)).1 = i8 at *
        go_wp2_with fail
        go_ret
        exact ⟨rfl, HB5.out⟩
      · rw [q]
        have qk' : (l[K]).2.1 = 4 := qk
        rw [qk'] at hc5
        clear HCU q qk qk'
        generalize (checkF (List.take (K + 1) l)).1 = i8 at *
        go_wp2_with fail
        go_ret
        exact ⟨rfl, HB5.out⟩

theorem playRuns_v (v : Value) (a : Option Addr) (c : Nat) (l : List Ev) (n : Int) (hn : -9223372036854775808 ≤ n ∧ n ≤ 9223372036854775807) (w : World) (hv : v = .slice a l.length c) (hs : Sl w v 8 l.length (l.flatMap evc)) (hcap : l.length ≤ c) (hfit : FitE l) :
    Calls Try.prog 6 #[v, .int .i64 n] w fun e w' => e = .returned (.bool true) ∧ Below w.heap.size w w' := by
  subst hv; exact playRuns_b a c l n hn w hs hcap hfit
end Go.Proofs.Ytnbmfffppajniaa
