/- CONTRACT: wherryref01.Get. -/
import Derived.Test.YtfdbcnpbjabjoaaVaryRPut
import Derived.Deep.RegionHeld3
import Derived.WalkLawsBesides
namespace Go.Proofs.Ytfdbcnpbjabjoaa
open Go.RowKit

set_option maxHeartbeats 1600000 in
set_option maxRecDepth 100000 in
theorem rget_any (l : List UInt8) (hl : l.length ≤ maxLen) (w : World) :
    Calls Try.prog 91 #[.string ⟨l.toArray⟩] w fun e w' => e = .returned (.tuple #[.int .u64 (getN l), .int .i64 (getK l)]) ∧ Below w.heap.size w w' := by
  unfold maxLen at hl
  go_enter Try.func91, Try.ntmps91
  go_wp2
  go_loop [4, 5] (fun n0 i0 => ∃ n k : Nat, n0 = .int .u64 n ∧ i0 = .int .i64 k ∧ k ≤ l.length ∧ k ≤ 10 ∧ RP l n k) (fun _ i0 => 10 - (intOf i0).toNat)
  case atStart => exact ⟨0, 0, rfl, rfl, by omega, by omega, RP.start l⟩
  case round =>
    obtain ⟨n, k, rfl, rfl, hk, hk10, hp⟩ := hrel
    by_cases hlt : k < l.length ∧ k < 10
    · obtain ⟨h1, h2⟩ := hlt
      obtain ⟨N, hN, hacc, hval⟩ := acc_any (c := ((⟨l.toArray⟩ : ByteArray)[k]'h1).toNat) hp.2.1 h2
      have HV := hid (hval (hp.lt (by omega) hk))
      clear hval
      by_cases hc : ((⟨l.toArray⟩ : ByteArray)[k]'h1).toNat < 128
      · have hcs : (putL N = l.take (k + 1) ∧ (putL N == ((⟨l.toArray⟩ : ByteArray).extract 0 (k + 1)).toList) = true) ∨ (putL N ≠ l.take (k + 1) ∧ (putL N == ((⟨l.toArray⟩ : ByteArray).extract 0 (k + 1)).toList) = false) := by
          rw [ext_take]
          by_cases h : putL N = l.take (k + 1)
          · exact .inl ⟨h, by simp [h]⟩
          · exact .inr ⟨h, by simp [h]⟩
        rcases hcs with ⟨he, hbe⟩ | ⟨he, hbe⟩
        all_goals
          have HE := hid he
          clear he
          go_wp2
          have hw : IntKind.i64.wrap ((k : Int) + 1) = (k : Int) + 1 := IntWalk.i64_in _ (by omega)
          have hw0 : (0 : Int) ≤ (k : Int) + 1 := by omega
          have hw1 : (k : Int) + 1 ≤ (l.length : Int) := by omega
          have hw2 : ((k : Int) + 1).toNat = k + 1 := by omega
          go_region_held3 (fun _ => True) (trivial)
            (first | (go_at_call 74; refine (rput_any N hN _).mono ?_; rintro e w1 ⟨rfl, hb⟩))
          clear hw hw0 hw1 hw2
          go_wp2
          go_ret2
        · obtain ⟨e1, e2⟩ := getK_some h1 (rget_eq hp hN HE.out)
          exact ⟨by rw [e1, e2]; rfl, below_of_drew hb⟩
        · obtain ⟨e1, e2⟩ := getK_none (rget_ne hp h1 h2 hc HV.out HE.out)
          exact ⟨by rw [e1, e2]; rfl, below_of_drew hb⟩
      · go_wp2
        go_round
        case rel => exact ⟨N, k + 1, rfl, by go_num, by omega, by omega, rget_more hp h1 h2 (Nat.le_of_not_lt hc) hN HV.out⟩
        case measure => simp [intOf]; omega
    · have hend : k = l.length ∨ k = 10 := by omega
      have HE := hid hend
      clear hend
      by_cases h1 : k < l.length
      all_goals
        go_wp2
        go_ret2
        obtain ⟨e1, e2⟩ := getK_none (rget_end hp HE.out hk)
        exact ⟨by rw [e1, e2]; rfl, Below.refl _ _⟩
end Go.Proofs.Ytfdbcnpbjabjoaa
