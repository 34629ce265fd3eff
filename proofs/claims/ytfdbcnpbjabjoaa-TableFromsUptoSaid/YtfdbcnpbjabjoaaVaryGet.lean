/- CONTRACT: vary.Get. -/
import Derived.Test.YtfdbcnpbjabjoaaProg
import Derived.Test.YtfdbcnpbjabjoaaVaryPlain
import Derived.Test.YtfdbcnpbjabjoaaBytes
import Derived.WalkKit
import Derived.WalkSpells
import Derived.Outline
import Derived.Lib.MinMax
import Derived.RegionTactic
import Derived.ChangeAlike
import Derived.Deep.QuietTactic
import Derived.BigQuiet
namespace Go.Proofs.Ytfdbcnpbjabjoaa
open Go.RowKit

theorem get_none {l : List UInt8} (h : getFrom 0 l = none) : getN l = 0 ∧ getR l = [] ∧ getB l = false := by simp [getN, getR, getB, h]
theorem get_some {l r : List UInt8} {n : Nat} (h : getFrom 0 l = some (n, r)) : getN l = n ∧ getR l = r ∧ getB l = true := by simp [getN, getR, getB, h]
theorem at_list (l : List UInt8) (k : Nat) (_h : k < l.length) (h' : k < (⟨l.toArray⟩ : ByteArray).size) : (⟨l.toArray⟩ : ByteArray)[k] = l[k] := rfl

set_option maxHeartbeats 800000 in
set_option maxRecDepth 100000 in
theorem get_any (l : List UInt8) (hl : l.length ≤ maxLen) (w : World) :
    Calls Try.prog 90 #[.string ⟨l.toArray⟩] w fun e w' => e = .returned (.tuple #[.int .u64 (getN l), .string ⟨(getR l).toArray⟩, .bool (getB l)]) ∧ ∃ n, w' = w.drewN n := by
  unfold maxLen at hl
  go_enter Try.func90, Try.ntmps90
  go_wp2
  go_loop [5, 6, 7, 11] (fun n0 _ _ i0 => ∃ n k : Nat, n0 = .int .u64 n ∧ i0 = .int .i64 k ∧ k ≤ l.length ∧ k ≤ 10 ∧ GetP l n k) (fun _ _ _ i0 => 10 - (intOf i0).toNat)
  case atStart => exact ⟨0, 0, rfl, rfl, by omega, by omega, GetP.start l⟩
  case round =>
    obtain ⟨n, k, rfl, rfl, hk, hk10, hp⟩ := hrel
    by_cases hlt : k < l.length ∧ k < 10
    · obtain ⟨h1, h2⟩ := hlt
      have h256 : l[k].toNat < 256 := UInt8.toNat_lt _
      have hcc : (((⟨l.toArray⟩ : ByteArray)[k]'h1).toNat : Int) = ((l[k]'h1).toNat : Int) := rfl
      have HC := hid hcc
      clear hcc
      have h9 : (k = 9 ∧ ((k : Int) == 9) = true) ∨ (k ≠ 9 ∧ ((k : Int) == 9) = false) := by
        by_cases h : k = 9
        · exact .inl ⟨h, by rw [beq_iff_eq]; omega⟩
        · exact .inr ⟨h, by rw [beq_eq_false_iff_ne]; omega⟩
      by_cases hbad : badAt k l[k]
      · obtain ⟨e1, e2, e3⟩ := get_none (get_bad hp h1 hbad)
        have E := hid (And.intro e1 (And.intro e2 e3))
        clear e1 e2 e3
        have hbad2 := hid hbad
        clear hbad
        rcases h9 with ⟨h9, b9⟩ | ⟨h9, b9⟩
        all_goals
          have H9 := hid h9
          clear h9
          go_wp2
          all_goals first
            | (go_ret3
               rw [E.out.1, E.out.2.1, E.out.2.2]
               exact ⟨rfl, 0, rfl⟩)
            | (exfalso
               have hcc := HC.out
               have h9 := H9.out
               have hb := hbad2.out
               (try simp only [beq_iff_eq, beq_eq_false_iff_ne] at *)
               unfold badAt at hb
               omega)
      · have hacc := acc_eq hp.1 h2 (c := ((⟨l.toArray⟩ : ByteArray)[k]'h1).toNat) (by intro h9; unfold badAt at hbad; have := HC.out; omega) h256
        obtain ⟨N, hN⟩ : ∃ N : Nat, N = n + 128 ^ k * (((⟨l.toArray⟩ : ByteArray)[k]'h1).toNat % 128) := ⟨_, rfl⟩
        rw [← hN] at hacc
        have HN := hid hN
        have hbad2 := hid hbad
        clear hbad hN
        rcases h9 with ⟨h9, b9⟩ | ⟨h9, b9⟩
        all_goals
          have H9 := hid h9
          clear h9
          go_wp2
          all_goals first
            | (exfalso
               have hcc := HC.out
               have h9 := H9.out
               have hb := hbad2.out
               clear hacc
               (try simp only [beq_iff_eq, beq_eq_false_iff_ne] at *)
               unfold badAt at hb
               omega)
            | (have hlast : l[k].toNat < 128 := by have := HC.out; omega
               obtain ⟨e1, e2, e3⟩ := get_some (get_last hp h1 h2 hbad2.out hlast)
               have E := hid (And.intro e1 (And.intro e2 e3))
               clear e1 e2 e3
               go_quiet (fail)
               go_wp2
               go_ret3
               rw [E.out.1, E.out.2.1, E.out.2.2]
               exact ⟨ret_nsb (congrArg _ HN.out) (ext_drop l (k + 1)) rfl, _, rfl⟩)
            | (have hmore : ¬ l[k].toNat < 128 := by have := HC.out; omega
               go_round
               case rel => exact ⟨N, k + 1, rfl, by go_num, by omega, by omega, by rw [HN.out]; exact get_more hp h1 h2 hbad2.out hmore⟩
               case measure => simp [intOf]; omega)
    · have hend : k = l.length ∨ k = 10 := by omega
      have HE := hid hend
      clear hend
      go_wp2
      go_ret3
      obtain ⟨e1, e2, e3⟩ := get_none (get_end hp HE.out)
      exact ⟨by rw [e1, e2, e3]; rfl, 0, rfl⟩
end Go.Proofs.Ytfdbcnpbjabjoaa
