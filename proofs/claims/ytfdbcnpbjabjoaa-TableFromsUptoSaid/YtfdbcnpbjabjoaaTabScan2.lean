/- PLAIN: how many frames bytes hold; how long they are. -/
import Derived.Test.YtfdbcnpbjabjoaaTabScan
namespace Go.Proofs.Ytfdbcnpbjabjoaa
open Go.RowKit
set_option linter.unusedVariables false
set_option linter.unusedSimpArgs false

theorem next_five {l : List UInt8} (h : (nextF l).2.2 = 0) : (nextF l).2.1.length + 5 ≤ l.length ∧ (nextF l).1.length ≤ 1048576 := by
  unfold nextF at h ⊢
  cases hg : getFrom 0 l with
  | none => rw [hg] at h; dsimp only at h; split at h <;> cases h
  | some x =>
    obtain ⟨n, r⟩ := x
    obtain ⟨_, hr⟩ := (get_iff l n r).1 hg
    have hp := putL_pos n
    have hlen : l.length = (putL n).length + r.length := by rw [hr]; simp
    rw [hg] at h
    dsimp only at h ⊢
    split at h
    · cases h
    · split at h
      · cases h
      · split at h
        · cases h
        · rw [if_neg ‹_›, if_neg ‹_›, if_neg ‹_›]
          simp only [List.length_drop, List.length_take]
          omega
theorem scan_five : ∀ (n : Nat) (l : List UInt8), l.length ≤ n → (scanL l).1.length * 5 ≤ l.length ∧ ∀ b ∈ (scanL l).1, b.length ≤ 1048576
  | 0, l, h => by
    obtain rfl : l = [] := List.eq_nil_of_length_eq_zero (by omega)
    rw [scan_nil]; simp
  | n + 1, l, h => by
    by_cases h0 : (nextF l).2.2 = 0
    · obtain ⟨hl, hm⟩ := next_five h0
      obtain ⟨a, b⟩ := scan_five n (nextF l).2.1 (by omega)
      rw [scan_ok h0]
      refine ⟨by simp only [List.length_cons]; omega, fun x hx => ?_⟩
      rcases List.mem_cons.1 hx with rfl | hx
      · exact hm
      · exact b x hx
    · rw [scan_end h0]; simp
end Go.Proofs.Ytfdbcnpbjabjoaa
