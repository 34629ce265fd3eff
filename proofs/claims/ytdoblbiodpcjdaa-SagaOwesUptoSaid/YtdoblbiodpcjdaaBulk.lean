/- THE BULK OF WHAT A ROW READS, in parts. -/
import Derived.Test.YtdoblbiodpcjdaaRows
namespace Go.Proofs.Ytdoblbiodpcjdaa
theorem bulk_sum {H : Type} (l : List (DataW H)) : Rows.uptoBulkAll l = (l.map Rows.uptoBulk).sum := by
 induction l with
 | nil => rfl
 | cons x r ih => simp only [Rows.uptoBulkAll, List.map_cons, List.sum_cons, ih]
theorem bulk_slice {H : Type} (elems spare : List (DataW H)) : Rows.uptoBulkAll elems + 1 ≤ Rows.uptoBulk (.slice elems spare) := by
 simp only [Rows.uptoBulk]; omega
theorem bulk_sl {H : Type} {d : DataW H} {n : Nat} (h : (d = .nil ∧ n = 0) ∨ ∃ es rest : List (DataW H), d = .slice es rest ∧ n ≤ (es.map Rows.uptoBulk).sum) : n + 1 ≤ Rows.uptoBulk d := by
 rcases h with ⟨rfl, rfl⟩ | ⟨es, rest, rfl, h⟩
 · simp [Rows.uptoBulk]
 · have := bulk_slice es rest
   rw [bulk_sum] at this; omega
end Go.Proofs.Ytdoblbiodpcjdaa
