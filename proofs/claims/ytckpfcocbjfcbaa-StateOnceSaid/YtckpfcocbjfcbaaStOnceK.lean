/- KEYS of three numbers, for a map. -/
import Derived.Test.YtckpfcocbjfcbaaMapV
import Derived.Test.YtckpfcocbjfcbaaStOnceP
import Derived.DeepKeys4
namespace Go.Proofs.Ytckpfcocbjfcbaa
open Go.RowKit
set_option linter.unusedVariables false

def i64B (n : Int) : Prop := -9223372036854775808 ≤ n ∧ n ≤ 9223372036854775807
theorem wf_of_i64 {n : Int} (h : i64B n) : (Lit.int .i64 n).wf = true := by
  unfold i64B at h
  simp [Lit.wf, IntKind.min, IntKind.max, IntKind.signed, IntKind.bits]; omega
def L3 (a b c : Int) : Lit := .string (keyBytes [.int .i64 a, .int .i64 b, .int .i64 c])
theorem keyLits_one {P : Program} {d : Nat} {t : TypeId} (ht : P.underlying t = some (.int .i64)) {n : Int} (h : i64B n) : P.keyLits (d + 1) t [.int .i64 n] = some [.int .i64 n] := by
  simp [Program.keyLits, ht, wf_of_i64 h]
theorem laidOut3 : laidOutB Try.prog = true := by kernel_rfl
theorem keyed3 : Maps.Keyed Try.prog 40 := Maps.Keyed.of_law (deep_law_laid laidOut3 (m := 2) (by omega) (of_decide_eq_true (by kernel_rfl)) (by kernel_rfl) (by rw [Try.underlying40]))
theorem key3 {a b c : Int} (ha : i64B a) (hb : i64B b) (hc : i64B c) : keyOf Try.prog 40 (.agg #[.int .i64 a, .int .i64 b, .int .i64 c]) = some (L3 a b c) := by
  have hk : Try.prog.keyType 40 = true := by kernel_rfl
  have hc3 : Try.prog.cellsOf 40 = 3 := by kernel_rfl
  have hc1 : Try.prog.cellsOf 3 = 1 := by kernel_rfl
  obtain ⟨d, hd⟩ : ∃ d, Try.prog.types.size = d + 1 := ⟨Try.prog.types.size - 1, by
    have : 0 < Try.prog.types.size := of_decide_eq_true (by kernel_rfl)
    omega⟩
  have hf : (Value.agg #[.int .i64 a, .int .i64 b, .int .i64 c]).formed Try.prog 40 = true := by simp [Value.formed, Try.underlying40, hc3]
  unfold keyOf
  rw [Try.underlying40]
  simp only [hk, hf, Bool.and_self, if_true]
  rw [hd]
  unfold Program.keyLits
  rw [Try.underlying40]
  have h1 := keyLits_one (P := Try.prog) (d := d) Try.underlying3 ha
  have h2 := keyLits_one (P := Try.prog) (d := d) Try.underlying3 hb
  have h3 := keyLits_one (P := Try.prog) (d := d) Try.underlying3 hc
  simp [Value.cells, hc3, hc1, List.range_succ, h1, h2, h3, L3]
theorem L3_inj {a b c a' b' c' : Int} (ha : i64B a) (hb : i64B b) (hc : i64B c) (ha' : i64B a') (hb' : i64B b') (hc' : i64B c') (h : L3 a b c = L3 a' b' c') : (a, b, c) = (a', b', c') := by
  have := keyed3.inj (key3 ha hb hc) (by rw [h]; exact key3 ha' hb' hc')
  simpa using this
theorem L3_key {a b c : Int} (ha : i64B a) (hb : i64B b) (hc : i64B c) : WideAt.IsKeyLit (L3 a b c) := keyed3.key (key3 ha hb hc)
end Go.Proofs.Ytckpfcocbjfcbaa
