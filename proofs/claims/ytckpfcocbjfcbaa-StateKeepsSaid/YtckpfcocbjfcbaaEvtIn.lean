/- CONTRACTS: strings.Contains at a letter; the reference's in. -/
import Derived.Test.YtckpfcocbjfcbaaEvtFields
import Derived.Lib.Bytealg
import Derived.Laws.Externs
namespace Go.Proofs.Ytckpfcocbjfcbaa
open Go.RowKit
set_option linter.unusedVariables false
set_option maxHeartbeats 1600000 in
set_option maxRecDepth 100000 in
theorem indexByte_any (l : List UInt8) (c : Int) (w : World) : Calls Try.prog 94 #[.string ⟨l.toArray⟩, .int .u8 c] w fun e w' => e = .returned (.int .i64 (Lib.indexByte l c.toNat.toUInt8)) ∧ w' = w := by
  go_enter Try.func94, Try.ntmps94
  go_wp2
  rw [run_callFunc_extern Try.func98 (by kernel_rfl) (by kernel_rfl) (by kernel_rfl) (e := Extern.BytealgIndexByte.indexByte) (by kernel_rfl), Lib.run_indexByteString]
  simp only [Result.andThen]
  rw [Oper.upon_value]
  go_wp2
  go_ret
  exact ⟨rfl, rfl⟩
set_option maxHeartbeats 1600000 in
set_option maxRecDepth 100000 in
theorem slIndex_any (l : List UInt8) (c : UInt8) (w : World) : Calls Try.prog 89 #[.string ⟨l.toArray⟩, .string ⟨#[c]⟩] w fun e w' => e = .returned (.int .i64 (Lib.indexByte l c)) ∧ w' = w := by
  have h0 : (((⟨#[c]⟩ : ByteArray)[0]'(by show 0 < 1; omega)).toNat : Int) = (c.toNat : Int) := rfl
  have hc : ((c.toNat : Int)).toNat.toUInt8 = c := by simp
  by_cases hd : l = [c]
  · subst hd
    rw [show Lib.indexByte [c] c = 0 by simp [Lib.indexByte]]
    go_enter Try.func89, Try.ntmps89
    go_wp2_with fail
    go_ret
    exact ⟨rfl, rfl⟩
  · have hb : ([c] == l) = false := by rw [beq_eq_false_iff_ne]; exact fun h => hd h.symm
    go_enter Try.func89, Try.ntmps89
    go_wp2_with fail
    refine (indexByte_any l c.toNat w).mono ?_
    rw [hc]
    rintro _ w1 ⟨rfl, hw1⟩
    rw [hw1]
    clear hw1 w1
    go_wp2
    go_ret
    exact ⟨rfl, rfl⟩
theorem sIndex_any (l : List UInt8) (c : UInt8) (w : World) : Calls Try.prog 82 #[.string ⟨l.toArray⟩, .string ⟨#[c]⟩] w fun e w' => e = .returned (.int .i64 (Lib.indexByte l c)) ∧ w' = w := by
  go_enter Try.func82, Try.ntmps82
  go_wp2_with fail
  refine (slIndex_any l c w).mono ?_
  rintro _ w1 ⟨rfl, hw1⟩
  rw [hw1]
  clear hw1 w1
  go_wp2
  go_ret
  exact ⟨rfl, rfl⟩
def hasC (l : List UInt8) (c : UInt8) : Bool := decide (0 ≤ Lib.indexByte l c)
theorem contains_any (l : List UInt8) (c : UInt8) (w : World) : Calls Try.prog 75 #[.string ⟨l.toArray⟩, .string ⟨#[c]⟩] w fun e w' => e = .returned (.bool (hasC l c)) ∧ w' = w := by
  go_enter Try.func75, Try.ntmps75
  go_wp2_with fail
  refine (sIndex_any l c w).mono ?_
  rintro _ w1 ⟨rfl, hw1⟩
  rw [hw1]
  clear hw1 w1
  go_wp2
  go_ret
  exact ⟨rfl, rfl⟩
/-- is a field there and from low to high, or not there and zero? -/
def einB (b : Bool) (n lo hi : Int) : Bool := if b then decide (lo ≤ n ∧ n ≤ hi) else decide (n = 0)
theorem int_eq_beq (n : Int) : (n == 0) = decide (n = 0) := by
  rw [Bool.eq_iff_iff, beq_iff_eq, decide_eq_true_eq]
set_option maxHeartbeats 1600000 in
set_option maxRecDepth 100000 in
theorem ein_any (l : List UInt8) (c : UInt8) (n lo hi : Int) (w : World) : Calls Try.prog 62 #[.string ⟨l.toArray⟩, .string ⟨#[c]⟩, .int .i64 n, .int .i64 lo, .int .i64 hi] w fun e w' => e = .returned (.bool (einB (hasC l c) n lo hi)) ∧ w' = w := by
  cases hb : hasC l c
  · go_enter Try.func62, Try.ntmps62
    go_wp2_with fail
    refine (contains_any l c w).mono ?_
    rintro _ w1 ⟨rfl, hw1⟩
    rw [hw1, hb]
    clear hw1 w1
    go_wp2_with fail
    go_ret
    exact ⟨by simp [einB, int_eq_beq], rfl⟩
  · go_enter Try.func62, Try.ntmps62
    go_wp2_with fail
    refine (contains_any l c w).mono ?_
    rintro _ w1 ⟨rfl, hw1⟩
    rw [hw1, hb]
    clear hw1 w1
    go_wp2_with fail
    all_goals
      go_ret
      exact ⟨by simp [einB] <;> omega, rfl⟩
end Go.Proofs.Ytckpfcocbjfcbaa
