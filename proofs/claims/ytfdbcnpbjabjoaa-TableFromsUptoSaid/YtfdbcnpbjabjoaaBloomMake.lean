/- CONTRACT: bloom.Make. -/
import Derived.Test.YtfdbcnpbjabjoaaBloomPlain
import Derived.Test.YtfdbcnpbjabjoaaSlices
import Derived.Laws.MakeOwn
namespace Go.Proofs.Ytfdbcnpbjabjoaa
open Go.RowKit

theorem infoU8m : (Try.prog.info? 5).map (fun i => (i.zero, i.size, i.bytes)) = some (some (.int .u8 0), 1, 1) := by kernel_rfl
theorem own_made (w : World) (n : Nat) (hn : n ≤ maxLen) : Own (w.alloc (.cells (madeCells #[.int .u8 0] n) 5)) w.heap.size 5 (.slice (some ⟨w.heap.size, 0, none⟩) n n) (List.replicate n 0) := by
  refine ⟨by simp, .inr ⟨w.heap.size, n, _, by simp, Nat.le_refl _, heap_alloc_new w _, by simp, hn, by simp [size_madeCells], ?_⟩⟩
  rw [toList_madeCells_one]; simp [byteV]
theorem run_make_bytes (n : Nat) (hn : n ≤ 8192) (u : World) : (Instr.makeSlice 91 (.int .i64 (n : Int)) (.int .i64 (n : Int))).run Try.prog u =
      .ok (.slice (some ⟨u.heap.size, 0, none⟩) n n) (u.alloc (.cells (madeCells #[.int .u8 0] n) 5)) := by
  obtain ⟨i0, hi, hz0, hz1, hz2⟩ := info_parts infoU8m
  have h := run_make (P := Try.prog) u 91 5 i0 (.int .u8 0) Try.underlying91 hi hz0 .i64 .i64 (n : Int) (n : Int) (by omega) (Int.le_refl _) (by rw [hz2]; omega) (by omega)
  have e : ((n : Int)).toNat = n := by omega
  rw [e] at h
  simpa [hz1, Value.cells] using h

set_option maxHeartbeats 1600000 in
set_option maxRecDepth 100000 in
theorem make_any (v0 : Value) (ks : List (List UInt8)) (n : Nat) (hn1 : 1 ≤ n) (hn2 : n ≤ 8192) (hkl : ∀ k ∈ ks, k.length ≤ maxLen) (w : World) (h0 : Sl w v0 1 ks.length (ks.map strV)) :
    Calls Try.prog 41 #[v0, .int .i64 n] w fun e w' => e = .returned (.tuple #[.string ⟨(makeL n ks).toArray⟩, .int .i64 0]) ∧ Below w.heap.size w w' := by
  obtain ⟨_, hkn, a0, cap0, rfl, c0⟩ := h0
  unfold maxLen at hkn
  have C0 := hid c0; have HK := hid hkl
  clear c0 hkl
  have hmk := run_make_bytes n hn2
  have hown0 := own_made w n (by unfold maxLen; omega)
  go_enter Try.func41, Try.ntmps41
  go_wp2_with fail
  go_loopw [8, 9, 10, 22] (fun _ _ _ i wr => ∃ k : Nat, k ≤ ks.length ∧ i = .int .i64 k ∧ Own wr w.heap.size 5 (.slice (some ⟨w.heap.size, 0, none⟩) n n) (makeL n (ks.take k)) ∧ Below w.heap.size w wr) (fun _ _ _ i _ => ks.length - (intOf i).toNat)
  case atStart => exact ⟨0, by omega, rfl, hown0, (Below.refl _ _).alloc (Nat.le_refl _) _⟩
  case round =>
    clear hown0
    obtain ⟨k, hk, rfl, hown, hb⟩ := hrel
    by_cases hlt : k < ks.length
    · obtain ⟨b, off, rfl, hblt, hc⟩ := C0.out.resolve_left (by omega)
      have hck : wr.cell? ⟨b, off + k, none⟩ = some (.string ⟨(ks[k]).toArray⟩) := (hb.cell (p := ⟨b, off + k, none⟩) hblt).trans ((hc k (by simpa using hlt)).trans (by simp [strV]))
      clear hc
      go_wp2_with fail
      refine (hash_any ks[k] (HK.out _ (List.getElem_mem hlt)) _).mono ?_
      rintro e w2 ⟨rfl, rfl⟩
      go_wp2_with fail
      go_loopw [9, 11, 31] (fun x _ i wr => ∃ j : Nat, j ≤ 4 ∧ i = .int .i64 j ∧ x = .int .u32 ((hashAL ks[k] + j * (hashBL ks[k] ||| 1)) % 4294967296 : Nat) ∧ Own wr w.heap.size 5 (.slice (some ⟨w.heap.size, 0, none⟩) n n) (addK n (hashAL ks[k]) (hashBL ks[k] ||| 1) (makeL n (ks.take k)) j) ∧ Below w.heap.size w wr) (fun _ _ i _ => 4 - (intOf i).toNat)
      case atStart => exact ⟨0, by omega, rfl, by rw [Nat.zero_mul, Nat.add_zero, Nat.mod_eq_of_lt (hashAL_lt _)], hown, hb⟩
      case round =>
        clear hown hb hck
        obtain ⟨j, hj, rfl, rfl, hown, hb⟩ := hrel
        by_cases hlj : j < 4
        · have hl : (addK n (hashAL ks[k]) (hashBL ks[k] ||| 1) (makeL n (ks.take k)) j).length = n := by rw [addK_len, makeL_len]
          have hp8 : posAt (hashAL ks[k]) (hashBL ks[k] ||| 1) n j < 8 * n := posAt_lt (by omega)
          have hB : hashBL ks[k] ||| 1 < 4294967296 := Nat.or_lt_two_pow (n := 32) (hashBL_lt _) (by omega)
          have hX : (hashAL ks[k] + j * (hashBL ks[k] ||| 1)) % 4294967296 < 4294967296 := Nat.mod_lt _ (by decide)
          have hpos : posAt (hashAL ks[k]) (hashBL ks[k] ||| 1) n j = (hashAL ks[k] + j * (hashBL ks[k] ||| 1)) % 4294967296 % (8 * n) := rfl
          have hnext : ((hashAL ks[k] + j * (hashBL ks[k] ||| 1)) % 4294967296 + (hashBL ks[k] ||| 1)) % 4294967296 = (hashAL ks[k] + (j + 1) * (hashBL ks[k] ||| 1)) % 4294967296 := by rw [Nat.add_mul]; omega
          have hadd : addK n (hashAL ks[k]) (hashBL ks[k] ||| 1) (makeL n (ks.take k)) (j + 1) = setBit (addK n (hashAL ks[k]) (hashBL ks[k] ||| 1) (makeL n (ks.take k)) j) (posAt (hashAL ks[k]) (hashBL ks[k] ||| 1) n j) := rfl
          generalize posAt (hashAL ks[k]) (hashBL ks[k] ||| 1) n j = p at hp8 hpos hadd
          generalize (hashAL ks[k] + j * (hashBL ks[k] ||| 1)) % 4294967296 = X at hX hpos hnext ⊢
          generalize hashBL ks[k] ||| 1 = Y at *
          generalize hM : addK n (hashAL ks[k]) Y (makeL n (ks.take k)) j = M at *
          have HM := hid hM
          have HN := hid hnext
          have HA := hid hadd
          clear hM hnext hadd
          have hq : (X : Int) % (8 * (n : Int)) = (p : Int) := by rw [hpos, Int.natCast_emod, Int.natCast_mul]; rfl
          clear hpos
          have hM8 : p / 8 < M.length := by omega
          have hcell := hown.cellAt (p / 8) hM8
          have hfr := hown.frozenAt (p / 8)
          unfold byteV at hcell
          have hq8 : (p : Int) / 8 < (n : Int) := by omega
          go_wp2_with fail
          go_roundw
          case rel =>
            refine ⟨j + 1, by omega, by go_num, ?_, ?_, hb.setCell (Nat.le_refl _) _⟩
            · rw [← HN.out]; congr 1
            · have hst := hown.stored (p / 8) (orAt (M[p / 8]?.getD 0) (p % 8))
              have e : M[p / 8]?.getD 0 = M[p / 8] := by rw [List.getElem?_eq_getElem hM8]; rfl
              unfold byteV at hst
              rw [e, ← orAt_eq _ _ (Nat.mod_lt _ (by omega))] at hst
              rw [HA.out, setBit, e]
              exact hst
          case measure => simp [intOf]; omega
        · obtain rfl : j = 4 := by omega
          go_wp2_with fail
          go_roundw
          case rel => exact ⟨k + 1, by omega, by go_num, by rw [← makeL_take hlt]; exact hown, hb⟩
          case measure => simp [intOf]; omega
    · obtain rfl : k = ks.length := by omega
      rw [List.take_of_length_le (Nat.le_refl _)] at hown
      have hs := run_string_own (P := Try.prog) wr 91 9 5 _ _ _ Try.underlying91 Try.underlying5 Try.underlying9 hown
      go_wp2_with fail
      go_ret2
      exact ⟨rfl, hb⟩

set_option maxHeartbeats 800000 in
theorem make_no (v0 : Value) (n : Int) (hn : n < 1 ∨ 8192 < n) (w : World) :
    Calls Try.prog 41 #[v0, .int .i64 n] w fun e w' => e = .returned (.tuple #[.string ⟨#[]⟩, .int .i64 1]) ∧ Below w.heap.size w w' := by
  rcases hn with hn | hn
  · go_enter Try.func41, Try.ntmps41
    go_wp2_with fail
    go_ret2
    exact ⟨rfl, Below.refl _ _⟩
  · have h1 : ¬ n < 1 := by omega
    go_enter Try.func41, Try.ntmps41
    go_wp2_with fail
    go_ret2
    exact ⟨rfl, Below.refl _ _⟩
end Go.Proofs.Ytfdbcnpbjabjoaa
