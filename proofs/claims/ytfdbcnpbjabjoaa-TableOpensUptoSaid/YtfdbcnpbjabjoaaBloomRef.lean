/- CONTRACTS: wherryref06.Bits, Make, Has. -/
import Derived.Test.YtfdbcnpbjabjoaaBloomMake
import Derived.Test.YtfdbcnpbjabjoaaBloomHas
import Derived.Deep.QuietTactic
import Derived.BigQuiet
import Derived.Deep.RegionHeld3
import Derived.StillTailTactics
import Derived.RegionTactic
import Derived.ChangeAlike
import Derived.BigRegion
namespace Go.Proofs.Ytfdbcnpbjabjoaa
open Go.RowKit

def bitV (a b n j i : Nat) : Value := .int .i64 (if i < j then (posAt a b n i : Int) else 0)
def bitsA (a b n j : Nat) : Array Value := #[bitV a b n j 0, bitV a b n j 1, bitV a b n j 2, bitV a b n j 3]
theorem bitsA_set {a b n j : Nat} (hj : j < 4) : (bitsA a b n j).setIfInBounds j (.int .i64 (posAt a b n j : Int)) = bitsA a b n (j + 1) := by
  match j, hj with
  | 0, _ => simp [bitsA, bitV]
  | 1, _ => simp [bitsA, bitV]
  | 2, _ => simp [bitsA, bitV]
  | 3, _ => simp [bitsA, bitV]
theorem bitsA_at {a b n j : Nat} (hj : j < 4) : (bitsA a b n j)[j]? = some (.int .i64 0) := by
  match j, hj with
  | 0, _ => simp [bitsA, bitV]
  | 1, _ => simp [bitsA, bitV]
  | 2, _ => simp [bitsA, bitV]
  | 3, _ => simp [bitsA, bitV]

set_option maxHeartbeats 1600000 in
set_option maxRecDepth 100000 in
theorem bits_any (k : List UInt8) (hk : k.length ≤ maxLen) (n : Nat) (hn1 : 1 ≤ n) (hn2 : n ≤ 8192) (w : World) :
    Calls Try.prog 73 #[.string ⟨k.toArray⟩, .int .i64 n] w fun e w' => e = .returned (.agg (bitsA (hashAL k) (hashBL k ||| 1) n 4)) ∧ Below w.heap.size w w' := by
  go_enter Try.func73, Try.ntmps73
  go_wp2_with fail
  refine (rhash_any k hk _).mono ?_
  rintro e w1 ⟨rfl, rfl⟩
  go_wp2_with fail
  have hz : bitsA (hashAL k) (hashBL k ||| 1) n 0 = #[.int .i64 0, .int .i64 0, .int .i64 0, .int .i64 0] := by simp [bitsA, bitV]
  have hB : hashBL k ||| 1 < 4294967296 := Nat.or_lt_two_pow (n := 32) (hashBL_lt _) (by omega)
  have hA := hashAL_lt k
  have HZ := hid hz
  clear hz
  go_loopw [8] (fun i wr => ∃ j : Nat, j ≤ 4 ∧ i = .int .i64 j ∧ wr.heap[w.heap.size + 1]? = some (.cells (bitsA (hashAL k) (hashBL k ||| 1) n j) 135 (0, 0)) ∧ wr.heap[w.heap.size]? = some (.cells (bitsA (hashAL k) (hashBL k ||| 1) n 0) 135 (0, 0)) ∧ Below w.heap.size w wr) (fun i _ => 4 - (intOf i).toNat)
  case atStart =>
    rw [HZ.out]
    exact ⟨0, by omega, rfl, by rw [HZ.out]; exact (by simp : (w.alloc (.cells _ _)).heap.size = w.heap.size + 1) ▸ heap_alloc_new (w.alloc (.cells _ _)) _, (heap_alloc_old (w.alloc _) _ (r := w.heap.size) (by simp)).trans (heap_alloc_new _ _), ((Below.refl _ _).alloc (Nat.le_refl _) _).alloc (by simp) _⟩
  case round =>
    obtain ⟨j, hj, rfl, hc, hr, hb⟩ := hrel
    have HC := hid hc
    have HR := hid hr
    by_cases hlt : j < 4
    · have hcell : wr.cell? ⟨w.heap.size + 1, j, none⟩ = some (.int .i64 0) := by rw [cell_of_row wr _ j _ _ _ hc, bitsA_at hlt]
      have hfz := frozen_of_row wr (w.heap.size + 1) j _ _ hc
      clear hc hr
      have hp8 : posAt (hashAL k) (hashBL k ||| 1) n j < 8 * n := posAt_lt (by omega)
      have hpos : ((hashAL k : Int) + (j : Int) * ((hashBL k ||| 1 : Nat) : Int)) % 4294967296 % (8 * (n : Int)) = (posAt (hashAL k) (hashBL k ||| 1) n j : Int) := by
        unfold posAt
        rw [Int.natCast_emod, Int.natCast_emod, Int.natCast_add, Int.natCast_mul, Int.natCast_mul]; rfl
      have hset := bitsA_set (a := hashAL k) (b := hashBL k ||| 1) (n := n) hlt
      generalize posAt (hashAL k) (hashBL k ||| 1) n j = p at hp8 hpos hset
      have HS := hid hset
      clear hset
      go_wp2_with fail
      go_roundw
      case rel =>
        refine ⟨j + 1, by omega, by go_num, ?_, ?_, hb.setCell (by simp) _⟩
        · rw [← HS.out]; exact heap_setCell_same wr _ j _ _ _ HC.out
        · exact (Below.heap_setCell _ _ _ _ (by simp)).trans HR.out
      case measure => simp [intOf]; omega
    · obtain rfl : j = 4 := by omega
      have c0 := cell_of_row wr _ 0 _ _ _ hc
      have c1 := cell_of_row wr _ 1 _ _ _ hc
      have c2 := cell_of_row wr _ 2 _ _ _ hc
      have c3 := cell_of_row wr _ 3 _ _ _ hc
      have d0 := cell_of_row wr _ 0 _ _ _ hr
      have d1 := cell_of_row wr _ 1 _ _ _ hr
      have d2 := cell_of_row wr _ 2 _ _ _ hr
      have d3 := cell_of_row wr _ 3 _ _ _ hr
      have f0 := frozen_of_row wr (w.heap.size) 0 _ _ hr
      have f1 := frozen_of_row wr (w.heap.size) 1 _ _ hr
      have f2 := frozen_of_row wr (w.heap.size) 2 _ _ hr
      have f3 := frozen_of_row wr (w.heap.size) 3 _ _ hr
      clear hc hr
      simp [bitsA, bitV] at c0 c1 c2 c3 d0 d1 d2 d3
      go_wp2_with fail
      refine bodyPost_ret (v := .agg (bitsA (hashAL k) (hashBL k ||| 1) n 4)) (by simp [results, Try.results73, go_sem, bitsA, bitV, d1, d2, d3, World.cell?_setCell_same _ _ _ d0]) rfl ⟨rfl, ?_⟩
      exact (((hb.setCell (Nat.le_refl _) _).setCell (Nat.le_refl _) _).setCell (Nat.le_refl _) _).setCell (Nat.le_refl _) _

theorem bits_any4 (k : List UInt8) (hk : k.length ≤ maxLen) (n : Nat) (hn1 : 1 ≤ n) (hn2 : n ≤ 8192) (w : World) :
    Calls Try.prog 73 #[.string ⟨k.toArray⟩, .int .i64 n] w fun e w' =>
      e = .returned (.agg #[.int .i64 (posAt (hashAL k) (hashBL k ||| 1) n 0), .int .i64 (posAt (hashAL k) (hashBL k ||| 1) n 1), .int .i64 (posAt (hashAL k) (hashBL k ||| 1) n 2), .int .i64 (posAt (hashAL k) (hashBL k ||| 1) n 3)]) ∧ Below w.heap.size w w' := by
  have e : bitsA (hashAL k) (hashBL k ||| 1) n 4 = #[.int .i64 (posAt (hashAL k) (hashBL k ||| 1) n 0), .int .i64 (posAt (hashAL k) (hashBL k ||| 1) n 1), .int .i64 (posAt (hashAL k) (hashBL k ||| 1) n 2), .int .i64 (posAt (hashAL k) (hashBL k ||| 1) n 3)] := by simp [bitsA, bitV]
  have h := bits_any k hk n hn1 hn2 w
  rwa [e] at h

set_option maxHeartbeats 1600000 in
set_option maxRecDepth 100000 in
theorem rmake_any (v0 : Value) (ks : List (List UInt8)) (n : Nat) (hn1 : 1 ≤ n) (hn2 : n ≤ 8192) (hkl : ∀ k ∈ ks, k.length ≤ maxLen) (w : World) (h0 : Sl w v0 1 ks.length (ks.map strV)) :
    Calls Try.prog 47 #[v0, .int .i64 n] w fun e w' => e = .returned (.tuple #[.string ⟨(makeL n ks).toArray⟩, .int .i64 0]) ∧ Below w.heap.size w w' := by
  obtain ⟨_, hkn, a0, cap0, rfl, c0⟩ := h0
  unfold maxLen at hkn
  have C0 := hid c0; have HK := hid hkl
  clear c0 hkl
  have hmk := run_make_bytes n hn2
  have hown0 := own_made w n (by unfold maxLen; omega)
  go_enter Try.func47, Try.ntmps47
  go_wp2_with fail
  go_loopw [7, 8, 9] (fun i _ _ wr => ∃ k : Nat, k ≤ ks.length ∧ i = .int .i64 k ∧ Own wr w.heap.size 5 (.slice (some ⟨w.heap.size, 0, none⟩) n n) (makeL n (ks.take k)) ∧ Below w.heap.size w wr) (fun i _ _ _ => ks.length - (intOf i).toNat)
  case atStart => exact ⟨0, by omega, rfl, hown0, (Below.refl _ _).alloc (Nat.le_refl _) _⟩
  case round =>
    clear hown0
    obtain ⟨k, hk, rfl, hown, hb⟩ := hrel
    by_cases hlt : k < ks.length
    · obtain ⟨b, off, rfl, hblt, hc⟩ := C0.out.resolve_left (by omega)
      have hck : wr.cell? ⟨b, off + k, none⟩ = some (.string ⟨(ks[k]).toArray⟩) := (hb.cell (p := ⟨b, off + k, none⟩) hblt).trans ((hc k (by simpa using hlt)).trans (by simp [strV]))
      clear hc
      go_wp2_with fail
      refine (bits_any4 ks[k] (HK.out _ (List.getElem_mem hlt)) n hn1 hn2 _).mono ?_
      rintro e w2 ⟨rfl, hb2⟩
      go_wp2_with fail
      have hown2 := (hown.keep hb2).keep ((Below.refl _ w2).alloc (Nat.le_refl _) (.cells #[.int .i64 (posAt (hashAL ks[k]) (hashBL ks[k] ||| 1) n 0), .int .i64 (posAt (hashAL ks[k]) (hashBL ks[k] ||| 1) n 1), .int .i64 (posAt (hashAL ks[k]) (hashBL ks[k] ||| 1) n 2), .int .i64 (posAt (hashAL ks[k]) (hashBL ks[k] ||| 1) n 3)] 135))
      have hb3 := bnext (bnext hb hb2) ((Below.refl _ w2).alloc (Nat.le_refl _) (.cells #[.int .i64 (posAt (hashAL ks[k]) (hashBL ks[k] ||| 1) n 0), .int .i64 (posAt (hashAL ks[k]) (hashBL ks[k] ||| 1) n 1), .int .i64 (posAt (hashAL ks[k]) (hashBL ks[k] ||| 1) n 2), .int .i64 (posAt (hashAL ks[k]) (hashBL ks[k] ||| 1) n 3)] 135))
      have hnew := heap_alloc_new w2 (.cells #[.int .i64 (posAt (hashAL ks[k]) (hashBL ks[k] ||| 1) n 0), .int .i64 (posAt (hashAL ks[k]) (hashBL ks[k] ||| 1) n 1), .int .i64 (posAt (hashAL ks[k]) (hashBL ks[k] ||| 1) n 2), .int .i64 (posAt (hashAL ks[k]) (hashBL ks[k] ||| 1) n 3)] 135)
      have hgl := (World.ownsRow.lt (hown.keep hb2) w.heap.size rfl).2
      have hne : w.heap.size ≠ w2.heap.size := by omega
      clear hgl
      go_loopw [9] (fun i wr => ∃ j : Nat, j ≤ 4 ∧ i = .int .i64 j ∧ wr.heap[w2.heap.size]? = some (.cells #[.int .i64 (posAt (hashAL ks[k]) (hashBL ks[k] ||| 1) n 0), .int .i64 (posAt (hashAL ks[k]) (hashBL ks[k] ||| 1) n 1), .int .i64 (posAt (hashAL ks[k]) (hashBL ks[k] ||| 1) n 2), .int .i64 (posAt (hashAL ks[k]) (hashBL ks[k] ||| 1) n 3)] 135 (0, 0)) ∧ Own wr w.heap.size 5 (.slice (some ⟨w.heap.size, 0, none⟩) n n) (addK n (hashAL ks[k]) (hashBL ks[k] ||| 1) (makeL n (ks.take k)) j) ∧ Below w.heap.size w wr) (fun i _ => 4 - (intOf i).toNat)
      case atStart => exact ⟨0, by omega, rfl, hnew, hown2, hb3⟩
      case round =>
        clear hown2 hb3 hnew hck hb hown
        obtain ⟨j, hj, rfl, harr, hown, hb⟩ := hrel
        by_cases hlj : j < 4
        · have hl : (addK n (hashAL ks[k]) (hashBL ks[k] ||| 1) (makeL n (ks.take k)) j).length = n := by rw [addK_len, makeL_len]
          have hp8 : posAt (hashAL ks[k]) (hashBL ks[k] ||| 1) n j < 8 * n := posAt_lt (by omega)
          have hadd : addK n (hashAL ks[k]) (hashBL ks[k] ||| 1) (makeL n (ks.take k)) (j + 1) = setBit (addK n (hashAL ks[k]) (hashBL ks[k] ||| 1) (makeL n (ks.take k)) j) (posAt (hashAL ks[k]) (hashBL ks[k] ||| 1) n j) := rfl
          have hat : wr.cell? ⟨w2.heap.size, j, none⟩ = some (.int .i64 (posAt (hashAL ks[k]) (hashBL ks[k] ||| 1) n j)) := by
            rw [cell_of_row wr _ j _ _ _ harr]
            match j, hlj with
            | 0, _ => rfl
            | 1, _ => rfl
            | 2, _ => rfl
            | 3, _ => rfl
          have HARR := hid harr
          clear harr
          generalize posAt (hashAL ks[k]) (hashBL ks[k] ||| 1) n j = p at hp8 hadd hat
          generalize hM : addK n (hashAL ks[k]) (hashBL ks[k] ||| 1) (makeL n (ks.take k)) j = M at *
          have HM := hid hM
          have HA := hid hadd
          clear hM hadd
          have hM8 : p / 8 < M.length := by omega
          have hcell := hown.cellAt (p / 8) hM8
          have hfr := hown.frozenAt (p / 8)
          unfold byteV at hcell
          have hq8 : (p : Int) / 8 < (n : Int) := by omega
          have hq0 : (0 : Int) ≤ (p : Int) / 8 := by omega
          have hj4 : (j : Int) < 4 := by omega
          go_wp2_with fail
          go_region
          go_wp2_with fail
          go_roundw
          case rel =>
            refine ⟨j + 1, by omega, by go_num, (Below.heap_setCell _ _ _ _ (by simpa using Ne.symm hne)).trans HARR.out, ?_, Below.drew (hb.setCell (Nat.le_refl _) _)⟩
            have hst := hown.stored (p / 8) (orAt (M[p / 8]?.getD 0) (p % 8))
            have e : M[p / 8]?.getD 0 = M[p / 8] := by rw [List.getElem?_eq_getElem hM8]; rfl
            unfold byteV at hst
            rw [e, ← orAt_eq _ _ (Nat.mod_lt _ (by omega))] at hst
            rw [HA.out, setBit, e]
            exact hst
          case measure => simp [intOf]; omega
        · obtain rfl : j = 4 := by omega
          clear harr
          go_wp2_with fail
          go_roundw
          case rel => exact ⟨k + 1, by omega, by go_num, by rw [← makeL_take hlt]; exact hown, hb⟩
          case measure => simp [intOf]; omega
    · obtain rfl : k = ks.length := by omega
      rw [List.take_of_length_le (Nat.le_refl _)] at hown
      have hs := run_string_own (P := Try.prog) wr 91 9 5 _ _ _ Try.underlying91 Try.underlying5 Try.underlying9 hown
      go_wp2_with fail
      go_ret2
      exact ⟨rfl, hb⟩

set_option maxHeartbeats 800000 in
theorem rmake_no (v0 : Value) (n : Int) (hn : n < 1 ∨ 8192 < n) (w : World) :
    Calls Try.prog 47 #[v0, .int .i64 n] w fun e w' => e = .returned (.tuple #[.string ⟨#[]⟩, .int .i64 1]) ∧ Below w.heap.size w w' := by
  rcases hn with hn | hn
  · go_enter Try.func47, Try.ntmps47
    go_wp2_with fail
    go_ret2
    exact ⟨rfl, Below.refl _ _⟩
  · have h1 : ¬ n < 1 := by omega
    go_enter Try.func47, Try.ntmps47
    go_wp2_with fail
    go_ret2
    exact ⟨rfl, Below.refl _ _⟩

set_option maxRecDepth 100000 in
theorem rhas_no (f k : List UInt8) (hf : f = [] ∨ 8192 < f.length) (hfl : f.length ≤ maxLen) (w : World) :
    Calls Try.prog 61 #[.string ⟨f.toArray⟩, .string ⟨k.toArray⟩] w fun e w' => e = .returned (.bool (hasL f k)) ∧ Below w.heap.size w w' := by
  unfold maxLen at hfl
  have hv : hasL f k = false := by
    unfold hasL
    have : ¬ (1 ≤ f.length ∧ f.length ≤ 8192) := by rcases hf with rfl | h <;> simp <;> omega
    simp [this]
  rw [hv]
  rcases hf with rfl | hf
  · go_enter Try.func61, Try.ntmps61
    go_wp2_with fail
    go_ret
    exact ⟨rfl, Below.refl _ _⟩
  · have h1 : ¬ f.length < 1 := by omega
    go_enter Try.func61, Try.ntmps61
    go_wp2_with fail
    go_ret
    exact ⟨rfl, Below.refl _ _⟩

set_option maxHeartbeats 1600000 in
set_option maxRecDepth 100000 in
theorem rhas_yes (f k : List UInt8) (h1 : 1 ≤ f.length) (h2 : f.length ≤ 8192) (hk : k.length ≤ maxLen) (w : World) :
    Calls Try.prog 61 #[.string ⟨f.toArray⟩, .string ⟨k.toArray⟩] w fun e w' => e = .returned (.bool (hasL f k)) ∧ Below w.heap.size w w' := by
  have hv : hasL f k = hasK f (hashAL k) (hashBL k ||| 1) 4 := by simp [hasL, h1, h2]
  rw [hv]
  clear hv
  go_enter Try.func61, Try.ntmps61
  go_wp2_with fail
  refine (bits_any4 k hk f.length h1 h2 _).mono ?_
  rintro e w2 ⟨rfl, hb2⟩
  have hb3 := bnext hb2 ((Below.refl _ w2).alloc (Nat.le_refl _) (.cells #[.int .i64 (posAt (hashAL k) (hashBL k ||| 1) f.length 0), .int .i64 (posAt (hashAL k) (hashBL k ||| 1) f.length 1), .int .i64 (posAt (hashAL k) (hashBL k ||| 1) f.length 2), .int .i64 (posAt (hashAL k) (hashBL k ||| 1) f.length 3)] 135))
  have hnew := heap_alloc_new w2 (.cells #[.int .i64 (posAt (hashAL k) (hashBL k ||| 1) f.length 0), .int .i64 (posAt (hashAL k) (hashBL k ||| 1) f.length 1), .int .i64 (posAt (hashAL k) (hashBL k ||| 1) f.length 2), .int .i64 (posAt (hashAL k) (hashBL k ||| 1) f.length 3)] 135)
  go_wp2_with fail
  go_loopw [6] (fun i wr => ∃ j : Nat, j ≤ 4 ∧ i = .int .i64 j ∧ wr.heap[w2.heap.size]? = some (.cells #[.int .i64 (posAt (hashAL k) (hashBL k ||| 1) f.length 0), .int .i64 (posAt (hashAL k) (hashBL k ||| 1) f.length 1), .int .i64 (posAt (hashAL k) (hashBL k ||| 1) f.length 2), .int .i64 (posAt (hashAL k) (hashBL k ||| 1) f.length 3)] 135 (0, 0)) ∧ hasK f (hashAL k) (hashBL k ||| 1) j = true ∧ Below w.heap.size w wr) (fun i _ => 4 - (intOf i).toNat)
  case atStart => exact ⟨0, by omega, rfl, hnew, rfl, hb3⟩
  case round =>
    clear hb3 hnew hb2
    obtain ⟨j, hj, rfl, harr, hsofar, hb⟩ := hrel
    have HS := hid hsofar
    clear hsofar
    by_cases hlj : j < 4
    · have hp8 : posAt (hashAL k) (hashBL k ||| 1) f.length j < 8 * f.length := posAt_lt (by omega)
      have hat : wr.cell? ⟨w2.heap.size, j, none⟩ = some (.int .i64 (posAt (hashAL k) (hashBL k ||| 1) f.length j)) := by
        rw [cell_of_row wr _ j _ _ _ harr]
        match j, hlj with
        | 0, _ => rfl
        | 1, _ => rfl
        | 2, _ => rfl
        | 3, _ => rfl
      have HARR := hid harr
      clear harr
      obtain ⟨p, hpp⟩ : ∃ p, p = posAt (hashAL k) (hashBL k ||| 1) f.length j := ⟨_, rfl⟩
      rw [← hpp] at hp8 hat
      have HPP := hid hpp
      clear hpp
      have hM8 : p / 8 < f.length := by omega
      have hq8 : (p : Int) / 8 < (f.length : Int) := by omega
      have hq0 : (0 : Int) ≤ (p : Int) / 8 := by omega
      have hj4 : (j : Int) < 4 := by omega
      have ht := bit_test2 ((⟨f.toArray⟩ : ByteArray)[p / 8]'hM8) (p % 8)
      have hbit : hasBit f p = decide (((⟨f.toArray⟩ : ByteArray)[p / 8]'hM8).toNat / 2 ^ (p % 8) % 2 = 1) := by
        unfold hasBit; rw [List.getElem?_eq_getElem hM8]; rfl
      obtain ⟨B, hBB⟩ : ∃ B : Bool, B = decide (((⟨f.toArray⟩ : ByteArray)[p / 8]'hM8).toNat / 2 ^ (p % 8) % 2 = 1) := ⟨_, rfl⟩
      rw [← hBB] at ht hbit
      have HBIT := hid hbit
      clear hBB hbit
      cases B
      · simp only [Bool.not_false] at ht
        go_wp2_with fail
        go_quiet (fail)
        go_wp2_with fail
        go_ret
        have hf4 := hasK_false (f := f) (a := hashAL k) (b := hashBL k ||| 1) (j := j) (by rw [← HPP.out]; exact HBIT.out) 4 hlj
        rw [hf4]
        exact ⟨rfl, bnext hb (below_drewN _ _ _)⟩
      · simp only [Bool.not_true] at ht
        go_wp2_with fail
        go_quiet (fail)
        go_wp2_with fail
        go_roundw
        case rel => exact ⟨j + 1, by omega, by go_num, HARR.out, by rw [hasK, HS.out, ← HPP.out, HBIT.out]; rfl, bnext hb (below_drewN _ _ _)⟩
        case measure => simp [intOf]; omega
    · go_wp2_with fail
      obtain rfl : j = 4 := by omega
      go_ret
      exact ⟨by rw [HS.out]; rfl, hb⟩
end Go.Proofs.Ytfdbcnpbjabjoaa
