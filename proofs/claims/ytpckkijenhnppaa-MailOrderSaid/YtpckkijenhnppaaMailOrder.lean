/- THE WALK of MailOrder. -/
import Derived.Test.YtpckkijenhnppaaMailNone
import Derived.Test.YtpckkijenhnppaaBloomOpen
namespace Go.Proofs.Ytpckkijenhnppaa
open Go.RowKit
set_option linter.unusedVariables false

/-- what was sent -/
def sentAll (ts : List (List UInt8)) : List Letter := ts.mapIdx fun j s => (((j + 1 : Nat) : Int), [97], s)
theorem sentAll_len (ts : List (List UInt8)) : (sentAll ts).length = ts.length := by simp [sentAll]
theorem sentAll_at (ts : List (List UInt8)) (j : Nat) (h : j < ts.length) : (sentAll ts)[j]'(by rw [sentAll_len]; exact h) = (((j + 1 : Nat) : Int), [97], ts[j]) := by simp [sentAll]
theorem sentAll_succ (ts : List (List UInt8)) (j : Nat) (h : j < ts.length) : (sentAll ts).take (j + 1) = (sentAll ts).take j ++ [(((j + 1 : Nat) : Int), [97], ts[j])] := by
  rw [List.take_succ_eq_append_getElem (by rw [sentAll_len]; exact h), sentAll_at ts j h]
theorem sentAll_drop (ts : List (List UInt8)) (j : Nat) (h : j < ts.length) : (sentAll ts).drop j = (((j + 1 : Nat) : Int), [97], ts[j]) :: (sentAll ts).drop (j + 1) := by
  rw [List.drop_eq_getElem_cons (by rw [sentAll_len]; exact h), sentAll_at ts j h]
theorem idx_num (k : Nat) : ((k : Int) + 1 + 1) = (((k + 1 : Nat) : Int) + 1) := by omega

open Go.ChangeShapes Go.WideShapes in
theorem open_strs_cap {H : Type} {enc : TypeId × Value → H} {W : World} {base : Nat} {v : Value} {d : DataW H} {p : List MemPlace} (hv : Value.okWide Try.prog W .any base 22 v)
    (h : DataW.Trod enc Try.prog W 0 (fun _ => true) true 22 v d p) : ∃ ss : List (List UInt8), Sl W v 1 ss.length (ss.map strV) ∧ (∀ a n c, v = .slice a n c → n ≤ c) := by
  obtain ⟨ss, h1, h2⟩ := open_strs hv h
  refine ⟨ss, h1, ?_⟩
  obtain ⟨a0, len0, cap0, rfl⟩ := okWide_slice Try.underlying22 hv
  obtain ⟨fuel, hf⟩ := h
  rcases open_strings Try.underlying22 Try.underlying9 (by kernel_rfl) hf with ⟨hcs, hx⟩ | ⟨x, l, c, zs, hcs, _, hl, hm, hz, hx, hcell, hwz⟩
  · simp [Value.cells] at hcs
    obtain ⟨rfl, rfl, rfl⟩ := hcs
    intro a n c e; simp at e; omega
  · simp [Value.cells] at hcs
    obtain ⟨rfl, rfl, rfl⟩ := hcs
    intro a n c e; simp at e; omega

set_option maxHeartbeats 4000000 in
theorem mailOrder_big (a1 : Option Addr) (cap1 : Nat) (ss ts : List (List UInt8)) (w : World) (hts : ts.length = 64) (hle : 64 ≤ 64) (_hcp : ss.length ≤ cap1) (hbig : (64 : Int) < (ss.length : Int))
    (C1 : Hid (64 = 0 ∨ ∃ b off, a1 = some ⟨b, off, none⟩ ∧ b < w.heap.size ∧ ∀ j (_ : j < ts.length), w.cell? ⟨b, off + j, none⟩ = some (.string ⟨ts[j].toArray⟩))) :
    Calls Try.prog 10 #[.slice a1 ss.length cap1] w fun e w' => e = .returned (.bool true) ∧ Below w.heap.size w w' := by
  have hc64 : (64 : Int) ≤ (cap1 : Int) := by omega
  go_enter Try.func10, Try.ntmps10
  go_wp2_with fail
  refine (awake_any w).mono ?_
  rintro _ w1 ⟨rfl, b1⟩
  go_wp2_with fail
  refine (new_any w1).mono ?_
  rintro _ w2 ⟨rfl, n2, b2⟩
  go_wp2_with fail
  go_loopw [24] (fun i wr => ∃ k : Nat, k ≤ 64 ∧ i = .int .i64 k ∧ Net wr w1.heap.size w1.heap.size ((sentAll ts).take k) ((k : Int) + 1) ∧ Below w1.heap.size w1 wr) (fun i _ => 64 - (intOf i).toNat)
  case atStart => exact ⟨0, by omega, rfl, n2, b2⟩
  case round =>
    obtain ⟨k, hk, rfl, hn, hb⟩ := hrel
    by_cases hlt : k < 64
    · obtain ⟨b, off, rfl, hblt, hc⟩ := C1.out.resolve_left (by omega)
      have hck : wr.cell? ⟨b, off + k, none⟩ = some (.string ⟨(ts[k]).toArray⟩) := (hb.cell (p := ⟨b, off + k, none⟩) (Nat.lt_of_lt_of_le hblt b1.size)).trans ((b1.cell (p := ⟨b, off + k, none⟩) hblt).trans (hc k (by omega)))
      clear hc
      have hlt' : (k : Int) < (64 : Int) := by omega
      have hlk : ((sentAll ts).take k).length = k := by rw [List.length_take, sentAll_len]; omega
      by_cases hlong : ts[k].length ≤ 1048576
      · have hlong' : ¬ (1048576 : Int) < (ts[k].length : Int) := by omega
        go_wp2_with fail
        refine (send_ok wr _ _ _ _ [97] ts[k] hn ⟨by decide, by decide, hlong, by omega⟩ ⟨by omega, by omega⟩).mono ?_
        rintro _ w4 ⟨rfl, n4, k4⟩
        have hb4 := k4.below hb hb.size
        rw [show ((k : Int) + 1) = ((k + 1 : Nat) : Int) by omega, ← sentAll_succ ts k (by omega)] at n4
        go_wp2_with fail
        go_roundw
        case rel => exact ⟨k + 1, by omega, by go_num, n4, hb4⟩
        case measure => simp [intOf]; omega
      · have hlong' : (1048576 : Int) < (ts[k].length : Int) := by omega
        have hno : ¬ sendOk [97] ts[k] ((sentAll ts).take k) := by unfold sendOk; omega
        have hv : sendErr [97] ts[k] ((sentAll ts).take k) = 2 := by unfold sendErr; rw [if_neg (by decide), if_pos (.inl (by omega))]
        have hs := send_no wr _ _ _ _ [97] ts[k] hn hno
        rw [hv] at hs
        clear hv hno
        go_wp2_with fail
        refine hs.mono ?_
        rintro _ w4 ⟨rfl, hw4⟩
        rw [hw4]
        clear hw4 w4
        go_wp2_with fail
        go_ret
        exact ⟨rfl, bnext b1 hb⟩
    · obtain rfl : k = 64 := by omega
      have hb1 := bnext b1 hb
      rw [show ((64 : Nat) : Int) = (64 : Int) from rfl]
      go_wp2_with fail
      go_loopw [51] (fun i wr' => ∃ k : Nat, k ≤ 64 ∧ i = .int .i64 k ∧ Net wr' w1.heap.size w1.heap.size ((sentAll ts).drop k) ((64 : Nat) + 1) ∧ Below w1.heap.size w1 wr') (fun i _ => 64 - (intOf i).toNat)
      case atStart => exact ⟨0, by omega, rfl, by rw [List.take_of_length_le (by rw [sentAll_len]; omega)] at hn; exact hn, hb⟩
      case round =>
        clear hn hb hb1
        obtain ⟨k, hk, rfl, hn, hb⟩ := hrel
        by_cases hlt2 : k < 64
        · obtain ⟨b, off, rfl, hblt, hc⟩ := C1.out.resolve_left (by omega)
          have hck : wr.cell? ⟨b, off + k, none⟩ = some (.string ⟨(ts[k]).toArray⟩) := (hb.cell (p := ⟨b, off + k, none⟩) (Nat.lt_of_lt_of_le hblt b1.size)).trans ((b1.cell (p := ⟨b, off + k, none⟩) hblt).trans (hc k (by omega)))
          clear hc
          have hlt' : (k : Int) < (64 : Int) := by omega
          have hdl : ((sentAll ts).drop (k + 1)).length ≤ 64 := by rw [List.length_drop, sentAll_len]; omega
          rw [sentAll_drop ts k (by omega)] at hn
          have ht := take_ok wr _ _ _ _ 0 hn (by simp) (by rw [List.length_cons]; unfold maxLen; omega)
          simp only [List.getElem_cons_zero, List.take_zero, List.nil_append, List.drop_succ_cons, List.drop_zero, strV] at ht
          go_wp2_with fail
          refine ht.mono ?_
          rintro _ w4 ⟨rfl, n4, k4⟩
          have hb4 := k4.below hb hb.size
          go_wp2_with fail
          go_roundw
          case rel => exact ⟨k + 1, by omega, by go_num, n4, hb4⟩
          case measure => simp [intOf]; omega
        · obtain rfl : k = 64 := by omega
          rw [List.drop_of_length_le (by rw [sentAll_len]; omega)] at hn
          go_wp2_with fail
          refine (len_any wr _ _ _ _ hn).mono ?_
          rintro _ _ ⟨rfl, rfl⟩
          go_wp2_with fail
          go_ret
          exact ⟨rfl, bnext b1 hb⟩

set_option maxHeartbeats 4000000 in
theorem mailOrder_few (a1 : Option Addr) (cap1 : Nat) (ss ts : List (List UInt8)) (w : World) (hts : ts.length = ss.length) (hle : ss.length ≤ 64) (_hcp : ss.length ≤ cap1) (hbig : ¬ (64 : Int) < (ss.length : Int))
    (C1 : Hid (ss.length = 0 ∨ ∃ b off, a1 = some ⟨b, off, none⟩ ∧ b < w.heap.size ∧ ∀ j (_ : j < ts.length), w.cell? ⟨b, off + j, none⟩ = some (.string ⟨ts[j].toArray⟩))) :
    Calls Try.prog 10 #[.slice a1 ss.length cap1] w fun e w' => e = .returned (.bool true) ∧ Below w.heap.size w w' := by
  go_enter Try.func10, Try.ntmps10
  go_wp2_with fail
  refine (awake_any w).mono ?_
  rintro _ w1 ⟨rfl, b1⟩
  go_wp2_with fail
  refine (new_any w1).mono ?_
  rintro _ w2 ⟨rfl, n2, b2⟩
  go_wp2_with fail
  go_loopw [24] (fun i wr => ∃ k : Nat, k ≤ ss.length ∧ i = .int .i64 k ∧ Net wr w1.heap.size w1.heap.size ((sentAll ts).take k) ((k : Int) + 1) ∧ Below w1.heap.size w1 wr) (fun i _ => ss.length - (intOf i).toNat)
  case atStart => exact ⟨0, by omega, rfl, n2, b2⟩
  case round =>
    obtain ⟨k, hk, rfl, hn, hb⟩ := hrel
    by_cases hlt : k < ss.length
    · obtain ⟨b, off, rfl, hblt, hc⟩ := C1.out.resolve_left (by omega)
      have hck : wr.cell? ⟨b, off + k, none⟩ = some (.string ⟨(ts[k]).toArray⟩) := (hb.cell (p := ⟨b, off + k, none⟩) (Nat.lt_of_lt_of_le hblt b1.size)).trans ((b1.cell (p := ⟨b, off + k, none⟩) hblt).trans (hc k (by omega)))
      clear hc
      have hlt' : (k : Int) < (ss.length : Int) := by omega
      have hlk : ((sentAll ts).take k).length = k := by rw [List.length_take, sentAll_len]; omega
      by_cases hlong : ts[k].length ≤ 1048576
      · have hlong' : ¬ (1048576 : Int) < (ts[k].length : Int) := by omega
        go_wp2_with fail
        refine (send_ok wr _ _ _ _ [97] ts[k] hn ⟨by decide, by decide, hlong, by omega⟩ ⟨by omega, by omega⟩).mono ?_
        rintro _ w4 ⟨rfl, n4, k4⟩
        have hb4 := k4.below hb hb.size
        rw [show ((k : Int) + 1) = ((k + 1 : Nat) : Int) by omega, ← sentAll_succ ts k (by omega)] at n4
        go_wp2_with fail
        go_roundw
        case rel => exact ⟨k + 1, by omega, by go_num, n4, hb4⟩
        case measure => simp [intOf]; omega
      · have hlong' : (1048576 : Int) < (ts[k].length : Int) := by omega
        have hno : ¬ sendOk [97] ts[k] ((sentAll ts).take k) := by unfold sendOk; omega
        have hv : sendErr [97] ts[k] ((sentAll ts).take k) = 2 := by unfold sendErr; rw [if_neg (by decide), if_pos (.inl (by omega))]
        have hs := send_no wr _ _ _ _ [97] ts[k] hn hno
        rw [hv] at hs
        clear hv hno
        go_wp2_with fail
        refine hs.mono ?_
        rintro _ w4 ⟨rfl, hw4⟩
        rw [hw4]
        clear hw4 w4
        go_wp2_with fail
        go_ret
        exact ⟨rfl, bnext b1 hb⟩
    · obtain rfl : k = ss.length := by omega
      have hb1 := bnext b1 hb
      go_wp2_with fail
      go_loopw [51] (fun i wr' => ∃ k : Nat, k ≤ ss.length ∧ i = .int .i64 k ∧ Net wr' w1.heap.size w1.heap.size ((sentAll ts).drop k) ((ss.length : Nat) + 1) ∧ Below w1.heap.size w1 wr') (fun i _ => ss.length - (intOf i).toNat)
      case atStart => exact ⟨0, by omega, rfl, by rw [List.take_of_length_le (by rw [sentAll_len]; omega)] at hn; exact hn, hb⟩
      case round =>
        clear hn hb hb1
        obtain ⟨k, hk, rfl, hn, hb⟩ := hrel
        by_cases hlt2 : k < ss.length
        · obtain ⟨b, off, rfl, hblt, hc⟩ := C1.out.resolve_left (by omega)
          have hck : wr.cell? ⟨b, off + k, none⟩ = some (.string ⟨(ts[k]).toArray⟩) := (hb.cell (p := ⟨b, off + k, none⟩) (Nat.lt_of_lt_of_le hblt b1.size)).trans ((b1.cell (p := ⟨b, off + k, none⟩) hblt).trans (hc k (by omega)))
          clear hc
          have hlt' : (k : Int) < (ss.length : Int) := by omega
          have hdl : ((sentAll ts).drop (k + 1)).length ≤ 64 := by rw [List.length_drop, sentAll_len]; omega
          rw [sentAll_drop ts k (by omega)] at hn
          have ht := take_ok wr _ _ _ _ 0 hn (by simp) (by rw [List.length_cons]; unfold maxLen; omega)
          simp only [List.getElem_cons_zero, List.take_zero, List.nil_append, List.drop_succ_cons, List.drop_zero, strV] at ht
          go_wp2_with fail
          refine ht.mono ?_
          rintro _ w4 ⟨rfl, n4, k4⟩
          have hb4 := k4.below hb hb.size
          go_wp2_with fail
          go_roundw
          case rel => exact ⟨k + 1, by omega, by go_num, n4, hb4⟩
          case measure => simp [intOf]; omega
        · obtain rfl : k = ss.length := by omega
          rw [List.drop_of_length_le (by rw [sentAll_len]; omega)] at hn
          go_wp2_with fail
          refine (len_any wr _ _ _ _ hn).mono ?_
          rintro _ _ ⟨rfl, rfl⟩
          go_wp2_with fail
          go_ret
          exact ⟨rfl, bnext b1 hb⟩

theorem mailOrder_walk (v0 : Value) (ss : List (List UInt8)) (w : World) (h1 : Sl w v0 1 ss.length (ss.map strV)) (hcap : ∀ a n c, v0 = .slice a n c → n ≤ c) :
    Calls Try.prog 10 #[v0] w fun e w' => e = .returned (.bool true) ∧ Below w.heap.size w w' := by
  obtain ⟨hl, _, a1, cap1, rfl, c1⟩ := h1
  have hcp : ss.length ≤ cap1 := hcap _ _ _ rfl
  by_cases hbig : 64 < ss.length
  · refine mailOrder_big a1 cap1 ss (ss.take 64) w (by rw [List.length_take]; omega) (Nat.le_refl _) hcp (by omega) (hid ?_)
    rcases c1 with h0 | ⟨b, off, rfl, hb, hc⟩
    · omega
    · exact .inr ⟨b, off, rfl, hb, fun j hj => (hc j (by rw [List.length_map]; rw [List.length_take] at hj; omega)).trans (by simp [strV])⟩
  · refine mailOrder_few a1 cap1 ss ss w rfl (by omega) hcp (by omega) (hid ?_)
    rcases c1 with h0 | ⟨b, off, rfl, hb, hc⟩
    · exact .inl h0
    · exact .inr ⟨b, off, rfl, hb, fun j hj => (hc j (by rw [List.length_map]; exact hj)).trans (by simp [strV])⟩
end Go.Proofs.Ytpckkijenhnppaa
