/- THE WALKS OF BloomTells, BloomHas. -/
import Derived.Test.YtpckkijenhnppaaBloomRef
import Derived.Test.YtpckkijenhnppaaBloomBits
import Derived.Deep.QuietTactic
import Derived.BigQuiet
namespace Go.Proofs.Ytpckkijenhnppaa
open Go.RowKit

theorem has_any (f k : List UInt8) (hf : f.length ≤ maxLen) (hk : k.length ≤ maxLen) (w : World) :
    Calls Try.prog 16 #[.string ⟨f.toArray⟩, .string ⟨k.toArray⟩] w fun e w' => e = .returned (.bool (hasL f k)) ∧ w' = w := by
  by_cases h1 : f.length < 1
  · exact has_no f k (.inl (List.eq_nil_of_length_eq_zero (by omega))) hf w
  · by_cases h2 : 8192 < f.length
    · exact has_no f k (.inr h2) hf w
    · exact has_yes f k (by omega) (by omega) hk w
theorem rhas_any (f k : List UInt8) (hf : f.length ≤ maxLen) (hk : k.length ≤ maxLen) (w : World) :
    Calls Try.prog 17 #[.string ⟨f.toArray⟩, .string ⟨k.toArray⟩] w fun e w' => e = .returned (.bool (hasL f k)) ∧ Below w.heap.size w w' := by
  by_cases h1 : f.length < 1
  · exact rhas_no f k (.inl (List.eq_nil_of_length_eq_zero (by omega))) hf w
  · by_cases h2 : 8192 < f.length
    · exact rhas_no f k (.inr h2) hf w
    · exact rhas_yes f k (by omega) (by omega) hk w
/-- what Make gives, whatever the size -/
def madeS (n : Int) (ks : List (List UInt8)) : List UInt8 := if n < 1 ∨ 8192 < n then [] else makeL n.toNat ks
def madeE (n : Int) : Int := if n < 1 ∨ 8192 < n then 1 else 0
theorem madeS_len (n : Int) (ks : List (List UInt8)) : (madeS n ks).length ≤ 8192 := by
  unfold madeS; split
  · simp
  · rw [makeL_len]; omega
theorem make_all (v0 : Value) (ks : List (List UInt8)) (n : Int) (hkl : ∀ k ∈ ks, k.length ≤ maxLen) (w : World) (h0 : Sl w v0 1 ks.length (ks.map strV)) :
    Calls Try.prog 14 #[v0, .int .i64 n] w fun e w' => e = .returned (.tuple #[.string ⟨(madeS n ks).toArray⟩, .int .i64 (madeE n)]) ∧ Below w.heap.size w w' := by
  unfold madeS madeE
  by_cases h : n < 1 ∨ 8192 < n
  · rw [if_pos h, if_pos h]; exact make_no v0 n h w
  · rw [if_neg h, if_neg h]
    obtain ⟨m, rfl⟩ := Int.eq_ofNat_of_zero_le (show 0 ≤ n by omega)
    rw [Int.toNat_natCast]
    exact make_any v0 ks m (by omega) (by omega) hkl w h0
theorem rmake_all (v0 : Value) (ks : List (List UInt8)) (n : Int) (hkl : ∀ k ∈ ks, k.length ≤ maxLen) (w : World) (h0 : Sl w v0 1 ks.length (ks.map strV)) :
    Calls Try.prog 15 #[v0, .int .i64 n] w fun e w' => e = .returned (.tuple #[.string ⟨(madeS n ks).toArray⟩, .int .i64 (madeE n)]) ∧ Below w.heap.size w w' := by
  unfold madeS madeE
  by_cases h : n < 1 ∨ 8192 < n
  · rw [if_pos h, if_pos h]; exact rmake_no v0 n h w
  · rw [if_neg h, if_neg h]
    obtain ⟨m, rfl⟩ := Int.eq_ofNat_of_zero_le (show 0 ≤ n by omega)
    rw [Int.toNat_natCast]
    exact rmake_any v0 ks m (by omega) (by omega) hkl w h0

set_option maxHeartbeats 1600000 in
theorem bawake_any (w : World) : Calls Try.prog 11 #[] w fun e w' => e = .returned (.bool true) ∧ Below w.heap.size w w' := by
  have h1 := has_made (n := 8) (by omega) (by omega) [[97], [98]] [97] (by simp)
  have h2 := has_made (n := 8) (by omega) (by omega) [[97], [98]] [98] (by simp)
  have h3 := makeL_len 8 [[97], [98]]
  have h4 : hasL [] [97] = false := by decide
  go_enter Try.func11, Try.ntmps11
  go_wp2_with fail
  refine (make_any _ [[97], [98]] 8 (by omega) (by omega) (by decide) _ (Sl.lit w [strV [97], strV [98]] 9 (by decide))).mono ?_
  rintro e w1 ⟨rfl, hb1⟩
  obtain ⟨F, hF⟩ : ∃ F, F = makeL 8 [[97], [98]] := ⟨_, rfl⟩
  rw [← hF] at h1 h2 h3 ⊢
  clear hF
  go_wp2_with fail
  refine (has_any F [97] (by unfold maxLen; omega) (by decide) _).mono ?_
  rw [h1]
  rintro e w2 ⟨rfl, rfl⟩
  go_wp2_with fail
  refine (has_any F [98] (by unfold maxLen; omega) (by decide) _).mono ?_
  rw [h2]
  rintro e w2 ⟨rfl, rfl⟩
  go_wp2_with fail
  refine (has_any [] [97] (by decide) (by decide) _).mono ?_
  rw [h4]
  rintro e w2 ⟨rfl, rfl⟩
  go_wp2_with fail
  go_ret
  exact ⟨rfl, bnext ((Below.refl _ _).alloc (Nat.le_refl _) _) hb1⟩

set_option maxHeartbeats 1600000 in
theorem bloomTells_walk (v : Value) (v0 : Value) (ks : List (List UInt8)) (n : Int) (k f : List UInt8) (w : World) (hv : v = .agg #[v0, .int .i64 n, .string ⟨k.toArray⟩, .string ⟨f.toArray⟩]) (h0 : Sl w v0 1 ks.length (ks.map strV)) (hkl : ∀ k ∈ ks, k.length ≤ maxLen)
    (_hn : -9223372036854775808 ≤ n ∧ n ≤ 9223372036854775807) (hk : k.length ≤ maxLen) (hf : f.length ≤ maxLen) :
    Calls Try.prog 3 #[v] w fun e w' => e = .returned (.bool true) ∧ Below w.heap.size w w' := by
  subst hv
  go_enter Try.func3, Try.ntmps3
  go_wp2_with fail
  go_quiet (fail)
  go_wp2_with fail
  obtain ⟨W1, hW1⟩ : ∃ W1, W1 = ((w.alloc (.cells #[v0, .int .i64 n, .string ⟨k.toArray⟩, .string ⟨f.toArray⟩] 24)).drewN nq) := ⟨_, rfl⟩
  have hb0 : Below w.heap.size w W1 := by rw [hW1]; exact bnext ((Below.refl _ _).alloc (Nat.le_refl _) _) (below_drewN _ _ _)
  rw [← hW1]
  clear hW1
  have hs0 := h0.below hb0
  have hml := madeS_len n ks
  obtain ⟨F, hF⟩ : ∃ F, F = madeS n ks := ⟨_, rfl⟩
  have HF := hid hF
  rw [← hF] at hml
  clear hF
  refine (bawake_any _).mono ?_
  rintro e w1 ⟨rfl, hb1⟩
  have hs1 := hs0.below hb1
  go_wp2_with fail
  refine (hash_any k hk _).mono ?_
  rintro e w2 ⟨rfl, rfl⟩
  go_wp2_with fail
  refine (rhash_any k hk _).mono ?_
  rintro e w2 ⟨rfl, rfl⟩
  go_wp2_with fail
  refine (make_all v0 ks n hkl _ hs1).mono ?_
  rw [← HF.out]
  rintro e w2 ⟨rfl, hb2⟩
  have hs2 := hs1.below hb2
  go_wp2_with fail
  refine (rmake_all v0 ks n hkl _ hs2).mono ?_
  rw [← HF.out]
  rintro e w3 ⟨rfl, hb3⟩
  go_wp2_with fail
  refine (has_any f k hf hk _).mono ?_
  rintro e w4 ⟨rfl, rfl⟩
  go_wp2_with fail
  refine (rhas_any f k hf hk _).mono ?_
  rintro e w5 ⟨rfl, hb5⟩
  go_wp2_with fail
  refine (has_any F k (by unfold maxLen; omega) hk _).mono ?_
  rintro e w6 ⟨rfl, rfl⟩
  go_wp2_with fail
  refine (rhas_any F k (by unfold maxLen; omega) hk _).mono ?_
  rintro e w7 ⟨rfl, hb7⟩
  go_wp2_with fail
  go_ret
  exact ⟨rfl, bnext (bnext (bnext (bnext (bnext hb0 hb1) hb2) hb3) hb5) hb7⟩

set_option maxHeartbeats 1600000 in
theorem bloomHas_walk (v0 : Value) (ks : List (List UInt8)) (n : Int) (_hn : -9223372036854775808 ≤ n ∧ n ≤ 9223372036854775807) (w : World) (h0 : Sl w v0 1 ks.length (ks.map strV)) (hkl : ∀ k ∈ ks, k.length ≤ maxLen) :
    Calls Try.prog 4 #[v0, .int .i64 n] w fun e w' => e = .returned (.bool true) ∧ Below w.heap.size w w' := by
  by_cases hno : n < 1 ∨ 8192 < n
  · go_enter Try.func4, Try.ntmps4
    go_wp2_with fail
    refine (bawake_any _).mono ?_
    rintro e w1 ⟨rfl, hb1⟩
    go_wp2_with fail
    refine (make_no v0 n hno _).mono ?_
    rintro e w2 ⟨rfl, hb2⟩
    rcases hno with h | h
    · go_wp2_with fail
      go_ret
      exact ⟨rfl, bnext hb1 hb2⟩
    · have h' : ¬ n < 1 := by omega
      go_wp2_with fail
      go_ret
      exact ⟨rfl, bnext hb1 hb2⟩
  · obtain ⟨m, rfl⟩ := Int.eq_ofNat_of_zero_le (show 0 ≤ n by omega)
    have hm1 : 1 ≤ m := by omega
    have hm2 : m ≤ 8192 := by omega
    clear hno
    have hml := makeL_len m ks
    have hall := fun k hk => has_made hm1 hm2 ks k hk
    obtain ⟨F, hF⟩ : ∃ F, F = makeL m ks := ⟨_, rfl⟩
    have HF := hid hF
    rw [← hF] at hml hall
    clear hF
    have HALL := hid hall
    clear hall
    obtain ⟨_, hkn, a0, cap0, rfl, c0⟩ := h0
    have hkn2 := hkn
    unfold maxLen at hkn2
    have C0 := hid c0; have HK := hid hkl
    have HS : Hid (Sl w (.slice a0 ks.length cap0) 1 ks.length (ks.map strV)) := ⟨by simp, hkn, a0, cap0, rfl, c0⟩
    obtain ⟨hkn3, _⟩ := hkn2
    clear c0 hkl hkn
    go_enter Try.func4, Try.ntmps4
    go_wp2_with fail
    refine (bawake_any _).mono ?_
    rintro e w1 ⟨rfl, hb1⟩
    go_wp2_with fail
    refine (make_any _ ks m hm1 hm2 HK.out _ (HS.out.below hb1)).mono ?_
    rw [← HF.out]
    rintro e w2 ⟨rfl, hb2⟩
    have hb := bnext hb1 hb2
    clear hb1 hb2
    go_wp2_with fail
    go_loopw [8, 31] (fun _ i wr => ∃ k : Nat, k ≤ ks.length ∧ i = .int .i64 k ∧ Below w.heap.size w wr) (fun _ i _ => ks.length - (intOf i).toNat)
    case atStart => exact ⟨0, by omega, rfl, hb⟩
    case round =>
      clear hb
      obtain ⟨k, hk, rfl, hb⟩ := hrel
      by_cases hlt : k < ks.length
      · obtain ⟨b, off, rfl, hblt, hc⟩ := C0.out.resolve_left (by omega)
        have hck : wr.cell? ⟨b, off + k, none⟩ = some (.string ⟨(ks[k]).toArray⟩) := (hb.cell (p := ⟨b, off + k, none⟩) hblt).trans ((hc k (by simpa using hlt)).trans (by simp [strV]))
        clear hc
        go_wp2_with fail
        refine (has_any F ks[k] (by unfold maxLen; omega) (HK.out _ (List.getElem_mem hlt)) _).mono ?_
        rw [HALL.out _ (List.getElem_mem hlt)]
        rintro e w4 ⟨rfl, rfl⟩
        go_wp2_with fail
        go_roundw
        case rel => exact ⟨k + 1, by omega, by go_num, hb⟩
        case measure => simp [intOf]; omega
      · go_wp2_with fail
        go_ret
        exact ⟨rfl, hb⟩
end Go.Proofs.Ytpckkijenhnppaa
