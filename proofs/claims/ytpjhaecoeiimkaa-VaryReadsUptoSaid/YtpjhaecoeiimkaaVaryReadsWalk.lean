/- THE WALK OF VaryReads. -/
import Derived.Test.YtpjhaecoeiimkaaVaryAwake
import Derived.Test.YtpjhaecoeiimkaaRRdr
import Derived.Test.YtpjhaecoeiimkaaOpenVary
import Derived.Deep.RegionHeld3
import Derived.Deep.QuietTactic
import Derived.BigQuiet
namespace Go.Proofs.Ytpjhaecoeiimkaa
open Go.RowKit

theorem bad_nil (w : World) : Calls Try.prog 38 #[.pointer none] w fun e w' => e = .returned (.bool true) ∧ w' = w := by
  go_enter Try.func38, Try.ntmps38
  go_wp2_with fail
  go_ret
  exact ⟨rfl, rfl⟩
theorem end_nil (w : World) : Calls Try.prog 25 #[.pointer none] w fun e w' => e = .returned (.bool false) ∧ w' = w := by
  go_enter Try.func25, Try.ntmps25
  go_wp2_with fail
  go_ret
  exact ⟨rfl, rfl⟩
theorem num_nil (w : World) : Calls Try.prog 23 #[.pointer none] w fun e w' => e = .returned (.int .u64 0) ∧ w' = w := by
  go_enter Try.func23, Try.ntmps23
  go_wp2_with fail
  go_ret
  exact ⟨rfl, rfl⟩
theorem take_nil (n : Int) (w : World) : Calls Try.prog 35 #[.pointer none, .int .i64 n] w fun e w' => e = .returned (.string ⟨#[]⟩) ∧ w' = w := by
  go_enter Try.func35, Try.ntmps35
  go_wp2_with fail
  go_ret
  exact ⟨rfl, rfl⟩
theorem text_nil (w : World) : Calls Try.prog 24 #[.pointer none] w fun e w' => e = .returned (.string ⟨#[]⟩) ∧ w' = w := by
  go_enter Try.func24, Try.ntmps24
  go_wp2_with fail
  refine (num_nil _).mono ?_
  rintro e w1 ⟨rfl, rfl⟩
  go_wp2_with fail
  go_ret
  exact ⟨rfl, rfl⟩
theorem int_nil (n : Int) (w : World) : Calls Try.prog 33 #[.pointer none, .int .i64 n] w fun e w' => e = .returned (.int .i64 0) ∧ w' = w := by
  go_enter Try.func33, Try.ntmps33
  go_wp2_with fail
  refine (num_nil _).mono ?_
  rintro e w1 ⟨rfl, rfl⟩
  go_wp2_with fail
  go_ret
  exact ⟨rfl, rfl⟩

theorem takeF_len (r : List UInt8) (b : Bool) (n : Int) : (takeF r b n).2.1.length ≤ r.length := by
  unfold takeF
  split
  · exact Nat.le_refl _
  · split
    · exact Nat.zero_le _
    · simp
theorem intF_len (r : List UInt8) (b : Bool) (n : Int) : (intF r b n).2.1.length ≤ r.length := by
  unfold intF
  split
  · exact numF_len r b
  · split
    · exact Nat.zero_le _
    · exact numF_len r b
theorem textF_len (r : List UInt8) (b : Bool) : (textF r b).2.1.length ≤ r.length := Nat.le_trans (takeF_len _ _ _) (numF_len r b)

set_option maxHeartbeats 8000000 in
theorem varyReads_walk (l : List UInt8) (hl : l.length ≤ 140737488351232) (v1 : Value) (qs : List (Int × Int)) (w : World) (h1 : Sl w v1 2 qs.length (qs.flatMap askC)) (hq : ∀ a ∈ qs, I64 a.1 ∧ I64 a.2) (hsz : l.length ≤ 1048576) :
    Calls Try.prog 10 #[.string ⟨l.toArray⟩, v1] w fun e w' => e = .returned (.bool true) ∧ Below w.heap.size w w' := by
  obtain ⟨_, hql, a1, cap1, rfl, c1⟩ := h1
  unfold maxLen at hql
  have C1 := hid c1; have HQ := hid hq
  clear c1 hq
  go_enter Try.func10, Try.ntmps10
  go_wp2_with fail
  refine (vawake_any _).mono ?_
  rintro e w1 ⟨rfl, hb1⟩
  go_wp2_with fail
  refine (read_any _ _).mono ?_
  rintro e w2 ⟨rfl, rfl⟩
  have hr0 := read_rdr l w1
  have hb2 : Below w.heap.size w (w1.alloc (.cells #[.string ⟨l.toArray⟩, .bool false] 69)) := hb1.alloc hb1.size _
  have hg := hb1.size
  obtain ⟨g, hgg⟩ : ∃ g, g = w1.heap.size := ⟨_, rfl⟩
  rw [← hgg] at hr0 hg ⊢
  obtain ⟨w3, hw3⟩ : ∃ w3, w3 = w1.alloc (.cells #[.string ⟨l.toArray⟩, .bool false] 69) := ⟨_, rfl⟩
  rw [← hw3] at hr0 hb2 ⊢
  clear hw3 hgg
  go_wp2_with fail
  have hm0 : RRdr (w3.alloc (.cells #[.string ⟨l.toArray⟩, .bool false] 54)) w3.heap.size l false := Obj2.new _ _ _ _
  have hr1 : Rdr (w3.alloc (.cells #[.string ⟨l.toArray⟩, .bool false] 54)) g l false := hr0.keep ((Below.refl _ _).alloc (Nat.le_refl _) _)
  have hb3 : Below w.heap.size w (w3.alloc (.cells #[.string ⟨l.toArray⟩, .bool false] 54)) := hb2.alloc hb2.size _
  have hgm := hb2.size
  have hne : g ≠ w3.heap.size := by have := hr0.lt; omega
  clear hr0 hb2 hb1
  obtain ⟨g', hgg⟩ : ∃ g', g' = w3.heap.size := ⟨_, rfl⟩
  rw [← hgg] at hm0 hgm hne ⊢
  obtain ⟨w4, hw4⟩ : ∃ w4, w4 = w3.alloc (.cells #[.string ⟨l.toArray⟩, .bool false] 54) := ⟨_, rfl⟩
  rw [← hw4] at hm0 hr1 hb3 ⊢
  clear hw4 hgg
  go_loopw [19] (fun i wr => ∃ (k : Nat) (r : List UInt8) (b : Bool), k ≤ qs.length ∧ i = .int .i64 k ∧ Rdr wr g r b ∧ RRdr wr g' r b ∧ Sane r b ∧ r.length ≤ l.length ∧ Below w.heap.size w wr) (fun i _ => qs.length - (intOf i).toNat)
  case atStart => exact ⟨0, l, false, by omega, rfl, hr1, hm0, (fun h => by cases h), Nat.le_refl _, hb3⟩
  case round =>
    clear hm0 hr1 hb3
    obtain ⟨k, r, b, hk, rfl, hr, hm, hs, hrl, hb⟩ := hrel
    by_cases hlt : k < qs.length
    · obtain ⟨bb, off, rfl, hblt, hc⟩ := C1.out.resolve_left (by omega)
      have hk0 : wr.cell? ⟨bb, off + k * 2, none⟩ = some (.int .i64 qs[k].1) := (hb.cell (p := ⟨bb, off + (k * 2 + 0), none⟩) hblt).trans (Sl.cell (k := 2) (f := askC) (fun _ => rfl) hc k 0 (by decide) hlt _ rfl)
      have hk1 : wr.cell? ⟨bb, off + k * 2 + 1, none⟩ = some (.int .i64 qs[k].2) := (hb.cell (p := ⟨bb, off + (k * 2 + 1), none⟩) hblt).trans (Sl.cell (k := 2) (f := askC) (fun _ => rfl) hc k 1 (by decide) hlt _ rfl)
      have hqk := HQ.out qs[k] (List.getElem_mem hlt)
      obtain ⟨⟨K, N⟩, hKN⟩ : ∃ x, x = qs[k] := ⟨_, rfl⟩
      rw [← hKN] at hk0 hk1 hqk
      clear hKN hc
      simp only at hk0 hk1 hqk
      have hA : Below wr.heap.size wr (wr.alloc (.cells #[.int .i64 K, .int .i64 N] 56)) := (Below.refl _ _).alloc (Nat.le_refl _) _
      have hrA := hr.keep hA
      have hmA := hm.keep hA
      have hbA := bnext hb hA
      have hrl' : r.length ≤ maxLen := by unfold maxLen; omega
      have hng : g ≠ wr.heap.size := by have := hr.lt; omega
      have hng' : g' ≠ wr.heap.size := by have := hm.lt; omega
      obtain ⟨hq1, hq2⟩ := hqk
      unfold I64 at hq1 hq2
      by_cases h0 : K = 0
      · subst h0
        go_wp2_with fail
        refine (num_any g r b _ hrA hrl').mono ?_
        rintro e w5 ⟨rfl, hr5, hg5⟩
        have hm5 : RRdr w5 g' r b := hmA.grown hg5 (Ne.symm hne)
        go_wp2_with fail
        refine (rnum_any g' r b _ hm5 hs hrl').mono ?_
        rintro e w6 ⟨rfl, hm6, hg6⟩
        have hr6 := hr5.grown hg6 hne
        have hln := numF_len r b
        have hs6 := sane_numF hs
        obtain ⟨⟨N1, r1, b1⟩, hx⟩ : ∃ x, numF r b = x := ⟨_, rfl⟩
        rw [hx] at hr6 hm6 hln hs6 ⊢
        clear hx hr5 hm5 hrA hmA
        simp only at hr6 hm6 hln hs6 ⊢
        have hb6 := At.below (At.below hbA hg5 hg) hg6 hgm
        cases b1
        all_goals
          go_wp2_with fail
          have mc1 := hm6.c1
          go_quiet ((first | (go_at_call 38; exact Calls.quiet_of_same (bad_any g _ _ _ hr6)) | (go_at_call 25; exact Calls.quiet_of_same (end_any g _ _ _ hr6)) | (go_at_call 39; exact Calls.quiet_of_same (rend_any g' _ _ _ hm6))))
          go_wp2_with fail
          go_roundw
          case rel => exact ⟨k + 1, r1, _, by omega, by go_num, hr6, hm6, hs6, by omega, bnext hb6 (below_drewN _ _ _)⟩
          case measure => simp [intOf]; omega
      by_cases h1 : K = 1
      · subst h1
        go_wp2_with fail
        have hcN : (wr.alloc (.cells #[.int .i64 1, .int .i64 N] 56)).cell? ⟨wr.heap.size, 1, none⟩ = some (.int .i64 N) := by rw [World.cell?_alloc_at _ _ _ _ rfl]; rfl
        go_region_held3 (fun w' => w'.cell? ⟨wr.heap.size, 1, none⟩ = some (.int .i64 N)) (first | (exact World.grownBy.cell hg6 (by assumption) (fun h => hng' (Option.some.inj h).symm)) | (exact World.grownBy.cell hg5 (by assumption) (fun h => hng (Option.some.inj h).symm)) | exact hcN | go_keep)
          (first | (go_at_call 33; refine (int_any g r b N _ (by exact hrA) hrl' hq2.1 hq2.2).mono ?_; rintro e w5 ⟨rfl, hr5, hg5'⟩; have hg5 := At.of_drew hg5') | (go_at_call 34; refine (rint_any_r g' r b N _ (by exact Obj2.grown hmA hg5 (Ne.symm hne)) hs hrl' hq2.1 hq2.2).mono ?_; rintro e w6 ⟨rfl, hm6, hg6⟩))
        have hr6 := hr5.grown hg6 hne
        have hm5 := hm6
        have hln := intF_len r b N
        have hs6 := sane_intF N hs
        obtain ⟨⟨N1, r1, b1⟩, hx⟩ : ∃ x, intF r b N = x := ⟨_, rfl⟩
        rw [hx] at hr6 hm6 hln hs6 ⊢
        clear hx hr5 hm5 hrA hmA
        simp only at hr6 hm6 hln hs6 ⊢
        have hb6 := At.below (At.below hbA hg5 hg) hg6 hgm
        cases b1
        all_goals
          go_wp2_with fail
          have mc1 := hm6.c1
          go_quiet ((first | (go_at_call 38; exact Calls.quiet_of_same (bad_any g _ _ _ hr6)) | (go_at_call 25; exact Calls.quiet_of_same (end_any g _ _ _ hr6)) | (go_at_call 39; exact Calls.quiet_of_same (rend_any g' _ _ _ hm6))))
          go_wp2_with fail
          go_roundw
          case rel => exact ⟨k + 1, r1, _, by omega, by go_num, hr6, hm6, hs6, by omega, bnext hb6 (below_drewN _ _ _)⟩
          case measure => simp [intOf]; omega
      by_cases h2 : K = 2
      · subst h2
        go_wp2_with fail
        have hcN : (wr.alloc (.cells #[.int .i64 2, .int .i64 N] 56)).cell? ⟨wr.heap.size, 1, none⟩ = some (.int .i64 N) := by rw [World.cell?_alloc_at _ _ _ _ rfl]; rfl
        go_region_held3 (fun w' => w'.cell? ⟨wr.heap.size, 1, none⟩ = some (.int .i64 N)) (first | (exact World.grownBy.cell hg6 (by assumption) (fun h => hng' (Option.some.inj h).symm)) | (exact World.grownBy.cell hg5 (by assumption) (fun h => hng (Option.some.inj h).symm)) | exact hcN | go_keep)
          (first | (go_at_call 35; refine (take_any g r b N _ (by exact hrA) hrl').mono ?_; rintro e w5 ⟨rfl, hr5, hg5'⟩; have hg5 := At.of_drew hg5') | (go_at_call 36; refine (rtake_any g' r b N _ (by exact Obj2.grown hmA hg5 (Ne.symm hne)) hs hrl').mono ?_; rintro e w6 ⟨rfl, hm6, hg6⟩))
        have hr6 := hr5.grown hg6 hne
        have hm5 := hm6
        have hln := takeF_len r b N
        have hs6 := sane_takeF N hs
        obtain ⟨⟨N1, r1, b1⟩, hx⟩ : ∃ x, takeF r b N = x := ⟨_, rfl⟩
        rw [hx] at hr6 hm6 hln hs6 ⊢
        clear hx hr5 hm5 hrA hmA
        simp only at hr6 hm6 hln hs6 ⊢
        have hb6 := At.below (At.below hbA hg5 hg) hg6 hgm
        cases b1
        all_goals
          go_wp2_with fail
          have mc1 := hm6.c1
          go_quiet ((first | (go_at_call 38; exact Calls.quiet_of_same (bad_any g _ _ _ hr6)) | (go_at_call 25; exact Calls.quiet_of_same (end_any g _ _ _ hr6)) | (go_at_call 39; exact Calls.quiet_of_same (rend_any g' _ _ _ hm6))))
          go_wp2_with fail
          go_roundw
          case rel => exact ⟨k + 1, r1, _, by omega, by go_num, hr6, hm6, hs6, by omega, bnext hb6 (below_drewN _ _ _)⟩
          case measure => simp [intOf]; omega
      by_cases h3 : K = 3
      · subst h3
        go_wp2_with fail
        refine (text_any_r g r b _ hrA hrl').mono ?_
        rintro e w5 ⟨rfl, hr5, hg5⟩
        have hm5 : RRdr w5 g' r b := hmA.grown hg5 (Ne.symm hne)
        go_wp2_with fail
        refine (rtext_any_r g' r b _ hm5 hs (by omega)).mono ?_
        rintro e w6 ⟨rfl, hm6, hg6⟩
        have hr6 := hr5.grown hg6 hne
        have hln := textF_len r b
        have hs6 := sane_textF hs
        obtain ⟨⟨N1, r1, b1⟩, hx⟩ : ∃ x, textF r b = x := ⟨_, rfl⟩
        rw [hx] at hr6 hm6 hln hs6 ⊢
        clear hx hr5 hm5 hrA hmA
        simp only at hr6 hm6 hln hs6 ⊢
        have hb6 := At.below (At.below hbA hg5 hg) hg6 hgm
        cases b1
        all_goals
          go_wp2_with fail
          have mc1 := hm6.c1
          go_quiet ((first | (go_at_call 38; exact Calls.quiet_of_same (bad_any g _ _ _ hr6)) | (go_at_call 25; exact Calls.quiet_of_same (end_any g _ _ _ hr6)) | (go_at_call 39; exact Calls.quiet_of_same (rend_any g' _ _ _ hm6))))
          go_wp2_with fail
          go_roundw
          case rel => exact ⟨k + 1, r1, _, by omega, by go_num, hr6, hm6, hs6, by omega, bnext hb6 (below_drewN _ _ _)⟩
          case measure => simp [intOf]; omega
      have b0 : (K == 0) = false := by simp [h0]
      have b1 : (K == 1) = false := by simp [h1]
      have b2 : (K == 2) = false := by simp [h2]
      have b3 : (K == 3) = false := by simp [h3]
      clear h0 h1 h2 h3
      cases b
      all_goals
        go_wp2_with fail
        have mc1 := hmA.c1
        go_quiet ((first | (go_at_call 38; exact Calls.quiet_of_same (bad_any g _ _ _ hrA)) | (go_at_call 25; exact Calls.quiet_of_same (end_any g _ _ _ hrA)) | (go_at_call 39; exact Calls.quiet_of_same (rend_any g' _ _ _ hmA))))
        go_wp2_with fail
        go_roundw
        case rel => exact ⟨k + 1, r, _, by omega, by go_num, hrA, hmA, hs, by omega, bnext hbA (below_drewN _ _ _)⟩
        case measure => simp [intOf]; omega
    · go_wp2_with fail
      refine (bad_nil _).mono ?_
      rintro e w5 ⟨rfl, rfl⟩
      go_wp2_with fail
      refine (end_nil _).mono ?_
      rintro e w5 ⟨rfl, rfl⟩
      go_wp2_with fail
      refine (num_nil _).mono ?_
      rintro e w5 ⟨rfl, rfl⟩
      go_wp2_with fail
      refine (text_nil _).mono ?_
      rintro e w5 ⟨rfl, rfl⟩
      go_wp2_with fail
      refine (take_nil _ _).mono ?_
      rintro e w5 ⟨rfl, rfl⟩
      go_wp2_with fail
      refine (int_nil _ _).mono ?_
      rintro e w5 ⟨rfl, rfl⟩
      go_wp2_with fail
      go_ret
      exact ⟨rfl, hb⟩
end Go.Proofs.Ytpjhaecoeiimkaa
