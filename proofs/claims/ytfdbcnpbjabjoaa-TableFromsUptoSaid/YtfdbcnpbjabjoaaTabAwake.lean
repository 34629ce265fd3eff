/- CONTRACT: wherrylaw07.awake. -/
import Derived.Test.YtfdbcnpbjabjoaaTabBuildL
import Derived.Test.YtfdbcnpbjabjoaaTabOB
import Derived.Test.YtfdbcnpbjabjoaaTabGet
namespace Go.Proofs.Ytfdbcnpbjabjoaa
open Go.RowKit
set_option linter.unusedVariables false
set_option linter.unusedSimpArgs false

theorem build_zero {l : List Pr} (hne : l ≠ []) (hck : chkB [] l = 0) (hf : (footL l).length ≤ 1048576) : (buildF l).2 = 0 := by
  unfold buildF
  rw [if_neg hne, if_neg (not_not_intro hck), if_neg (by omega)]
def awL : List Pr := [([97], [49], false), ([98], [], true)]
theorem awL_chk : chkB [] awL = 0 := chkB_ok.2 ⟨⟨rfl, rfl, trivial⟩, fun p hp => by
  simp only [awL, List.mem_cons, List.not_mem_nil, or_false] at hp
  rcases hp with rfl | rfl
  · exact ⟨by simp, by simp, by simp, by simp⟩
  · exact ⟨by simp, by simp, by simp, by simp⟩⟩
theorem awL_ok : (buildF awL).2 = 0 := by
  refine build_zero (by simp [awL]) awL_chk ?_
  have hok := (chkB_ok.1 awL_chk).2
  have h1 := ixF_le hok (List.finRange (chN awL.length))
  rw [ixF_all, List.length_finRange] at h1
  have h2 : chN awL.length = 1 := rfl
  have h3 : (filtL awL).length = min (awL.length + 8) 8192 := makeL_len _ _
  have h4 : awL.length = 2 := rfl
  have h5 := textL_le (k := filtL awL) (by omega)
  have h6 := putL_len10 (n := (grp awL).length) (by rw [grp_len, h2]; unfold U64; omega)
  have h7 := putL_len10 (n := awL.length) (by rw [h4]; unfold U64; omega)
  unfold footL
  simp only [List.length_append]
  omega
theorem openP_nil : openP [] = none := by
  unfold openP
  rw [scan_nil, if_pos (.inr (by simp))]
set_option maxHeartbeats 4000000 in
set_option maxRecDepth 100000 in
theorem awake_any (w : World) : Calls Try.prog 21 #[] w fun e w' => e = .returned (.bool true) ∧ Below w.heap.size w w' := by
  have hb0 := awL_ok
  have hop := open_build (l := awL) (by simp [awL]) hb0
  have hle : (buildF awL).1.length ≤ 5242880 := by
    obtain ⟨hne, hck, hft, hs⟩ := build_ok hb0
    have hok := (chkB_ok.1 hck).2
    rw [hs, List.length_append]
    have h1 := outF_le hok (List.finRange (chN awL.length))
    rw [outF_all, List.length_finRange, show chN awL.length = 1 from rfl] at h1
    have h2 := wrapL_le hft
    omega
  obtain ⟨prs, hg⟩ := open_good hle hop
  obtain ⟨w1, hw1⟩ : ∃ y, y = w.alloc (.cells #[.string ⟨#[97]⟩, .string ⟨#[49]⟩, .bool false, .string ⟨#[98]⟩, .string ⟨#[]⟩, .bool true] 70) := ⟨_, rfl⟩
  have b1 : Below w.heap.size w w1 := by rw [hw1]; exact (Below.refl _ _).alloc (Nat.le_refl _) _
  have hr1 : w1.heap[w.heap.size]? = some (.cells #[.string ⟨#[97]⟩, .string ⟨#[49]⟩, .bool false, .string ⟨#[98]⟩, .string ⟨#[]⟩, .bool true] 70 (0, 0)) := by rw [hw1]; exact heap_alloc_new w _
  have hsl : Sl w1 (.slice (some ⟨w.heap.size, 0, none⟩) 2 2) 3 awL.length (awL.flatMap prC) := by
    refine ⟨rfl, ⟨by unfold maxLen; simp [awL], fun n c h => by simp at h⟩, _, _, rfl, .inr ⟨_, 0, rfl, (Array.getElem?_eq_some_iff.1 hr1).1, fun j hj => ?_⟩⟩
    rw [cell_of_row _ _ _ _ _ (0, 0) hr1, Nat.zero_add]
    have hj6 : j < 6 := hj
    match j, hj6 with
    | 0, _ => rfl
    | 1, _ => rfl
    | 2, _ => rfl
    | 3, _ => rfl
    | 4, _ => rfl
    | 5, _ => rfl
  have hB := tbuild_any awL _ (by simp [awL]) (by simp [awL]) w1 hsl (fun a n c h => by cases h; exact Nat.le_refl _)
  rw [hb0] at hB
  obtain ⟨s, hs⟩ : ∃ s, s = (buildF awL).1 := ⟨_, rfl⟩
  rw [← hs] at hB hop hle
  have HO := hid (fun V => open_any s hle V)
  have HO2 := hid (fun V => open_any [] (by simp) V)
  rw [hop] at HO
  rw [openP_nil] at HO2
  have HG := hid hg
  have HW1 := hid hw1
  clear hs hw1 hsl hr1 hb0 hop hle hg
  go_enter Try.func21, Try.ntmps21
  go_wp2_with (rw [← HW1.out])
  refine hB.mono ?_
  rintro _ w2 ⟨rfl, b2⟩
  clear hB
  go_wp2_with fail
  refine (HO.out w2).mono ?_
  rintro _ w3 ⟨⟨g, rfl, ht, -⟩, b3⟩
  have hG := tget_any g _ prs [98] (by simp [maxLen]) HG.out w3 ht
  rw [show findK [98] awL = some ([98], [], true) from rfl] at hG
  go_wp2_with fail
  refine hG.mono ?_
  rintro _ w4 ⟨rfl, b4⟩
  have ht4 := ht.below b4
  clear hG
  unfold getV
  simp only [Option.getD_some, Option.isSome_some, prC, strV]
  obtain ⟨W5, hW5⟩ : ∃ y, y = w4.alloc (.cells #[.string ⟨#[98]⟩, .string ⟨#[]⟩, .bool true] 70) := ⟨_, rfl⟩
  have b5 : Below w4.heap.size w4 W5 := by rw [hW5]; exact (Below.refl _ _).alloc (Nat.le_refl _) _
  have h5 : W5.heap[w4.heap.size]? = some (.cells #[.string ⟨#[98]⟩, .string ⟨#[]⟩, .bool true] 70 (0, 0)) := by rw [hW5]; exact heap_alloc_new w4 _
  have HW5 := hid hW5
  clear hW5
  go_wp2_with (rw [← HW5.out])
  refine (HO2.out W5).mono ?_
  rintro _ w6 ⟨rfl, b6⟩
  have h6 := (b6.block _ (Array.getElem?_eq_some_iff.1 h5).1).trans h5
  obtain ⟨-, -, y2, -⟩ := prow_cell h6
  have hLN := tlen_any g _ w6 ((ht4.below b5).below b6)
  have e2 : awL.length = 2 := rfl
  simp only [e2] at hLN
  have HB := hid (bnext b1 (bnext b2 (bnext b3 (bnext b4 (bnext b5 b6)))))
  clear b1 b2 b3 b4 b5 b6 h5 h6 ht ht4
  go_wp2_with fail
  refine hLN.mono ?_
  rintro _ w7 ⟨rfl, rfl⟩
  go_wp2_with fail
  go_ret
  exact ⟨rfl, HB.out⟩
end Go.Proofs.Ytfdbcnpbjabjoaa
