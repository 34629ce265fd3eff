/- PLAIN: what was built is opened, and has just its pairs. -/
import Derived.Test.YtfdbcnpbjabjoaaTabBP
import Derived.Test.YtfdbcnpbjabjoaaTabR
import Derived.Test.YtfdbcnpbjabjoaaBloomBits
namespace Go.Proofs.Ytfdbcnpbjabjoaa
open Go.RowKit
set_option linter.unusedVariables false
set_option linter.unusedSimpArgs false

theorem texts_put : ∀ (fs : List (List UInt8)) (r : List UInt8), (∀ f ∈ fs, f.length ≤ 64) → textsF fs.length (fs.flatMap textL ++ r) false = (fs, r, false)
  | [], r, _ => rfl
  | f :: fs, r, h => by
    rw [List.length_cons, textsF, List.flatMap_cons, List.append_assoc, textF_put f _ (by have := h f (by simp); omega)]
    simp only
    rw [texts_put fs r (fun g hg => h g (by simp [hg]))]
theorem chk_grp (fl : List UInt8) : ∀ (n : Nat) (l : List Pr) (last : List UInt8), l.length ≤ n → ascB last l → (∀ p ∈ l, PrOk p) → (∀ p ∈ l, hasL fl p.1 = true) → chkBlocks fl last ((grp l).map headK) ((grp l).map blkL) = some l := by
  intro n
  induction n with
  | zero =>
    intro l last h _ _ _
    obtain rfl := List.length_eq_zero_iff.1 (Nat.le_zero.1 h)
    rw [grp_nil]; rfl
  | succ n ih =>
    intro l last h ha ho hh
    by_cases h0 : l = []
    · subst h0; rw [grp_nil]; rfl
    · have hsp := List.take_append_drop 8 l
      have hpos := List.length_pos_iff.2 h0
      rw [grp_cons h0, List.map_cons, List.map_cons, chkBlocks]
      have ho1 : ∀ p ∈ l.take 8, PrOk p := fun p hp => ho p (List.mem_of_mem_take hp)
      have hp : pairsL (blkL (l.take 8)) = some (l.take 8) := pairsL_iff.2 ⟨ho1, rfl⟩
      rw [hp]
      simp only
      rw [← hsp, ascB_app] at ha
      have hne : l.take 8 ≠ [] := fun e => by
        have := congrArg List.length e
        rw [List.length_take, List.length_nil] at this; omega
      have hb : BlkOk last (headK (l.take 8)) (!((grp (l.drop 8)).map blkL).isEmpty) (l.take 8) := by
        refine ⟨hne, by rw [List.length_take]; omega, fun hm => ?_, rfl, ha.1⟩
        by_cases hd : l.drop 8 = []
        · rw [hd, grp_nil] at hm; cases hm
        · have := List.length_pos_iff.2 hd
          rw [List.length_drop] at this
          rw [List.length_take]; omega
      rw [if_pos ⟨hb, fun p hp => hh p (List.mem_of_mem_take hp)⟩, ih (l.drop 8) _ (by rw [List.length_drop]; omega) ha.2 (fun p hp => ho p (List.mem_of_mem_drop hp)) (fun p hp => hh p (List.mem_of_mem_drop hp))]
      rw [Option.map_some, hsp]
theorem build_ok {l : List Pr} (h : (buildF l).2 = 0) : l ≠ [] ∧ chkB [] l = 0 ∧ (footL l).length ≤ 1048576 ∧ (buildF l).1 = bodyL l ++ wrapL (footL l) := by
  unfold buildF at h ⊢
  by_cases h1 : l = []
  · rw [if_pos h1] at h; cases h
  · rw [if_neg h1] at h ⊢
    by_cases h2 : chkB [] l = 0
    · rw [if_neg (not_not_intro h2)] at h ⊢
      by_cases h3 : 1048576 < (footL l).length
      · rw [if_pos h3] at h; cases h
      · rw [if_neg h3]; exact ⟨h1, h2, by omega, rfl⟩
    · rw [if_pos h2] at h; exact absurd h h2
theorem open_build {l : List Pr} (hl : l.length ≤ 1048576) (h : (buildF l).2 = 0) : openP (buildF l).1 = some ⟨(grp l).map headK, (grp l).map blkL, filtL l, l⟩ := by
  obtain ⟨hne, hck, hft, hs⟩ := build_ok h
  obtain ⟨hasc, hok⟩ := chkB_ok.1 hck
  rw [hs]
  have hpos := List.length_pos_iff.2 hne
  have hgl := grp_len l
  have hgc : (grp l).length = (l.length + 7) / 8 := hgl
  have hgok : ∀ g ∈ grp l, (∀ p ∈ g, PrOk p) ∧ g.length ≤ 8 := fun g hg => by
    rw [← gAt_all l] at hg
    obtain ⟨j, -, rfl⟩ := List.mem_map.1 hg
    exact ⟨gAt_ok hok j.val, by rw [gAt_len]; omega⟩
  have hblk : ∀ b ∈ (grp l).map blkL, b.length ≤ 1048576 := fun b hb => by
    obtain ⟨g, hg, rfl⟩ := List.mem_map.1 hb
    have := blkL_le (hgok g hg).1
    have := (hgok g hg).2
    omega
  have hbody : bodyL l ++ wrapL (footL l) = ((grp l).map blkL ++ [footL l]).flatMap wrapL := by
    unfold bodyL
    rw [List.flatMap_append, List.flatMap_singleton, List.flatMap_map]
  have hscan : scanL (bodyL l ++ wrapL (footL l)) = ((grp l).map blkL ++ [footL l], []) := by
    rw [hbody]
    refine scan_all fun t ht => ?_
    rcases List.mem_append.1 ht with q | q
    · exact hblk t q
    · rw [List.mem_singleton.1 q]; exact hft
  have hfq : (filtL l).length = min (l.length + 8) 8192 := makeL_len _ _
  have hhas : ∀ p ∈ l, hasL (filtL l) p.1 = true := fun p hp => has_made (by omega) (by omega) _ _ (List.mem_map_of_mem hp)
  have hbn : ((grp l).map blkL).length = (grp l).length := List.length_map _
  unfold openP
  rw [hscan]
  simp only [List.dropLast_concat, List.getLast?_concat, Option.getD_some]
  rw [if_neg (by simp; omega)]
  have e1 : intF (footL l) false (((grp l).map blkL).length : Int) = ((grp l).length, indexL l ++ (putL l.length ++ textL (filtL l)), false) := by
    unfold footL
    exact intF_put _ (by rw [hbn]; exact Int.le_refl _) (by rw [hbn]; omega)
  rw [e1, hbn]
  simp only
  rw [if_neg (not_not_intro rfl)]
  have hix : indexL l = ((grp l).map headK).flatMap textL := by unfold indexL; rw [List.flatMap_map]
  have e2 : textsF (grp l).length (indexL l ++ (putL l.length ++ textL (filtL l))) false = ((grp l).map headK, putL l.length ++ textL (filtL l), false) := by
    have := texts_put ((grp l).map headK) (putL l.length ++ textL (filtL l)) (fun f hf => by
      obtain ⟨g, hg, rfl⟩ := List.mem_map.1 hf
      exact headK_le (hgok g hg).1)
    rw [List.length_map, ← hix] at this
    exact this
  rw [e2]
  simp only
  have e3 : intF (putL l.length ++ textL (filtL l)) false (((grp l).length * 8 : Nat) : Int) = (l.length, textL (filtL l), false) := intF_put _ (by omega) (by omega)
  rw [e3]
  simp only
  have e4 : textF (textL (filtL l)) false = (filtL l, [], false) := by
    have := textF_put (filtL l) [] (by omega)
    rwa [List.append_nil] at this
  rw [e4]
  simp only
  have hfn : filtL l ≠ [] := fun e => by rw [e] at hfq; simp at hfq; omega
  rw [if_neg (by
    rintro (q | q | q)
    · have : endF ([] : List UInt8) false = true := endF_iff.2 ⟨rfl, rfl⟩
      rw [this] at q; cases q
    · exact hfn q
    · omega)]
  rw [chk_grp (filtL l) l.length l [] (Nat.le_refl _) hasc hok hhas]
  simp
theorem build_le {l : List Pr} (hl : l.length ≤ 1048576) (h : (buildF l).2 = 0) : (buildF l).1.length ≤ 80000000000 := by
  obtain ⟨hne, hck, hft, hs⟩ := build_ok h
  have hok := (chkB_ok.1 hck).2
  rw [hs, List.length_append]
  have h1 := outF_le hok (List.finRange (chN l.length))
  rw [outF_all, List.length_finRange] at h1
  have h2 := wrapL_le hft
  have h3 : chN l.length ≤ 1048577 := by unfold chN; omega
  omega
end Go.Proofs.Ytfdbcnpbjabjoaa
