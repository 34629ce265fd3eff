/- CONTRACT: the reference's Decode. CONTRACT: the reference's Right. CONTRACT: the reference's Right, Encode. CONTRACT: the reference's Encode of an event. CONTRACT: the reference's Pack. -/
import Derived.Test.YtelacmchofehcaaPgmDec
import Derived.Test.YtelacmchofehcaaRTextFull
import Derived.Test.YtelacmchofehcaaEvtEnc
import Derived.Test.YtelacmchofehcaaPgmREnc
import Derived.Deep.RegionHeld3
import Derived.Deep.QuietTactic
import Derived.BigQuiet
import Derived.Test.YtelacmchofehcaaEvtPack
namespace Go.Proofs.Ytelacmchofehcaa
open Go.RowKit
set_option linter.unusedVariables false

theorem rstepF_act {r r1 r2 r3 r4 r5 n u : List UInt8} {b b1 b2 b3 b4 b5 : Bool} {t v : Nat} (h0 : intF r b 9 = (1, r1, b1)) (h1 : rtextF r1 b1 = (n, r2, b2)) (h2 : intF r2 b2 9 = (t, r3, b3)) (h3 : rtextF r3 b3 = (u, r4, b4)) (h4 : intF r4 b4 9 = (v, r5, b5)) :
    rstepF (r, b) = (((1, n, u, (t : Int), (v : Int), 0) : St), r5, b5) := by
  simp only [rstepF, stepG, rdI, tx2, h0, h1, h2, h3, h4, if_true]
theorem rstepF_timer {r r1 r2 : List UInt8} {b b1 b2 : Bool} {t : Nat} (h0 : intF r b 9 = (2, r1, b1)) (h1 : intF r1 b1 9999 = (t, r2, b2)) :
    rstepF (r, b) = (((2, [], [], 0, 0, (t : Int)) : St), r2, b2) := by
  simp only [rstepF, stepG, rdI, tx2, h0, h1]
  rw [if_neg (by decide), if_pos trivial]
theorem rstepF_else {r r1 r2 n : List UInt8} {b b1 b2 : Bool} {K : Nat} (h0 : intF r b 9 = (K, r1, b1)) (k1 : K ≠ 1) (k2 : K ≠ 2) (h1 : rtextF r1 b1 = (n, r2, b2)) :
    rstepF (r, b) = ((((K : Int), n, [], 0, 0, 0) : St), r2, b2) := by
  simp only [rstepF, stepG, rdI, tx2, h0, h1]
  rw [if_neg k1, if_neg k2, if_neg (by simp)]
theorem rtextF_fst (r : List UInt8) (b : Bool) : (rtextF r b).1.length ≤ r.length := Nat.le_trans (takeF_fst _ _ _) (numF_len r b)
theorem rstepF_all (s : RS) : (rstepF s).2.1.length ≤ s.1.length ∧ (rstepF s).1.nm.length ≤ s.1.length ∧ (rstepF s).1.un.length ≤ s.1.length := by
  obtain ⟨r, b⟩ := s
  obtain ⟨⟨k, r1, b1⟩, h0⟩ : ∃ x, intF r b 9 = x := ⟨_, rfl⟩
  have l0 := intF_len r b 9
  rw [h0] at l0
  simp only at l0
  by_cases k1 : k = 1
  · subst k1
    obtain ⟨⟨n, r2, b2⟩, h1⟩ : ∃ x, rtextF r1 b1 = x := ⟨_, rfl⟩
    obtain ⟨⟨t, r3, b3⟩, h2⟩ : ∃ x, intF r2 b2 9 = x := ⟨_, rfl⟩
    obtain ⟨⟨u, r4, b4⟩, h3⟩ : ∃ x, rtextF r3 b3 = x := ⟨_, rfl⟩
    obtain ⟨⟨v, r5, b5⟩, h4⟩ : ∃ x, intF r4 b4 9 = x := ⟨_, rfl⟩
    have l1 := rtextF_len r1 b1
    have l2 := intF_len r2 b2 9
    have l3 := rtextF_len r3 b3
    have l4 := intF_len r4 b4 9
    have m1 := rtextF_fst r1 b1
    have m3 := rtextF_fst r3 b3
    rw [h1] at l1 m1; rw [h2] at l2; rw [h3] at l3 m3; rw [h4] at l4
    rw [rstepF_act h0 h1 h2 h3 h4]
    simp only [St.nm, St.un] at l1 l2 l3 l4 m1 m3 ⊢
    exact ⟨by omega, by omega, by omega⟩
  · by_cases k2 : k = 2
    · subst k2
      obtain ⟨⟨t, r2, b2⟩, h1⟩ : ∃ x, intF r1 b1 9999 = x := ⟨_, rfl⟩
      have l1 := intF_len r1 b1 9999
      rw [h1] at l1
      rw [rstepF_timer h0 h1]
      exact ⟨by simp only at l1 ⊢; omega, Nat.zero_le _, Nat.zero_le _⟩
    · obtain ⟨⟨n, r2, b2⟩, h1⟩ : ∃ x, rtextF r1 b1 = x := ⟨_, rfl⟩
      have l1 := rtextF_len r1 b1
      have m1 := rtextF_fst r1 b1
      rw [h1] at l1 m1
      rw [rstepF_else h0 k1 k2 h1]
      simp only [St.nm, St.un] at l1 m1 ⊢
      exact ⟨by omega, by omega, Nat.zero_le _⟩
theorem rstepsG_fit : ∀ (k : Nat) (s : RS), ∀ x ∈ (stepsG rstepF k s).1, x.nm.length ≤ s.1.length ∧ x.un.length ≤ s.1.length
  | 0, s, x, h => by simp [stepsG] at h
  | k + 1, s, x, h => by
    rw [stepsG] at h
    have h2 := rstepF_all s
    rcases List.mem_cons.1 h with h | h
    · rw [h]; exact h2.2
    · have h1 := rstepsG_fit k (rstepF s).2 x h
      exact ⟨by omega, by omega⟩

set_option maxHeartbeats 800000 in
set_option maxRecDepth 100000 in
theorem rdecode_any (l : List UInt8) (hl : l.length ≤ 140737488355328) (w : World) :
    Calls Try.prog 47 #[.string ⟨l.toArray⟩] w fun e w' => ∃ (v : Value) (lim : Int) (ss : List St) (er : Int), e = .returned (.tuple #[.agg #[v, .int .i64 lim], .int .i64 er]) ∧ Sl w' v 6 ss.length (ss.flatMap stC) ∧ Below w.heap.size w w' ∧ ((rprogF l = some (lim, ss) ∧ er = 0) ∨ (rprogF l = none ∧ er = 60 ∧ v = .slice none 0 0 ∧ lim = 0 ∧ ss = [])) := by
  have hinfo : (Try.prog.info? 103).map (fun i => (i.zero, i.size, i.bytes)) = some (some (.agg #[.int .i64 0, .string .empty, .string .empty, .int .i64 0, .int .i64 0, .int .i64 0]), 6, 64) := by kernel_rfl
  go_enter Try.func47, Try.ntmps47
  go_wp2_with fail
  obtain ⟨w3, hw3⟩ : ∃ w3, w3 = ((w.alloc (.cells #[.slice none 0 0, .int .i64 0] 24)).alloc (.cells #[.string ⟨l.toArray⟩, .bool false] 94)).alloc (.cells #[.slice none 0 0, .int .i64 0] 24) := ⟨_, rfl⟩
  rw [← hw3]
  have s1 : (w.alloc (.cells #[.slice none 0 0, .int .i64 0] 24)).heap.size = w.heap.size + 1 := Array.size_push ..
  have s2 : ((w.alloc (.cells #[.slice none 0 0, .int .i64 0] 24)).alloc (.cells #[.string ⟨l.toArray⟩, .bool false] 94)).heap.size = w.heap.size + 1 + 1 := by rw [← s1]; exact Array.size_push ..
  have b1 : Below w.heap.size w (w.alloc (.cells #[.slice none 0 0, .int .i64 0] 24)) := (Below.refl _ _).alloc (Nat.le_refl _) _
  have b2 := (Below.refl (w.alloc (.cells #[.slice none 0 0, .int .i64 0] 24)).heap.size (w.alloc (.cells #[.slice none 0 0, .int .i64 0] 24))).alloc (Nat.le_refl _) (.cells #[.string ⟨l.toArray⟩, .bool false] 94)
  have b3' := (Below.refl ((w.alloc (.cells #[.slice none 0 0, .int .i64 0] 24)).alloc (.cells #[.string ⟨l.toArray⟩, .bool false] 94)).heap.size ((w.alloc (.cells #[.slice none 0 0, .int .i64 0] 24)).alloc (.cells #[.string ⟨l.toArray⟩, .bool false] 94))).alloc (Nat.le_refl _) (.cells #[.slice none 0 0, .int .i64 0] 24)
  have b3 : Below w.heap.size w w3 := by rw [hw3]; exact bnext (bnext b1 b2) b3'
  have hq3 : Obj2 w3 w.heap.size 24 (.slice none 0 0) (.int .i64 0) := by rw [hw3]; exact ((Obj2.new w _ _ _).keep b2).keep b3'
  have hr3 : RRdr w3 (w.heap.size + 1) l false := by rw [hw3, ← s1]; exact (Obj2.new _ _ _ _).keep b3'
  have hp3 : Obj2 w3 (w.heap.size + 1 + 1) 24 (.slice none 0 0) (.int .i64 0) := by rw [hw3, ← s2]; exact Obj2.new _ _ _ _
  clear hw3 s1 s2 b1 b2 b3'
  obtain ⟨g, hg⟩ : ∃ g, g = w.heap.size + 1 := ⟨_, rfl⟩
  obtain ⟨gp, hgp⟩ : ∃ gp, gp = w.heap.size + 1 + 1 := ⟨_, rfl⟩
  obtain ⟨gr, hgr⟩ : ∃ gr, gr = w.heap.size := ⟨_, rfl⟩
  have n1 : g ≠ gp := by omega
  have n2 : g ≠ gr := by omega
  have n3 : gp ≠ gr := by omega
  have n4 : w.heap.size ≤ g ∧ w.heap.size ≤ gp ∧ w.heap.size ≤ gr := by omega
  rw [← hgp] at hp3 ⊢
  rw [← hg] at hr3 ⊢
  rw [← hgr] at hq3 ⊢
  clear hg hgp hgr
  refine (rint_any_r g l false 1073741824 w3 hr3 (fun h => by cases h) (by unfold maxLen; omega) (by omega) (by omega)).mono ?_
  rintro _ w4 ⟨rfl, hr4, a4⟩
  have b4 : Below w.heap.size w w4 := At.below b3 a4 n4.1
  have hp4 := hp3.grown a4 (Ne.symm n1)
  have hq4 := hq3.grown a4 (Ne.symm n2)
  have hll := intF_len l false 1073741824
  have sn4 : Sane (intF l false 1073741824).2.1 (intF l false 1073741824).2.2 := sane_intF _ (fun h => by cases h)
  obtain ⟨⟨lim, r1, e1⟩, hx1⟩ : ∃ x, intF l false 1073741824 = x := ⟨_, rfl⟩
  rw [hx1] at hr4 hll sn4 ⊢
  simp only at hr4 hll sn4 ⊢
  have pc1 := hp4.c1
  have pf1 := hp4.fz 1
  obtain ⟨w5, hw5⟩ : ∃ w5, w5 = w4.setCell ⟨gp, 1, none⟩ (.int .i64 lim) := ⟨_, rfl⟩
  have a5 : At gp w4 w5 := by rw [hw5]; exact (At.refl _ _).set 1 _
  have hr5 := hr4.grown a5 n1
  have hq5 := hq4.grown a5 (Ne.symm n3)
  have hp5 : Obj2 w5 gp 24 (.slice none 0 0) (.int .i64 lim) := by rw [hw5]; exact hp4.set1 _
  have b5 : Below w.heap.size w w5 := At.below b4 a5 n4.2.1
  have hX5 : Hid (w5 = w4.setCell ⟨gp, 1, none⟩ (.int .i64 lim)) := hw5
  clear hw5 hp3 hq3 hr3 b3 a4 a5 hp4 hq4 hr4 b4
  go_wp2_with (rw [← hX5.out])
  refine (rint_any_r g r1 e1 16 w5 hr5 sn4 (by unfold maxLen; omega) (by omega) (by omega)).mono ?_
  rintro _ w6 ⟨rfl, hr6, a6⟩
  have b6 : Below w.heap.size w w6 := At.below b5 a6 n4.1
  have hp6 := hp5.grown a6 (Ne.symm n1)
  have hq6 := hq5.grown a6 (Ne.symm n2)
  have hN := intF_le (r := r1) (b := e1) (m := 16) (by decide)
  have hlr := intF_len r1 e1 16
  have sn6 := sane_intF 16 sn4
  obtain ⟨⟨N, r2, e2⟩, hx2⟩ : ∃ x, intF r1 e1 16 = x := ⟨_, rfl⟩
  rw [hx2] at hr6 hN hlr sn6 ⊢
  simp only at hr6 hN hlr sn6 ⊢
  clear pc1 pf1 hX5 hp5 hq5 hr5 b5 a6 sn4
  go_wp2_with fail
  obtain ⟨S, hS⟩ : ∃ S : RS, S = (r2, e2) := ⟨_, rfl⟩
  go_loopw [7] (fun i wr => ∃ (k : Nat) (v : Value), k ≤ N ∧ i = .int .i64 (k : Int) ∧ RRdr wr g (stepsG rstepF k S).2.1 (stepsG rstepF k S).2.2 ∧ Sane (stepsG rstepF k S).2.1 (stepsG rstepF k S).2.2 ∧ Obj2 wr gp 24 v (.int .i64 lim) ∧ wr.ownsRow w.heap.size 103 6 v k ((stepsG rstepF k S).1.flatMap stC) ∧ Obj2 wr gr 24 (.slice none 0 0) (.int .i64 0) ∧ Below w.heap.size w wr) (fun i _ => N - (intOf i).toNat)
  case atStart => exact ⟨0, _, by omega, rfl, by rw [hS]; exact hr6, by rw [hS]; exact sn6, hp6, World.ownsRow_nil _ _ _ _, hq6, b6⟩
  case round =>
    clear hr6 hp6 hq6 b6 sn6
    obtain ⟨k, v, hk, rfl, hr, sn, hp, ho, hq, hb⟩ := hrel
    have hlen := stepsG_rlen (fun s => (rstepF_all s).1) k S
    rw [hS] at hlen
    simp only at hlen
    have hln := stepsG_len rstepF k S
    have hsucc := stepsG_succ rstepF k S
    by_cases hlt : k < N
    · have hlt' : (k : Int) < (N : Int) := by omega
      rw [← hS] at hlen
      generalize hst : stepsG rstepF k S = st at *
      obtain ⟨xs, r, b⟩ := st
      simp only at hr ho hlen hln hsucc sn
      clear hst
      have hlr' : r.length ≤ maxLen := by unfold maxLen; omega
      have lg := hr.lt
      have lp := hp.lt
      have lq := hq.lt
      have ng : wr.heap.size ≠ g := by omega
      have np : wr.heap.size ≠ gp := by omega
      have nq : wr.heap.size ≠ gr := by omega
      go_wp2_with fail
      obtain ⟨W, hW⟩ : ∃ W, W = wr.alloc (.cells #[.int .i64 0, .string ⟨#[]⟩, .string ⟨#[]⟩, .int .i64 0, .int .i64 0, .int .i64 0] 103) := ⟨_, rfl⟩
      rw [← hW]
      have bW : Below wr.heap.size wr W := by rw [hW]; exact (Below.refl _ _).alloc (Nat.le_refl _) _
      have hCW : W.heap[wr.heap.size]? = some (.cells #[.int .i64 0, .string ⟨#[]⟩, .string ⟨#[]⟩, .int .i64 0, .int .i64 0, .int .i64 0] 103 (0, 0)) := by rw [hW]; exact heap_alloc_new wr _
      have howr := ho
      have hbwr := hb
      have hrW := hr.keep bW
      have hpW := hp.keep bW
      have hqW := hq.keep bW
      have hoW := own_new ho bW
      have hbW := bnext hb bW
      have snW := sn
      clear hW hr hp hq ho sn
      refine (rint_any_r g r b 9 W hrW snW (by unfold maxLen; omega) (by omega) (by omega)).mono ?_
      rintro _ w6 ⟨rfl, hrw6, aw6⟩
      have hpw6 := hpW.grown aw6 (Ne.symm n1)
      have hqw6 := hqW.grown aw6 (Ne.symm n2)
      have how6 := own_at_other hoW hrW (by decide) aw6
      have hbw6 := At.below hbW aw6 n4.1
      have hCw6 := (aw6.block wr.heap.size (Array.getElem?_eq_some_iff.1 hCW).1 (by simpa using ng)).trans hCW
      have hlw6 := intF_len r b 9
      have snw6 : Sane (intF r b 9).2.1 (intF r b 9).2.2 := sane_intF (9) snW
      obtain ⟨⟨K, r1, b1⟩, hxw6⟩ : ∃ x, intF r b 9 = x := ⟨_, rfl⟩
      rw [hxw6] at hrw6 hlw6 snw6 ⊢
      simp only at hrw6 hlw6 snw6 ⊢
      clear hrW hpW hqW hoW hbW hCW snW
      clear aw6
      obtain ⟨w7, hww7⟩ : ∃ w7, w7 = (w6.setCell ⟨wr.heap.size, 0, none⟩ (.int .i64 (K : Int))) := ⟨_, rfl⟩
      have aw7 : At wr.heap.size w6 w7 := by rw [hww7]; exact ((At.refl wr.heap.size w6).set 0 _)
      have hrw7 := hrw6.grown aw7 (Ne.symm ng)
      have hpw7 := hpw6.grown aw7 (Ne.symm np)
      have hqw7 := hqw6.grown aw7 (Ne.symm nq)
      have how7 := own_fresh howr how6 aw7 (Nat.le_refl _)
      have hbw7 := At.below hbw6 aw7 hbwr.size
      have hCw7 : w7.heap[wr.heap.size]? = some (.cells #[.int .i64 (K : Int), .string ⟨#[]⟩, .string ⟨#[]⟩, .int .i64 0, .int .i64 0, .int .i64 0] 103 (0, 0)) := by rw [hww7]; exact (heap_setCell_same _ wr.heap.size 0 _ _ (.int .i64 (K : Int)) hCw6)
      have hXw7 : Hid (w7 = (w6.setCell ⟨wr.heap.size, 0, none⟩ (.int .i64 (K : Int)))) := hww7
      have snw7 := snw6
      have z0 : w6.frozen? ⟨wr.heap.size, 0, none⟩ = false := frozen_of_row w6 _ 0 _ _ hCw6
      have u0 : w6.cell? ⟨wr.heap.size, 0, none⟩ = some (.int .i64 0) := by rw [cell_of_row w6 _ 0 _ _ (0, 0) hCw6]; rfl
      clear hww7 aw7
      clear hrw6 hpw6 hqw6 how6 hbw6 hCw6 snw6
      by_cases k1 : K = 1
      · subst k1
        rw [show ((1 : Nat) : Int) = (1 : Int) from rfl] at hXw7 hCw7
        have y0 : w7.cell? ⟨wr.heap.size, 0, none⟩ = some (.int .i64 1) := by rw [cell_of_row w7 _ 0 _ _ (0, 0) hCw7]; rfl
        go_wp2_with (rw [← hXw7.out])
        clear z0 u0 hXw7
        clear y0
        refine (rtext_full g r1 b1 w7 hrw7 snw7 (by omega)).mono ?_
        rintro _ w8 ⟨rfl, hrw8, aw8⟩
        have hpw8 := hpw7.grown aw8 (Ne.symm n1)
        have hqw8 := hqw7.grown aw8 (Ne.symm n2)
        have how8 := own_at_other how7 hrw7 (by decide) aw8
        have hbw8 := At.below hbw7 aw8 n4.1
        have hCw8 := (aw8.block wr.heap.size (Array.getElem?_eq_some_iff.1 hCw7).1 (by simpa using ng)).trans hCw7
        have hlw8 := rtextF_len r1 b1
        have snw8 : Sane (rtextF r1 b1).2.1 (rtextF r1 b1).2.2 := sane_rtextF  snw7
        obtain ⟨⟨n, r3, b3⟩, hxw8⟩ : ∃ x, rtextF r1 b1 = x := ⟨_, rfl⟩
        rw [hxw8] at hrw8 hlw8 snw8 ⊢
        simp only at hrw8 hlw8 snw8 ⊢
        clear hrw7 hpw7 hqw7 how7 hbw7 hCw7 snw7
        clear aw8
        obtain ⟨w9, hww9⟩ : ∃ w9, w9 = (w8.setCell ⟨wr.heap.size, 1, none⟩ (.string ⟨n.toArray⟩)) := ⟨_, rfl⟩
        have aw9 : At wr.heap.size w8 w9 := by rw [hww9]; exact ((At.refl wr.heap.size w8).set 1 _)
        have hrw9 := hrw8.grown aw9 (Ne.symm ng)
        have hpw9 := hpw8.grown aw9 (Ne.symm np)
        have hqw9 := hqw8.grown aw9 (Ne.symm nq)
        have how9 := own_fresh howr how8 aw9 (Nat.le_refl _)
        have hbw9 := At.below hbw8 aw9 hbwr.size
        have hCw9 : w9.heap[wr.heap.size]? = some (.cells #[.int .i64 1, .string ⟨n.toArray⟩, .string ⟨#[]⟩, .int .i64 0, .int .i64 0, .int .i64 0] 103 (0, 0)) := by rw [hww9]; exact (heap_setCell_same _ wr.heap.size 1 _ _ (.string ⟨n.toArray⟩) hCw8)
        have hXw9 : Hid (w9 = (w8.setCell ⟨wr.heap.size, 1, none⟩ (.string ⟨n.toArray⟩))) := hww9
        have snw9 := snw8
        have z1 : w8.frozen? ⟨wr.heap.size, 1, none⟩ = false := frozen_of_row w8 _ 1 _ _ hCw8
        have u1 : w8.cell? ⟨wr.heap.size, 1, none⟩ = some (.string ⟨#[]⟩) := by rw [cell_of_row w8 _ 1 _ _ (0, 0) hCw8]; rfl
        clear hww9 aw9
        clear hrw8 hpw8 hqw8 how8 hbw8 hCw8 snw8
        go_wp2_with (rw [← hXw9.out])
        clear z1 u1 hXw9
        refine (rint_any_r g r3 b3 9 w9 hrw9 snw9 (by unfold maxLen; omega) (by omega) (by omega)).mono ?_
        rintro _ wA ⟨rfl, hrwA, awA⟩
        have hpwA := hpw9.grown awA (Ne.symm n1)
        have hqwA := hqw9.grown awA (Ne.symm n2)
        have howA := own_at_other how9 hrw9 (by decide) awA
        have hbwA := At.below hbw9 awA n4.1
        have hCwA := (awA.block wr.heap.size (Array.getElem?_eq_some_iff.1 hCw9).1 (by simpa using ng)).trans hCw9
        have hlwA := intF_len r3 b3 9
        have snwA : Sane (intF r3 b3 9).2.1 (intF r3 b3 9).2.2 := sane_intF (9) snw9
        obtain ⟨⟨t, r4, b4⟩, hxwA⟩ : ∃ x, intF r3 b3 9 = x := ⟨_, rfl⟩
        rw [hxwA] at hrwA hlwA snwA ⊢
        simp only at hrwA hlwA snwA ⊢
        clear hrw9 hpw9 hqw9 how9 hbw9 hCw9 snw9
        clear awA
        obtain ⟨wB, hwwB⟩ : ∃ wB, wB = (wA.setCell ⟨wr.heap.size, 3, none⟩ (.int .i64 t)) := ⟨_, rfl⟩
        have awB : At wr.heap.size wA wB := by rw [hwwB]; exact ((At.refl wr.heap.size wA).set 3 _)
        have hrwB := hrwA.grown awB (Ne.symm ng)
        have hpwB := hpwA.grown awB (Ne.symm np)
        have hqwB := hqwA.grown awB (Ne.symm nq)
        have howB := own_fresh howr howA awB (Nat.le_refl _)
        have hbwB := At.below hbwA awB hbwr.size
        have hCwB : wB.heap[wr.heap.size]? = some (.cells #[.int .i64 1, .string ⟨n.toArray⟩, .string ⟨#[]⟩, .int .i64 t, .int .i64 0, .int .i64 0] 103 (0, 0)) := by rw [hwwB]; exact (heap_setCell_same _ wr.heap.size 3 _ _ (.int .i64 t) hCwA)
        have hXwB : Hid (wB = (wA.setCell ⟨wr.heap.size, 3, none⟩ (.int .i64 t))) := hwwB
        have snwB := snwA
        have z3 : wA.frozen? ⟨wr.heap.size, 3, none⟩ = false := frozen_of_row wA _ 3 _ _ hCwA
        have u3 : wA.cell? ⟨wr.heap.size, 3, none⟩ = some (.int .i64 0) := by rw [cell_of_row wA _ 3 _ _ (0, 0) hCwA]; rfl
        clear hwwB awB
        clear hrwA hpwA hqwA howA hbwA hCwA snwA
        go_wp2_with (rw [← hXwB.out])
        clear z3 u3 hXwB
        refine (rtext_full g r4 b4 wB hrwB snwB (by omega)).mono ?_
        rintro _ wC ⟨rfl, hrwC, awC⟩
        have hpwC := hpwB.grown awC (Ne.symm n1)
        have hqwC := hqwB.grown awC (Ne.symm n2)
        have howC := own_at_other howB hrwB (by decide) awC
        have hbwC := At.below hbwB awC n4.1
        have hCwC := (awC.block wr.heap.size (Array.getElem?_eq_some_iff.1 hCwB).1 (by simpa using ng)).trans hCwB
        have hlwC := rtextF_len r4 b4
        have snwC : Sane (rtextF r4 b4).2.1 (rtextF r4 b4).2.2 := sane_rtextF  snwB
        obtain ⟨⟨u, r5, b5⟩, hxwC⟩ : ∃ x, rtextF r4 b4 = x := ⟨_, rfl⟩
        rw [hxwC] at hrwC hlwC snwC ⊢
        simp only at hrwC hlwC snwC ⊢
        clear hrwB hpwB hqwB howB hbwB hCwB snwB
        clear awC
        obtain ⟨wD, hwwD⟩ : ∃ wD, wD = (wC.setCell ⟨wr.heap.size, 2, none⟩ (.string ⟨u.toArray⟩)) := ⟨_, rfl⟩
        have awD : At wr.heap.size wC wD := by rw [hwwD]; exact ((At.refl wr.heap.size wC).set 2 _)
        have hrwD := hrwC.grown awD (Ne.symm ng)
        have hpwD := hpwC.grown awD (Ne.symm np)
        have hqwD := hqwC.grown awD (Ne.symm nq)
        have howD := own_fresh howr howC awD (Nat.le_refl _)
        have hbwD := At.below hbwC awD hbwr.size
        have hCwD : wD.heap[wr.heap.size]? = some (.cells #[.int .i64 1, .string ⟨n.toArray⟩, .string ⟨u.toArray⟩, .int .i64 t, .int .i64 0, .int .i64 0] 103 (0, 0)) := by rw [hwwD]; exact (heap_setCell_same _ wr.heap.size 2 _ _ (.string ⟨u.toArray⟩) hCwC)
        have hXwD : Hid (wD = (wC.setCell ⟨wr.heap.size, 2, none⟩ (.string ⟨u.toArray⟩))) := hwwD
        have snwD := snwC
        have z2 : wC.frozen? ⟨wr.heap.size, 2, none⟩ = false := frozen_of_row wC _ 2 _ _ hCwC
        have u2 : wC.cell? ⟨wr.heap.size, 2, none⟩ = some (.string ⟨#[]⟩) := by rw [cell_of_row wC _ 2 _ _ (0, 0) hCwC]; rfl
        clear hwwD awD
        clear hrwC hpwC hqwC howC hbwC hCwC snwC
        go_wp2_with (rw [← hXwD.out])
        clear z2 u2 hXwD
        refine (rint_any_r g r5 b5 9 wD hrwD snwD (by unfold maxLen; omega) (by omega) (by omega)).mono ?_
        rintro _ wE ⟨rfl, hrwE, awE⟩
        have hpwE := hpwD.grown awE (Ne.symm n1)
        have hqwE := hqwD.grown awE (Ne.symm n2)
        have howE := own_at_other howD hrwD (by decide) awE
        have hbwE := At.below hbwD awE n4.1
        have hCwE := (awE.block wr.heap.size (Array.getElem?_eq_some_iff.1 hCwD).1 (by simpa using ng)).trans hCwD
        have hlwE := intF_len r5 b5 9
        have snwE : Sane (intF r5 b5 9).2.1 (intF r5 b5 9).2.2 := sane_intF (9) snwD
        obtain ⟨⟨v5, r6, b6⟩, hxwE⟩ : ∃ x, intF r5 b5 9 = x := ⟨_, rfl⟩
        rw [hxwE] at hrwE hlwE snwE ⊢
        simp only at hrwE hlwE snwE ⊢
        rw [rstepF_act hxw6 hxw8 hxwA hxwC hxwE] at hsucc
        have HS := hid hsucc
        clear hsucc
        clear hrwD hpwD hqwD howD hbwD hCwD snwD
        clear awE
        obtain ⟨wF, hwwF⟩ : ∃ wF, wF = (wE.setCell ⟨wr.heap.size, 4, none⟩ (.int .i64 v5)) := ⟨_, rfl⟩
        have awF : At wr.heap.size wE wF := by rw [hwwF]; exact ((At.refl wr.heap.size wE).set 4 _)
        have hrwF := hrwE.grown awF (Ne.symm ng)
        have hpwF := hpwE.grown awF (Ne.symm np)
        have hqwF := hqwE.grown awF (Ne.symm nq)
        have howF := own_fresh howr howE awF (Nat.le_refl _)
        have hbwF := At.below hbwE awF hbwr.size
        have hCwF : wF.heap[wr.heap.size]? = some (.cells #[.int .i64 1, .string ⟨n.toArray⟩, .string ⟨u.toArray⟩, .int .i64 t, .int .i64 v5, .int .i64 0] 103 (0, 0)) := by rw [hwwF]; exact (heap_setCell_same _ wr.heap.size 4 _ _ (.int .i64 v5) hCwE)
        have hXwF : Hid (wF = (wE.setCell ⟨wr.heap.size, 4, none⟩ (.int .i64 v5))) := hwwF
        have snwF := snwE
        have z4 : wE.frozen? ⟨wr.heap.size, 4, none⟩ = false := frozen_of_row wE _ 4 _ _ hCwE
        have u4 : wE.cell? ⟨wr.heap.size, 4, none⟩ = some (.int .i64 0) := by rw [cell_of_row wE _ 4 _ _ (0, 0) hCwE]; rfl
        clear hwwF awF
        clear hrwE hpwE hqwE howE hbwE hCwE snwE
        clear howr hbwr
        have x0 : wF.cell? ⟨wr.heap.size, 0, none⟩ = some (.int .i64 1) := by rw [cell_of_row wF _ 0 _ _ (0, 0) hCwF]; rfl
        have x1 : wF.cell? ⟨wr.heap.size, 1, none⟩ = some (.string ⟨n.toArray⟩) := by rw [cell_of_row wF _ 1 _ _ (0, 0) hCwF]; rfl
        have x2 : wF.cell? ⟨wr.heap.size, 2, none⟩ = some (.string ⟨u.toArray⟩) := by rw [cell_of_row wF _ 2 _ _ (0, 0) hCwF]; rfl
        have x3 : wF.cell? ⟨wr.heap.size, 3, none⟩ = some (.int .i64 t) := by rw [cell_of_row wF _ 3 _ _ (0, 0) hCwF]; rfl
        have x4 : wF.cell? ⟨wr.heap.size, 4, none⟩ = some (.int .i64 v5) := by rw [cell_of_row wF _ 4 _ _ (0, 0) hCwF]; rfl
        have x5 : wF.cell? ⟨wr.heap.size, 5, none⟩ = some (.int .i64 0) := by rw [cell_of_row wF _ 5 _ _ (0, 0) hCwF]; rfl
        have p0 := hpwF.c0
        have bZ : Below wF.heap.size wF (wF.alloc (.cells #[.int .i64 1, .string ⟨n.toArray⟩, .string ⟨u.toArray⟩, .int .i64 t, .int .i64 v5, .int .i64 0] 103)) := (Below.refl _ _).alloc (Nat.le_refl _) _
        have oZ := own_new howF bZ
        have pZ := hpwF.keep bZ
        have hy : ∀ (j : Nat) (q9 : Value), (stC ((1, n, u, (t : Int), (v5 : Int), 0) : St))[j]? = some q9 → (wF.alloc (.cells #[.int .i64 1, .string ⟨n.toArray⟩, .string ⟨u.toArray⟩, .int .i64 t, .int .i64 v5, .int .i64 0] 103)).cell? ⟨wF.heap.size, j, none⟩ = some q9 := by
          intro j u hu
          refine (World.cell?_alloc_at _ _ _ _ rfl).trans ?_
          rw [← hu]
          exact List.getElem?_toArray
        have hB9 : w.heap.size ≤ (wF.alloc (.cells #[.int .i64 1, .string ⟨n.toArray⟩, .string ⟨u.toArray⟩, .int .i64 t, .int .i64 v5, .int .i64 0] 103)).heap.size := Nat.le_trans hbwF.size bZ.size
        go_wp2_with (first | (rw [← hXwF.out]) | (at_builtin; go_must (refine wpList_append_row _ rfl _ _ 22 rfl stC 6 (by decide) stC_len stC_one w.heap.size 103 (.agg #[.int .i64 0, .string .empty, .string .empty, .int .i64 0, .int .i64 0, .int .i64 0]) 64 Try.underlying22 hinfo rfl _ k xs rfl oZ wF.heap.size 1 rfl ((1, n, u, (t : Int), (v5 : Int), 0) : St) hy (by unfold maxLen; omega) (by omega) hB9 ?_)))
        intro a' c' w' hown hgrow
        have pZ' := obj_grown oZ hgrow pZ (by decide)
        have rZ' := obj_grown oZ hgrow (hrwF.keep bZ) (by decide)
        have qZ' := obj_grown oZ hgrow (hqwF.keep bZ) (by decide)
        have bZ' := below_grown (bnext hbwF bZ) oZ hgrow (Nat.le_refl _)
        have d0 := pZ'.c0
        have d1 := pZ'.fz 0
        clear x0 x1 x2 x3 x4 x5 p0 hy
        go_wp2_with fail
        go_roundw
        case rel =>
          refine ⟨k + 1, .slice a' (k + 1) c', by omega, by go_num, ?_, by rw [HS.out]; exact snwF, pZ'.set0 _, ?_, qZ'.grown ((At.refl gp w').set 0 _) (Ne.symm n3), At.below bZ' ((At.refl gp w').set 0 _) n4.2.1⟩
          · rw [HS.out]; exact Obj2.grown rZ' ((At.refl gp w').set 0 _) n1
          · rw [HS.out]; exact own_at_other (xs := ((xs ++ [((1, n, u, (t : Int), (v5 : Int), 0) : St)]).flatMap stC)) (by simpa using hown) pZ' (by decide) ((At.refl gp w').set 0 _)
        case measure => simp [intOf]; omega
      · by_cases k2 : K = 2
        · subst k2
          rw [show ((2 : Nat) : Int) = (2 : Int) from rfl] at hXw7 hCw7
          have y0 : w7.cell? ⟨wr.heap.size, 0, none⟩ = some (.int .i64 2) := by rw [cell_of_row w7 _ 0 _ _ (0, 0) hCw7]; rfl
          go_wp2_with (rw [← hXw7.out])
          clear z0 u0 hXw7
          clear y0
          refine (rint_any_r g r1 b1 9999 w7 hrw7 snw7 (by unfold maxLen; omega) (by omega) (by omega)).mono ?_
          rintro _ w8 ⟨rfl, hrw8, aw8⟩
          have hpw8 := hpw7.grown aw8 (Ne.symm n1)
          have hqw8 := hqw7.grown aw8 (Ne.symm n2)
          have how8 := own_at_other how7 hrw7 (by decide) aw8
          have hbw8 := At.below hbw7 aw8 n4.1
          have hCw8 := (aw8.block wr.heap.size (Array.getElem?_eq_some_iff.1 hCw7).1 (by simpa using ng)).trans hCw7
          have hlw8 := intF_len r1 b1 9999
          have snw8 : Sane (intF r1 b1 9999).2.1 (intF r1 b1 9999).2.2 := sane_intF (9999) snw7
          obtain ⟨⟨t, r3, b3⟩, hxw8⟩ : ∃ x, intF r1 b1 9999 = x := ⟨_, rfl⟩
          rw [hxw8] at hrw8 hlw8 snw8 ⊢
          simp only at hrw8 hlw8 snw8 ⊢
          rw [rstepF_timer hxw6 hxw8] at hsucc
          have HS := hid hsucc
          clear hsucc
          clear hrw7 hpw7 hqw7 how7 hbw7 hCw7 snw7
          clear aw8
          obtain ⟨w9, hww9⟩ : ∃ w9, w9 = (w8.setCell ⟨wr.heap.size, 5, none⟩ (.int .i64 t)) := ⟨_, rfl⟩
          have aw9 : At wr.heap.size w8 w9 := by rw [hww9]; exact ((At.refl wr.heap.size w8).set 5 _)
          have hrw9 := hrw8.grown aw9 (Ne.symm ng)
          have hpw9 := hpw8.grown aw9 (Ne.symm np)
          have hqw9 := hqw8.grown aw9 (Ne.symm nq)
          have how9 := own_fresh howr how8 aw9 (Nat.le_refl _)
          have hbw9 := At.below hbw8 aw9 hbwr.size
          have hCw9 : w9.heap[wr.heap.size]? = some (.cells #[.int .i64 2, .string ⟨#[]⟩, .string ⟨#[]⟩, .int .i64 0, .int .i64 0, .int .i64 t] 103 (0, 0)) := by rw [hww9]; exact (heap_setCell_same _ wr.heap.size 5 _ _ (.int .i64 t) hCw8)
          have hXw9 : Hid (w9 = (w8.setCell ⟨wr.heap.size, 5, none⟩ (.int .i64 t))) := hww9
          have snw9 := snw8
          have z5 : w8.frozen? ⟨wr.heap.size, 5, none⟩ = false := frozen_of_row w8 _ 5 _ _ hCw8
          have u5 : w8.cell? ⟨wr.heap.size, 5, none⟩ = some (.int .i64 0) := by rw [cell_of_row w8 _ 5 _ _ (0, 0) hCw8]; rfl
          clear hww9 aw9
          clear hrw8 hpw8 hqw8 how8 hbw8 hCw8 snw8
          clear howr hbwr
          have x0 : w9.cell? ⟨wr.heap.size, 0, none⟩ = some (.int .i64 2) := by rw [cell_of_row w9 _ 0 _ _ (0, 0) hCw9]; rfl
          have x1 : w9.cell? ⟨wr.heap.size, 1, none⟩ = some (.string ⟨#[]⟩) := by rw [cell_of_row w9 _ 1 _ _ (0, 0) hCw9]; rfl
          have x2 : w9.cell? ⟨wr.heap.size, 2, none⟩ = some (.string ⟨#[]⟩) := by rw [cell_of_row w9 _ 2 _ _ (0, 0) hCw9]; rfl
          have x3 : w9.cell? ⟨wr.heap.size, 3, none⟩ = some (.int .i64 0) := by rw [cell_of_row w9 _ 3 _ _ (0, 0) hCw9]; rfl
          have x4 : w9.cell? ⟨wr.heap.size, 4, none⟩ = some (.int .i64 0) := by rw [cell_of_row w9 _ 4 _ _ (0, 0) hCw9]; rfl
          have x5 : w9.cell? ⟨wr.heap.size, 5, none⟩ = some (.int .i64 t) := by rw [cell_of_row w9 _ 5 _ _ (0, 0) hCw9]; rfl
          have p0 := hpw9.c0
          have bZ : Below w9.heap.size w9 (w9.alloc (.cells #[.int .i64 2, .string ⟨#[]⟩, .string ⟨#[]⟩, .int .i64 0, .int .i64 0, .int .i64 t] 103)) := (Below.refl _ _).alloc (Nat.le_refl _) _
          have oZ := own_new how9 bZ
          have pZ := hpw9.keep bZ
          have hy : ∀ (j : Nat) (q9 : Value), (stC ((2, [], [], 0, 0, (t : Int)) : St))[j]? = some q9 → (w9.alloc (.cells #[.int .i64 2, .string ⟨#[]⟩, .string ⟨#[]⟩, .int .i64 0, .int .i64 0, .int .i64 t] 103)).cell? ⟨w9.heap.size, j, none⟩ = some q9 := by
            intro j u hu
            refine (World.cell?_alloc_at _ _ _ _ rfl).trans ?_
            rw [← hu]
            exact List.getElem?_toArray
          have hB9 : w.heap.size ≤ (w9.alloc (.cells #[.int .i64 2, .string ⟨#[]⟩, .string ⟨#[]⟩, .int .i64 0, .int .i64 0, .int .i64 t] 103)).heap.size := Nat.le_trans hbw9.size bZ.size
          go_wp2_with (first | (rw [← hXw9.out]) | (at_builtin; go_must (refine wpList_append_row _ rfl _ _ 22 rfl stC 6 (by decide) stC_len stC_one w.heap.size 103 (.agg #[.int .i64 0, .string .empty, .string .empty, .int .i64 0, .int .i64 0, .int .i64 0]) 64 Try.underlying22 hinfo rfl _ k xs rfl oZ w9.heap.size 1 rfl ((2, [], [], 0, 0, (t : Int)) : St) hy (by unfold maxLen; omega) (by omega) hB9 ?_)))
          intro a' c' w' hown hgrow
          have pZ' := obj_grown oZ hgrow pZ (by decide)
          have rZ' := obj_grown oZ hgrow (hrw9.keep bZ) (by decide)
          have qZ' := obj_grown oZ hgrow (hqw9.keep bZ) (by decide)
          have bZ' := below_grown (bnext hbw9 bZ) oZ hgrow (Nat.le_refl _)
          have d0 := pZ'.c0
          have d1 := pZ'.fz 0
          clear x0 x1 x2 x3 x4 x5 p0 hy
          go_wp2_with fail
          go_roundw
          case rel =>
            refine ⟨k + 1, .slice a' (k + 1) c', by omega, by go_num, ?_, by rw [HS.out]; exact snw9, pZ'.set0 _, ?_, qZ'.grown ((At.refl gp w').set 0 _) (Ne.symm n3), At.below bZ' ((At.refl gp w').set 0 _) n4.2.1⟩
            · rw [HS.out]; exact Obj2.grown rZ' ((At.refl gp w').set 0 _) n1
            · rw [HS.out]; exact own_at_other (xs := ((xs ++ [((2, [], [], 0, 0, (t : Int)) : St)]).flatMap stC)) (by simpa using hown) pZ' (by decide) ((At.refl gp w').set 0 _)
          case measure => simp [intOf]; omega
        · have e1 : ((K : Int) == 1) = false := by simpa using (show (K : Int) ≠ 1 by omega)
          have e2 : ((K : Int) == 2) = false := by simpa using (show (K : Int) ≠ 2 by omega)
          have y0 : w7.cell? ⟨wr.heap.size, 0, none⟩ = some (.int .i64 (K : Int)) := by rw [cell_of_row w7 _ 0 _ _ (0, 0) hCw7]; rfl
          go_wp2_with (rw [← hXw7.out])
          clear z0 u0 hXw7
          clear y0
          refine (rtext_full g r1 b1 w7 hrw7 snw7 (by omega)).mono ?_
          rintro _ w8 ⟨rfl, hrw8, aw8⟩
          have hpw8 := hpw7.grown aw8 (Ne.symm n1)
          have hqw8 := hqw7.grown aw8 (Ne.symm n2)
          have how8 := own_at_other how7 hrw7 (by decide) aw8
          have hbw8 := At.below hbw7 aw8 n4.1
          have hCw8 := (aw8.block wr.heap.size (Array.getElem?_eq_some_iff.1 hCw7).1 (by simpa using ng)).trans hCw7
          have hlw8 := rtextF_len r1 b1
          have snw8 : Sane (rtextF r1 b1).2.1 (rtextF r1 b1).2.2 := sane_rtextF  snw7
          obtain ⟨⟨n, r3, b3⟩, hxw8⟩ : ∃ x, rtextF r1 b1 = x := ⟨_, rfl⟩
          rw [hxw8] at hrw8 hlw8 snw8 ⊢
          simp only at hrw8 hlw8 snw8 ⊢
          rw [rstepF_else hxw6 k1 k2 hxw8] at hsucc
          have HS := hid hsucc
          clear hsucc
          clear hrw7 hpw7 hqw7 how7 hbw7 hCw7 snw7
          clear aw8
          obtain ⟨w9, hww9⟩ : ∃ w9, w9 = (w8.setCell ⟨wr.heap.size, 1, none⟩ (.string ⟨n.toArray⟩)) := ⟨_, rfl⟩
          have aw9 : At wr.heap.size w8 w9 := by rw [hww9]; exact ((At.refl wr.heap.size w8).set 1 _)
          have hrw9 := hrw8.grown aw9 (Ne.symm ng)
          have hpw9 := hpw8.grown aw9 (Ne.symm np)
          have hqw9 := hqw8.grown aw9 (Ne.symm nq)
          have how9 := own_fresh howr how8 aw9 (Nat.le_refl _)
          have hbw9 := At.below hbw8 aw9 hbwr.size
          have hCw9 : w9.heap[wr.heap.size]? = some (.cells #[.int .i64 (K : Int), .string ⟨n.toArray⟩, .string ⟨#[]⟩, .int .i64 0, .int .i64 0, .int .i64 0] 103 (0, 0)) := by rw [hww9]; exact (heap_setCell_same _ wr.heap.size 1 _ _ (.string ⟨n.toArray⟩) hCw8)
          have hXw9 : Hid (w9 = (w8.setCell ⟨wr.heap.size, 1, none⟩ (.string ⟨n.toArray⟩))) := hww9
          have snw9 := snw8
          have z1 : w8.frozen? ⟨wr.heap.size, 1, none⟩ = false := frozen_of_row w8 _ 1 _ _ hCw8
          have u1 : w8.cell? ⟨wr.heap.size, 1, none⟩ = some (.string ⟨#[]⟩) := by rw [cell_of_row w8 _ 1 _ _ (0, 0) hCw8]; rfl
          clear hww9 aw9
          clear hrw8 hpw8 hqw8 how8 hbw8 hCw8 snw8
          clear howr hbwr
          have x0 : w9.cell? ⟨wr.heap.size, 0, none⟩ = some (.int .i64 (K : Int)) := by rw [cell_of_row w9 _ 0 _ _ (0, 0) hCw9]; rfl
          have x1 : w9.cell? ⟨wr.heap.size, 1, none⟩ = some (.string ⟨n.toArray⟩) := by rw [cell_of_row w9 _ 1 _ _ (0, 0) hCw9]; rfl
          have x2 : w9.cell? ⟨wr.heap.size, 2, none⟩ = some (.string ⟨#[]⟩) := by rw [cell_of_row w9 _ 2 _ _ (0, 0) hCw9]; rfl
          have x3 : w9.cell? ⟨wr.heap.size, 3, none⟩ = some (.int .i64 0) := by rw [cell_of_row w9 _ 3 _ _ (0, 0) hCw9]; rfl
          have x4 : w9.cell? ⟨wr.heap.size, 4, none⟩ = some (.int .i64 0) := by rw [cell_of_row w9 _ 4 _ _ (0, 0) hCw9]; rfl
          have x5 : w9.cell? ⟨wr.heap.size, 5, none⟩ = some (.int .i64 0) := by rw [cell_of_row w9 _ 5 _ _ (0, 0) hCw9]; rfl
          have p0 := hpw9.c0
          have bZ : Below w9.heap.size w9 (w9.alloc (.cells #[.int .i64 (K : Int), .string ⟨n.toArray⟩, .string ⟨#[]⟩, .int .i64 0, .int .i64 0, .int .i64 0] 103)) := (Below.refl _ _).alloc (Nat.le_refl _) _
          have oZ := own_new how9 bZ
          have pZ := hpw9.keep bZ
          have hy : ∀ (j : Nat) (q9 : Value), (stC (((K : Int), n, [], 0, 0, 0) : St))[j]? = some q9 → (w9.alloc (.cells #[.int .i64 (K : Int), .string ⟨n.toArray⟩, .string ⟨#[]⟩, .int .i64 0, .int .i64 0, .int .i64 0] 103)).cell? ⟨w9.heap.size, j, none⟩ = some q9 := by
            intro j u hu
            refine (World.cell?_alloc_at _ _ _ _ rfl).trans ?_
            rw [← hu]
            exact List.getElem?_toArray
          have hB9 : w.heap.size ≤ (w9.alloc (.cells #[.int .i64 (K : Int), .string ⟨n.toArray⟩, .string ⟨#[]⟩, .int .i64 0, .int .i64 0, .int .i64 0] 103)).heap.size := Nat.le_trans hbw9.size bZ.size
          go_wp2_with (first | (rw [← hXw9.out]) | (at_builtin; go_must (refine wpList_append_row _ rfl _ _ 22 rfl stC 6 (by decide) stC_len stC_one w.heap.size 103 (.agg #[.int .i64 0, .string .empty, .string .empty, .int .i64 0, .int .i64 0, .int .i64 0]) 64 Try.underlying22 hinfo rfl _ k xs rfl oZ w9.heap.size 1 rfl (((K : Int), n, [], 0, 0, 0) : St) hy (by unfold maxLen; omega) (by omega) hB9 ?_)))
          intro a' c' w' hown hgrow
          have pZ' := obj_grown oZ hgrow pZ (by decide)
          have rZ' := obj_grown oZ hgrow (hrw9.keep bZ) (by decide)
          have qZ' := obj_grown oZ hgrow (hqw9.keep bZ) (by decide)
          have bZ' := below_grown (bnext hbw9 bZ) oZ hgrow (Nat.le_refl _)
          have d0 := pZ'.c0
          have d1 := pZ'.fz 0
          clear x0 x1 x2 x3 x4 x5 p0 hy
          go_wp2_with fail
          go_roundw
          case rel =>
            refine ⟨k + 1, .slice a' (k + 1) c', by omega, by go_num, ?_, by rw [HS.out]; exact snw9, pZ'.set0 _, ?_, qZ'.grown ((At.refl gp w').set 0 _) (Ne.symm n3), At.below bZ' ((At.refl gp w').set 0 _) n4.2.1⟩
            · rw [HS.out]; exact Obj2.grown rZ' ((At.refl gp w').set 0 _) n1
            · rw [HS.out]; exact own_at_other (xs := ((xs ++ [(((K : Int), n, [], 0, 0, 0) : St)]).flatMap stC)) (by simpa using hown) pZ' (by decide) ((At.refl gp w').set 0 _)
          case measure => simp [intOf]; omega
    · obtain rfl : k = N := by omega
      obtain ⟨va, vc, rfl⟩ := ownsRow_slice ho
      have hpg : progG rstepF 1073741824 l = ((lim : Int), stepsG rstepF k S) := by
        unfold progG rdI
        simp only [hx1, hx2, hS]
      have hpf : rprogF l = (if ProgP (lim : Int) (stepsG rstepF k S).1 ∧ endF (stepsG rstepF k S).2.1 (stepsG rstepF k S).2.2 = true ∧ encP (lim : Int) (stepsG rstepF k S).1 = l then some ((lim : Int), (stepsG rstepF k S).1) else none) := by
        unfold rprogF
        rw [hpg]
      have hfit := rstepsG_fit k S
      rw [← hS] at hlen
      generalize hst : stepsG rstepF k S = st at *
      obtain ⟨xs, r, b⟩ := st
      simp only at hr ho hln hsucc hpf hfit
      clear hst hpg hsucc hx1 hx2
      have hF : Fit xs := fun x hx => by
        have := hfit x hx
        rw [hS] at this
        simp only at this
        unfold maxLen
        exact ⟨by omega, by omega⟩
      have hsl : Sl wr (.slice va k vc) 6 xs.length (xs.flatMap stC) := by rw [hln]; exact Sl.of_own ho (by unfold maxLen; omega)
      have henc := rencode_any (.slice va k vc) lim xs wr hsl hF
      have p0 := hp.c0
      have p1 := hp.c1
      have HENC := hid henc
      have HPF := hid hpf
      have HLN := hid hln
      clear hfit hlen hF hsl henc hpf hln
      go_wp2_with fail
      refine HENC.out.mono ?_
      rintro _ w9 ⟨rfl, hb9⟩
      have hend := rend_any g r b w9 (hr.keep hb9)
      have p9 := hp.keep hb9
      have q9 := hq.keep hb9
      have o9 := own_new ho hb9
      have b9 := bnext hb hb9
      have p90 := p9.c0
      have p91 := p9.c1
      have q90 := q9.c0
      have q91 := q9.c1
      have qf90 := q9.fz 0
      have qf91 := q9.fz 1
      have a1 : At gr w9 ((w9.setCell ⟨gr, 0, none⟩ (.slice none 0 0)).setCell ⟨gr, 1, none⟩ (.int .i64 0)) := ((At.refl gr w9).set 0 _).set 1 _
      have HB := hid (At.below b9 a1 n4.2.2)
      clear p0 p1
      by_cases hpp : ProgP (lim : Int) xs
      · have hv : chkV lim xs = 0 := by unfold chkV; rw [if_pos hpp]
        have hw : encV lim xs = encP lim xs := by unfold encV; rw [if_pos hpp]
        rw [hv, hw]
        clear hv hw
        by_cases he : endF r b = true
        · rw [he] at hend
          by_cases hs : encP (lim : Int) xs = l
          · have HR := hid (show rprogF l = some ((lim : Int), xs) by rw [HPF.out, if_pos ⟨hpp, he, hs⟩])
            rw [hs]
            clear he hpp hs
            go_wp2_with fail
            refine hend.mono ?_
            rintro _ w10 ⟨rfl, hw10⟩
            rw [hw10]
            clear hw10 w10
            go_wp2_with fail
            have a9 : At gr w9 ((w9.setCell ⟨gr, 0, none⟩ (.slice va k vc)).setCell ⟨gr, 1, none⟩ (.int .i64 lim)) := ((At.refl gr w9).set 0 _).set 1 _
            refine bodyPost_ret (v := .tuple #[.agg #[.slice va k vc, .int .i64 lim], .int .i64 0]) ?_ rfl ⟨.slice va k vc, lim, xs, 0, rfl, ?_, At.below b9 a9 n4.2.2, .inl ⟨HR.out, rfl⟩⟩
            · rw [results_cell_tmp rfl]
              go_simp
            · rw [HLN.out]
              exact Sl.of_own (own_at_other o9 q9 (by decide) a9) (by unfold maxLen; omega)
          · have HR := hid (show rprogF l = none by rw [HPF.out, if_neg (fun h => hs h.2.2)])
            have hs' : (encP (lim : Int) xs == l) = false := by simpa using hs
            clear he hpp
            go_wp2_with fail
            refine hend.mono ?_
            rintro _ w10 ⟨rfl, hw10⟩
            rw [hw10]
            clear hw10 w10
            go_wp2_with fail
            (refine bodyPost_ret (v := .tuple #[.agg #[.slice none 0 0, .int .i64 0], .int .i64 60]) ?_ rfl ⟨.slice none 0 0, 0, [], 60, rfl, Sl.none _ _, HB.out, .inr ⟨HR.out, rfl, rfl, rfl, rfl⟩⟩; rw [results_cell_tmp rfl]; go_simp)
        · have he' : endF r b = false := by simpa using he
          rw [he'] at hend
          have HR := hid (show rprogF l = none by rw [HPF.out, if_neg (fun h => he h.2.1)])
          clear he he' hpp
          go_wp2_with fail
          refine hend.mono ?_
          rintro _ w10 ⟨rfl, hw10⟩
          rw [hw10]
          clear hw10 w10
          go_wp2_with fail
          (refine bodyPost_ret (v := .tuple #[.agg #[.slice none 0 0, .int .i64 0], .int .i64 60]) ?_ rfl ⟨.slice none 0 0, 0, [], 60, rfl, Sl.none _ _, HB.out, .inr ⟨HR.out, rfl, rfl, rfl, rfl⟩⟩; rw [results_cell_tmp rfl]; go_simp)
      · have hv : chkV lim xs = 130 := by unfold chkV; rw [if_neg hpp]
        have HR := hid (show rprogF l = none by rw [HPF.out, if_neg (fun h => hpp h.1)])
        rw [hv]
        clear hv hpp
        go_wp2_with fail
        (refine bodyPost_ret (v := .tuple #[.agg #[.slice none 0 0, .int .i64 0], .int .i64 60]) ?_ rfl ⟨.slice none 0 0, 0, [], 60, rfl, Sl.none _ _, HB.out, .inr ⟨HR.out, rfl, rfl, rfl, rfl⟩⟩; rw [results_cell_tmp rfl]; go_simp)
end Go.Proofs.Ytelacmchofehcaa
namespace Go.Proofs.Ytelacmchofehcaa
open Go.RowKit
set_option linter.unusedVariables false
set_option linter.unusedSimpArgs false

theorem evS_r (k : Int) : hasC (evS k) 114 = !noB (evB k) 1 := by
  rw [hb_ref]; unfold evS
  by_cases h1 : k = 1
  · subst h1; rfl
  by_cases h2 : k = 12
  · subst h2; rfl
  have h16 : ¬ evB k = 16 := fun h => by rcases (data16 k).1 h with h | h; exact h1 h; exact h2 h
  rw [if_neg h1, if_neg h2]
  rcases evB_cases k with e | e | e | e | e | e
  · exact absurd e h16
  all_goals (rw [e]; rfl)
theorem evS_s (k : Int) : hasC (evS k) 115 = !noB (evB k) 2 := by
  rw [hb_step]; unfold evS
  by_cases h1 : k = 1
  · subst h1; rfl
  by_cases h2 : k = 12
  · subst h2; rfl
  have h16 : ¬ evB k = 16 := fun h => by rcases (data16 k).1 h with h | h; exact h1 h; exact h2 h
  rw [if_neg h1, if_neg h2]
  rcases evB_cases k with e | e | e | e | e | e
  · exact absurd e h16
  all_goals (rw [e]; rfl)
theorem evS_t (k : Int) : hasC (evS k) 116 = !noB (evB k) 4 := by
  rw [hb_try]; unfold evS
  by_cases h1 : k = 1
  · subst h1; rfl
  by_cases h2 : k = 12
  · subst h2; rfl
  have h16 : ¬ evB k = 16 := fun h => by rcases (data16 k).1 h with h | h; exact h1 h; exact h2 h
  rw [if_neg h1, if_neg h2]
  rcases evB_cases k with e | e | e | e | e | e
  · exact absurd e h16
  all_goals (rw [e]; rfl)
theorem evS_su (k : Int) : (evS k == [115, 117]) = !noB (evB k) 8 := by
  rw [hb_undo]; unfold evS
  by_cases h1 : k = 1
  · subst h1; rfl
  by_cases h2 : k = 12
  · subst h2; rfl
  have h16 : ¬ evB k = 16 := fun h => by rcases (data16 k).1 h with h | h; exact h1 h; exact h2 h
  rw [if_neg h1, if_neg h2]
  rcases evB_cases k with e | e | e | e | e | e
  · exact absurd e h16
  all_goals (rw [e]; rfl)
theorem evS_no {k : Int} (h1 : ¬ k = 1) (h2 : ¬ k = 12) : (evS k == [112]) = false ∧ (evS k == [110]) = false := by
  have h16 : ¬ evB k = 16 := fun h => by rcases (data16 k).1 h with h | h; exact h1 h; exact h2 h
  unfold evS
  rw [if_neg h1, if_neg h2]
  rcases evB_cases k with e | e | e | e | e | e
  · exact absurd e h16
  all_goals (rw [e]; exact ⟨rfl, rfl⟩)
set_option maxHeartbeats 1600000 in
set_option maxRecDepth 100000 in
theorem rchk_A (id k tk rf sp ty : Int) (ud : Bool) (dt : List UInt8) (HO : Hid (okK k = false)) (w : World) : Calls Try.prog 81 #[.agg #[.int .i64 id, .int .i64 k, .int .i64 tk, .int .i64 rf, .int .i64 sp, .int .i64 ty, .bool ud, .string ⟨dt.toArray⟩]] w fun e w' => e = .returned (.bool false) ∧ Below w.heap.size w w' := by
  have h0 := EHeld.new w (id, k, tk, rf, sp, ty, ud, dt)
  unfold evC at h0
  simp only [Ev.id, Ev.kd, Ev.tk, Ev.rf, Ev.sp, Ev.ty, Ev.ud, Ev.dt] at h0
  obtain ⟨W, hW⟩ : ∃ W, W = w.alloc (.cells #[.int .i64 id, .int .i64 k, .int .i64 tk, .int .i64 rf, .int .i64 sp, .int .i64 ty, .bool ud, .string ⟨dt.toArray⟩] 82) := ⟨_, rfl⟩
  rw [← hW] at h0
  have HX := hid hW
  clear hW
  go_enter Try.func81, Try.ntmps81
  have p0 := h0.c0
  have p1 := h0.c1
  simp only [Ev.id, Ev.kd] at p0 p1
  go_wp2_with fail
  rw [← HX.out]
  refine (rfields_any k W).mono ?_
  rintro _ w1 ⟨rfl, b1⟩
  have h1 := h0.next b1
  clear p0 p1 h0
  have p0 := h1.c0
  have p1 := h1.c1
  have p2 := h1.c2
  have p3 := h1.c3
  have p4 := h1.c4
  have p5 := h1.c5
  have p6 := h1.c6
  have p7 := h1.c7
  simp only [Ev.id, Ev.kd, Ev.tk, Ev.rf, Ev.sp, Ev.ty, Ev.ud, Ev.dt] at p0 p1 p2 p3 p4 p5 p6 p7
  rw [HO.out]
  go_wp2_with fail
  go_ret
  exact ⟨rfl, h1.below⟩
set_option maxHeartbeats 1600000 in
set_option maxRecDepth 100000 in
theorem rchk_B0 (id k tk rf sp ty : Int) (ud : Bool) (dt : List UInt8) (HO : Hid (okK k = true)) (d0 : decide (id < 1) = true) (w : World) : Calls Try.prog 81 #[.agg #[.int .i64 id, .int .i64 k, .int .i64 tk, .int .i64 rf, .int .i64 sp, .int .i64 ty, .bool ud, .string ⟨dt.toArray⟩]] w fun e w' => e = .returned (.bool false) ∧ Below w.heap.size w w' := by
  have h0 := EHeld.new w (id, k, tk, rf, sp, ty, ud, dt)
  unfold evC at h0
  simp only [Ev.id, Ev.kd, Ev.tk, Ev.rf, Ev.sp, Ev.ty, Ev.ud, Ev.dt] at h0
  obtain ⟨W, hW⟩ : ∃ W, W = w.alloc (.cells #[.int .i64 id, .int .i64 k, .int .i64 tk, .int .i64 rf, .int .i64 sp, .int .i64 ty, .bool ud, .string ⟨dt.toArray⟩] 82) := ⟨_, rfl⟩
  rw [← hW] at h0
  have HX := hid hW
  clear hW
  go_enter Try.func81, Try.ntmps81
  have p0 := h0.c0
  have p1 := h0.c1
  simp only [Ev.id, Ev.kd] at p0 p1
  go_wp2_with fail
  rw [← HX.out]
  refine (rfields_any k W).mono ?_
  rintro _ w1 ⟨rfl, b1⟩
  have h1 := h0.next b1
  clear p0 p1 h0
  have p0 := h1.c0
  have p1 := h1.c1
  have p2 := h1.c2
  have p3 := h1.c3
  have p4 := h1.c4
  have p5 := h1.c5
  have p6 := h1.c6
  have p7 := h1.c7
  simp only [Ev.id, Ev.kd, Ev.tk, Ev.rf, Ev.sp, Ev.ty, Ev.ud, Ev.dt] at p0 p1 p2 p3 p4 p5 p6 p7
  rw [HO.out]
  go_wp2_with fail
  go_ret
  exact ⟨rfl, h1.below⟩
set_option maxHeartbeats 1600000 in
set_option maxRecDepth 100000 in
theorem rchk_B1 (id k tk rf sp ty : Int) (ud : Bool) (dt : List UInt8) (HO : Hid (okK k = true)) (d0 : decide (id < 1) = false) (d1 : decide (500 < id) = true) (w : World) : Calls Try.prog 81 #[.agg #[.int .i64 id, .int .i64 k, .int .i64 tk, .int .i64 rf, .int .i64 sp, .int .i64 ty, .bool ud, .string ⟨dt.toArray⟩]] w fun e w' => e = .returned (.bool false) ∧ Below w.heap.size w w' := by
  have h0 := EHeld.new w (id, k, tk, rf, sp, ty, ud, dt)
  unfold evC at h0
  simp only [Ev.id, Ev.kd, Ev.tk, Ev.rf, Ev.sp, Ev.ty, Ev.ud, Ev.dt] at h0
  obtain ⟨W, hW⟩ : ∃ W, W = w.alloc (.cells #[.int .i64 id, .int .i64 k, .int .i64 tk, .int .i64 rf, .int .i64 sp, .int .i64 ty, .bool ud, .string ⟨dt.toArray⟩] 82) := ⟨_, rfl⟩
  rw [← hW] at h0
  have HX := hid hW
  clear hW
  go_enter Try.func81, Try.ntmps81
  have p0 := h0.c0
  have p1 := h0.c1
  simp only [Ev.id, Ev.kd] at p0 p1
  go_wp2_with fail
  rw [← HX.out]
  refine (rfields_any k W).mono ?_
  rintro _ w1 ⟨rfl, b1⟩
  have h1 := h0.next b1
  clear p0 p1 h0
  have p0 := h1.c0
  have p1 := h1.c1
  have p2 := h1.c2
  have p3 := h1.c3
  have p4 := h1.c4
  have p5 := h1.c5
  have p6 := h1.c6
  have p7 := h1.c7
  simp only [Ev.id, Ev.kd, Ev.tk, Ev.rf, Ev.sp, Ev.ty, Ev.ud, Ev.dt] at p0 p1 p2 p3 p4 p5 p6 p7
  rw [HO.out]
  go_wp2_with fail
  go_ret
  exact ⟨rfl, h1.below⟩
set_option maxHeartbeats 1600000 in
set_option maxRecDepth 100000 in
theorem rchk_B2 (id k tk rf sp ty : Int) (ud : Bool) (dt : List UInt8) (HO : Hid (okK k = true)) (d0 : decide (id < 1) = false) (d1 : decide (500 < id) = false) (d2 : decide (tk < 0) = true) (w : World) : Calls Try.prog 81 #[.agg #[.int .i64 id, .int .i64 k, .int .i64 tk, .int .i64 rf, .int .i64 sp, .int .i64 ty, .bool ud, .string ⟨dt.toArray⟩]] w fun e w' => e = .returned (.bool false) ∧ Below w.heap.size w w' := by
  have h0 := EHeld.new w (id, k, tk, rf, sp, ty, ud, dt)
  unfold evC at h0
  simp only [Ev.id, Ev.kd, Ev.tk, Ev.rf, Ev.sp, Ev.ty, Ev.ud, Ev.dt] at h0
  obtain ⟨W, hW⟩ : ∃ W, W = w.alloc (.cells #[.int .i64 id, .int .i64 k, .int .i64 tk, .int .i64 rf, .int .i64 sp, .int .i64 ty, .bool ud, .string ⟨dt.toArray⟩] 82) := ⟨_, rfl⟩
  rw [← hW] at h0
  have HX := hid hW
  clear hW
  go_enter Try.func81, Try.ntmps81
  have p0 := h0.c0
  have p1 := h0.c1
  simp only [Ev.id, Ev.kd] at p0 p1
  go_wp2_with fail
  rw [← HX.out]
  refine (rfields_any k W).mono ?_
  rintro _ w1 ⟨rfl, b1⟩
  have h1 := h0.next b1
  clear p0 p1 h0
  have p0 := h1.c0
  have p1 := h1.c1
  have p2 := h1.c2
  have p3 := h1.c3
  have p4 := h1.c4
  have p5 := h1.c5
  have p6 := h1.c6
  have p7 := h1.c7
  simp only [Ev.id, Ev.kd, Ev.tk, Ev.rf, Ev.sp, Ev.ty, Ev.ud, Ev.dt] at p0 p1 p2 p3 p4 p5 p6 p7
  rw [HO.out]
  go_wp2_with fail
  go_ret
  exact ⟨rfl, h1.below⟩
set_option maxHeartbeats 1600000 in
set_option maxRecDepth 100000 in
theorem rchk_B3 (id k tk rf sp ty : Int) (ud : Bool) (dt : List UInt8) (HO : Hid (okK k = true)) (d0 : decide (id < 1) = false) (d1 : decide (500 < id) = false) (d2 : decide (tk < 0) = false) (d3 : decide (1099511627776 < tk) = true) (w : World) : Calls Try.prog 81 #[.agg #[.int .i64 id, .int .i64 k, .int .i64 tk, .int .i64 rf, .int .i64 sp, .int .i64 ty, .bool ud, .string ⟨dt.toArray⟩]] w fun e w' => e = .returned (.bool false) ∧ Below w.heap.size w w' := by
  have h0 := EHeld.new w (id, k, tk, rf, sp, ty, ud, dt)
  unfold evC at h0
  simp only [Ev.id, Ev.kd, Ev.tk, Ev.rf, Ev.sp, Ev.ty, Ev.ud, Ev.dt] at h0
  obtain ⟨W, hW⟩ : ∃ W, W = w.alloc (.cells #[.int .i64 id, .int .i64 k, .int .i64 tk, .int .i64 rf, .int .i64 sp, .int .i64 ty, .bool ud, .string ⟨dt.toArray⟩] 82) := ⟨_, rfl⟩
  rw [← hW] at h0
  have HX := hid hW
  clear hW
  go_enter Try.func81, Try.ntmps81
  have p0 := h0.c0
  have p1 := h0.c1
  simp only [Ev.id, Ev.kd] at p0 p1
  go_wp2_with fail
  rw [← HX.out]
  refine (rfields_any k W).mono ?_
  rintro _ w1 ⟨rfl, b1⟩
  have h1 := h0.next b1
  clear p0 p1 h0
  have p0 := h1.c0
  have p1 := h1.c1
  have p2 := h1.c2
  have p3 := h1.c3
  have p4 := h1.c4
  have p5 := h1.c5
  have p6 := h1.c6
  have p7 := h1.c7
  simp only [Ev.id, Ev.kd, Ev.tk, Ev.rf, Ev.sp, Ev.ty, Ev.ud, Ev.dt] at p0 p1 p2 p3 p4 p5 p6 p7
  rw [HO.out]
  go_wp2_with fail
  go_ret
  exact ⟨rfl, h1.below⟩
set_option maxHeartbeats 1600000 in
set_option maxRecDepth 100000 in
theorem rchk_C0 (id k tk rf sp ty : Int) (ud : Bool) (dt : List UInt8) (HO : Hid (okK k = true)) (d0 : decide (id < 1) = false) (d1 : decide (500 < id) = false) (d2 : decide (tk < 0) = false) (d3 : decide (1099511627776 < tk) = false) (hib : 1 ≤ id ∧ id ≤ 500) (E0 : Hid (einB (hasC (evS k) 114) rf 1 (id - 1) = false)) (w : World) : Calls Try.prog 81 #[.agg #[.int .i64 id, .int .i64 k, .int .i64 tk, .int .i64 rf, .int .i64 sp, .int .i64 ty, .bool ud, .string ⟨dt.toArray⟩]] w fun e w' => e = .returned (.bool false) ∧ Below w.heap.size w w' := by
  have h0 := EHeld.new w (id, k, tk, rf, sp, ty, ud, dt)
  unfold evC at h0
  simp only [Ev.id, Ev.kd, Ev.tk, Ev.rf, Ev.sp, Ev.ty, Ev.ud, Ev.dt] at h0
  obtain ⟨W, hW⟩ : ∃ W, W = w.alloc (.cells #[.int .i64 id, .int .i64 k, .int .i64 tk, .int .i64 rf, .int .i64 sp, .int .i64 ty, .bool ud, .string ⟨dt.toArray⟩] 82) := ⟨_, rfl⟩
  rw [← hW] at h0
  have HX := hid hW
  clear hW
  go_enter Try.func81, Try.ntmps81
  have p0 := h0.c0
  have p1 := h0.c1
  simp only [Ev.id, Ev.kd] at p0 p1
  go_wp2_with fail
  rw [← HX.out]
  refine (rfields_any k W).mono ?_
  rintro _ w1 ⟨rfl, b1⟩
  have h1 := h0.next b1
  clear p0 p1 h0
  have p0 := h1.c0
  have p1 := h1.c1
  have p2 := h1.c2
  have p3 := h1.c3
  have p4 := h1.c4
  have p5 := h1.c5
  have p6 := h1.c6
  have p7 := h1.c7
  simp only [Ev.id, Ev.kd, Ev.tk, Ev.rf, Ev.sp, Ev.ty, Ev.ud, Ev.dt] at p0 p1 p2 p3 p4 p5 p6 p7
  rw [HO.out]
  go_wp2_with fail
  refine (ein_any _ _ _ _ _ _).mono ?_
  rintro _ w9 ⟨rfl, hw9⟩
  rw [hw9, E0.out]
  clear hw9 w9
  go_wp2_with fail
  go_ret
  exact ⟨rfl, h1.below⟩
set_option maxHeartbeats 1600000 in
set_option maxRecDepth 100000 in
theorem rchk_C1 (id k tk rf sp ty : Int) (ud : Bool) (dt : List UInt8) (HO : Hid (okK k = true)) (d0 : decide (id < 1) = false) (d1 : decide (500 < id) = false) (d2 : decide (tk < 0) = false) (d3 : decide (1099511627776 < tk) = false) (hib : 1 ≤ id ∧ id ≤ 500) (E0 : Hid (einB (hasC (evS k) 114) rf 1 (id - 1) = true)) (E1 : Hid (einB (hasC (evS k) 115) sp 0 15 = false)) (w : World) : Calls Try.prog 81 #[.agg #[.int .i64 id, .int .i64 k, .int .i64 tk, .int .i64 rf, .int .i64 sp, .int .i64 ty, .bool ud, .string ⟨dt.toArray⟩]] w fun e w' => e = .returned (.bool false) ∧ Below w.heap.size w w' := by
  have h0 := EHeld.new w (id, k, tk, rf, sp, ty, ud, dt)
  unfold evC at h0
  simp only [Ev.id, Ev.kd, Ev.tk, Ev.rf, Ev.sp, Ev.ty, Ev.ud, Ev.dt] at h0
  obtain ⟨W, hW⟩ : ∃ W, W = w.alloc (.cells #[.int .i64 id, .int .i64 k, .int .i64 tk, .int .i64 rf, .int .i64 sp, .int .i64 ty, .bool ud, .string ⟨dt.toArray⟩] 82) := ⟨_, rfl⟩
  rw [← hW] at h0
  have HX := hid hW
  clear hW
  go_enter Try.func81, Try.ntmps81
  have p0 := h0.c0
  have p1 := h0.c1
  simp only [Ev.id, Ev.kd] at p0 p1
  go_wp2_with fail
  rw [← HX.out]
  refine (rfields_any k W).mono ?_
  rintro _ w1 ⟨rfl, b1⟩
  have h1 := h0.next b1
  clear p0 p1 h0
  have p0 := h1.c0
  have p1 := h1.c1
  have p2 := h1.c2
  have p3 := h1.c3
  have p4 := h1.c4
  have p5 := h1.c5
  have p6 := h1.c6
  have p7 := h1.c7
  simp only [Ev.id, Ev.kd, Ev.tk, Ev.rf, Ev.sp, Ev.ty, Ev.ud, Ev.dt] at p0 p1 p2 p3 p4 p5 p6 p7
  rw [HO.out]
  go_wp2_with fail
  refine (ein_any _ _ _ _ _ _).mono ?_
  rintro _ w9 ⟨rfl, hw9⟩
  rw [hw9, E0.out]
  clear hw9 w9
  go_wp2_with fail
  refine (ein_any _ _ _ _ _ _).mono ?_
  rintro _ w9 ⟨rfl, hw9⟩
  rw [hw9, E1.out]
  clear hw9 w9
  go_wp2_with fail
  go_ret
  exact ⟨rfl, h1.below⟩
set_option maxHeartbeats 1600000 in
set_option maxRecDepth 100000 in
theorem rchk_C2 (id k tk rf sp ty : Int) (ud : Bool) (dt : List UInt8) (HO : Hid (okK k = true)) (d0 : decide (id < 1) = false) (d1 : decide (500 < id) = false) (d2 : decide (tk < 0) = false) (d3 : decide (1099511627776 < tk) = false) (hib : 1 ≤ id ∧ id ≤ 500) (E0 : Hid (einB (hasC (evS k) 114) rf 1 (id - 1) = true)) (E1 : Hid (einB (hasC (evS k) 115) sp 0 15 = true)) (E2 : Hid (einB (hasC (evS k) 116) ty 1 5 = false)) (w : World) : Calls Try.prog 81 #[.agg #[.int .i64 id, .int .i64 k, .int .i64 tk, .int .i64 rf, .int .i64 sp, .int .i64 ty, .bool ud, .string ⟨dt.toArray⟩]] w fun e w' => e = .returned (.bool false) ∧ Below w.heap.size w w' := by
  have h0 := EHeld.new w (id, k, tk, rf, sp, ty, ud, dt)
  unfold evC at h0
  simp only [Ev.id, Ev.kd, Ev.tk, Ev.rf, Ev.sp, Ev.ty, Ev.ud, Ev.dt] at h0
  obtain ⟨W, hW⟩ : ∃ W, W = w.alloc (.cells #[.int .i64 id, .int .i64 k, .int .i64 tk, .int .i64 rf, .int .i64 sp, .int .i64 ty, .bool ud, .string ⟨dt.toArray⟩] 82) := ⟨_, rfl⟩
  rw [← hW] at h0
  have HX := hid hW
  clear hW
  go_enter Try.func81, Try.ntmps81
  have p0 := h0.c0
  have p1 := h0.c1
  simp only [Ev.id, Ev.kd] at p0 p1
  go_wp2_with fail
  rw [← HX.out]
  refine (rfields_any k W).mono ?_
  rintro _ w1 ⟨rfl, b1⟩
  have h1 := h0.next b1
  clear p0 p1 h0
  have p0 := h1.c0
  have p1 := h1.c1
  have p2 := h1.c2
  have p3 := h1.c3
  have p4 := h1.c4
  have p5 := h1.c5
  have p6 := h1.c6
  have p7 := h1.c7
  simp only [Ev.id, Ev.kd, Ev.tk, Ev.rf, Ev.sp, Ev.ty, Ev.ud, Ev.dt] at p0 p1 p2 p3 p4 p5 p6 p7
  rw [HO.out]
  go_wp2_with fail
  refine (ein_any _ _ _ _ _ _).mono ?_
  rintro _ w9 ⟨rfl, hw9⟩
  rw [hw9, E0.out]
  clear hw9 w9
  go_wp2_with fail
  refine (ein_any _ _ _ _ _ _).mono ?_
  rintro _ w9 ⟨rfl, hw9⟩
  rw [hw9, E1.out]
  clear hw9 w9
  go_wp2_with fail
  refine (ein_any _ _ _ _ _ _).mono ?_
  rintro _ w9 ⟨rfl, hw9⟩
  rw [hw9, E2.out]
  clear hw9 w9
  go_wp2_with fail
  go_ret
  exact ⟨rfl, h1.below⟩
set_option maxHeartbeats 1600000 in
set_option maxRecDepth 100000 in
theorem rchk_D (id k tk rf sp ty : Int) (dt : List UInt8) (HO : Hid (okK k = true)) (d0 : decide (id < 1) = false) (d1 : decide (500 < id) = false) (d2 : decide (tk < 0) = false) (d3 : decide (1099511627776 < tk) = false) (hib : 1 ≤ id ∧ id ≤ 500) (E0 : Hid (einB (hasC (evS k) 114) rf 1 (id - 1) = true)) (E1 : Hid (einB (hasC (evS k) 115) sp 0 15 = true)) (E2 : Hid (einB (hasC (evS k) 116) ty 1 5 = true)) (su : (evS k == [115, 117]) = false) (w : World) : Calls Try.prog 81 #[.agg #[.int .i64 id, .int .i64 k, .int .i64 tk, .int .i64 rf, .int .i64 sp, .int .i64 ty, .bool true, .string ⟨dt.toArray⟩]] w fun e w' => e = .returned (.bool false) ∧ Below w.heap.size w w' := by
  have h0 := EHeld.new w (id, k, tk, rf, sp, ty, true, dt)
  unfold evC at h0
  simp only [Ev.id, Ev.kd, Ev.tk, Ev.rf, Ev.sp, Ev.ty, Ev.ud, Ev.dt] at h0
  obtain ⟨W, hW⟩ : ∃ W, W = w.alloc (.cells #[.int .i64 id, .int .i64 k, .int .i64 tk, .int .i64 rf, .int .i64 sp, .int .i64 ty, .bool true, .string ⟨dt.toArray⟩] 82) := ⟨_, rfl⟩
  rw [← hW] at h0
  have HX := hid hW
  clear hW
  go_enter Try.func81, Try.ntmps81
  have p0 := h0.c0
  have p1 := h0.c1
  simp only [Ev.id, Ev.kd] at p0 p1
  go_wp2_with fail
  rw [← HX.out]
  refine (rfields_any k W).mono ?_
  rintro _ w1 ⟨rfl, b1⟩
  have h1 := h0.next b1
  clear p0 p1 h0
  have p0 := h1.c0
  have p1 := h1.c1
  have p2 := h1.c2
  have p3 := h1.c3
  have p4 := h1.c4
  have p5 := h1.c5
  have p6 := h1.c6
  have p7 := h1.c7
  simp only [Ev.id, Ev.kd, Ev.tk, Ev.rf, Ev.sp, Ev.ty, Ev.ud, Ev.dt] at p0 p1 p2 p3 p4 p5 p6 p7
  rw [HO.out]
  go_wp2_with fail
  refine (ein_any _ _ _ _ _ _).mono ?_
  rintro _ w9 ⟨rfl, hw9⟩
  rw [hw9, E0.out]
  clear hw9 w9
  go_wp2_with fail
  refine (ein_any _ _ _ _ _ _).mono ?_
  rintro _ w9 ⟨rfl, hw9⟩
  rw [hw9, E1.out]
  clear hw9 w9
  go_wp2_with fail
  refine (ein_any _ _ _ _ _ _).mono ?_
  rintro _ w9 ⟨rfl, hw9⟩
  rw [hw9, E2.out]
  clear hw9 w9
  go_wp2_with fail
  go_ret
  exact ⟨rfl, h1.below⟩
set_option maxHeartbeats 1600000 in
set_option maxRecDepth 100000 in
theorem rchk_X0 (id k tk rf sp ty : Int) (dt : List UInt8) (HO : Hid (okK k = true)) (d0 : decide (id < 1) = false) (d1 : decide (500 < id) = false) (d2 : decide (tk < 0) = false) (d3 : decide (1099511627776 < tk) = false) (hib : 1 ≤ id ∧ id ≤ 500) (E0 : Hid (einB (hasC (evS k) 114) rf 1 (id - 1) = true)) (E1 : Hid (einB (hasC (evS k) 115) sp 0 15 = true)) (E2 : Hid (einB (hasC (evS k) 116) ty 1 5 = true)) (s1 : (evS k == [112]) = false) (s2 : (evS k == [110]) = false) (w : World) : Calls Try.prog 81 #[.agg #[.int .i64 id, .int .i64 k, .int .i64 tk, .int .i64 rf, .int .i64 sp, .int .i64 ty, .bool false, .string ⟨dt.toArray⟩]] w fun e w' => e = .returned (.bool dt.isEmpty) ∧ Below w.heap.size w w' := by
  have h0 := EHeld.new w (id, k, tk, rf, sp, ty, false, dt)
  unfold evC at h0
  simp only [Ev.id, Ev.kd, Ev.tk, Ev.rf, Ev.sp, Ev.ty, Ev.ud, Ev.dt] at h0
  obtain ⟨W, hW⟩ : ∃ W, W = w.alloc (.cells #[.int .i64 id, .int .i64 k, .int .i64 tk, .int .i64 rf, .int .i64 sp, .int .i64 ty, .bool false, .string ⟨dt.toArray⟩] 82) := ⟨_, rfl⟩
  rw [← hW] at h0
  have HX := hid hW
  clear hW
  go_enter Try.func81, Try.ntmps81
  have p0 := h0.c0
  have p1 := h0.c1
  simp only [Ev.id, Ev.kd] at p0 p1
  go_wp2_with fail
  rw [← HX.out]
  refine (rfields_any k W).mono ?_
  rintro _ w1 ⟨rfl, b1⟩
  have h1 := h0.next b1
  clear p0 p1 h0
  have p0 := h1.c0
  have p1 := h1.c1
  have p2 := h1.c2
  have p3 := h1.c3
  have p4 := h1.c4
  have p5 := h1.c5
  have p6 := h1.c6
  have p7 := h1.c7
  simp only [Ev.id, Ev.kd, Ev.tk, Ev.rf, Ev.sp, Ev.ty, Ev.ud, Ev.dt] at p0 p1 p2 p3 p4 p5 p6 p7
  rw [HO.out]
  go_wp2_with fail
  refine (ein_any _ _ _ _ _ _).mono ?_
  rintro _ w9 ⟨rfl, hw9⟩
  rw [hw9, E0.out]
  clear hw9 w9
  go_wp2_with fail
  refine (ein_any _ _ _ _ _ _).mono ?_
  rintro _ w9 ⟨rfl, hw9⟩
  rw [hw9, E1.out]
  clear hw9 w9
  go_wp2_with fail
  refine (ein_any _ _ _ _ _ _).mono ?_
  rintro _ w9 ⟨rfl, hw9⟩
  rw [hw9, E2.out]
  clear hw9 w9
  go_wp2_with fail
  go_ret
  exact ⟨rfl, h1.below⟩
set_option maxHeartbeats 1600000 in
set_option maxRecDepth 100000 in
theorem rchk_X1 (id k tk rf sp ty : Int) (dt : List UInt8) (HO : Hid (okK k = true)) (d0 : decide (id < 1) = false) (d1 : decide (500 < id) = false) (d2 : decide (tk < 0) = false) (d3 : decide (1099511627776 < tk) = false) (hib : 1 ≤ id ∧ id ≤ 500) (E0 : Hid (einB (hasC (evS k) 114) rf 1 (id - 1) = true)) (E1 : Hid (einB (hasC (evS k) 115) sp 0 15 = true)) (E2 : Hid (einB (hasC (evS k) 116) ty 1 5 = true)) (su : (evS k == [115, 117]) = true) (s1 : (evS k == [112]) = false) (s2 : (evS k == [110]) = false) (w : World) : Calls Try.prog 81 #[.agg #[.int .i64 id, .int .i64 k, .int .i64 tk, .int .i64 rf, .int .i64 sp, .int .i64 ty, .bool true, .string ⟨dt.toArray⟩]] w fun e w' => e = .returned (.bool dt.isEmpty) ∧ Below w.heap.size w w' := by
  have h0 := EHeld.new w (id, k, tk, rf, sp, ty, true, dt)
  unfold evC at h0
  simp only [Ev.id, Ev.kd, Ev.tk, Ev.rf, Ev.sp, Ev.ty, Ev.ud, Ev.dt] at h0
  obtain ⟨W, hW⟩ : ∃ W, W = w.alloc (.cells #[.int .i64 id, .int .i64 k, .int .i64 tk, .int .i64 rf, .int .i64 sp, .int .i64 ty, .bool true, .string ⟨dt.toArray⟩] 82) := ⟨_, rfl⟩
  rw [← hW] at h0
  have HX := hid hW
  clear hW
  go_enter Try.func81, Try.ntmps81
  have p0 := h0.c0
  have p1 := h0.c1
  simp only [Ev.id, Ev.kd] at p0 p1
  go_wp2_with fail
  rw [← HX.out]
  refine (rfields_any k W).mono ?_
  rintro _ w1 ⟨rfl, b1⟩
  have h1 := h0.next b1
  clear p0 p1 h0
  have p0 := h1.c0
  have p1 := h1.c1
  have p2 := h1.c2
  have p3 := h1.c3
  have p4 := h1.c4
  have p5 := h1.c5
  have p6 := h1.c6
  have p7 := h1.c7
  simp only [Ev.id, Ev.kd, Ev.tk, Ev.rf, Ev.sp, Ev.ty, Ev.ud, Ev.dt] at p0 p1 p2 p3 p4 p5 p6 p7
  rw [HO.out]
  go_wp2_with fail
  refine (ein_any _ _ _ _ _ _).mono ?_
  rintro _ w9 ⟨rfl, hw9⟩
  rw [hw9, E0.out]
  clear hw9 w9
  go_wp2_with fail
  refine (ein_any _ _ _ _ _ _).mono ?_
  rintro _ w9 ⟨rfl, hw9⟩
  rw [hw9, E1.out]
  clear hw9 w9
  go_wp2_with fail
  refine (ein_any _ _ _ _ _ _).mono ?_
  rintro _ w9 ⟨rfl, hw9⟩
  rw [hw9, E2.out]
  clear hw9 w9
  go_wp2_with fail
  go_ret
  exact ⟨rfl, h1.below⟩
set_option maxHeartbeats 1600000 in
set_option maxRecDepth 100000 in
theorem rchk_Yy (id tk rf sp ty : Int) (dt : List UInt8) (HO : Hid (okK 1 = true)) (d0 : decide (id < 1) = false) (d1 : decide (500 < id) = false) (d2 : decide (tk < 0) = false) (d3 : decide (1099511627776 < tk) = false) (hib : 1 ≤ id ∧ id ≤ 500) (E0 : Hid (einB (hasC ([112]) 114) rf 1 (id - 1) = true)) (E1 : Hid (einB (hasC ([112]) 115) sp 0 15 = true)) (E2 : Hid (einB (hasC ([112]) 116) ty 1 5 = true)) (hdt : dt.length ≤ 140737488355328) (hp : ∃ lim ss, progF dt = some (lim, ss)) (w : World) : Calls Try.prog 81 #[.agg #[.int .i64 id, .int .i64 1, .int .i64 tk, .int .i64 rf, .int .i64 sp, .int .i64 ty, .bool false, .string ⟨dt.toArray⟩]] w fun e w' => e = .returned (.bool true) ∧ Below w.heap.size w w' := by
  have h0 := EHeld.new w (id, 1, tk, rf, sp, ty, false, dt)
  unfold evC at h0
  simp only [Ev.id, Ev.kd, Ev.tk, Ev.rf, Ev.sp, Ev.ty, Ev.ud, Ev.dt] at h0
  obtain ⟨W, hW⟩ : ∃ W, W = w.alloc (.cells #[.int .i64 id, .int .i64 1, .int .i64 tk, .int .i64 rf, .int .i64 sp, .int .i64 ty, .bool false, .string ⟨dt.toArray⟩] 82) := ⟨_, rfl⟩
  rw [← hW] at h0
  have HX := hid hW
  clear hW
  go_enter Try.func81, Try.ntmps81
  have p0 := h0.c0
  have p1 := h0.c1
  simp only [Ev.id, Ev.kd] at p0 p1
  go_wp2_with fail
  rw [← HX.out]
  refine (rfields_any 1 W).mono ?_
  rintro _ w1 ⟨rfl, b1⟩
  have h1 := h0.next b1
  clear p0 p1 h0
  have p0 := h1.c0
  have p1 := h1.c1
  have p2 := h1.c2
  have p3 := h1.c3
  have p4 := h1.c4
  have p5 := h1.c5
  have p6 := h1.c6
  have p7 := h1.c7
  simp only [Ev.id, Ev.kd, Ev.tk, Ev.rf, Ev.sp, Ev.ty, Ev.ud, Ev.dt] at p0 p1 p2 p3 p4 p5 p6 p7
  rw [HO.out]
  rw [show evS 1 = [112] from rfl]
  go_wp2_with fail
  refine (ein_any _ _ _ _ _ _).mono ?_
  rintro _ w9 ⟨rfl, hw9⟩
  rw [hw9, E0.out]
  clear hw9 w9
  go_wp2_with fail
  refine (ein_any _ _ _ _ _ _).mono ?_
  rintro _ w9 ⟨rfl, hw9⟩
  rw [hw9, E1.out]
  clear hw9 w9
  go_wp2_with fail
  refine (ein_any _ _ _ _ _ _).mono ?_
  rintro _ w9 ⟨rfl, hw9⟩
  rw [hw9, E2.out]
  clear hw9 w9
  go_wp2_with fail
  refine (rdecode_any dt hdt _).mono ?_
  rintro _ w8 ⟨v, lim, ss, er, rfl, hsl, b8, hres⟩
  have h8 := h1.next b8
  clear p0 p1 p2 p3 p4 p5 p6 p7
  obtain ⟨_, _, a, cap, rfl, _⟩ := hsl
  rcases hres with ⟨g1, rfl⟩ | ⟨g1, rfl, _⟩
  · clear g1
    go_wp2_with fail
    go_ret
    exact ⟨rfl, h8.below.alloc h8.below.size _⟩
  · obtain ⟨_, _, q⟩ := hp; rw [progF_rprogF, g1] at q; cases q
set_option maxHeartbeats 1600000 in
set_option maxRecDepth 100000 in
theorem rchk_Yn (id tk rf sp ty : Int) (dt : List UInt8) (HO : Hid (okK 1 = true)) (d0 : decide (id < 1) = false) (d1 : decide (500 < id) = false) (d2 : decide (tk < 0) = false) (d3 : decide (1099511627776 < tk) = false) (hib : 1 ≤ id ∧ id ≤ 500) (E0 : Hid (einB (hasC ([112]) 114) rf 1 (id - 1) = true)) (E1 : Hid (einB (hasC ([112]) 115) sp 0 15 = true)) (E2 : Hid (einB (hasC ([112]) 116) ty 1 5 = true)) (hdt : dt.length ≤ 140737488355328) (hp : progF dt = none) (w : World) : Calls Try.prog 81 #[.agg #[.int .i64 id, .int .i64 1, .int .i64 tk, .int .i64 rf, .int .i64 sp, .int .i64 ty, .bool false, .string ⟨dt.toArray⟩]] w fun e w' => e = .returned (.bool false) ∧ Below w.heap.size w w' := by
  have h0 := EHeld.new w (id, 1, tk, rf, sp, ty, false, dt)
  unfold evC at h0
  simp only [Ev.id, Ev.kd, Ev.tk, Ev.rf, Ev.sp, Ev.ty, Ev.ud, Ev.dt] at h0
  obtain ⟨W, hW⟩ : ∃ W, W = w.alloc (.cells #[.int .i64 id, .int .i64 1, .int .i64 tk, .int .i64 rf, .int .i64 sp, .int .i64 ty, .bool false, .string ⟨dt.toArray⟩] 82) := ⟨_, rfl⟩
  rw [← hW] at h0
  have HX := hid hW
  clear hW
  go_enter Try.func81, Try.ntmps81
  have p0 := h0.c0
  have p1 := h0.c1
  simp only [Ev.id, Ev.kd] at p0 p1
  go_wp2_with fail
  rw [← HX.out]
  refine (rfields_any 1 W).mono ?_
  rintro _ w1 ⟨rfl, b1⟩
  have h1 := h0.next b1
  clear p0 p1 h0
  have p0 := h1.c0
  have p1 := h1.c1
  have p2 := h1.c2
  have p3 := h1.c3
  have p4 := h1.c4
  have p5 := h1.c5
  have p6 := h1.c6
  have p7 := h1.c7
  simp only [Ev.id, Ev.kd, Ev.tk, Ev.rf, Ev.sp, Ev.ty, Ev.ud, Ev.dt] at p0 p1 p2 p3 p4 p5 p6 p7
  rw [HO.out]
  rw [show evS 1 = [112] from rfl]
  go_wp2_with fail
  refine (ein_any _ _ _ _ _ _).mono ?_
  rintro _ w9 ⟨rfl, hw9⟩
  rw [hw9, E0.out]
  clear hw9 w9
  go_wp2_with fail
  refine (ein_any _ _ _ _ _ _).mono ?_
  rintro _ w9 ⟨rfl, hw9⟩
  rw [hw9, E1.out]
  clear hw9 w9
  go_wp2_with fail
  refine (ein_any _ _ _ _ _ _).mono ?_
  rintro _ w9 ⟨rfl, hw9⟩
  rw [hw9, E2.out]
  clear hw9 w9
  go_wp2_with fail
  refine (rdecode_any dt hdt _).mono ?_
  rintro _ w8 ⟨v, lim, ss, er, rfl, hsl, b8, hres⟩
  have h8 := h1.next b8
  clear p0 p1 p2 p3 p4 p5 p6 p7
  obtain ⟨_, _, a, cap, rfl, _⟩ := hsl
  rcases hres with ⟨g1, rfl⟩ | ⟨g1, rfl, _⟩
  · rw [progF_rprogF, g1] at hp; cases hp
  · clear g1
    go_wp2_with fail
    go_ret
    exact ⟨rfl, h8.below.alloc h8.below.size _⟩
set_option maxHeartbeats 1600000 in
set_option maxRecDepth 100000 in
theorem rchk_Z (id tk rf sp ty : Int) (dt : List UInt8) (HO : Hid (okK 12 = true)) (d0 : decide (id < 1) = false) (d1 : decide (500 < id) = false) (d2 : decide (tk < 0) = false) (d3 : decide (1099511627776 < tk) = false) (hib : 1 ≤ id ∧ id ≤ 500) (E0 : Hid (einB (hasC ([110]) 114) rf 1 (id - 1) = true)) (E1 : Hid (einB (hasC ([110]) 115) sp 0 15 = true)) (E2 : Hid (einB (hasC ([110]) 116) ty 1 5 = true)) (hdt : dt.length ≤ maxLen) (w : World) : Calls Try.prog 81 #[.agg #[.int .i64 id, .int .i64 12, .int .i64 tk, .int .i64 rf, .int .i64 sp, .int .i64 ty, .bool false, .string ⟨dt.toArray⟩]] w fun e w' => e = .returned (.bool (decide (NamedP dt))) ∧ Below w.heap.size w w' := by
  have h0 := EHeld.new w (id, 12, tk, rf, sp, ty, false, dt)
  unfold evC at h0
  simp only [Ev.id, Ev.kd, Ev.tk, Ev.rf, Ev.sp, Ev.ty, Ev.ud, Ev.dt] at h0
  obtain ⟨W, hW⟩ : ∃ W, W = w.alloc (.cells #[.int .i64 id, .int .i64 12, .int .i64 tk, .int .i64 rf, .int .i64 sp, .int .i64 ty, .bool false, .string ⟨dt.toArray⟩] 82) := ⟨_, rfl⟩
  rw [← hW] at h0
  have HX := hid hW
  clear hW
  go_enter Try.func81, Try.ntmps81
  have p0 := h0.c0
  have p1 := h0.c1
  simp only [Ev.id, Ev.kd] at p0 p1
  go_wp2_with fail
  rw [← HX.out]
  refine (rfields_any 12 W).mono ?_
  rintro _ w1 ⟨rfl, b1⟩
  have h1 := h0.next b1
  clear p0 p1 h0
  have p0 := h1.c0
  have p1 := h1.c1
  have p2 := h1.c2
  have p3 := h1.c3
  have p4 := h1.c4
  have p5 := h1.c5
  have p6 := h1.c6
  have p7 := h1.c7
  simp only [Ev.id, Ev.kd, Ev.tk, Ev.rf, Ev.sp, Ev.ty, Ev.ud, Ev.dt] at p0 p1 p2 p3 p4 p5 p6 p7
  rw [HO.out]
  rw [show evS 12 = [110] from rfl]
  go_wp2_with fail
  refine (ein_any _ _ _ _ _ _).mono ?_
  rintro _ w9 ⟨rfl, hw9⟩
  rw [hw9, E0.out]
  clear hw9 w9
  go_wp2_with fail
  refine (ein_any _ _ _ _ _ _).mono ?_
  rintro _ w9 ⟨rfl, hw9⟩
  rw [hw9, E1.out]
  clear hw9 w9
  go_wp2_with fail
  refine (ein_any _ _ _ _ _ _).mono ?_
  rintro _ w9 ⟨rfl, hw9⟩
  rw [hw9, E2.out]
  clear hw9 w9
  go_wp2_with fail
  refine (rnamed_any dt hdt _).mono ?_
  rintro _ w9 ⟨rfl, hw9⟩
  rw [hw9]
  clear hw9 w9
  go_wp2_with fail
  go_ret
  exact ⟨rfl, h1.below⟩
end Go.Proofs.Ytelacmchofehcaa
namespace Go.Proofs.Ytelacmchofehcaa
open Go.RowKit
set_option linter.unusedVariables false

theorem isEmpty_dec (l : List UInt8) : l.isEmpty = decide (l = []) := by cases l <;> rfl
theorem eright_any (id k tk rf sp ty : Int) (ud : Bool) (dt : List UInt8) (hdt : dt.length ≤ 140737488355328) (w : World) : Calls Try.prog 81 #[.agg #[.int .i64 id, .int .i64 k, .int .i64 tk, .int .i64 rf, .int .i64 sp, .int .i64 ty, .bool ud, .string ⟨dt.toArray⟩]] w fun e w' => e = .returned (.bool (decide (EvP (id, k, tk, rf, sp, ty, ud, dt)))) ∧ Below w.heap.size w w' := by
  have hpt := evP_parts (id, k, tk, rf, sp, ty, ud, dt)
  simp only [Ev.id, Ev.kd, Ev.tk, Ev.rf, Ev.sp, Ev.ty, Ev.ud, Ev.dt] at hpt
  cases ho : okK k with
  | false =>
    rw [decide_eq_false (fun q => by have := (hpt.1 q).1; rw [ho] at this; cases this)]
    exact rchk_A id k tk rf sp ty ud dt (hid ho) w
  | true =>
    by_cases c0 : id < 1
    · rw [decide_eq_false (fun q => (hpt.1 q).2.1.1 c0)]
      exact rchk_B0 id k tk rf sp ty ud dt (hid ho) (decide_eq_true c0) w
    by_cases c1 : 500 < id
    · rw [decide_eq_false (fun q => (hpt.1 q).2.1.2 c1)]
      exact rchk_B1 id k tk rf sp ty ud dt (hid ho) (decide_eq_false c0) (decide_eq_true c1) w
    by_cases c2 : tk < 0
    · rw [decide_eq_false (fun q => (hpt.1 q).2.2.1.1 c2)]
      exact rchk_B2 id k tk rf sp ty ud dt (hid ho) (decide_eq_false c0) (decide_eq_false c1) (decide_eq_true c2) w
    by_cases c3 : 1099511627776 < tk
    · rw [decide_eq_false (fun q => (hpt.1 q).2.2.1.2 c3)]
      exact rchk_B3 id k tk rf sp ty ud dt (hid ho) (decide_eq_false c0) (decide_eq_false c1) (decide_eq_false c2) (decide_eq_true c3) w
    have d0 := decide_eq_false c0
    have d1 := decide_eq_false c1
    have d2 := decide_eq_false c2
    have d3 := decide_eq_false c3
    have hib : 1 ≤ id ∧ id ≤ 500 := by omega
    have z0 : einB (hasC (evS k) 114) rf 1 (id - 1) = einB (!noB (evB k) 1) rf 1 (id - 1) := by rw [evS_r]
    have z1 : einB (hasC (evS k) 115) sp 0 15 = einB (!noB (evB k) 2) sp 0 15 := by rw [evS_s]
    have z2 : einB (hasC (evS k) 116) ty 1 5 = einB (!noB (evB k) 4) ty 1 5 := by rw [evS_t]
    cases e0 : einB (!noB (evB k) 1) rf 1 (id - 1) with
    | false =>
      rw [decide_eq_false (fun q => by have := (hpt.1 q).2.2.2.1; rw [e0] at this; cases this)]
      exact rchk_C0 id k tk rf sp ty ud dt (hid ho) d0 d1 d2 d3 hib (hid (z0.trans e0)) w
    | true =>
      cases e1 : einB (!noB (evB k) 2) sp 0 15 with
      | false =>
        rw [decide_eq_false (fun q => by have := (hpt.1 q).2.2.2.2.1; rw [e1] at this; cases this)]
        exact rchk_C1 id k tk rf sp ty ud dt (hid ho) d0 d1 d2 d3 hib (hid (z0.trans e0)) (hid (z1.trans e1)) w
      | true =>
        cases e2 : einB (!noB (evB k) 4) ty 1 5 with
        | false =>
          rw [decide_eq_false (fun q => by have := (hpt.1 q).2.2.2.2.2.1; rw [e2] at this; cases this)]
          exact rchk_C2 id k tk rf sp ty ud dt (hid ho) d0 d1 d2 d3 hib (hid (z0.trans e0)) (hid (z1.trans e1)) (hid (z2.trans e2)) w
        | true =>
          by_cases u : ud = true ∧ noB (evB k) 8 = true
          · rw [decide_eq_false (fun q => (hpt.1 q).2.2.2.2.2.2.1 u)]
            obtain ⟨rfl, u8⟩ := u
            exact rchk_D id k tk rf sp ty dt (hid ho) d0 d1 d2 d3 hib (hid (z0.trans e0)) (hid (z1.trans e1)) (hid (z2.trans e2)) (by rw [evS_su, u8]; rfl) w
          · have hu : ud = false ∨ (ud = true ∧ noB (evB k) 8 = false) := by
              cases ud with
              | false => exact .inl rfl
              | true =>
                refine .inr ⟨rfl, ?_⟩
                cases h : noB (evB k) 8 with
                | false => rfl
                | true => exact absurd ⟨rfl, h⟩ u
            by_cases hk : k = 1 ∨ k = 12
            · have u16 : noB (evB k) 16 = false := by rw [hb_data, decide_eq_false]; exact fun q => q ((data16 k).2 hk)
              have dd : ¬ (dt ≠ [] ∧ noB (evB k) 16 = true) := fun q => by rw [u16] at q; exact absurd q.2 (by decide)
              have hud : ud = false := by
                rcases hu with h | ⟨h, u8⟩
                · exact h
                · rcases hk with rfl | rfl
                  · exact absurd u8 (by rw [hb_undo]; decide)
                  · exact absurd u8 (by rw [hb_undo]; decide)
              subst hud
              rcases hk with rfl | rfl
              · cases hp : progF dt with
                | none =>
                  rw [decide_eq_false (fun q => by obtain ⟨_, _, h⟩ := (hpt.1 q).2.2.2.2.2.2.2.2.1 rfl; rw [hp] at h; cases h)]
                  exact rchk_Yn id tk rf sp ty dt (hid ho) d0 d1 d2 d3 hib (hid (z0.trans e0)) (hid (z1.trans e1)) (hid (z2.trans e2)) hdt hp w
                | some y =>
                  rw [decide_eq_true (hpt.2 ⟨ho, ⟨c0, c1⟩, ⟨c2, c3⟩, e0, e1, e2, u, dd, fun _ => ⟨_, _, hp⟩, fun q => absurd q (by decide)⟩)]
                  exact rchk_Yy id tk rf sp ty dt (hid ho) d0 d1 d2 d3 hib (hid (z0.trans e0)) (hid (z1.trans e1)) (hid (z2.trans e2)) hdt ⟨_, _, hp⟩ w
              · have hml : dt.length ≤ maxLen := by unfold maxLen; omega
                have hde : decide (EvP (id, 12, tk, rf, sp, ty, false, dt)) = decide (NamedP dt) := by
                  rw [Bool.eq_iff_iff, decide_eq_true_eq, decide_eq_true_eq]
                  constructor
                  · intro q; exact (hpt.1 q).2.2.2.2.2.2.2.2.2 rfl
                  · intro q; exact hpt.2 ⟨ho, ⟨c0, c1⟩, ⟨c2, c3⟩, e0, e1, e2, u, dd, fun q => absurd q (by decide), fun _ => q⟩
                rw [hde]
                exact rchk_Z id tk rf sp ty dt (hid ho) d0 d1 d2 d3 hib (hid (z0.trans e0)) (hid (z1.trans e1)) (hid (z2.trans e2)) hml w
            · have hk1 : ¬ k = 1 := fun h => hk (.inl h)
              have hk12 : ¬ k = 12 := fun h => hk (.inr h)
              have u16 : noB (evB k) 16 = true := by rw [hb_data, decide_eq_true]; exact fun q => hk ((data16 k).1 q)
              have hde : decide (EvP (id, k, tk, rf, sp, ty, ud, dt)) = dt.isEmpty := by
                rw [isEmpty_dec, Bool.eq_iff_iff, decide_eq_true_eq, decide_eq_true_eq]
                constructor
                · intro q
                  by_cases h : dt = []
                  · exact h
                  · exact absurd ⟨h, u16⟩ (hpt.1 q).2.2.2.2.2.2.2.1
                · intro q; exact hpt.2 ⟨ho, ⟨c0, c1⟩, ⟨c2, c3⟩, e0, e1, e2, u, fun h => h.1 q, fun h => absurd h hk1, fun h => absurd h hk12⟩
              rw [hde]
              obtain ⟨s1, s2⟩ := evS_no hk1 hk12
              rcases hu with rfl | ⟨rfl, u8⟩
              · exact rchk_X0 id k tk rf sp ty dt (hid ho) d0 d1 d2 d3 hib (hid (z0.trans e0)) (hid (z1.trans e1)) (hid (z2.trans e2)) s1 s2 w
              · exact rchk_X1 id k tk rf sp ty dt (hid ho) d0 d1 d2 d3 hib (hid (z0.trans e0)) (hid (z1.trans e1)) (hid (z2.trans e2)) (by rw [evS_su, u8]; rfl) s1 s2 w
end Go.Proofs.Ytelacmchofehcaa
namespace Go.Proofs.Ytelacmchofehcaa
open Go.RowKit
set_option linter.unusedVariables false

theorem rint_w (n : Int) (h : 0 ≤ n ∧ n ≤ 4611686018427387904) (w : World) : Calls Try.prog 38 #[.int .i64 n] w fun e w' => e = .returned (.string ⟨(putL n.toNat).toArray⟩) ∧ Below w.heap.size w w' := rint_any n h.1 (by omega) w
theorem putL_len1410 (n : Nat) (h : n ≤ 1000) : (putL n).length ≤ 1410 := by
  have := putL_len10 (n := n) (by unfold U64; omega)
  omega
theorem text1410 (d : List UInt8) (h : d.length ≤ 1400) : (textL d).length ≤ 1410 := by
  have := putL_len10' d.length (by omega)
  unfold textL; rw [List.length_append]; omega
/-- a letter's field -/
def fldE (x : Ev) (c : UInt8) : List UInt8 := if c = 114 then putL x.rf.toNat else if c = 115 then putL x.sp.toNat else if c = 116 then putL x.ty.toNat else if c = 117 then putL (udN x.ud) else textL x.dt
theorem evS_len (k : Int) : (evS k).length ≤ 2 := by
  unfold evS; repeat' split
  all_goals decide
theorem evS_mem {k : Int} {c : UInt8} (h : c ∈ evS k) : c = 112 ∨ c = 110 ∨ c = 114 ∨ c = 115 ∨ c = 116 ∨ c = 117 := by
  unfold evS at h
  split at h
  · simp at h; exact .inl h
  split at h
  · simp at h; exact .inr (.inl h)
  split at h
  · simp at h; exact .inr (.inr (.inl h))
  split at h
  · simp at h; rcases h with h | h
    · exact .inr (.inr (.inr (.inl h)))
    · exact .inr (.inr (.inr (.inr (.inr h))))
  split at h
  · simp at h; rcases h with h | h
    · exact .inr (.inr (.inl h))
    · exact .inr (.inr (.inr (.inr (.inl h))))
  split at h
  · simp at h; exact .inr (.inr (.inr (.inl h)))
  · cases h
theorem encTl_flat (x : Ev) : encTl x = (evS x.kd).flatMap (fldE x) := by
  unfold encTl evS
  by_cases h1 : x.kd = 1
  · rw [h1]
    simp only [show evB 1 = 16 from rfl, Int.reduceEq, if_false, if_true, List.flatMap_cons, List.flatMap_nil, List.append_nil]
    rfl
  by_cases h2 : x.kd = 12
  · rw [h2]
    simp only [show evB 12 = 16 from rfl, Int.reduceEq, if_false, if_true, List.flatMap_cons, List.flatMap_nil, List.append_nil]
    rfl
  have h16 : ¬ evB x.kd = 16 := fun h => by rcases (data16 x.kd).1 h with h | h; exact h1 h; exact h2 h
  rw [if_neg h1, if_neg h2]
  rcases evB_cases x.kd with e | e | e | e | e | e
  · exact absurd e h16
  all_goals
    rw [e]
    simp only [Int.reduceEq, if_false, if_true, List.flatMap_cons, List.flatMap_nil, List.append_nil]
    try rfl
theorem flat_len {α : Type} (f : α → List UInt8) (m : Nat) (h : ∀ a, (f a).length ≤ m) (l : List α) : (l.flatMap f).length ≤ m * l.length := by
  induction l with
  | nil => simp
  | cons a l ih =>
    have := h a
    rw [List.flatMap_cons, List.length_append, List.length_cons, Nat.mul_add]; omega
theorem take_flat {α : Type} (f : α → List UInt8) (l : List α) (j : Nat) (h : j < l.length) : (l.take (j + 1)).flatMap f = (l.take j).flatMap f ++ f l[j] := by
  rw [List.take_succ_eq_append_getElem h, List.flatMap_append, List.flatMap_cons, List.flatMap_nil, List.append_nil]
theorem held3r {w2 w' w'' : World} {g : Nat} {x y z : Value} (hg : g < w2.heap.size) (h0 : w2.cell? ⟨g, 0, none⟩ = some x) (h1 : w2.cell? ⟨g, 1, none⟩ = some y) (h2 : w2.cell? ⟨g, 2, none⟩ = some z)
    (h : Below w2.heap.size w2 w' ∧ w'.cell? ⟨g, 0, none⟩ = some x ∧ w'.cell? ⟨g, 1, none⟩ = some y ∧ w'.cell? ⟨g, 2, none⟩ = some z) (k : Below w'.heap.size w' w'') :
    Below w2.heap.size w2 w'' ∧ w''.cell? ⟨g, 0, none⟩ = some x ∧ w''.cell? ⟨g, 1, none⟩ = some y ∧ w''.cell? ⟨g, 2, none⟩ = some z := held3 hg h0 h1 h2 h k
set_option maxHeartbeats 3200000 in
set_option maxRecDepth 100000 in
theorem rencodeE_any (id k tk rf sp ty : Int) (ud : Bool) (dt : List UInt8) (hdt : dt.length ≤ 140737488355328) (w : World) : Calls Try.prog 65 #[.agg #[.int .i64 id, .int .i64 k, .int .i64 tk, .int .i64 rf, .int .i64 sp, .int .i64 ty, .bool ud, .string ⟨dt.toArray⟩]] w fun e w' => e = .returned (.tuple #[.string ⟨(encEV (id, k, tk, rf, sp, ty, ud, dt)).toArray⟩, .int .i64 (evV (id, k, tk, rf, sp, ty, ud, dt))]) ∧ Below w.heap.size w w' := by
  have h0 := EHeld.new w (id, k, tk, rf, sp, ty, ud, dt)
  unfold evC at h0
  simp only [Ev.id, Ev.kd, Ev.tk, Ev.rf, Ev.sp, Ev.ty, Ev.ud, Ev.dt] at h0
  obtain ⟨W, hW⟩ : ∃ W, W = w.alloc (.cells #[.int .i64 id, .int .i64 k, .int .i64 tk, .int .i64 rf, .int .i64 sp, .int .i64 ty, .bool ud, .string ⟨dt.toArray⟩] 82) := ⟨_, rfl⟩
  rw [← hW] at h0
  have HX := hid hW
  clear hW
  by_cases hp : EvP (id, k, tk, rf, sp, ty, ud, dt)
  · have hv := ev_yes hp
    have hE : encEV (id, k, tk, rf, sp, ty, ud, dt) = encE (id, k, tk, rf, sp, ty, ud, dt) := by unfold encEV; rw [if_pos hp]
    obtain ⟨R, hR⟩ : ∃ R, R = encE (id, k, tk, rf, sp, ty, ud, dt) := ⟨_, rfl⟩
    rw [hE, hv, ← hR]
    have HR := hid hR
    have HV := hid (decide_eq_true hp)
    clear hE hv hR
    have p0 := h0.c0
    have p1 := h0.c1
    have p2 := h0.c2
    have p3 := h0.c3
    have p4 := h0.c4
    have p5 := h0.c5
    have p6 := h0.c6
    have p7 := h0.c7
    simp only [Ev.id, Ev.kd, Ev.tk, Ev.rf, Ev.sp, Ev.ty, Ev.ud, Ev.dt] at p0 p1 p2 p3 p4 p5 p6 p7
    go_enter Try.func65, Try.ntmps65
    go_wp2_with fail
    rw [← HX.out]
    refine (eright_any id k tk rf sp ty ud dt hdt W).mono ?_
    rintro _ w1 ⟨rfl, b1⟩
    rw [HV.out]
    have h1 := h0.next b1
    clear p0 p1 p2 p3 p4 p5 p6 p7 h0
    have p1 := h1.c1
    simp only [Ev.kd] at p1
    go_wp2_with fail
    refine (rfields_any k _).mono ?_
    rintro _ w2 ⟨rfl, b2⟩
    have h2 := h1.next b2
    clear p1 h1
    have p0 := h2.c0
    have p1 := h2.c1
    have p2 := h2.c2
    simp only [Ev.id, Ev.kd, Ev.tk] at p0 p1 p2
    go_wp2_with fail
    -- BEGIN
    obtain ⟨⟨k1, k18⟩, ⟨i1, i500⟩, ⟨t0, t40⟩, hrf, hsp, hty, hud, hda⟩ := hp
    simp only [Ev.id, Ev.kd, Ev.tk, Ev.rf, Ev.sp, Ev.ty, Ev.ud, Ev.dt] at k1 k18 i1 i500 t0 t40 hrf hsp hty hud hda
    have brf : 0 ≤ rf ∧ rf ≤ 1000 := by split at hrf <;> omega
    have bsp : 0 ≤ sp ∧ sp ≤ 1000 := by split at hsp <;> omega
    have bty : 0 ≤ ty ∧ ty ≤ 1000 := by split at hty <;> omega
    have bdt := dataP_len hda
    clear hrf hsp hty hud hda
    have l1 := putL_len10 (n := id.toNat) (by unfold U64; omega)
    have l2 := putL_len10 (n := k.toNat) (by unfold U64; omega)
    have l3 := putL_len10 (n := tk.toNat) (by unfold U64; omega)
    have f1 := fun w => run_cat (P := Try.prog) w (putL id.toNat) (putL k.toNat) (by omega)
    have f2 := fun w => run_cat (P := Try.prog) w (putL id.toNat ++ putL k.toNat) (putL tk.toNat) (by simp only [List.length_append]; omega)
    simp only [List.append_assoc] at f2
    have hg := h2.lt
    have hkeep := fun w' w'' h k => held3r (g := w.heap.size) hg p0 p1 p2 (w' := w') (w'' := w'') h k
    go_region_held3 (fun w' => Below w2.heap.size w2 w' ∧ w'.cell? ⟨w.heap.size, 0, none⟩ = some (.int .i64 id) ∧ w'.cell? ⟨w.heap.size, 1, none⟩ = some (.int .i64 k) ∧ w'.cell? ⟨w.heap.size, 2, none⟩ = some (.int .i64 tk)) (first | exact hS | exact ⟨Below.refl _ _, p0, p1, p2⟩ | exact ⟨below_drewN _ _ 1, p0, p1, p2⟩)
      ((go_at_call 38; refine (rint_w _ (by omega) _).mono ?_; rintro _ w3 ⟨rfl, hb3⟩; have hS := hkeep _ _ (by assumption) hb3))
    have h3 := h2.next hS.1
    clear hS hkeep p0 p1 p2 h2 f1 f2
    have hl : (putL id.toNat ++ (putL k.toNat ++ putL tk.toNat)).length ≤ 30 := by simp only [List.length_append]; omega
    have hEe : R = (putL id.toNat ++ (putL k.toNat ++ putL tk.toNat)) ++ (evS k).flatMap (fldE (id, k, tk, rf, sp, ty, ud, dt)) := by
      rw [HR.out]
      unfold encE
      rw [encTl_flat]
      simp only [List.append_assoc]
    clear HR
    generalize putL id.toNat ++ (putL k.toNat ++ putL tk.toNat) = S at *
    have HR := hid hEe
    clear hEe l1 l2 l3
    have hfl : ∀ c, (fldE (id, k, tk, rf, sp, ty, ud, dt) c).length ≤ 1410 := fun c => by
      have z1 := putL_len10 (n := rf.toNat) (by unfold U64; omega)
      have z2 := putL_len10 (n := sp.toNat) (by unfold U64; omega)
      have z3 := putL_len10 (n := ty.toNat) (by unfold U64; omega)
      have z4 := putL_len10 (n := udN ud) (by unfold U64 udN; split <;> omega)
      have z5 := putL_len10' dt.length (by omega)
      unfold fldE
      simp only [Ev.rf, Ev.sp, Ev.ty, Ev.ud, Ev.dt]
      repeat' split
      all_goals try omega
      unfold textL; rw [List.length_append]; omega
    have hs2 := evS_len k
    have hmem := fun j (h : j < (evS k).length) => evS_mem (List.getElem_mem h)
    go_wp2_with fail
    go_loopw [6, 7] (fun s0 i0 wr => ∃ j : Nat, j ≤ (evS k).length ∧ s0 = .string ⟨(S ++ ((evS k).take j).flatMap (fldE (id, k, tk, rf, sp, ty, ud, dt))).toArray⟩ ∧ i0 = .int .i64 j ∧ EHeld w wr w.heap.size (id, k, tk, rf, sp, ty, ud, dt)) (fun _ i0 _ => (evS k).length - (intOf i0).toNat)
    case atStart => exact ⟨0, Nat.zero_le _, by simp, rfl, h3⟩
    case round =>
      obtain ⟨j, hj, rfl, rfl, hr⟩ := hrel
      by_cases hlt : j < (evS k).length
      · have hsucc := take_flat (fldE (id, k, tk, rf, sp, ty, ud, dt)) (evS k) j hlt
        have hlen := flat_len (fldE (id, k, tk, rf, sp, ty, ud, dt)) 1410 hfl ((evS k).take j)
        rw [List.length_take] at hlen
        have hm := hmem j hlt
        have hcc : (((⟨(evS k).toArray⟩ : ByteArray)[j]'hlt).toNat : Int) = (((evS k)[j]'hlt).toNat : Int) := rfl
        have p3 := hr.c3
        have p4 := hr.c4
        have p5 := hr.c5
        have p6 := hr.c6
        have p7 := hr.c7
        simp only [Ev.rf, Ev.sp, Ev.ty, Ev.ud, Ev.dt] at p3 p4 p5 p6 p7
        generalize (evS k)[j] = c at hcc hm hsucc
        generalize ((evS k).take j).flatMap (fldE (id, k, tk, rf, sp, ty, ud, dt)) = pre at *
        have hSl : (S ++ pre).length ≤ 10000 := by rw [List.length_append]; omega
        have HS := hid hsucc
        clear hsucc hlen
        rcases hm with rfl | rfl | rfl | rfl | rfl | rfl
        · have hcc' : (((⟨(evS k).toArray⟩ : ByteArray)[j]'hlt).toNat : Int) = 112 := hcc
          clear hcc
          go_wp2_with fail
          refine (rtext_any dt (by omega) _).mono ?_
          rintro _ w5 ⟨rfl, b5⟩
          have h5 := hr.next b5
          have zl : (textL dt).length ≤ 1410 := by first | exact putL_len1410 _ (by omega) | exact text1410 _ bdt
          have hcat := run_cat (P := Try.prog) w5 (S ++ pre) (textL dt) (by omega)
          (try simp only [List.append_assoc] at hcat)
          clear p3 p4 p5 p6 p7
          go_wp2_with fail
          go_roundw
          case rel => exact ⟨j + 1, by omega, by rw [HS.out]; (try simp only [List.append_assoc]); rfl, by go_num, h5⟩
          case measure => simp [intOf]; omega
        · have hcc' : (((⟨(evS k).toArray⟩ : ByteArray)[j]'hlt).toNat : Int) = 110 := hcc
          clear hcc
          go_wp2_with fail
          refine (rtext_any dt (by omega) _).mono ?_
          rintro _ w5 ⟨rfl, b5⟩
          have h5 := hr.next b5
          have zl : (textL dt).length ≤ 1410 := by first | exact putL_len1410 _ (by omega) | exact text1410 _ bdt
          have hcat := run_cat (P := Try.prog) w5 (S ++ pre) (textL dt) (by omega)
          (try simp only [List.append_assoc] at hcat)
          clear p3 p4 p5 p6 p7
          go_wp2_with fail
          go_roundw
          case rel => exact ⟨j + 1, by omega, by rw [HS.out]; (try simp only [List.append_assoc]); rfl, by go_num, h5⟩
          case measure => simp [intOf]; omega
        · have hcc' : (((⟨(evS k).toArray⟩ : ByteArray)[j]'hlt).toNat : Int) = 114 := hcc
          clear hcc
          go_wp2_with fail
          refine (rint_w rf (by omega) _).mono ?_
          rintro _ w5 ⟨rfl, b5⟩
          have h5 := hr.next b5
          have zl : (putL rf.toNat).length ≤ 1410 := by first | exact putL_len1410 _ (by omega) | exact text1410 _ bdt
          have hcat := run_cat (P := Try.prog) w5 (S ++ pre) (putL rf.toNat) (by omega)
          (try simp only [List.append_assoc] at hcat)
          clear p3 p4 p5 p6 p7
          go_wp2_with fail
          go_roundw
          case rel => exact ⟨j + 1, by omega, by rw [HS.out]; (try simp only [List.append_assoc]); rfl, by go_num, h5⟩
          case measure => simp [intOf]; omega
        · have hcc' : (((⟨(evS k).toArray⟩ : ByteArray)[j]'hlt).toNat : Int) = 115 := hcc
          clear hcc
          go_wp2_with fail
          refine (rint_w sp (by omega) _).mono ?_
          rintro _ w5 ⟨rfl, b5⟩
          have h5 := hr.next b5
          have zl : (putL sp.toNat).length ≤ 1410 := by first | exact putL_len1410 _ (by omega) | exact text1410 _ bdt
          have hcat := run_cat (P := Try.prog) w5 (S ++ pre) (putL sp.toNat) (by omega)
          (try simp only [List.append_assoc] at hcat)
          clear p3 p4 p5 p6 p7
          go_wp2_with fail
          go_roundw
          case rel => exact ⟨j + 1, by omega, by rw [HS.out]; (try simp only [List.append_assoc]); rfl, by go_num, h5⟩
          case measure => simp [intOf]; omega
        · have hcc' : (((⟨(evS k).toArray⟩ : ByteArray)[j]'hlt).toNat : Int) = 116 := hcc
          clear hcc
          go_wp2_with fail
          refine (rint_w ty (by omega) _).mono ?_
          rintro _ w5 ⟨rfl, b5⟩
          have h5 := hr.next b5
          have zl : (putL ty.toNat).length ≤ 1410 := by first | exact putL_len1410 _ (by omega) | exact text1410 _ bdt
          have hcat := run_cat (P := Try.prog) w5 (S ++ pre) (putL ty.toNat) (by omega)
          (try simp only [List.append_assoc] at hcat)
          clear p3 p4 p5 p6 p7
          go_wp2_with fail
          go_roundw
          case rel => exact ⟨j + 1, by omega, by rw [HS.out]; (try simp only [List.append_assoc]); rfl, by go_num, h5⟩
          case measure => simp [intOf]; omega
        · have hcc' : (((⟨(evS k).toArray⟩ : ByteArray)[j]'hlt).toNat : Int) = 117 := hcc
          clear hcc
          cases ud
          · go_wp2_with fail
            refine (rint_w 0 (by omega) _).mono ?_
            rintro _ w5 ⟨rfl, b5⟩
            have h5 := hr.next b5
            have zl : (putL 0).length ≤ 1410 := by first | exact putL_len1410 _ (by omega) | exact text1410 _ bdt
            have hcat := run_cat (P := Try.prog) w5 (S ++ pre) (putL 0) (by omega)
            (try simp only [List.append_assoc] at hcat)
            clear p3 p4 p5 p6 p7
            go_wp2_with fail
            go_roundw
            case rel => exact ⟨j + 1, by omega, by rw [HS.out]; (try simp only [List.append_assoc]); rfl, by go_num, h5⟩
            case measure => simp [intOf]; omega
          · go_wp2_with fail
            refine (rint_w 1 (by omega) _).mono ?_
            rintro _ w5 ⟨rfl, b5⟩
            have h5 := hr.next b5
            have zl : (putL 1).length ≤ 1410 := by first | exact putL_len1410 _ (by omega) | exact text1410 _ bdt
            have hcat := run_cat (P := Try.prog) w5 (S ++ pre) (putL 1) (by omega)
            (try simp only [List.append_assoc] at hcat)
            clear p3 p4 p5 p6 p7
            go_wp2_with fail
            go_roundw
            case rel => exact ⟨j + 1, by omega, by rw [HS.out]; (try simp only [List.append_assoc]); rfl, by go_num, h5⟩
            case measure => simp [intOf]; omega
      · obtain rfl : j = (evS k).length := by omega
        have HT := hid (show R = S ++ ((evS k).take (evS k).length).flatMap (fldE (id, k, tk, rf, sp, ty, ud, dt)) by rw [HR.out, List.take_length])
        go_wp2_with fail
        go_ret2
        exact ⟨by rw [HT.out]; rfl, hr.below⟩
  · have hv := ev_no hp
    have hE : encEV (id, k, tk, rf, sp, ty, ud, dt) = [] := by unfold encEV; rw [if_neg hp]
    rw [hE, hv]
    have HV := hid (decide_eq_false hp)
    clear hE hv
    go_enter Try.func65, Try.ntmps65
    go_wp2_with fail
    rw [← HX.out]
    refine (eright_any id k tk rf sp ty ud dt hdt W).mono ?_
    rintro _ w1 ⟨rfl, b1⟩
    rw [HV.out]
    have h1 := h0.next b1
    clear h0
    go_wp2_with fail
    go_ret2
    exact ⟨rfl, h1.below⟩
end Go.Proofs.Ytelacmchofehcaa
namespace Go.Proofs.Ytelacmchofehcaa
open Go.RowKit
set_option linter.unusedVariables false

set_option maxHeartbeats 1600000 in
set_option maxRecDepth 100000 in
theorem rpack_any (v : Value) (l : List Ev) (w : World) (hs : Sl w v 8 l.length (l.flatMap evc)) (hf : FitE l) : Calls Try.prog 43 #[v] w fun e w' => e = .returned (.tuple #[.string ⟨(hiV l).toArray⟩, .int .i64 (hiE l)]) ∧ Below w.heap.size w w' := by
  have hm := hs.2.1.1
  obtain ⟨_, _, a, cap, rfl, hc⟩ := hs
  have C1 := hid hc
  clear hc
  by_cases h500 : 500 < l.length
  · have hv : hiV l = [] := by unfold hiV; rw [if_neg (fun q => by have := q.1; omega)]
    have he : hiE l = 2 := by unfold hiE; rw [if_pos h500]
    rw [hv, he]
    clear hv he
    go_enter Try.func43, Try.ntmps43
    go_wp2_with fail
    go_ret2
    exact ⟨rfl, Below.refl _ _⟩
  · go_enter Try.func43, Try.ntmps43
    go_wp2_with fail
    refine (rint_w l.length (by omega) _).mono ?_
    rintro _ w1 ⟨rfl, b1⟩
    rw [Int.toNat_natCast]
    go_wp2_with fail
    have h0 : putL l.length = encHk l 0 := by unfold encHk encHs; simp
    rw [h0]
    clear h0
    go_loopw [4, 5] (fun s0 i0 wr => ∃ k : Nat, k ≤ l.length ∧ i0 = .int .i64 k ∧ s0 = .string ⟨(encHk l k).toArray⟩ ∧ (∀ x ∈ l.take k, EvP x) ∧ Below w.heap.size w wr) (fun _ i0 _ => l.length - (intOf i0).toNat)
    case atStart => exact ⟨0, Nat.zero_le _, rfl, rfl, (by intro x hx; simp at hx), b1⟩
    case round =>
      obtain ⟨k, hk, rfl, rfl, hall, hb⟩ := hrel
      by_cases hlt : k < l.length
      · obtain ⟨b, off, rfl, hblt, hc⟩ := C1.out.resolve_left (by omega)
        have hsucc := encHk_succ l k hlt
        have hlen := encHk_len (by omega) k hall
        have c0 : wr.cell? ⟨b, off + k * 8, none⟩ = some (.int .i64 l[k].1) := (hb.cell (p := ⟨b, off + k * 8 + 0, none⟩) hblt).trans (ev_cell hc k 0 (by decide) hlt _ rfl)
        have c1 : wr.cell? ⟨b, off + k * 8 + 1, none⟩ = some (.int .i64 l[k].2.1) := (hb.cell (p := ⟨b, off + k * 8 + 1, none⟩) hblt).trans (ev_cell hc k 1 (by decide) hlt _ rfl)
        have c2 : wr.cell? ⟨b, off + k * 8 + 2, none⟩ = some (.int .i64 l[k].2.2.1) := (hb.cell (p := ⟨b, off + k * 8 + 2, none⟩) hblt).trans (ev_cell hc k 2 (by decide) hlt _ rfl)
        have c3 : wr.cell? ⟨b, off + k * 8 + 3, none⟩ = some (.int .i64 l[k].2.2.2.1) := (hb.cell (p := ⟨b, off + k * 8 + 3, none⟩) hblt).trans (ev_cell hc k 3 (by decide) hlt _ rfl)
        have c4 : wr.cell? ⟨b, off + k * 8 + 4, none⟩ = some (.int .i64 l[k].2.2.2.2.1) := (hb.cell (p := ⟨b, off + k * 8 + 4, none⟩) hblt).trans (ev_cell hc k 4 (by decide) hlt _ rfl)
        have c5 : wr.cell? ⟨b, off + k * 8 + 5, none⟩ = some (.int .i64 l[k].2.2.2.2.2.1) := (hb.cell (p := ⟨b, off + k * 8 + 5, none⟩) hblt).trans (ev_cell hc k 5 (by decide) hlt _ rfl)
        have c6 : wr.cell? ⟨b, off + k * 8 + 6, none⟩ = some (.bool l[k].2.2.2.2.2.2.1) := (hb.cell (p := ⟨b, off + k * 8 + 6, none⟩) hblt).trans (ev_cell hc k 6 (by decide) hlt _ rfl)
        have c7 : wr.cell? ⟨b, off + k * 8 + 7, none⟩ = some (.string ⟨l[k].2.2.2.2.2.2.2.toArray⟩) := (hb.cell (p := ⟨b, off + k * 8 + 7, none⟩) hblt).trans (ev_cell hc k 7 (by decide) hlt _ rfl)
        have hfx := hf _ (List.getElem_mem hlt)
        have htk : ∀ x ∈ l.take (k + 1), EvP x ∨ x = l[k] := fun x hx => by
          rw [List.take_succ_eq_append_getElem hlt] at hx
          rcases List.mem_append.1 hx with h | h
          · exact .inl (hall x h)
          · simp at h; exact .inr h
        have hno : ¬ EvP l[k] → hiV l = [] ∧ hiE l = 120 := fun h => by
          have hq : ¬ HistP l := fun q => h (q.2 _ (List.getElem_mem hlt))
          unfold hiV hiE
          rw [if_neg hq, if_neg h500, if_neg hq]
          exact ⟨rfl, rfl⟩
        obtain ⟨⟨id, kd, tk, rf, sp, ty, ud, dt⟩, hx⟩ : ∃ x, l[k] = x := ⟨_, rfl⟩
        rw [hx] at c0 c1 c2 c3 c4 c5 c6 c7 hfx hsucc htk hno
        simp only at c0 c1 c2 c3 c4 c5 c6 c7
        simp only [Ev.dt] at hfx
        clear hx
        go_wp2_with fail
        have bW := hb
        clear c0 c1 c2 c3 c4 c5 c6 c7
        refine (rencodeE_any id kd tk rf sp ty ud dt hfx wr).mono ?_
        rintro _ w2 ⟨rfl, b2⟩
        have hb2 := bnext bW b2
        by_cases hp : EvP (id, kd, tk, rf, sp, ty, ud, dt)
        · have hE : encEV (id, kd, tk, rf, sp, ty, ud, dt) = encE (id, kd, tk, rf, sp, ty, ud, dt) := by unfold encEV; rw [if_pos hp]
          rw [hE, ev_yes hp]
          have hel := encE_len hp
          have htl : (textL (encE (id, kd, tk, rf, sp, ty, ud, dt))).length ≤ 1510 := by
            have := putL_len10' (encE (id, kd, tk, rf, sp, ty, ud, dt)).length (by omega)
            unfold textL; rw [List.length_append]; omega
          have HS := hid hsucc
          have HN := hid (show ∀ x ∈ l.take (k + 1), EvP x from fun x hx => by
            rcases htk x hx with h | h
            · exact h
            · rw [h]; exact hp)
          clear hsucc htk hno hE hp hall
          generalize encE (id, kd, tk, rf, sp, ty, ud, dt) = L at *
          generalize encHk l k = pre at *
          go_wp2_with fail
          refine (rtext_any L (by omega) _).mono ?_
          rintro _ w3 ⟨rfl, b3⟩
          have hb3 := bnext hb2 b3
          have hcat := run_cat (P := Try.prog) w3 pre (textL L) (by omega)
          go_wp2_with fail
          go_roundw
          case rel => exact ⟨k + 1, by omega, by go_num, by rw [HS.out], HN.out, hb3⟩
          case measure => simp [intOf]; omega
        · have HN := hid (hno hp)
          rw [ev_no hp]
          clear hsucc htk hno hp hall
          generalize encEV (id, kd, tk, rf, sp, ty, ud, dt) = L
          go_wp2_with fail
          go_ret2
          exact ⟨by rw [HN.out.1, HN.out.2]; rfl, hb2⟩
      · obtain rfl : k = l.length := by omega
        rw [List.take_length] at hall
        have hp : HistP l := ⟨by omega, hall⟩
        have hv : hiV l = encHk l l.length := by unfold hiV encHi encHk; rw [if_pos hp, List.take_length]
        have he : hiE l = 0 := by unfold hiE; rw [if_neg h500, if_pos hp]
        have HV := hid (And.intro hv he)
        clear hv he hp hall
        go_wp2_with fail
        go_ret2
        exact ⟨by rw [HV.out.1, HV.out.2]; rfl, hb⟩
end Go.Proofs.Ytelacmchofehcaa
