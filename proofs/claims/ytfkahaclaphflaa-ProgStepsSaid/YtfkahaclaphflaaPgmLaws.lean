/- THE WALKS of ProgCodes, ProgReads, ProgBack, ProgApart. What comes in. -/
import Derived.Test.YtfkahaclaphflaaPgmAwake
import Derived.Test.YtfkahaclaphflaaPgmRDec
import Derived.Test.YtfkahaclaphflaaPgmSame
import Derived.Test.YtfkahaclaphflaaRows
import Derived.Test.YtfkahaclaphflaaFrames
import Derived.SliceStrings
import Derived.Deep.Fields
namespace Go.Proofs.Ytfkahaclaphflaa
open Go.ChangeShapes Go.WideShapes Go.ChangeAt Go.RowKit Go.Deep
set_option linter.unusedVariables false

theorem open_prog {H : Type} {enc : TypeId × Value → H} {W : World} {base : Nat} {v : Value} {d : DataW H} {p : List MemPlace} (hv : Value.okWide Try.prog W .any base 24 v)
    (h : DataW.Trod enc Try.prog W 0 (fun _ => true) true 24 v d p) : ∃ (v0 : Value) (lim : Int) (ss : List St), v = .agg #[v0, .int .i64 lim] ∧ Sl W v0 6 ss.length (ss.flatMap stC) ∧ Fit ss ∧ (-9223372036854775808 ≤ lim ∧ lim ≤ 9223372036854775807) := by
  obtain ⟨cs, rfl, hsz⟩ := okWide_struct Try.underlying24 hv
  obtain ⟨fuel, hf⟩ := h
  obtain ⟨ys, n, _, _, hcl, hg⟩ := trod_fields Try.underlying24 (by kernel_rfl) (by kernel_rfl) hf
  obtain ⟨c0, y0, e0, _, t0⟩ := hg 0 _ rfl
  obtain ⟨c1, y1, e1, _, t1⟩ := hg 1 _ rfl
  obtain ⟨ss, g1, g2, _⟩ := trod_sl (P := Try.prog) Try.underlying22 6 (by kernel_rfl) (by omega) stC stC_len (fun a => a.nm.length ≤ maxLen ∧ a.un.length ≤ maxLen) (fun _ => 0) (fun _ => 0) (fun n cs x hx => by
    obtain ⟨ys, m, _, _, hcl, hf⟩ := trod_fields Try.underlying40 (by kernel_rfl) (by kernel_rfl) hx
    obtain ⟨c0, y0, e0, _, t0⟩ := hf 0 _ rfl
    obtain ⟨c1, y1, e1, _, t1⟩ := hf 1 _ rfl
    obtain ⟨c2, y2, e2, _, t2⟩ := hf 2 _ rfl
    obtain ⟨c3, y3, e3, _, t3⟩ := hf 3 _ rfl
    obtain ⟨c4, y4, e4, _, t4⟩ := hf 4 _ rfl
    obtain ⟨c5, y5, e5, _, t5⟩ := hf 5 _ rfl
    obtain ⟨K, k0, _, _⟩ := DataW.trod_int Try.underlying3 t0
    obtain ⟨s1, k1, _, w1⟩ := DataW.trod_string Try.underlying9 t1
    obtain ⟨s2, k2, _, w2⟩ := DataW.trod_string Try.underlying9 t2
    obtain ⟨T, k3, _, _⟩ := DataW.trod_int Try.underlying3 t3
    obtain ⟨U, k4, _, _⟩ := DataW.trod_int Try.underlying3 t4
    obtain ⟨V, k5, _, _⟩ := DataW.trod_int Try.underlying3 t5
    simp only [List.cons.injEq, and_true] at k0 k1 k2 k3 k4 k5
    subst k0; subst k1; subst k2; subst k3; subst k4; subst k5
    match cs, hcl with
    | [d0, d1, d2, d3, d4, d5], _ =>
      simp at e0 e1 e2 e3 e4 e5
      subst e0; subst e1; subst e2; subst e3; subst e4; subst e5
      refine ⟨(K, s1.data.toList, s2.data.toList, T, U, V), ?_, ⟨by rw [← Lib.size_eq]; exact w1, by rw [← Lib.size_eq]; exact w2⟩, Nat.zero_le _⟩
      unfold stC
      simp only [St.kd, St.nm, St.un, St.tr, St.ut, St.wt]) t0
  obtain ⟨N, k1, _, wn⟩ := DataW.trod_int Try.underlying3 t1
  simp only [List.cons.injEq, and_true] at k1
  subst k1
  obtain ⟨l⟩ := cs
  simp only [Value.cells] at hcl e0 e1
  match l, hcl with
  | [d0, d1], _ =>
    simp at e0 e1
    subst e0; subst e1
    exact ⟨d0, N, ss, rfl, g1, g2, i64_of_wf wn⟩

/-- a program that came in, copied into a block -/
structure PHeld (w0 w : World) (g : Nat) (v0 : Value) (lim : Int) (ss : List St) : Prop where
  c0 : w.cell? ⟨g, 0, none⟩ = some v0
  c1 : w.cell? ⟨g, 1, none⟩ = some (.int .i64 lim)
  sl : Sl w v0 6 ss.length (ss.flatMap stC)
  below : Below w0.heap.size w0 w
  lt : g < w.heap.size
  ge : w0.heap.size ≤ g
theorem PHeld.next {w0 w w' : World} {g : Nat} {v0 : Value} {lim : Int} {ss : List St} (h : PHeld w0 w g v0 lim ss) (b : Below w.heap.size w w') : PHeld w0 w' g v0 lim ss :=
  ⟨(b.cell (p := ⟨g, 0, none⟩) h.lt).trans h.c0, (b.cell (p := ⟨g, 1, none⟩) h.lt).trans h.c1, h.sl.below b, bnext h.below b, Nat.lt_of_lt_of_le h.lt b.size, h.ge⟩
theorem PHeld.new {w : World} {v0 : Value} {lim : Int} {ss : List St} (hs : Sl w v0 6 ss.length (ss.flatMap stC)) : PHeld w (w.alloc (.cells #[v0, .int .i64 lim] 24)) w.heap.size v0 lim ss :=
  ⟨(Obj2.new w _ _ _).c0, (Obj2.new w _ _ _).c1, hs.below ((Below.refl _ _).alloc (Nat.le_refl _) _), (Below.refl _ _).alloc (Nat.le_refl _) _, by show _ < (w.heap.push _).size; rw [Array.size_push]; omega, Nat.le_refl _⟩

set_option maxHeartbeats 1600000 in
set_option maxRecDepth 100000 in
theorem progCodes_walk (v0 : Value) (lim : Int) (ss : List St) (name : List UInt8) (hn : name.length ≤ 140737488351232) (w : World) (hs : Sl w v0 6 ss.length (ss.flatMap stC)) (hf : Fit ss) :
    Calls Try.prog 3 #[.agg #[v0, .int .i64 lim], .string ⟨name.toArray⟩] w fun e w' => e = .returned (.bool true) ∧ Below w.heap.size w w' := by
  have h0 := PHeld.new (lim := lim) hs
  have hnm : name.length ≤ maxLen := by unfold maxLen; omega
  go_enter Try.func3, Try.ntmps3
  go_wp2_with fail
  obtain ⟨W, hW⟩ : ∃ W, W = w.alloc (.cells #[v0, .int .i64 lim] 24) := ⟨_, rfl⟩
  rw [← hW] at h0 ⊢
  clear hW
  refine (pawake_any W).mono ?_
  rintro _ w1 ⟨rfl, b1⟩
  have h1 := h0.next b1
  have p0 := h1.c0
  have p1 := h1.c1
  go_wp2_with fail
  refine (encode_any v0 lim ss w1 h1.sl hf).mono ?_
  rintro _ w2 ⟨rfl, b2⟩
  have h2 := h1.next b2
  have p0 := h2.c0
  have p1 := h2.c1
  go_wp2_with fail
  refine (rencode_any v0 lim ss w2 h2.sl hf).mono ?_
  rintro _ w3 ⟨rfl, b3⟩
  have h3 := h2.next b3
  have p0 := h3.c0
  have p1 := h3.c1
  generalize encV lim ss = E at *
  obtain ⟨cv, hcv⟩ : ∃ cv, chkV lim ss = cv := ⟨_, rfl⟩
  rw [hcv]
  go_wp2_with fail
  refine (check_any v0 lim ss w3 h3.sl hf).mono ?_
  rintro _ w4 ⟨rfl, b4⟩
  rw [hcv]
  have h4 := h3.next b4
  go_wp2_with fail
  refine (named_any name hnm w4).mono ?_
  rintro _ w5 ⟨rfl, hw5⟩
  rw [hw5]
  clear hw5 w5
  go_wp2_with fail
  refine (rnamed_any name hnm w4).mono ?_
  rintro _ w5 ⟨rfl, hw5⟩
  rw [hw5]
  clear hw5 w5
  go_wp2_with fail
  go_ret
  exact ⟨rfl, h4.below⟩
theorem prog_fit {lim : Int} {ss : List St} (h : ProgP lim ss) : Fit ss := fun x hx => by
  have hr := h.2.2 x hx
  have hl : x.nm.length ≤ 16 ∧ x.un.length ≤ 16 := by
    rcases hr with ⟨_, h1, h2, _⟩ | ⟨_, h1, h2, _⟩ | ⟨_, h1, h2, _⟩
    · refine ⟨h2.2.1, ?_⟩
      rcases h1 with ⟨h, _⟩ | ⟨h, _⟩
      · rw [h]; simp
      · exact h.2.1
    · rw [h1, h2]; simp
    · exact ⟨h1.2.1, by rw [h2]; simp⟩
  unfold maxLen
  exact ⟨by omega, by omega⟩

set_option maxHeartbeats 1600000 in
set_option maxRecDepth 100000 in
theorem progReads_walk (l : List UInt8) (hl : l.length ≤ 140737488351232) (w : World) :
    Calls Try.prog 4 #[.string ⟨l.toArray⟩] w fun e w' => e = .returned (.bool true) ∧ Below w.heap.size w w' := by
  have hpr := progF_rprogF l
  go_enter Try.func4, Try.ntmps4
  go_wp2_with fail
  refine (pawake_any w).mono ?_
  rintro _ w1 ⟨rfl, b1⟩
  go_wp2_with fail
  refine (decode_any l (by omega) w1).mono ?_
  rintro _ w2 ⟨v, lim, ss, er, rfl, hsl, b2, hres⟩
  have hs0 := hsl
  obtain ⟨_, _, a, cap, rfl, _⟩ := hs0
  have h0 := PHeld.new (lim := lim) hsl
  go_wp2_with fail
  obtain ⟨W, hW⟩ : ∃ W, W = w2.alloc (.cells #[.slice a ss.length cap, .int .i64 lim] 24) := ⟨_, rfl⟩
  rw [← hW] at h0 ⊢
  clear hW
  refine (rdecode_any l (by omega) W).mono ?_
  rintro _ w3 ⟨v', lim', ss', er', rfl, hsl', b3, hres'⟩
  have hs1 := hsl'
  obtain ⟨_, _, a', cap', rfl, _⟩ := hs1
  have h3 := h0.next b3
  have hsame : er = er' ∧ lim = lim' ∧ ss = ss' := by
    rcases hres with ⟨g1, g2⟩ | ⟨g1, g2, _, g3, g4⟩
    · rcases hres' with ⟨k1, k2⟩ | ⟨k1, k2, _, k3, k4⟩
      · rw [hpr, k1] at g1
        cases g1
        exact ⟨by rw [g2, k2], rfl, rfl⟩
      · rw [hpr, k1] at g1; cases g1
    · rcases hres' with ⟨k1, k2⟩ | ⟨k1, k2, _, k3, k4⟩
      · rw [hpr, k1] at g1; cases g1
      · exact ⟨by rw [g2, k2], by rw [g3, k3], by rw [g4, k4]⟩
  obtain ⟨rfl, rfl, rfl⟩ := hsame
  have h4 := PHeld.new (lim := lim) hsl'
  have h5 := h3.next h4.below
  have p0 := h5.c0
  have p1 := h5.c1
  clear hres hres'
  go_wp2_with fail
  refine (psame_any _ _ lim lim ss ss _ h5.sl h4.sl).mono ?_
  rintro _ w6 ⟨rfl, b6⟩
  rw [decide_eq_true (And.intro rfl rfl)]
  have b7 := bnext b1 (bnext b2 (bnext h5.below b6))
  go_wp2_with fail
  go_ret
  exact ⟨rfl, b7⟩

set_option maxHeartbeats 1600000 in
set_option maxRecDepth 100000 in
theorem progApart_walk (v0 : Value) (lim : Int) (ss : List St) (v1 : Value) (lim' : Int) (ss' : List St) (w : World) (hs : Sl w v0 6 ss.length (ss.flatMap stC)) (hf : Fit ss) (hs' : Sl w v1 6 ss'.length (ss'.flatMap stC)) (hf' : Fit ss') :
    Calls Try.prog 7 #[.agg #[v0, .int .i64 lim], .agg #[v1, .int .i64 lim']] w fun e w' => e = .returned (.bool true) ∧ Below w.heap.size w w' := by
  have h0 := PHeld.new (lim := lim) hs
  have k0 := PHeld.new (lim := lim') (hs'.below h0.below)
  have h0 := h0.next k0.below
  go_enter Try.func7, Try.ntmps7
  go_wp2_with fail
  have e0 : (w.alloc (.cells #[v0, .int .i64 lim] 24)).heap.size = w.heap.size + 1 := Array.size_push ..
  obtain ⟨W, hW⟩ : ∃ W, W = (w.alloc (.cells #[v0, .int .i64 lim] 24)).alloc (.cells #[v1, .int .i64 lim'] 24) := ⟨_, rfl⟩
  rw [← hW] at h0 k0 ⊢
  rw [e0] at k0
  clear hW e0
  have kc0 := k0.c0
  have kc1 := k0.c1
  have kl := k0.lt
  have ksl := k0.sl
  clear k0
  refine (pawake_any W).mono ?_
  rintro _ w1 ⟨rfl, b1⟩
  have h1 := h0.next b1
  have kc0 := (b1.cell (p := ⟨w.heap.size + 1, 0, none⟩) kl).trans kc0
  have kc1 := (b1.cell (p := ⟨w.heap.size + 1, 1, none⟩) kl).trans kc1
  have kl := Nat.lt_of_lt_of_le kl b1.size
  have ksl := ksl.below b1
  have p0 := h1.c0
  have p1 := h1.c1
  go_wp2_with fail
  refine (encode_any v0 lim ss w1 h1.sl hf).mono ?_
  rintro _ w2 ⟨rfl, b2⟩
  have h2 := h1.next b2
  have kc0 := (b2.cell (p := ⟨w.heap.size + 1, 0, none⟩) kl).trans kc0
  have kc1 := (b2.cell (p := ⟨w.heap.size + 1, 1, none⟩) kl).trans kc1
  have kl := Nat.lt_of_lt_of_le kl b2.size
  have ksl := ksl.below b2
  have p0 := h2.c0
  have p1 := h2.c1
  go_wp2_with fail
  refine (encode_any v1 lim' ss' w2 ksl hf').mono ?_
  rintro _ w3 ⟨rfl, b3⟩
  have h3 := h2.next b3
  have kc0 := (b3.cell (p := ⟨w.heap.size + 1, 0, none⟩) kl).trans kc0
  have kc1 := (b3.cell (p := ⟨w.heap.size + 1, 1, none⟩) kl).trans kc1
  have ksl := ksl.below b3
  have p0 := h3.c0
  have p1 := h3.c1
  have hb3 := h3.below
  by_cases hp : ProgP lim ss
  · by_cases hp' : ProgP lim' ss'
    · rw [show encV lim ss = encP lim ss by unfold encV; rw [if_pos hp], show encV lim' ss' = encP lim' ss' by unfold encV; rw [if_pos hp'], show chkV lim ss = 0 by unfold chkV; rw [if_pos hp], show chkV lim' ss' = 0 by unfold chkV; rw [if_pos hp']]
      have hsm := psame_any v0 v1 lim lim' ss ss' w3 h3.sl ksl
      by_cases he : encP lim ss = encP lim' ss'
      · have hh := encP_inj hp hp' he
        rw [decide_eq_true hh] at hsm
        rw [he]
        clear hp hp' he hh
        go_wp2_with fail
        refine hsm.mono ?_
        rintro _ w4 ⟨rfl, b4⟩
        have b5 := bnext hb3 b4
        go_wp2_with fail
        go_ret
        exact ⟨rfl, b5⟩
      · have hne : ¬ (lim = lim' ∧ ss = ss') := fun h => he (by rw [h.1, h.2])
        rw [decide_eq_false hne] at hsm
        have he' : (encP lim ss == encP lim' ss') = false := by simpa using he
        clear hp hp' hne
        go_wp2_with fail
        refine hsm.mono ?_
        rintro _ w4 ⟨rfl, b4⟩
        have b5 := bnext hb3 b4
        go_wp2_with fail
        go_ret
        exact ⟨rfl, b5⟩
    · rw [show chkV lim' ss' = 130 by unfold chkV; rw [if_neg hp'], show chkV lim ss = 0 by unfold chkV; rw [if_pos hp]]
      clear hp hp'
      go_wp2_with fail
      go_ret
      exact ⟨rfl, hb3⟩
  · rw [show chkV lim ss = 130 by unfold chkV; rw [if_neg hp]]
    clear hp
    go_wp2_with fail
    go_ret
    exact ⟨rfl, hb3⟩

set_option maxHeartbeats 1600000 in
set_option maxRecDepth 100000 in
theorem progBack_walk (v0 : Value) (lim : Int) (ss : List St) (l : List UInt8) (hl : l.length ≤ 140737488351232) (w : World) (hs : Sl w v0 6 ss.length (ss.flatMap stC)) (hf : Fit ss) :
    Calls Try.prog 5 #[.agg #[v0, .int .i64 lim], .string ⟨l.toArray⟩] w fun e w' => e = .returned (.bool true) ∧ Below w.heap.size w w' := by
  have h0 := PHeld.new (lim := lim) hs
  go_enter Try.func5, Try.ntmps5
  go_wp2_with fail
  obtain ⟨W, hW⟩ : ∃ W, W = w.alloc (.cells #[v0, .int .i64 lim] 24) := ⟨_, rfl⟩
  rw [← hW] at h0 ⊢
  clear hW
  refine (pawake_any W).mono ?_
  rintro _ w1 ⟨rfl, b1⟩
  have h1 := h0.next b1
  have p0 := h1.c0
  have p1 := h1.c1
  go_wp2_with fail
  refine (encode_any v0 lim ss w1 h1.sl hf).mono ?_
  rintro _ w2 ⟨rfl, b2⟩
  have h2 := h1.next b2
  have p0 := h2.c0
  have p1 := h2.c1
  by_cases hp : ProgP lim ss
  · rw [show encV lim ss = encP lim ss by unfold encV; rw [if_pos hp], show chkV lim ss = 0 by unfold chkV; rw [if_pos hp]]
    have hlen := encP_len hp
    have hpf := progF_iff.2 ⟨hp, rfl⟩
    go_wp2_with fail
    refine (decode_any (encP lim ss) (by omega) w2).mono ?_
    rintro _ w3 ⟨v, lim1, ss1, er, rfl, hsl, b3, hres⟩
    have hq : lim = lim1 ∧ ss = ss1 ∧ er = 0 := by
      rcases hres with ⟨g1, g2⟩ | ⟨g1, _⟩
      · rw [hpf] at g1; cases g1; exact ⟨rfl, rfl, g2⟩
      · rw [hpf] at g1; cases g1
    obtain ⟨rfl, rfl, rfl⟩ := hq
    have hs0 := hsl
    obtain ⟨_, _, a, cap, rfl, _⟩ := hs0
    have q0 := PHeld.new (lim := lim) hsl
    have h3 := h2.next (bnext b3 q0.below)
    clear p0 p1 hp hlen hpf hres
    have p0 := h3.c0
    have p1 := h3.c1
    have d0 := q0.c0
    have d1 := q0.c1
    go_wp2_with fail
    refine (psame_any _ _ lim lim ss ss _ h3.sl q0.sl).mono ?_
    rintro _ w4 ⟨rfl, b4⟩
    rw [decide_eq_true (And.intro rfl rfl)]
    have hb4 := bnext h3.below b4
    clear p0 p1 d0 d1
    go_wp2_with fail
    refine (decode_any l (by omega) w4).mono ?_
    rintro _ wA ⟨v, lim2, ss2, er, rfl, hsl, bA, hres⟩
    have bA' := bnext hb4 bA
    rcases hres with ⟨g1, rfl⟩ | ⟨g1, rfl, rfl, rfl, rfl⟩
    · obtain ⟨hp2, he2⟩ := progF_iff.1 g1
      have hs0 := hsl
      obtain ⟨_, _, a, cap, rfl, _⟩ := hs0
      have q0 := PHeld.new (lim := lim2) hsl
      have hf2 := prog_fit hp2
      have hv2 : encV lim2 ss2 = l := by unfold encV; rw [if_pos hp2, ← he2]
      have hc2 : chkV lim2 ss2 = 0 := by unfold chkV; rw [if_pos hp2]
      have HV := hid hv2
      have HC := hid hc2
      clear hp2 he2 g1 hv2 hc2
      have d0 := q0.c0
      have d1 := q0.c1
      go_wp2_with fail
      refine (encode_any _ lim2 ss2 _ q0.sl hf2).mono ?_
      rintro _ wB ⟨rfl, bB⟩
      rw [HV.out, HC.out]
      have q1 := q0.next bB
      clear d0 d1
      have d0 := q1.c0
      have d1 := q1.c1
      go_wp2_with fail
      refine (check_any _ lim2 ss2 _ q1.sl hf2).mono ?_
      rintro _ wC ⟨rfl, bC⟩
      rw [HC.out]
      have bE := bnext bA' (bnext q1.below bC)
      go_wp2_with fail
      go_ret
      exact ⟨rfl, bE⟩
    · go_wp2_with fail
      go_ret
      exact ⟨rfl, bA'.alloc bA'.size _⟩
  · rw [show chkV lim ss = 130 by unfold chkV; rw [if_neg hp]]
    clear hp
    have hb2 := h2.below
    go_wp2_with fail
    refine (decode_any l (by omega) w2).mono ?_
    rintro _ wA ⟨v, lim2, ss2, er, rfl, hsl, bA, hres⟩
    have bA' := bnext hb2 bA
    rcases hres with ⟨g1, rfl⟩ | ⟨g1, rfl, rfl, rfl, rfl⟩
    · obtain ⟨hp2, he2⟩ := progF_iff.1 g1
      have hs0 := hsl
      obtain ⟨_, _, a, cap, rfl, _⟩ := hs0
      have q0 := PHeld.new (lim := lim2) hsl
      have hf2 := prog_fit hp2
      have hv2 : encV lim2 ss2 = l := by unfold encV; rw [if_pos hp2, ← he2]
      have hc2 : chkV lim2 ss2 = 0 := by unfold chkV; rw [if_pos hp2]
      have HV := hid hv2
      have HC := hid hc2
      clear hp2 he2 g1 hv2 hc2
      have d0 := q0.c0
      have d1 := q0.c1
      go_wp2_with fail
      refine (encode_any _ lim2 ss2 _ q0.sl hf2).mono ?_
      rintro _ wB ⟨rfl, bB⟩
      rw [HV.out, HC.out]
      have q1 := q0.next bB
      clear d0 d1
      have d0 := q1.c0
      have d1 := q1.c1
      go_wp2_with fail
      refine (check_any _ lim2 ss2 _ q1.sl hf2).mono ?_
      rintro _ wC ⟨rfl, bC⟩
      rw [HC.out]
      have bE := bnext bA' (bnext q1.below bC)
      go_wp2_with fail
      go_ret
      exact ⟨rfl, bE⟩
    · go_wp2_with fail
      go_ret
      exact ⟨rfl, bA'.alloc bA'.size _⟩

theorem progCodes_w (v u : Value) (lim : Int) (ss : List St) (name : List UInt8) (hn : name.length ≤ 140737488351232) (w : World) (e0 : v = .agg #[u, .int .i64 lim]) (hs : Sl w u 6 ss.length (ss.flatMap stC)) (hf : Fit ss) :
    Calls Try.prog 3 #[v, .string ⟨name.toArray⟩] w fun e w' => e = .returned (.bool true) ∧ Below w.heap.size w w' := by
  subst e0; exact progCodes_walk u lim ss name hn w hs hf
theorem progBack_w (v u : Value) (lim : Int) (ss : List St) (l : List UInt8) (hl : l.length ≤ 140737488351232) (w : World) (e0 : v = .agg #[u, .int .i64 lim]) (hs : Sl w u 6 ss.length (ss.flatMap stC)) (hf : Fit ss) :
    Calls Try.prog 5 #[v, .string ⟨l.toArray⟩] w fun e w' => e = .returned (.bool true) ∧ Below w.heap.size w w' := by
  subst e0; exact progBack_walk u lim ss l hl w hs hf
theorem progApart_w (v u : Value) (lim : Int) (ss : List St) (v' u' : Value) (lim' : Int) (ss' : List St) (w : World) (e0 : v = .agg #[u, .int .i64 lim]) (hs : Sl w u 6 ss.length (ss.flatMap stC)) (hf : Fit ss) (e1 : v' = .agg #[u', .int .i64 lim']) (hs' : Sl w u' 6 ss'.length (ss'.flatMap stC)) (hf' : Fit ss') :
    Calls Try.prog 7 #[v, v'] w fun e w' => e = .returned (.bool true) ∧ Below w.heap.size w w' := by
  subst e0; subst e1; exact progApart_walk u lim ss u' lim' ss' w hs hf hs' hf'
end Go.Proofs.Ytfkahaclaphflaa
