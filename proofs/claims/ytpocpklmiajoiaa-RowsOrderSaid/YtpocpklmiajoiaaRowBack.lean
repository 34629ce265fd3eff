/- THE WALK of RowsBack. -/
import Derived.Test.YtpocpklmiajoiaaRowLaws
namespace Go.Proofs.Ytpocpklmiajoiaa
open Go.RowKit
set_option linter.unusedVariables false

theorem wrap64_id {x : Int} (h0 : -9223372036854775808 ≤ x) (h1 : x ≤ 9223372036854775807) : wrap64 x = x := by
  unfold wrap64; omega
theorem tmod_bd (k m : Int) (hm : 0 < m) : -m < k.tmod m ∧ k.tmod m < m := by
  by_cases h : 0 ≤ k
  · rw [Int.tmod_eq_emod_of_nonneg h]
    have h1 := Int.emod_nonneg k (show m ≠ 0 by omega)
    have h2 := Int.emod_lt_of_pos k hm
    omega
  · obtain ⟨j, rfl⟩ : ∃ j, k = -j := ⟨-k, by omega⟩
    rw [Int.neg_tmod, Int.tmod_eq_emod_of_nonneg (by omega)]
    have h1 := Int.emod_nonneg j (show m ≠ 0 by omega)
    have h2 := Int.emod_lt_of_pos j hm
    omega
theorem mod5 (k : Int) : ∃ s : Nat, s ≤ 4 ∧ (wrap64 (k.tmod 5 + 5)).tmod 5 = s := by
  have h1 := tmod_bd k 5 (by omega)
  rw [wrap64_id (by omega) (by omega), Int.tmod_eq_emod_of_nonneg (show 0 ≤ k.tmod 5 + 5 by omega)]
  exact ⟨((k.tmod 5 + 5) % 5).toNat, by omega, by omega⟩
theorem mod400 (n : Int) : ∃ s : Nat, (2 ≤ s ∧ s ≤ 501) ∧ wrap64 (2 + (wrap64 (n.tmod 400 + 400)).tmod 400) = s := by
  have h1 := tmod_bd n 400 (by omega)
  rw [wrap64_id (x := n.tmod 400 + 400) (by omega) (by omega), Int.tmod_eq_emod_of_nonneg (show 0 ≤ n.tmod 400 + 400 by omega), wrap64_id (by omega) (by omega)]
  exact ⟨(2 + (n.tmod 400 + 400) % 400).toNat, by omega, by omega⟩
theorem meta_any (s n : Nat) (kb : Bool) (hs : s ≤ 1000000) (hn : n ≤ 1000000) (w : World) : Calls Try.prog 27 #[.agg #[.int .i64 s, .int .i64 n, .bool kb]] w fun e w' => e = .returned (.string ⟨(encM s n kb).toArray⟩) ∧ Below w.heap.size w w' := by
  cases kb
  · exact meta0_any s n hs hn w
  · exact meta1_any s n hs hn w
theorem encM_len (s n : Nat) (kb : Bool) (hs : s ≤ 1000000) (hn : n ≤ 1000000) : (encM s n kb).length ≤ 1000 := by
  have l1 := putL_len10 (n := s) (by unfold U64; omega)
  have l2 := putL_len10 (n := n) (by unfold U64; omega)
  have l3 := putL_len10 (n := if kb then 1 else 0) (by unfold U64; split <;> omega)
  unfold encM
  simp only [List.length_append]
  omega
/-- a workflow's row in a block -/
structure MHeld (w0 w : World) (g : Nat) (s n : Nat) (kb : Bool) : Prop where
  c0 : w.cell? ⟨g, 0, none⟩ = some (.int .i64 s)
  c1 : w.cell? ⟨g, 1, none⟩ = some (.int .i64 n)
  c2 : w.cell? ⟨g, 2, none⟩ = some (.bool kb)
  below : Below w0.heap.size w0 w
  lt : g < w.heap.size
theorem MHeld.next {w0 w w' : World} {g s n : Nat} {kb : Bool} (h : MHeld w0 w g s n kb) (b : Below w.heap.size w w') : MHeld w0 w' g s n kb :=
  ⟨(b.cell (p := ⟨g, 0, none⟩) h.lt).trans h.c0, (b.cell (p := ⟨g, 1, none⟩) h.lt).trans h.c1, (b.cell (p := ⟨g, 2, none⟩) h.lt).trans h.c2, bnext h.below b, Nat.lt_of_lt_of_le h.lt b.size⟩
theorem MHeld.up {w00 w0 w : World} {g s n : Nat} {kb : Bool} (h : MHeld w0 w g s n kb) (b : Below w00.heap.size w00 w0) : MHeld w00 w g s n kb :=
  ⟨h.c0, h.c1, h.c2, bnext b h.below, h.lt⟩
theorem MHeld.new (w : World) (s n : Nat) (kb : Bool) : MHeld w (w.alloc (.cells #[.int .i64 s, .int .i64 n, .bool kb] 54)) w.heap.size s n kb := by
  obtain ⟨W, hW⟩ : ∃ W, W = w.alloc (.cells #[.int .i64 s, .int .i64 n, .bool kb] 54) := ⟨_, rfl⟩
  have bW : Below w.heap.size w W := by rw [hW]; exact (Below.refl _ _).alloc (Nat.le_refl _) _
  have hC : W.heap[w.heap.size]? = some (.cells #[.int .i64 s, .int .i64 n, .bool kb] 54 (0, 0)) := by rw [hW]; exact heap_alloc_new w _
  rw [← hW]
  refine ⟨?_, ?_, ?_, bW, (Array.getElem?_eq_some_iff.1 hC).1⟩
  · rw [cell_of_row W _ 0 _ _ (0, 0) hC]; rfl
  · rw [cell_of_row W _ 1 _ _ (0, 0) hC]; rfl
  · rw [cell_of_row W _ 2 _ _ (0, 0) hC]; rfl
theorem encT_len {x : Tk} (h : TaskP x) : (encT x).length ≤ 1000 := by
  obtain ⟨k, n, r, t⟩ := x
  obtain ⟨g1, g2, g3, g4⟩ := h
  simp only at g1 g2 g3 g4
  have l1 := putL_len10 (n := k.toNat) (by unfold U64; omega)
  have l2 := textL_len g2.2.1
  have l3 := putL_len10 (n := r.toNat) (by unfold U64; omega)
  have l4 := putL_len10 (n := t.toNat) (by unfold U64; omega)
  unfold encT
  simp only [List.length_append]
  omega
theorem encH_len {n : Int} {h : List UInt8} (hx : HeldP n h) : (encH n h).length ≤ 1000 := by
  have l1 := putL_len10 (n := n.toNat) (by unfold U64; have := hx.1; omega)
  have l2 := textL_len hx.2.2.1
  unfold encH
  simp only [List.length_append]
  omega
set_option maxHeartbeats 3200000 in
set_option maxRecDepth 100000 in
theorem rowsBack_walk (k : Int) (nm : List UInt8) (r t n : Int) (host : List UInt8) (hnm : nm.length ≤ 140737488351232) (hh : host.length ≤ 140737488351232) (w : World) :
    Calls Try.prog 5 #[.agg #[.int .i64 k, .string ⟨nm.toArray⟩, .int .i64 r, .int .i64 t], .int .i64 n, .string ⟨host.toArray⟩] w fun e w' => e = .returned (.bool true) ∧ Below w.heap.size w w' := by
  have hnm' : nm.length ≤ maxLen := by unfold maxLen; omega
  have hh' : host.length ≤ maxLen := by unfold maxLen; omega
  have h1 := THeld.new w (k, nm, r, t)
  obtain ⟨W, hW⟩ : ∃ W, W = w.alloc (.cells #[.int .i64 k, .string ⟨nm.toArray⟩, .int .i64 r, .int .i64 t] 33) := ⟨_, rfl⟩
  simp only at h1
  rw [← hW] at h1
  have HX := hid hW
  clear hW
  go_enter Try.func5, Try.ntmps5
  go_wp2_with fail
  rw [← HX.out]
  refine (rawake_any W).mono ?_
  rintro _ w2 ⟨rfl, b2⟩
  have h2 := h1.next b2
  have p0 := h2.c0
  have p1 := h2.c1
  have p2 := h2.c2
  have p3 := h2.c3
  simp only at p0 p1 p2 p3
  go_wp2_with fail
  refine (task_any k nm r t hnm' _).mono ?_
  rintro _ w3 ⟨rfl, b3⟩
  have h3 := h2.next b3
  clear p0 p1 p2 p3
  by_cases hp : TaskP (k, nm, r, t)
  · have g1 : encTV (k, nm, r, t) = encT (k, nm, r, t) := by unfold encTV; rw [if_pos hp]
    have g2 : tkV (k, nm, r, t) = 0 := by unfold tkV; rw [if_pos hp]
    have g3 : taskF (encT (k, nm, r, t)) = some (k, nm, r, t) := taskF_iff.2 ⟨hp, rfl⟩
    have g4 := encT_len hp
    rw [g1, g2]
    have G3 := hid g3
    clear g1 g2 g3
    generalize encT (k, nm, r, t) = A at *
    go_wp2_with fail
    refine (tasked_any A (by omega) _).mono ?_
    rintro _ w4 ⟨x, er, rfl, b4, hr4⟩
    rw [G3.out] at hr4
    obtain ⟨q1, q2⟩ | ⟨q1, _⟩ := hr4
    · cases q1
      subst q2
      have h4 := h3.next b4
      have hbel := h4.below
      have p0 := h4.c0
      have p1 := h4.c1
      have p2 := h4.c2
      have p3 := h4.c3
      have plt := h4.lt
      simp only at p0 p1 p2 p3
      unfold tkV'
      go_wp2_with fail
      replace h4 := h4.next ((Below.refl _ _).alloc (Nat.le_refl _) (.cells #[.int .i64 k, .string ⟨nm.toArray⟩, .int .i64 r, .int .i64 t] 33))
      clear p0 p1 p2 p3 plt hbel
      refine (held_any n host hh' _).mono ?_
      rintro _ w7 ⟨rfl, b7⟩
      have hc := h4.next b7
      by_cases hq : HeldP n host
      · have g1 : encHV n host = encH n host := by unfold encHV; rw [if_pos hq]
        have g2 : hdV n host = 0 := by unfold hdV; rw [if_pos hq]
        have g3 : heldF (encH n host) = some (n, host) := heldF_iff.2 ⟨hq, rfl⟩
        have g4 := encH_len hq
        rw [g1, g2]
        have G3 := hid g3
        clear g1 g2 g3
        generalize encH n host = B at *
        go_wp2_with fail
        refine (holder_any B (by omega) _).mono ?_
        rintro _ w8 ⟨m, who, e9, rfl, b8, hr9⟩
        rw [G3.out] at hr9
        obtain ⟨q1, q2⟩ | ⟨q1, _⟩ := hr9
        · cases q1
          subst q2
          have ht := hc.next b8
          clear h1 h2 h3 h4 hc
          have p0 := ht.c0
          have p1 := ht.c1
          have p2 := ht.c2
          have p3 := ht.c3
          have plt := ht.lt
          simp only at p0 p1 p2 p3
          go_wp2_with fail
          obtain ⟨S, hS4, hS⟩ := mod5 k
          obtain ⟨N, hN2, hN⟩ := mod400 n
          rw [hS, hN]
          generalize (t == 1) = kb
          have hu := MHeld.new w8 S N kb
          replace hu := hu.up ht.below
          generalize w8.alloc (.cells #[.int .i64 S, .int .i64 N, .bool kb] 54) = V at *
          clear p0 p1 p2 p3 plt hS hN ht
          refine (meta_any S N kb (by omega) (by omega) V).mono ?_
          rintro _ v1 ⟨rfl, d1⟩
          have hfl := flowF_put (kept := kb) hS4 hN2
          have HF := hid hfl
          clear hfl
          have hml := encM_len S N kb (by omega) (by omega)
          generalize encM S N kb = M at *
          have hu1 := hu.next d1
          go_wp2_with fail
          refine (flowing_any M (by omega) _).mono ?_
          rintro _ v2 ⟨st, nx, kp, e11, rfl, d2, hr11⟩
          rw [HF.out] at hr11
          obtain ⟨q1, q2⟩ | ⟨q1, _⟩ := hr11
          · cases q1
            subst q2
            have hu2 := hu1.next d2
            have p0 := hu2.c0
            have p1 := hu2.c1
            have p2 := hu2.c2
            have plt := hu2.lt
            clear hu hu1
            unfold mV
            go_wp2_with fail
            go_ret
            exact ⟨rfl, hu2.below.alloc hu2.below.size _⟩
          · cases q1
        · cases q1
      · have g1 : encHV n host = [] := by unfold encHV; rw [if_neg hq]
        have g2 : hdV n host = 1 := by unfold hdV; rw [if_neg hq]
        rw [g1, g2]
        clear g1 g2
        have ht := hc
        clear h1 h2 h3 h4 hc
        have p0 := ht.c0
        have p1 := ht.c1
        have p2 := ht.c2
        have p3 := ht.c3
        have plt := ht.lt
        simp only at p0 p1 p2 p3
        go_wp2_with fail
        obtain ⟨S, hS4, hS⟩ := mod5 k
        obtain ⟨N, hN2, hN⟩ := mod400 n
        rw [hS, hN]
        generalize (t == 1) = kb
        have hu := MHeld.new w7 S N kb
        replace hu := hu.up ht.below
        generalize w7.alloc (.cells #[.int .i64 S, .int .i64 N, .bool kb] 54) = V at *
        clear p0 p1 p2 p3 plt hS hN ht
        refine (meta_any S N kb (by omega) (by omega) V).mono ?_
        rintro _ v1 ⟨rfl, d1⟩
        have hfl := flowF_put (kept := kb) hS4 hN2
        have HF := hid hfl
        clear hfl
        have hml := encM_len S N kb (by omega) (by omega)
        generalize encM S N kb = M at *
        have hu1 := hu.next d1
        go_wp2_with fail
        refine (flowing_any M (by omega) _).mono ?_
        rintro _ v2 ⟨st, nx, kp, e11, rfl, d2, hr11⟩
        rw [HF.out] at hr11
        obtain ⟨q1, q2⟩ | ⟨q1, _⟩ := hr11
        · cases q1
          subst q2
          have hu2 := hu1.next d2
          have p0 := hu2.c0
          have p1 := hu2.c1
          have p2 := hu2.c2
          have plt := hu2.lt
          clear hu hu1
          unfold mV
          go_wp2_with fail
          go_ret
          exact ⟨rfl, hu2.below.alloc hu2.below.size _⟩
        · cases q1
    · cases q1
  · have g1 : encTV (k, nm, r, t) = [] := by unfold encTV; rw [if_neg hp]
    have g2 : tkV (k, nm, r, t) = 1 := by unfold tkV; rw [if_neg hp]
    rw [g1, g2]
    clear g1 g2
    have h4 := h3
    have hbel := h4.below
    have p0 := h4.c0
    have p1 := h4.c1
    have p2 := h4.c2
    have p3 := h4.c3
    have plt := h4.lt
    simp only at p0 p1 p2 p3
    go_wp2_with fail
    clear p0 p1 p2 p3 plt hbel
    refine (held_any n host hh' _).mono ?_
    rintro _ w7 ⟨rfl, b7⟩
    have hc := h4.next b7
    by_cases hq : HeldP n host
    · have g1 : encHV n host = encH n host := by unfold encHV; rw [if_pos hq]
      have g2 : hdV n host = 0 := by unfold hdV; rw [if_pos hq]
      have g3 : heldF (encH n host) = some (n, host) := heldF_iff.2 ⟨hq, rfl⟩
      have g4 := encH_len hq
      rw [g1, g2]
      have G3 := hid g3
      clear g1 g2 g3
      generalize encH n host = B at *
      go_wp2_with fail
      refine (holder_any B (by omega) _).mono ?_
      rintro _ w8 ⟨m, who, e9, rfl, b8, hr9⟩
      rw [G3.out] at hr9
      obtain ⟨q1, q2⟩ | ⟨q1, _⟩ := hr9
      · cases q1
        subst q2
        have ht := hc.next b8
        clear h1 h2 h3 h4 hc
        have p0 := ht.c0
        have p1 := ht.c1
        have p2 := ht.c2
        have p3 := ht.c3
        have plt := ht.lt
        simp only at p0 p1 p2 p3
        go_wp2_with fail
        obtain ⟨S, hS4, hS⟩ := mod5 k
        obtain ⟨N, hN2, hN⟩ := mod400 n
        rw [hS, hN]
        generalize (t == 1) = kb
        have hu := MHeld.new w8 S N kb
        replace hu := hu.up ht.below
        generalize w8.alloc (.cells #[.int .i64 S, .int .i64 N, .bool kb] 54) = V at *
        clear p0 p1 p2 p3 plt hS hN ht
        refine (meta_any S N kb (by omega) (by omega) V).mono ?_
        rintro _ v1 ⟨rfl, d1⟩
        have hfl := flowF_put (kept := kb) hS4 hN2
        have HF := hid hfl
        clear hfl
        have hml := encM_len S N kb (by omega) (by omega)
        generalize encM S N kb = M at *
        have hu1 := hu.next d1
        go_wp2_with fail
        refine (flowing_any M (by omega) _).mono ?_
        rintro _ v2 ⟨st, nx, kp, e11, rfl, d2, hr11⟩
        rw [HF.out] at hr11
        obtain ⟨q1, q2⟩ | ⟨q1, _⟩ := hr11
        · cases q1
          subst q2
          have hu2 := hu1.next d2
          have p0 := hu2.c0
          have p1 := hu2.c1
          have p2 := hu2.c2
          have plt := hu2.lt
          clear hu hu1
          unfold mV
          go_wp2_with fail
          go_ret
          exact ⟨rfl, hu2.below.alloc hu2.below.size _⟩
        · cases q1
      · cases q1
    · have g1 : encHV n host = [] := by unfold encHV; rw [if_neg hq]
      have g2 : hdV n host = 1 := by unfold hdV; rw [if_neg hq]
      rw [g1, g2]
      clear g1 g2
      have ht := hc
      clear h1 h2 h3 h4 hc
      have p0 := ht.c0
      have p1 := ht.c1
      have p2 := ht.c2
      have p3 := ht.c3
      have plt := ht.lt
      simp only at p0 p1 p2 p3
      go_wp2_with fail
      obtain ⟨S, hS4, hS⟩ := mod5 k
      obtain ⟨N, hN2, hN⟩ := mod400 n
      rw [hS, hN]
      generalize (t == 1) = kb
      have hu := MHeld.new w7 S N kb
      replace hu := hu.up ht.below
      generalize w7.alloc (.cells #[.int .i64 S, .int .i64 N, .bool kb] 54) = V at *
      clear p0 p1 p2 p3 plt hS hN ht
      refine (meta_any S N kb (by omega) (by omega) V).mono ?_
      rintro _ v1 ⟨rfl, d1⟩
      have hfl := flowF_put (kept := kb) hS4 hN2
      have HF := hid hfl
      clear hfl
      have hml := encM_len S N kb (by omega) (by omega)
      generalize encM S N kb = M at *
      have hu1 := hu.next d1
      go_wp2_with fail
      refine (flowing_any M (by omega) _).mono ?_
      rintro _ v2 ⟨st, nx, kp, e11, rfl, d2, hr11⟩
      rw [HF.out] at hr11
      obtain ⟨q1, q2⟩ | ⟨q1, _⟩ := hr11
      · cases q1
        subst q2
        have hu2 := hu1.next d2
        have p0 := hu2.c0
        have p1 := hu2.c1
        have p2 := hu2.c2
        have plt := hu2.lt
        clear hu hu1
        unfold mV
        go_wp2_with fail
        go_ret
        exact ⟨rfl, hu2.below.alloc hu2.below.size _⟩
      · cases q1
end Go.Proofs.Ytpocpklmiajoiaa
