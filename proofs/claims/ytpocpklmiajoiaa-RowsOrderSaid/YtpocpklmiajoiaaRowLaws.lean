/- THE WALKS of RowsBytes, RowsBack. -/
import Derived.Test.YtpocpklmiajoiaaRowAwake
import Derived.Deep.QuietTactic
import Derived.BigQuiet
import Derived.BigRegion
namespace Go.Proofs.Ytpocpklmiajoiaa
open Go.RowKit
set_option linter.unusedVariables false

/-- a task in a block -/
structure THeld (w0 w : World) (g : Nat) (x : Tk) : Prop where
  c0 : w.cell? ⟨g, 0, none⟩ = some (.int .i64 x.1)
  c1 : w.cell? ⟨g, 1, none⟩ = some (.string ⟨x.2.1.toArray⟩)
  c2 : w.cell? ⟨g, 2, none⟩ = some (.int .i64 x.2.2.1)
  c3 : w.cell? ⟨g, 3, none⟩ = some (.int .i64 x.2.2.2)
  below : Below w0.heap.size w0 w
  lt : g < w.heap.size
theorem THeld.next {w0 w w' : World} {g : Nat} {x : Tk} (h : THeld w0 w g x) (b : Below w.heap.size w w') : THeld w0 w' g x :=
  ⟨(b.cell (p := ⟨g, 0, none⟩) h.lt).trans h.c0, (b.cell (p := ⟨g, 1, none⟩) h.lt).trans h.c1, (b.cell (p := ⟨g, 2, none⟩) h.lt).trans h.c2, (b.cell (p := ⟨g, 3, none⟩) h.lt).trans h.c3, bnext h.below b, Nat.lt_of_lt_of_le h.lt b.size⟩
theorem THeld.new (w : World) (x : Tk) : THeld w (w.alloc (.cells #[.int .i64 x.1, .string ⟨x.2.1.toArray⟩, .int .i64 x.2.2.1, .int .i64 x.2.2.2] 33)) w.heap.size x := by
  obtain ⟨W, hW⟩ : ∃ W, W = w.alloc (.cells #[.int .i64 x.1, .string ⟨x.2.1.toArray⟩, .int .i64 x.2.2.1, .int .i64 x.2.2.2] 33) := ⟨_, rfl⟩
  have bW : Below w.heap.size w W := by rw [hW]; exact (Below.refl _ _).alloc (Nat.le_refl _) _
  have hC : W.heap[w.heap.size]? = some (.cells #[.int .i64 x.1, .string ⟨x.2.1.toArray⟩, .int .i64 x.2.2.1, .int .i64 x.2.2.2] 33 (0, 0)) := by rw [hW]; exact heap_alloc_new w _
  rw [← hW]
  refine ⟨?_, ?_, ?_, ?_, bW, (Array.getElem?_eq_some_iff.1 hC).1⟩
  · rw [cell_of_row W _ 0 _ _ (0, 0) hC]; rfl
  · rw [cell_of_row W _ 1 _ _ (0, 0) hC]; rfl
  · rw [cell_of_row W _ 2 _ _ (0, 0) hC]; rfl
  · rw [cell_of_row W _ 3 _ _ (0, 0) hC]; rfl

set_option maxHeartbeats 3200000 in
set_option maxRecDepth 100000 in
theorem rowsBytes_walk (k : Int) (nm : List UInt8) (r t n : Int) (host s : List UInt8) (hnm : nm.length ≤ 140737488351232) (hh : host.length ≤ 140737488351232) (hs : s.length ≤ 140737488351232) (w : World) :
    Calls Try.prog 4 #[.agg #[.int .i64 k, .string ⟨nm.toArray⟩, .int .i64 r, .int .i64 t, .int .i64 n, .string ⟨host.toArray⟩, .string ⟨s.toArray⟩]] w fun e w' => e = .returned (.bool true) ∧ Below w.heap.size w w' := by
  have hnm' : nm.length ≤ maxLen := by unfold maxLen; omega
  have hh' : host.length ≤ maxLen := by unfold maxLen; omega
  obtain ⟨W, hW⟩ : ∃ W, W = w.alloc (.cells #[.int .i64 k, .string ⟨nm.toArray⟩, .int .i64 r, .int .i64 t, .int .i64 n, .string ⟨host.toArray⟩, .string ⟨s.toArray⟩] 35) := ⟨_, rfl⟩
  have bW : Below w.heap.size w W := by rw [hW]; exact (Below.refl _ _).alloc (Nat.le_refl _) _
  have hC : W.heap[w.heap.size]? = some (.cells #[.int .i64 k, .string ⟨nm.toArray⟩, .int .i64 r, .int .i64 t, .int .i64 n, .string ⟨host.toArray⟩, .string ⟨s.toArray⟩] 35 (0, 0)) := by rw [hW]; exact heap_alloc_new w _
  have hl4 : w.heap.size < W.heap.size := (Array.getElem?_eq_some_iff.1 hC).1
  have x0 : W.cell? ⟨w.heap.size, 0, none⟩ = some (.int .i64 k) := by rw [cell_of_row W _ 0 _ _ (0, 0) hC]; rfl
  have x1 : W.cell? ⟨w.heap.size, 1, none⟩ = some (.string ⟨nm.toArray⟩) := by rw [cell_of_row W _ 1 _ _ (0, 0) hC]; rfl
  have x2 : W.cell? ⟨w.heap.size, 2, none⟩ = some (.int .i64 r) := by rw [cell_of_row W _ 2 _ _ (0, 0) hC]; rfl
  have x3 : W.cell? ⟨w.heap.size, 3, none⟩ = some (.int .i64 t) := by rw [cell_of_row W _ 3 _ _ (0, 0) hC]; rfl
  have x4 : W.cell? ⟨w.heap.size, 4, none⟩ = some (.int .i64 n) := by rw [cell_of_row W _ 4 _ _ (0, 0) hC]; rfl
  have x5 : W.cell? ⟨w.heap.size, 5, none⟩ = some (.string ⟨host.toArray⟩) := by rw [cell_of_row W _ 5 _ _ (0, 0) hC]; rfl
  have x6 : W.cell? ⟨w.heap.size, 6, none⟩ = some (.string ⟨s.toArray⟩) := by rw [cell_of_row W _ 6 _ _ (0, 0) hC]; rfl
  have HX := hid hW
  clear hW hC
  go_enter Try.func4, Try.ntmps4
  go_wp2_with fail
  rw [← HX.out]
  go_region
  clear x0 x1 x2 x3 x4 x5 x6 hl4
  have h0 := (THeld.new W (k, nm, r, t)).next (below_drewN _ _ 1)
  simp only at h0
  obtain ⟨W1, hW1⟩ : ∃ W1, W1 = (W.alloc (.cells #[.int .i64 k, .string ⟨nm.toArray⟩, .int .i64 r, .int .i64 t] 33)).drew := ⟨_, rfl⟩
  have h1 : THeld W W1 W.heap.size (k, nm, r, t) := by rw [hW1]; exact h0
  clear h0
  rw [← hW1]
  clear hW1
  have hW0 := h1.lt
  generalize W.heap.size = g at *
  go_wp2_with fail
  refine (rawake_any W1).mono ?_
  rintro _ w2 ⟨rfl, b2⟩
  have h2 := h1.next b2
  have p0 := h2.c0
  have p1 := h2.c1
  have p2 := h2.c2
  have p3 := h2.c3
  simp only at p0 p1 p2 p3
  go_wp2_with fail
  refine (task_any k nm r t hnm' _).mono ?_
  rintro _ w3 ⟨rfl, b3⟩
  have h3 := h2.next b3
  clear p0 p1 p2 p3
  have p0 := h3.c0
  have p1 := h3.c1
  have p2 := h3.c2
  have p3 := h3.c3
  simp only at p0 p1 p2 p3
  generalize hA : encTV (k, nm, r, t) = A
  generalize hV : tkV (k, nm, r, t) = V
  have HA := hid hA
  have HV := hid hV
  clear hA hV
  go_wp2_with fail
  refine (rtask_any k nm r t hnm' _).mono ?_
  rw [HA.out, HV.out]
  rintro _ w4 ⟨rfl, b4⟩
  have h4 := h3.next b4
  clear p0 p1 p2 p3
  go_wp2_with fail
  refine (tasked_any s (by omega) _).mono ?_
  rintro _ w5 ⟨x, er, rfl, b5, hr5⟩
  have h5 := h4.next b5
  unfold tkV'
  go_wp2_with fail
  have q0 := THeld.new w5 x
  obtain ⟨W5, hW5⟩ : ∃ W5, W5 = w5.alloc (.cells #[.int .i64 x.1, .string ⟨x.2.1.toArray⟩, .int .i64 x.2.2.1, .int .i64 x.2.2.2] 33) := ⟨_, rfl⟩
  rw [← hW5] at q0 ⊢
  have h6 := h5.next q0.below
  clear hW5
  refine (rtasked_any s (by omega) _).mono ?_
  rintro _ w6 ⟨x', er', rfl, b6, hr6⟩
  have hsame : x' = x ∧ er' = er := by
    rw [← task_same] at hr6
    rcases hr5 with ⟨e1, e2⟩ | ⟨e1, e2, e3⟩
    · rcases hr6 with ⟨f1, f2⟩ | ⟨f1, f2, f3⟩
      · rw [e1] at f1; cases f1; exact ⟨rfl, f2.trans e2.symm⟩
      · rw [e1] at f1; cases f1
    · rcases hr6 with ⟨f1, f2⟩ | ⟨f1, f2, f3⟩
      · rw [e1] at f1; cases f1
      · exact ⟨f3.trans e3.symm, f2.trans e2.symm⟩
  obtain ⟨rfl, rfl⟩ := hsame
  clear hr5 hr6
  have h7 := h6.next b6
  have q1 := q0.next b6
  have p0 := q1.c0
  have p1 := q1.c1
  have p2 := q1.c2
  have p3 := q1.c3
  have plt := q1.lt
  have hbel := h7.below
  clear HA HV h1 h2 h3 h4 h5 h6 h7 q0 b2 b3 b4 b5 b6 hW0
  generalize w5.heap.size = g5 at *
  unfold tkV'
  go_wp2_with fail
  obtain ⟨W6, hW6⟩ : ∃ W6, W6 = w6.alloc (.cells #[.int .i64 x'.1, .string ⟨x'.2.1.toArray⟩, .int .i64 x'.2.2.1, .int .i64 x'.2.2.2] 33) := ⟨_, rfl⟩
  have hb6 : Below W.heap.size W W6 := by rw [hW6]; exact hbel.alloc hbel.size _
  rw [← hW6]
  clear hW6 hbel p0 p1 p2 p3 plt q1
  refine (held_any n host hh' _).mono ?_
  rintro _ w7 ⟨rfl, b7⟩
  have hb7 := bnext hb6 b7
  generalize hB : encHV n host = B
  generalize hU : hdV n host = U
  have HB := hid hB
  have HU := hid hU
  clear hB hU
  go_wp2_with fail
  refine (rheld_any n host hh' _).mono ?_
  rw [HB.out, HU.out]
  rintro _ w8 ⟨rfl, b8⟩
  have hb8 := bnext hb7 b8
  clear HB HU hb7 b7 b8
  go_wp2_with fail
  refine (holder_any s (by omega) _).mono ?_
  rintro _ w9 ⟨m, who, e9, rfl, b9, hr9⟩
  go_wp2_with fail
  refine (rholder_any s (by omega) _).mono ?_
  rintro _ w10 ⟨m', who', e10, rfl, b10, hr10⟩
  have hsame : m' = m ∧ who' = who ∧ e10 = e9 := by
    rw [← held_same] at hr10
    rcases hr9 with ⟨e1, e2⟩ | ⟨e1, e2, e3, e4⟩
    · rcases hr10 with ⟨f1, f2⟩ | ⟨f1, f2, f3, f4⟩
      · rw [e1] at f1; cases f1; exact ⟨rfl, rfl, f2.trans e2.symm⟩
      · rw [e1] at f1; cases f1
    · rcases hr10 with ⟨f1, f2⟩ | ⟨f1, f2, f3, f4⟩
      · rw [e1] at f1; cases f1
      · exact ⟨f3.trans e3.symm, f4.trans e4.symm, f2.trans e2.symm⟩
  obtain ⟨rfl, rfl, rfl⟩ := hsame
  have hb10 := bnext (bnext hb8 b9) b10
  clear hr9 hr10 hb8 b9 b10
  go_wp2_with fail
  refine (rflowing_any s (by omega) _).mono ?_
  rintro _ w11 ⟨st, nx, kp, e11, rfl, b11, hr11⟩
  go_wp2_with fail
  refine (flowing_any s (by omega) _).mono ?_
  rintro _ w12 ⟨st', nx', kp', e12, rfl, b12, hr12⟩
  have hsame : st' = st ∧ nx' = nx ∧ kp' = kp ∧ e12 = e11 := by
    rcases hr11 with ⟨e1, e2⟩ | ⟨e1, e2, e3, e4, e5⟩
    · rcases hr12 with ⟨f1, f2⟩ | ⟨f1, f2, f3, f4, f5⟩
      · rw [e1] at f1; cases f1; exact ⟨rfl, rfl, rfl, f2.trans e2.symm⟩
      · rw [e1] at f1; cases f1
    · rcases hr12 with ⟨f1, f2⟩ | ⟨f1, f2, f3, f4, f5⟩
      · rw [e1] at f1; cases f1
      · exact ⟨f3.trans e3.symm, f4.trans e4.symm, f5.trans e5.symm, f2.trans e2.symm⟩
  obtain ⟨rfl, rfl, rfl, rfl⟩ := hsame
  have hb12 := bnext (bnext hb10 b11) b12
  clear hr11 hr12 hb10 b11 b12
  unfold mV
  go_wp2_with fail
  go_ret
  have hbf := bnext bW hb12
  exact ⟨rfl, hbf.alloc hbf.size _⟩
end Go.Proofs.Ytpocpklmiajoiaa
