/- THE WALK of RowsOrder. -/
import Derived.Test.YtpocpklmiajoiaaRowBack
import Derived.Test.YtpocpklmiajoiaaRowOrd
import Derived.BigRegion
import Derived.Deep.DeepCutAuto
import Derived.Deep.RegionHeld3
import Derived.Deep.QuietTactic
import Derived.BigQuiet
namespace Go.Proofs.Ytpocpklmiajoiaa
open Go.RowKit
set_option linter.unusedVariables false

/-- shard, workflow, name, number, task: all that a key may be made of -/
abbrev Ky := Int × List UInt8 × List UInt8 × Int × Nat
abbrev Ky.sh (x : Ky) : Int := x.1
abbrev Ky.wd (x : Ky) : List UInt8 := x.2.1
abbrev Ky.nm (x : Ky) : List UInt8 := x.2.2.1
abbrev Ky.id (x : Ky) : Int := x.2.2.2.1
abbrev Ky.nu (x : Ky) : Nat := x.2.2.2.2
def kyC (x : Ky) : Array Value := #[.int .i64 x.sh, .string ⟨x.wd.toArray⟩, .string ⟨x.nm.toArray⟩, .int .i64 x.id, .int .u64 (x.nu : Int)]
structure KHeld (w0 w : World) (g : Nat) (x : Ky) : Prop where
  c0 : w.cell? ⟨g, 0, none⟩ = some (.int .i64 x.sh)
  c1 : w.cell? ⟨g, 1, none⟩ = some (.string ⟨x.wd.toArray⟩)
  c2 : w.cell? ⟨g, 2, none⟩ = some (.string ⟨x.nm.toArray⟩)
  c3 : w.cell? ⟨g, 3, none⟩ = some (.int .i64 x.id)
  c4 : w.cell? ⟨g, 4, none⟩ = some (.int .u64 (x.nu : Int))
  below : Below w0.heap.size w0 w
  lt : g < w.heap.size
theorem KHeld.next {w0 w w' : World} {g : Nat} {x : Ky} (h : KHeld w0 w g x) (b : Below w.heap.size w w') : KHeld w0 w' g x :=
  ⟨(b.cell (p := ⟨g, 0, none⟩) h.lt).trans h.c0, (b.cell (p := ⟨g, 1, none⟩) h.lt).trans h.c1, (b.cell (p := ⟨g, 2, none⟩) h.lt).trans h.c2, (b.cell (p := ⟨g, 3, none⟩) h.lt).trans h.c3, (b.cell (p := ⟨g, 4, none⟩) h.lt).trans h.c4, bnext h.below b, Nat.lt_of_lt_of_le h.lt b.size⟩
theorem KHeld.up {w00 w0 w : World} {g : Nat} {x : Ky} (h : KHeld w0 w g x) (b : Below w00.heap.size w00 w0) : KHeld w00 w g x :=
  ⟨h.c0, h.c1, h.c2, h.c3, h.c4, bnext b h.below, h.lt⟩
theorem KHeld.new (w : World) (x : Ky) : KHeld w (w.alloc (.cells (kyC x) 24)) w.heap.size x := by
  obtain ⟨W, hW⟩ : ∃ W, W = w.alloc (.cells (kyC x) 24) := ⟨_, rfl⟩
  have bW : Below w.heap.size w W := by rw [hW]; exact (Below.refl _ _).alloc (Nat.le_refl _) _
  have hC : W.heap[w.heap.size]? = some (.cells (kyC x) 24 (0, 0)) := by rw [hW]; exact heap_alloc_new w _
  rw [← hW]
  refine ⟨?_, ?_, ?_, ?_, ?_, bW, (Array.getElem?_eq_some_iff.1 hC).1⟩
  · rw [cell_of_row W _ 0 _ _ (0, 0) hC]; rfl
  · rw [cell_of_row W _ 1 _ _ (0, 0) hC]; rfl
  · rw [cell_of_row W _ 2 _ _ (0, 0) hC]; rfl
  · rw [cell_of_row W _ 3 _ _ (0, 0) hC]; rfl
  · rw [cell_of_row W _ 4 _ _ (0, 0) hC]; rfl

theorem event_nat (l : List UInt8) (n : Nat) (hl : l.length ≤ 9223372036854770000) (hn : n ≤ 2147483648) (w : World) : Calls Try.prog 8 #[.string ⟨l.toArray⟩, .int .i64 (n : Int)] w fun e w' => e = .returned (.string ⟨(eventL l n).toArray⟩) ∧ Below w.heap.size w w' := by
  have := event_any l hl (n : Int) (by omega) (by omega) w
  rw [Int.toNat_natCast] at this
  exact this
theorem timer_nat (n : Int) (at_ id : Nat) (hid : U64 id) (h1 : at_ ≤ 2147483648) (w : World) : Calls Try.prog 10 #[.int .i64 n, .int .i64 (at_ : Int), .int .u64 (id : Int)] w fun e w' => e = .returned (.string ⟨(dueL (oneB n) at_ (fixedL id)).toArray⟩) ∧ Below w.heap.size w w' := by
  have := timer_any n (at_ : Int) id hid (by omega) (by omega) w
  rw [Int.toNat_natCast] at this
  exact this
theorem held6 {w2 w' w'' : World} {A C D E F G : Addr} {x y z u v t : Value} (ha : A.block < w2.heap.size) (hc : C.block < w2.heap.size) (hd : D.block < w2.heap.size) (he : E.block < w2.heap.size) (hf : F.block < w2.heap.size) (hg : G.block < w2.heap.size)
    (h0 : w2.cell? A = some x) (h1 : w2.cell? C = some y) (h2 : w2.cell? D = some z) (h3 : w2.cell? E = some u) (h4 : w2.cell? F = some v) (h5 : w2.cell? G = some t)
    (h : Below w2.heap.size w2 w' ∧ w'.cell? A = some x ∧ w'.cell? C = some y ∧ w'.cell? D = some z ∧ w'.cell? E = some u ∧ w'.cell? F = some v ∧ w'.cell? G = some t) (k : Below w'.heap.size w' w'') :
    Below w2.heap.size w2 w'' ∧ w''.cell? A = some x ∧ w''.cell? C = some y ∧ w''.cell? D = some z ∧ w''.cell? E = some u ∧ w''.cell? F = some v ∧ w''.cell? G = some t := by
  have hb := bnext h.1 k
  exact ⟨hb, (hb.cell ha).trans h0, (hb.cell hc).trans h1, (hb.cell hd).trans h2, (hb.cell he).trans h3, (hb.cell hf).trans h4, (hb.cell hg).trans h5⟩
theorem held8 {w2 w' w'' : World} {g h : Nat} {x0 x1 x2 x3 y0 y1 y2 y3 : Value} (hg : g < w2.heap.size) (hh : h < w2.heap.size)
    (a0 : w2.cell? ⟨g, 0, none⟩ = some x0) (a1 : w2.cell? ⟨g, 1, none⟩ = some x1) (a2 : w2.cell? ⟨g, 2, none⟩ = some x2) (a3 : w2.cell? ⟨g, 3, none⟩ = some x3) (b0 : w2.cell? ⟨h, 0, none⟩ = some y0) (b1 : w2.cell? ⟨h, 1, none⟩ = some y1) (b2 : w2.cell? ⟨h, 2, none⟩ = some y2) (b3 : w2.cell? ⟨h, 3, none⟩ = some y3)
    (hS : Below w2.heap.size w2 w' ∧ w'.cell? ⟨g, 0, none⟩ = some x0 ∧ w'.cell? ⟨g, 1, none⟩ = some x1 ∧ w'.cell? ⟨g, 2, none⟩ = some x2 ∧ w'.cell? ⟨g, 3, none⟩ = some x3 ∧ w'.cell? ⟨h, 0, none⟩ = some y0 ∧ w'.cell? ⟨h, 1, none⟩ = some y1 ∧ w'.cell? ⟨h, 2, none⟩ = some y2 ∧ w'.cell? ⟨h, 3, none⟩ = some y3) (k : Below w'.heap.size w' w'') :
    Below w2.heap.size w2 w'' ∧ w''.cell? ⟨g, 0, none⟩ = some x0 ∧ w''.cell? ⟨g, 1, none⟩ = some x1 ∧ w''.cell? ⟨g, 2, none⟩ = some x2 ∧ w''.cell? ⟨g, 3, none⟩ = some x3 ∧ w''.cell? ⟨h, 0, none⟩ = some y0 ∧ w''.cell? ⟨h, 1, none⟩ = some y1 ∧ w''.cell? ⟨h, 2, none⟩ = some y2 ∧ w''.cell? ⟨h, 3, none⟩ = some y3 := by
  have hb := bnext hS.1 k
  exact ⟨hb, (hb.cell hg).trans a0, (hb.cell hg).trans a1, (hb.cell hg).trans a2, (hb.cell hg).trans a3, (hb.cell hh).trans b0, (hb.cell hh).trans b1, (hb.cell hh).trans b2, (hb.cell hh).trans b3⟩
set_option maxHeartbeats 3200000 in
set_option maxRecDepth 100000 in
theorem rowsOrder_walk (az : Int) (aw an : List UInt8) (ai : Int) (au : Nat) (bs : Int) (bw bn : List UInt8) (bi : Int) (bu : Nat) (hau : U64 au) (hbu : U64 bu) (haw : aw.length ≤ 140737488351232) (han : an.length ≤ 140737488351232) (hbw : bw.length ≤ 140737488351232) (hbn : bn.length ≤ 140737488351232) (w : World) :
    Calls Try.prog 3 #[.agg #[.int .i64 az, .string ⟨aw.toArray⟩, .string ⟨an.toArray⟩, .int .i64 ai, .int .u64 (au : Int)], .agg #[.int .i64 bs, .string ⟨bw.toArray⟩, .string ⟨bn.toArray⟩, .int .i64 bi, .int .u64 (bu : Int)]] w fun e w' => e = .returned (.bool true) ∧ Below w.heap.size w w' := by
  have h1 := KHeld.new w (az, aw, an, ai, au)
  obtain ⟨W, hW⟩ : ∃ W, W = w.alloc (.cells #[.int .i64 az, .string ⟨aw.toArray⟩, .string ⟨an.toArray⟩, .int .i64 ai, .int .u64 (au : Int)] 24) := ⟨_, rfl⟩
  unfold kyC at h1
  simp only [Ky.sh, Ky.wd, Ky.nm, Ky.id, Ky.nu] at h1
  rw [← hW] at h1
  have h2 := KHeld.new W (bs, bw, bn, bi, bu)
  obtain ⟨V, hV⟩ : ∃ V, V = W.alloc (.cells #[.int .i64 bs, .string ⟨bw.toArray⟩, .string ⟨bn.toArray⟩, .int .i64 bi, .int .u64 (bu : Int)] 24) := ⟨_, rfl⟩
  unfold kyC at h2
  simp only [Ky.sh, Ky.wd, Ky.nm, Ky.id, Ky.nu] at h2
  rw [← hV] at h2
  have a1 := h1.next h2.below
  have b1 := h2.up h1.below
  have hsz : W.heap.size = w.heap.size + 1 := by rw [hW]; show (w.heap.push _).size = _; rw [Array.size_push]
  have HX := hid hW
  have HY := hid hV
  have HS := hid hsz
  rw [hsz] at b1
  clear hW hV h1 h2 hsz
  go_enter Try.func3, Try.ntmps3
  simp only [List.append_eq, List.cons_append, List.nil_append]
  go_wp2_with fail
  rw [← HX.out, ← HY.out]
  refine (rawake_any V).mono ?_
  rintro _ w2 ⟨rfl, d2⟩
  have a2 := a1.next d2
  have b2 := b1.next d2
  have p0 := a2.c0
  have p1 := a2.c1
  have p2 := a2.c2
  have p3 := a2.c3
  have p4 := a2.c4
  have q0 := b2.c0
  have q1 := b2.c1
  have q2 := b2.c2
  have q3 := b2.c3
  have q4 := b2.c4
  simp only [Ky.sh, Ky.wd, Ky.nm, Ky.id, Ky.nu] at p0 p1 p2 p3 p4 q0 q1 q2 q3 q4
  clear d2 a1 b1
  by_cases c1 : ai < 0
  · go_wp2_with fail
    go_ret
    exact ⟨rfl, a2.below⟩
  by_cases c2 : bi < 0
  · go_wp2_with fail
    go_ret
    exact ⟨rfl, a2.below⟩
  by_cases c3 : 2147483648 < ai
  · go_wp2_with fail
    go_ret
    exact ⟨rfl, a2.below⟩
  by_cases c4 : 2147483648 < bi
  · go_wp2_with fail
    go_ret
    exact ⟨rfl, a2.below⟩
  obtain ⟨i, rfl⟩ := Int.eq_ofNat_of_zero_le (show 0 ≤ ai by omega)
  obtain ⟨j, rfl⟩ := Int.eq_ofNat_of_zero_le (show 0 ≤ bi by omega)
  have hi : i ≤ 2147483648 := by omega
  have hj : j ≤ 2147483648 := by omega
  go_wp2_with fail
  have L1 : Op.bytesLess (eventL aw i) (eventL aw j) = decide ((i : Int) < (j : Int)) := by rw [event_less aw hi hj]; simp
  have L2 : Op.bytesLess (116 :: oneB az :: fixedL au) (116 :: oneB az :: fixedL bu) = decide ((au : Int) < (bu : Int)) := by rw [transfer_less (oneB az) hau hbu]; simp
  have la := a2.lt
  have lb := b2.lt
  have hkeep := fun w' w'' h k => held6 (A := ⟨w.heap.size, 0, none⟩) (C := ⟨w.heap.size, 1, none⟩) (D := ⟨w.heap.size, 3, none⟩) (E := ⟨w.heap.size, 4, none⟩) (F := ⟨w.heap.size + 1, 3, none⟩) (G := ⟨w.heap.size + 1, 4, none⟩) la la la la lb lb p0 p1 p3 p4 q3 q4 (w' := w') (w'' := w'') h k
  go_region_held3 (fun w' => Below w2.heap.size w2 w' ∧ w'.cell? ⟨w.heap.size, 0, none⟩ = some (.int .i64 az) ∧ w'.cell? ⟨w.heap.size, 1, none⟩ = some (.string ⟨aw.toArray⟩) ∧ w'.cell? ⟨w.heap.size, 3, none⟩ = some (.int .i64 i) ∧ w'.cell? ⟨w.heap.size, 4, none⟩ = some (.int .u64 au) ∧ w'.cell? ⟨w.heap.size + 1, 3, none⟩ = some (.int .i64 j) ∧ w'.cell? ⟨w.heap.size + 1, 4, none⟩ = some (.int .u64 bu)) (first | exact hS | exact ⟨Below.refl _ _, p0, p1, p3, p4, q3, q4⟩ | exact ⟨below_drewN _ _ 1, p0, p1, p3, p4, q3, q4⟩)
    ((first | (go_at_call 8; refine (event_nat _ _ (by omega) (by omega) _).mono ?_; rintro _ w5 ⟨rfl, hb5⟩; have hS := hkeep _ _ (by assumption) hb5) | (go_at_call 9; refine (transfer_any _ _ (by first | exact hau | exact hbu) _).mono ?_; rintro _ w5 ⟨rfl, hb5⟩; have hS := hkeep _ _ (by assumption) hb5)))
  have a5 := a2.next hS.1
  have b5 := b2.next hS.1
  clear hS hkeep p0 p1 p2 p3 p4 q0 q1 q2 q3 q4 la lb L1 L2 a2 b2
  have p0 := a5.c0
  have p1 := a5.c1
  have p3 := a5.c3
  have p4 := a5.c4
  have q3 := b5.c3
  have q4 := b5.c4
  have la := a5.lt
  have lb := b5.lt
  simp only [Ky.sh, Ky.wd, Ky.id, Ky.nu] at p0 p1 p3 p4 q3 q4
  go_wp2_with fail
  have hkeep := fun w' w'' h k => held6 (A := ⟨w.heap.size, 0, none⟩) (C := ⟨w.heap.size, 1, none⟩) (D := ⟨w.heap.size, 3, none⟩) (E := ⟨w.heap.size, 4, none⟩) (F := ⟨w.heap.size + 1, 3, none⟩) (G := ⟨w.heap.size + 1, 4, none⟩) la la la la lb lb p0 p1 p3 p4 q3 q4 (w' := w') (w'' := w'') h k
  go_region_held3 (fun w' => Below w5.heap.size w5 w' ∧ w'.cell? ⟨w.heap.size, 0, none⟩ = some (.int .i64 az) ∧ w'.cell? ⟨w.heap.size, 1, none⟩ = some (.string ⟨aw.toArray⟩) ∧ w'.cell? ⟨w.heap.size, 3, none⟩ = some (.int .i64 i) ∧ w'.cell? ⟨w.heap.size, 4, none⟩ = some (.int .u64 au) ∧ w'.cell? ⟨w.heap.size + 1, 3, none⟩ = some (.int .i64 j) ∧ w'.cell? ⟨w.heap.size + 1, 4, none⟩ = some (.int .u64 bu)) (first | exact hS | exact ⟨Below.refl _ _, p0, p1, p3, p4, q3, q4⟩ | exact ⟨below_drewN _ _ 1, p0, p1, p3, p4, q3, q4⟩)
    ((go_at_call 10; refine (timer_nat _ _ _ (by first | exact hau | exact hbu) (by omega) _).mono ?_; rintro _ w7 ⟨rfl, hb5⟩; have hS := hkeep _ _ (by assumption) hb5))
  have a7 := a5.next hS.1
  have b7 := b5.next hS.1
  clear hS hkeep p0 p1 p3 p4 q3 q4 la lb a5 b5
  have p0 := a7.c0
  have p1 := a7.c1
  have p2 := a7.c2
  have p3 := a7.c3
  have p4 := a7.c4
  have q0 := b7.c0
  have q1 := b7.c1
  have q2 := b7.c2
  have q3 := b7.c3
  have q4 := b7.c4
  have la := a7.lt
  have lb := b7.lt
  simp only [Ky.sh, Ky.wd, Ky.nm, Ky.id, Ky.nu] at p0 p1 p2 p3 p4 q0 q1 q2 q3 q4
  go_upto_region 8 with (fail)
  go_cut [2, 3, 100] (fun s2 s3 s100 wx => s2 = .pointer (some ⟨w.heap.size, 0, none⟩) ∧ s3 = .pointer (some ⟨w.heap.size + 1, 0, none⟩) ∧ s100 = .bool false ∧ wx = w7)
  case first =>
   as_aux_lemma =>
    have L3 := timer_less (oneB az) (m := i) (n := j) (by unfold U64; omega) (by unfold U64; omega) hau hbu
    by_cases e1 : i < j
    · rw [show (decide (i < j) || (decide (i = j) && decide (au < bu))) = true by simp [e1]] at L3
      go_wp2_with fail
      go_meet
      exact ⟨rfl, rfl, rfl, rfl⟩
    · by_cases e2 : i = j
      · subst e2
        by_cases e3 : au < bu
        · rw [show (decide (i < i) || (decide (i = i) && decide (au < bu))) = true by simp [e3]] at L3
          go_wp2_with fail
          go_meet
          exact ⟨rfl, rfl, rfl, rfl⟩
        · rw [show (decide (i < i) || (decide (i = i) && decide (au < bu))) = false by simp [e3]] at L3
          go_wp2_with fail
          go_meet
          exact ⟨rfl, rfl, rfl, rfl⟩
      · rw [show (decide (i < j) || (decide (i = j) && decide (au < bu))) = false by simp [e1, e2]] at L3
        go_wp2_with fail
        go_meet
        exact ⟨rfl, rfl, rfl, rfl⟩
  case rest =>
    obtain ⟨rfl, rfl, rfl, hwc⟩ := hcut
    rw [hwc]
    clear hwc
    go_upto_region 10 with (fail)
    go_cut [2, 3, 7] (fun s2 s3 s7 wx => s2 = .pointer (some ⟨w.heap.size, 0, none⟩) ∧ s3 = .pointer (some ⟨w.heap.size + 1, 0, none⟩) ∧ s7 = .bool ((aw == bw) && decide (i = j)) ∧ wx = w7)
    case first =>
     as_aux_lemma =>
      have q8 : ((i : Int) == (j : Int)) = decide (i = j) := by rw [Bool.eq_iff_iff, beq_iff_eq, decide_eq_true_eq]; omega
      by_cases e1 : aw = bw
      · have e1' : (aw == bw) = true := by rw [beq_iff_eq]; exact e1
        go_wp2_with fail
        go_meet
        rw [e1']
        exact ⟨rfl, rfl, rfl, rfl⟩
      · have e1' : (aw == bw) = false := by rw [beq_eq_false_iff_ne]; exact e1
        go_wp2_with fail
        go_meet
        rw [e1']
        exact ⟨rfl, rfl, rfl, rfl⟩
    case rest =>
     as_aux_lemma =>
      obtain ⟨rfl, rfl, rfl, hwc⟩ := hcut
      rw [hwc]
      clear hwc
      go_wp2_with fail
      have Q5 : (eventL aw i == eventL bw j) = ((aw == bw) && decide (i = j)) := event_beq aw bw hi hj
      have Q6 := cons_beq 119 aw bw
      have Q7 := list_beq 113 an bn
      have hkeep := fun w' w'' h k => held8 (g := w.heap.size) (h := w.heap.size + 1) la lb p0 p1 p2 p3 q0 q1 q2 q3 (w' := w') (w'' := w'') h k
      go_region_held3 (fun w' => Below w7.heap.size w7 w' ∧ w'.cell? ⟨w.heap.size, 0, none⟩ = some (.int .i64 az) ∧ w'.cell? ⟨w.heap.size, 1, none⟩ = some (.string ⟨aw.toArray⟩) ∧ w'.cell? ⟨w.heap.size, 2, none⟩ = some (.string ⟨an.toArray⟩) ∧ w'.cell? ⟨w.heap.size, 3, none⟩ = some (.int .i64 i) ∧ w'.cell? ⟨w.heap.size + 1, 0, none⟩ = some (.int .i64 bs) ∧ w'.cell? ⟨w.heap.size + 1, 1, none⟩ = some (.string ⟨bw.toArray⟩) ∧ w'.cell? ⟨w.heap.size + 1, 2, none⟩ = some (.string ⟨bn.toArray⟩) ∧ w'.cell? ⟨w.heap.size + 1, 3, none⟩ = some (.int .i64 j)) (first | exact hS | exact ⟨Below.refl _ _, p0, p1, p2, p3, q0, q1, q2, q3⟩ | exact ⟨below_drewN _ _ 1, p0, p1, p2, p3, q0, q1, q2, q3⟩)
        ((first
          | (go_at_call 8; refine (event_nat _ _ (by omega) (by omega) _).mono ?_; rintro _ w9 ⟨rfl, hb9⟩; have hS := hkeep _ _ (by assumption) hb9)
          | (go_at_call 11; refine (flow_any _ (by omega) _).mono ?_; rintro _ w9 ⟨rfl, hb9⟩; have hS := hkeep _ _ (by assumption) hb9)
          | (go_at_call 12; refine (answered_any _ (by omega) _).mono ?_; rintro _ w9 ⟨rfl, hb9⟩; have hS := hkeep _ _ (by assumption) hb9)
          | (go_at_call 13; refine (events_any _ (by omega) _).mono ?_; rintro _ w9 ⟨rfl, hb9⟩; have hS := hkeep _ _ (by assumption) hb9)
          | (go_at_call 14; refine (lease_any _ _).mono ?_; rintro _ w9 ⟨rfl, hb9⟩; have hS := hkeep _ _ (by assumption) hb9)
          | (go_at_call 15; refine (transfers_any _ _).mono ?_; rintro _ w9 ⟨rfl, hb9⟩; have hS := hkeep _ _ (by assumption) hb9)
          | (go_at_call 16; refine (list_any _ (by omega) _).mono ?_; rintro _ w9 ⟨rfl, hb9⟩; have hS := hkeep _ _ (by assumption) hb9)))
      have hbf := a7.next hS.1
      clear hkeep p0 p1 p2 p3 p4 q0 q1 q2 q3 q4 la lb
      go_wp2_with fail
      go_ret
      exact ⟨rfl, hbf.below⟩
end Go.Proofs.Ytpocpklmiajoiaa
