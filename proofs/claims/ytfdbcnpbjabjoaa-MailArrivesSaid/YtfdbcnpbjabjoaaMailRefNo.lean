/- THE REFERENCE's NET: the calls that change nothing; Double. -/
import Derived.Test.YtfdbcnpbjabjoaaMailRef
namespace Go.Proofs.Ytfdbcnpbjabjoaa
open Go.RowKit
set_option linter.unusedVariables false

set_option maxHeartbeats 800000 in
theorem rdouble_ok (w : World) (B g : Nat) (L : List Letter) (nx : Int) (j : Nat) (h : RNet w B g L nx) (hj : j < L.length) (hsz : L.length < 64) :
    Calls Try.prog 18 #[.pointer (some ⟨g, 0, none⟩), .int .i64 j] w fun e w' =>
      e = .returned (.int .i64 0) ∧ RNet w' B g (L ++ [L[j]]) nx ∧ KeepT B [29, 40] w w' := by
  have hinfo : (Try.prog.info? 40).map (fun i => (i.zero, i.size, i.bytes)) = some (some (.agg #[.int .i64 0, .string .empty, .string .empty]), 3, 40) := by kernel_rfl
  obtain ⟨a, c, ho, hr, hB⟩ := h.shape
  obtain ⟨b, rfl⟩ : ∃ b, a = some ⟨b, 0, none⟩ := by
    rcases hr.2 with ⟨e1, h0⟩ | ⟨b, cap, cur, e1, _⟩
    · omega
    · cases e1; exact ⟨b, rfl⟩
  have hat : ∀ t, t < 3 → w.cell? ⟨b, j * 3 + t, none⟩ = (letC L[j])[t]? := by
    intro t ht
    rw [← letters_at hj t ht]
    have hl : j * 3 + t < (L.flatMap letC).length := by rw [letters_len]; omega
    have := hr.cells (g := b) rfl (j * 3 + t) _ (List.getElem?_eq_getElem hl)
    rw [List.getElem?_eq_getElem hl, ← this]
    rw [Addr.add_lit, Nat.zero_add]
  have h0 : w.cell? ⟨b, j * 3, none⟩ = some (.int .i64 L[j].1) := hat 0 (by decide)
  have h1 : w.cell? ⟨b, j * 3 + 1, none⟩ = some (.string ⟨L[j].2.1.toArray⟩) := hat 1 (by decide)
  have h2 : w.cell? ⟨b, j * 3 + 2, none⟩ = some (.string ⟨L[j].2.2.toArray⟩) := hat 2 (by decide)
  have n0 : ¬ (j : Int) < 0 := by omega
  have n1 : ¬ (L.length : Int) ≤ (j : Int) := by omega
  have c0 := ho.c0
  have hl := ho.lt
  clear hat
  generalize L[j] = x at *
  have hf' : ¬ (64 : Int) ≤ (L.length : Int) := by omega
  have g2 : ∀ (t : Nat) (u : Value), (letC x)[t]? = some u → (w.drew.alloc (.cells #[.int .i64 x.1, .string ⟨x.2.1.toArray⟩, .string ⟨x.2.2.toArray⟩] 40)).cell? ⟨w.heap.size, t, none⟩ = some u := by
    intro t u hu
    refine (World.cell?_alloc_at (w := w.drew) _ _ w.heap.size t rfl).trans ?_
    rw [← hu]
    unfold letC strV
    exact List.getElem?_toArray
  have g4 : B ≤ (w.drew.alloc (.cells #[.int .i64 x.1, .string ⟨x.2.1.toArray⟩, .string ⟨x.2.2.toArray⟩] 40)).heap.size := by
    show B ≤ (w.heap.push _).size
    rw [Array.size_push]; omega
  have hrW : (w.drew.alloc (.cells #[.int .i64 x.1, .string ⟨x.2.1.toArray⟩, .string ⟨x.2.2.toArray⟩] 40)).ownsRow B 40 3 (.slice (some ⟨b, 0, none⟩) L.length c) L.length (L.flatMap letC) := World.ownsRow.alloc hr _
  have hoW : Obj2 (w.drew.alloc (.cells #[.int .i64 x.1, .string ⟨x.2.1.toArray⟩, .string ⟨x.2.2.toArray⟩] 40)) g 29 (.slice (some ⟨b, 0, none⟩) L.length c) (.int .i64 nx) := Obj2.keep (w := w.drew) ho ((Below.refl _ _).alloc (Nat.le_refl _) (.cells #[.int .i64 x.1, .string ⟨x.2.1.toArray⟩, .string ⟨x.2.2.toArray⟩] 40))
  have kW : KeepT B [29, 40] w (w.drew.alloc (.cells #[.int .i64 x.1, .string ⟨x.2.1.toArray⟩, .string ⟨x.2.2.toArray⟩] 40)) := (KeepT.refl _ _ _).drew.alloc _
  clear h hr
  go_enter Try.func18, Try.ntmps18
  go_wp2_with fail
  go_region_law (refine step_append_letter _ rfl _ _ 27 rfl B 40 (.agg #[.int .i64 0, .string .empty, .string .empty]) 40 Try.underlying27 hinfo rfl _ L rfl hrW w.heap.size 1 rfl x g2 (by unfold maxLen; omega) (by omega) g4 ?_; intro a' c' w' hown hkeep; have hD := hkeep.obj hoW (by decide); have d0 := hD.c0; have e0 := hD.fz 0)
  all_goals
    go_wp2_with fail
    go_ret
    refine ⟨rfl, ⟨.slice a' (L.length + 1) c', ?_, ?_, hB⟩, ?_⟩
    · exact hD.set0 _
    · exact ((KeepT.refl B [29] _).setCell hD (by simp) hB).own (by simpa using hown) (by decide)
    · exact (kW.trans (hkeep.mono (by simp))).setCell hD (by simp) hB

theorem rdouble_no (w : World) (B g : Nat) (L : List Letter) (nx i : Int) (h : RNet w B g L nx) (hno : wrongB L i = true) :
    Calls Try.prog 18 #[.pointer (some ⟨g, 0, none⟩), .int .i64 i] w fun e w' => e = .returned (.int .i64 210) ∧ w' = w := by
  obtain ⟨a, c, ho, hr, hB⟩ := h.shape
  have c0 := ho.c0
  clear h hr ho
  by_cases h1 : i < 0
  · clear hno
    go_enter Try.func18, Try.ntmps18
    go_wp2_with fail
    go_ret
    exact ⟨rfl, rfl⟩
  · have h2 : (L.length : Int) ≤ i := by
      unfold wrongB at hno
      rw [decide_eq_false h1, Bool.false_or] at hno
      exact of_decide_eq_true hno
    clear hno
    go_enter Try.func18, Try.ntmps18
    go_wp2_with fail
    go_ret
    exact ⟨rfl, rfl⟩
theorem rdouble_full (w : World) (B g : Nat) (L : List Letter) (nx i : Int) (h : RNet w B g L nx) (hno : wrongB L i = false) (hf : 64 ≤ L.length) :
    Calls Try.prog 18 #[.pointer (some ⟨g, 0, none⟩), .int .i64 i] w fun e w' => e = .returned (.int .i64 2) ∧ w' = w := by
  obtain ⟨a, c, ho, hr, hB⟩ := h.shape
  have c0 := ho.c0
  have hf' : (64 : Int) ≤ (L.length : Int) := by omega
  unfold wrongB at hno
  have h1 : ¬ i < 0 := by intro h; rw [decide_eq_true h] at hno; cases hno
  have h2 : ¬ (L.length : Int) ≤ i := by intro h; rw [decide_eq_true h, Bool.or_true] at hno; cases hno
  clear h hr ho hno
  go_enter Try.func18, Try.ntmps18
  go_wp2_with fail
  go_ret
  exact ⟨rfl, rfl⟩
theorem rtake_no (w : World) (B g : Nat) (L : List Letter) (nx i : Int) (h : RNet w B g L nx) (hno : wrongB L i = true) :
    Calls Try.prog 16 #[.pointer (some ⟨g, 0, none⟩), .int .i64 i] w fun e w' =>
      e = .returned (.tuple #[.agg #[.int .i64 0, strV [], strV []], .int .i64 210]) ∧ RNet w' B g L nx ∧ Below w.heap.size w w' := by
  obtain ⟨a, c, ho, hr, hB⟩ := h.shape
  have c0 := ho.c0
  have hl := ho.lt
  have a4 : Below w.heap.size w (w.alloc (.cells #[.int .i64 0, .string ⟨#[]⟩, .string ⟨#[]⟩] 40)) := (Below.refl _ _).alloc (Nat.le_refl _) _
  obtain ⟨W, hW⟩ : ∃ W, W = w.alloc (.cells #[.int .i64 0, .string ⟨#[]⟩, .string ⟨#[]⟩] 40) := ⟨_, rfl⟩
  rw [← hW] at a4
  have d0 := (ho.keep a4).c0
  have hX : Hid (W = w.alloc (.cells #[.int .i64 0, .string ⟨#[]⟩, .string ⟨#[]⟩] 40)) := hW
  have hz3 : W.heap[w.heap.size]? = some (.cells #[.int .i64 0, .string ⟨#[]⟩, .string ⟨#[]⟩] 40 (0, 0)) := by rw [hW]; exact heap_alloc_new w _
  have z0 : W.cell? ⟨w.heap.size, 0, none⟩ = some (.int .i64 0) := by rw [cell_of_row W _ 0 _ _ (0, 0) hz3]; rfl
  have z1 : W.cell? ⟨w.heap.size, 1, none⟩ = some (.string ⟨#[]⟩) := by rw [cell_of_row W _ 1 _ _ (0, 0) hz3]; rfl
  have z2 : W.cell? ⟨w.heap.size, 2, none⟩ = some (.string ⟨#[]⟩) := by rw [cell_of_row W _ 2 _ _ (0, 0) hz3]; rfl
  have q0 : W.frozen? ⟨w.heap.size, 0, none⟩ = false := frozen_of_row W _ 0 _ _ hz3
  have q1 : W.frozen? ⟨w.heap.size, 1, none⟩ = false := frozen_of_row W _ 1 _ _ hz3
  have q2 : W.frozen? ⟨w.heap.size, 2, none⟩ = false := frozen_of_row W _ 2 _ _ hz3
  clear h hW c0
  by_cases h1 : i < 0
  · clear hno
    go_enter Try.func16, Try.ntmps16
    go_wp2_with (rw [← hX.out])
    have b4 : Below w.heap.size w (((W.setCell ⟨w.heap.size, 0, none⟩ (.int .i64 0)).setCell ⟨w.heap.size, 1, none⟩ (.string ⟨#[]⟩)).setCell ⟨w.heap.size, 2, none⟩ (.string ⟨#[]⟩)) := At.below a4 ((((At.refl _ _).set 0 _).set 1 _).set 2 _) (Nat.le_refl _)
    refine bodyPost_ret (v := .tuple #[.agg #[.int .i64 0, strV [], strV []], .int .i64 210]) ?_ rfl ⟨rfl, ⟨_, ho.keep b4, (KeepT.of_below (B := B) (S := []) b4).own hr (by simp), hB⟩, b4⟩
    rw [results_cell_tmp rfl]
    unfold strV
    go_simp
  · have h2 : (L.length : Int) ≤ i := by
      unfold wrongB at hno
      rw [decide_eq_false h1, Bool.false_or] at hno
      exact of_decide_eq_true hno
    clear hno
    go_enter Try.func16, Try.ntmps16
    go_wp2_with (rw [← hX.out])
    have b4 : Below w.heap.size w (((W.setCell ⟨w.heap.size, 0, none⟩ (.int .i64 0)).setCell ⟨w.heap.size, 1, none⟩ (.string ⟨#[]⟩)).setCell ⟨w.heap.size, 2, none⟩ (.string ⟨#[]⟩)) := At.below a4 ((((At.refl _ _).set 0 _).set 1 _).set 2 _) (Nat.le_refl _)
    refine bodyPost_ret (v := .tuple #[.agg #[.int .i64 0, strV [], strV []], .int .i64 210]) ?_ rfl ⟨rfl, ⟨_, ho.keep b4, (KeepT.of_below (B := B) (S := []) b4).own hr (by simp), hB⟩, b4⟩
    rw [results_cell_tmp rfl]
    unfold strV
    go_simp
theorem rsend_no (w : World) (B g : Nat) (L : List Letter) (nx : Int) (to text : List UInt8) (h : RNet w B g L nx) (hno : ¬ sendOk to text L) :
    Calls Try.prog 14 #[.pointer (some ⟨g, 0, none⟩), .string ⟨to.toArray⟩, .string ⟨text.toArray⟩] w fun e w' =>
      e = .returned (.tuple #[.int .i64 0, .int .i64 (sendErr to text L)]) ∧ w' = w := by
  obtain ⟨a, c, ho, hr, hB⟩ := h.shape
  have c0 := ho.c0
  clear h hr ho
  by_cases h1 : to.length < 1
  · have hv : sendErr to text L = 1 := by unfold sendErr; rw [if_pos (.inl h1)]
    rw [hv]
    have h1' : (to.length : Int) < (1 : Int) := by omega
    clear hv hno
    go_enter Try.func14, Try.ntmps14
    go_wp2_with fail
    go_ret2
    exact ⟨rfl, rfl⟩
  · have h1' : ¬ (to.length : Int) < (1 : Int) := by omega
    by_cases h16 : 16 < to.length
    · have hv : sendErr to text L = 1 := by unfold sendErr; rw [if_pos (.inr h16)]
      rw [hv]
      have h16' : (16 : Int) < (to.length : Int) := by omega
      clear hv hno
      go_enter Try.func14, Try.ntmps14
      go_wp2_with fail
      go_ret2
      exact ⟨rfl, rfl⟩
    · have h16' : ¬ (16 : Int) < (to.length : Int) := by omega
      by_cases h3 : 1048576 < text.length
      · have hv : sendErr to text L = 2 := by unfold sendErr; rw [if_neg (by omega), if_pos (.inl h3)]
        rw [hv]
        have h3' : (1048576 : Int) < (text.length : Int) := by omega
        clear hv hno
        go_enter Try.func14, Try.ntmps14
        go_wp2_with fail
        go_ret2
        exact ⟨rfl, rfl⟩
      · have h3' : ¬ (1048576 : Int) < (text.length : Int) := by omega
        have h4 : 64 ≤ L.length := by
          unfold sendOk at hno
          omega
        have hv : sendErr to text L = 2 := by unfold sendErr; rw [if_neg (by omega), if_pos (.inr h4)]
        rw [hv]
        have h4' : (64 : Int) ≤ (L.length : Int) := by omega
        clear hv hno
        go_enter Try.func14, Try.ntmps14
        go_wp2_with fail
        go_ret2
        exact ⟨rfl, rfl⟩
end Go.Proofs.Ytfdbcnpbjabjoaa
