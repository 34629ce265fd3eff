/- CONTRACT: wire.opened. CONTRACT: wire.Replied. -/
import Derived.Test.YtelacmchofehcaaWmA
import Derived.Test.YtelacmchofehcaaFrameNext
import Derived.Test.YtelacmchofehcaaRowTasked
import Derived.Test.YtelacmchofehcaaWmB
import Derived.Deep.DeepCutAuto
import Derived.Test.YtelacmchofehcaaEvtUn
import Derived.RegionTactic
namespace Go.Proofs.Ytelacmchofehcaa
open Go.RowKit
set_option linter.unusedVariables false

theorem results_tct {fn : Func} {t p u : Tmp} {ty : TypeId} (h : fn.results = #[.tmp t, .cell p ty, .tmp u]) (tmps : Array Value) (P : Program) (w : World) :
    (results fn tmps).run P w = ((asAddr (tmps.getD p undef)).run P w).andThen fun a w₁ => ((loadVar ty a).run P w₁).andThen fun v w₂ => .ok (.tuple #[tmps.getD t undef, v, tmps.getD u undef]) w₂ := by
  simp only [results, h]
  simp [Sem.run_bind, Result.andThen]
theorem next_len (l : List UInt8) : (nextF l).1.length ≤ l.length := by
  unfold nextF
  cases hg : getFrom 0 l with
  | none => simp only; split <;> simp
  | some x =>
    obtain ⟨n, r⟩ := x
    have := ((get_iff _ _ _).1 hg).2
    simp only
    split
    · simp
    · split
      · simp
      · split
        · simp
        · simp only [List.length_take, List.length_drop]
          rw [this, List.length_append]; omega
set_option maxHeartbeats 1600000 in
set_option maxRecDepth 100000 in
theorem opened_any (l : List UInt8) (hl : l.length ≤ 140737488355328) (w : World) :
    Calls Try.prog 26 #[.string ⟨l.toArray⟩] w fun e w' => ∃ (p : Value) (er : Int), e = .returned (.tuple #[p, .int .i64 er]) ∧ Below w.heap.size w w' ∧
      ((er = erF l ∧ p = .pointer none ∧ NoMsg l) ∨ (∃ (g : Nat) (r0 : List UInt8) (b0 : Bool), er = 0 ∧ p = .pointer (some ⟨g, 0, none⟩) ∧ w.heap.size ≤ g ∧ Rdr w' g r0 b0 ∧ nextF l = ((nextF l).1, [], 0) ∧ intF (nextF l).1 false 1 = (1, r0, b0))) := by
  have hnl := next_len l
  have herF : Hid (erF l = if (nextF l).2.2 = 0 then 60 else (nextF l).2.2) := hid rfl
  have hNo : Hid (NoMsg l ↔ ((nextF l).2.2 ≠ 0 ∨ (nextF l).2.1 ≠ [] ∨ (intF (nextF l).1 false 1).1 ≠ 1)) := hid Iff.rfl
  go_enter Try.func26, Try.ntmps26
  go_wp2_with fail
  refine (next_any l (by unfold maxLen; omega) _).mono ?_
  rintro _ w1 ⟨rfl, b1⟩
  obtain ⟨⟨body, rest, er⟩, hx⟩ : ∃ x, nextF l = x := ⟨_, rfl⟩
  rw [hx] at hnl herF hNo ⊢
  simp only at hnl herF hNo ⊢
  have HXL := hid hx
  clear hx
  by_cases he : er = 0
  case neg =>
    have H1 := hid (show erF l = er by rw [herF.out, if_neg he])
    have H2 := hid (hNo.out.2 (.inl he))
    clear herF hNo
    go_wp2_with fail
    go_ret2
    exact ⟨_, er, rfl, b1, .inl ⟨H1.out.symm, rfl, H2.out⟩⟩
  subst he
  have HER := hid (show erF l = 60 by rw [herF.out, if_pos rfl])
  clear herF
  go_wp2_with fail
  refine (read_any body w1).mono ?_
  rintro _ w2 ⟨rfl, hw2⟩
  have hr2 : Rdr w2 w1.heap.size body false := by rw [hw2]; exact read_rdr body w1
  have b2 : Below w1.heap.size w1 w2 := by rw [hw2]; exact (Below.refl _ _).alloc (Nat.le_refl _) _
  have hg1 := b1.size
  have hb2 := bnext b1 b2
  clear hw2 b2
  obtain ⟨g, hg⟩ : ∃ g, g = w1.heap.size := ⟨_, rfl⟩
  rw [← hg] at hr2 hg1 ⊢
  clear hg b1
  by_cases hrest : rest = []
  case neg =>
    have H2 := hid (hNo.out.2 (.inr (.inl hrest)))
    have hq : (rest == []) = false := by cases rest with | nil => exact absurd rfl hrest | cons _ _ => rfl
    have hq2 : ([] == rest) = false := by cases rest with | nil => exact absurd rfl hrest | cons _ _ => rfl
    have hq3 : ¬ rest.length = 0 := fun h => hrest (List.eq_nil_of_length_eq_zero h)
    clear hNo
    go_wp2_with fail
    go_ret2
    exact ⟨_, 60, rfl, hb2, .inl ⟨HER.out.symm, rfl, H2.out⟩⟩
  subst hrest
  go_wp2_with fail
  refine (int_any g body false 1 w2 hr2 (by unfold maxLen; omega) (by omega) (by omega)).mono ?_
  rintro _ w3 ⟨rfl, hr3, a3⟩
  have hb3 := At.below hb2 a3 hg1
  obtain ⟨⟨n0, r0, b0⟩, hx⟩ : ∃ x, intF body false 1 = x := ⟨_, rfl⟩
  rw [hx] at hr3 hNo ⊢
  simp only at hr3 hNo ⊢
  have HX := hid hx
  clear hr2 hb2 a3 hx
  by_cases h1 : n0 = 1
  · subst h1
    clear hNo
    go_wp2_with fail
    go_ret2
    exact ⟨_, 0, rfl, hb3, .inr ⟨g, r0, b0, rfl, rfl, hg1, hr3, by rw [HXL.out], by rw [HXL.out]; exact HX.out⟩⟩
  · have H2 := hid (hNo.out.2 (.inr (.inr h1)))
    have hq : ¬ ((n0 : Int) = 1) := by omega
    clear hNo
    go_wp2_with fail
    go_ret2
    exact ⟨_, 60, rfl, hb3, .inl ⟨HER.out.symm, rfl, H2.out⟩⟩
end Go.Proofs.Ytelacmchofehcaa
namespace Go.Proofs.Ytelacmchofehcaa
open Go.RowKit
set_option linter.unusedVariables false
set_option linter.unusedSimpArgs false

def rp0 : Rp := ⟨0, 0, 0, tk0, [], []⟩
def rpVal (x : Rp) (v : Value) : Value := .agg #[.int .i64 x.er, .int .i64 x.st, .int .i64 x.nx, .int .i64 x.tk.1, .string ⟨x.tk.2.1.toArray⟩, .int .i64 x.tk.2.2.1, .int .i64 x.tk.2.2.2, .string ⟨x.nm.toArray⟩, v]
set_option maxHeartbeats 3200000 in
set_option maxRecDepth 100000 in
theorem replied_any (l : List UInt8) (hl : l.length ≤ 140737488355328) (w : World) :
    Calls Try.prog 13 #[.string ⟨l.toArray⟩] w fun e w' => ∃ (id : Int) (x : Rp) (v : Value) (er : Int), e = .returned (.tuple #[.int .i64 id, rpVal x v, .int .i64 er]) ∧ Sl w' v 8 x.ev.length (x.ev.flatMap evc) ∧ FitE x.ev ∧ Below w.heap.size w w' ∧
      ((er = 0 ∧ RpP id x ∧ l = wrapL (encRp id x)) ∨ (er = erF l ∧ id = 0 ∧ x = rp0 ∧ v = .slice none 0 0 ∧ ∀ i y, RpP i y → l ≠ wrapL (encRp i y))) := by
  go_enter Try.func13, Try.ntmps13
  go_wp2_with fail
  obtain ⟨w0, hw0⟩ : ∃ w0, w0 = w.alloc (.cells #[.int .i64 0, .int .i64 0, .int .i64 0, .int .i64 0, .string ⟨#[]⟩, .int .i64 0, .int .i64 0, .string ⟨#[]⟩, .slice none 0 0] 33) := ⟨_, rfl⟩
  rw [← hw0]
  have hQ0 : w0.heap[w.heap.size]? = some (.cells #[.int .i64 0, .int .i64 0, .int .i64 0, .int .i64 0, .string ⟨#[]⟩, .int .i64 0, .int .i64 0, .string ⟨#[]⟩, .slice none 0 0] 33 (0, 0)) := by rw [hw0]; exact heap_alloc_new w _
  have b0 : Below w.heap.size w w0 := by rw [hw0]; exact (Below.refl _ _).alloc (Nat.le_refl _) _
  have l0 : w.heap.size < w0.heap.size := (Array.getElem?_eq_some_iff.1 hQ0).1
  clear hw0
  refine (opened_any l hl w0).mono ?_
  rintro _ w1 ⟨p, er0, rfl, b1, hres⟩
  have hQ1 := (b1.block _ l0).trans hQ0
  have hb1 := bnext b0 b1
  obtain ⟨gr, hgr⟩ : ∃ gr, gr = w.heap.size := ⟨_, rfl⟩
  have n2 : w.heap.size ≤ gr := by omega
  rw [← hgr] at hQ1 l0 ⊢
  clear hQ0 b0 b1
  rcases hres with ⟨rfl, rfl, hno⟩ | ⟨g, r0, e0, rfl, rfl, hg, hr1, hnx, hx0⟩
  · have HNO := hid (show ∀ i y, RpP i y → l ≠ wrapL (encRp i y) from fun i y hP => noMsg hno _ (by have := encRp_len hP; unfold encRp at this; omega))
    have hne := erF_ne l
    clear hgr hno
    obtain ⟨E, hE⟩ : ∃ E, E = erF l := ⟨_, rfl⟩
    rw [← hE] at hne ⊢
    have HE := hid hE
    clear hE
    have q0 : w1.cell? ⟨gr, 0, none⟩ = some (.int .i64 0) := by rw [cell_of_row w1 _ 0 _ _ (0, 0) hQ1]; rfl
    have qz0 : w1.frozen? ⟨gr, 0, none⟩ = false := frozen_of_row w1 _ 0 _ _ hQ1
    have q1 : w1.cell? ⟨gr, 1, none⟩ = some (.int .i64 0) := by rw [cell_of_row w1 _ 1 _ _ (0, 0) hQ1]; rfl
    have qz1 : w1.frozen? ⟨gr, 1, none⟩ = false := frozen_of_row w1 _ 1 _ _ hQ1
    have q2 : w1.cell? ⟨gr, 2, none⟩ = some (.int .i64 0) := by rw [cell_of_row w1 _ 2 _ _ (0, 0) hQ1]; rfl
    have qz2 : w1.frozen? ⟨gr, 2, none⟩ = false := frozen_of_row w1 _ 2 _ _ hQ1
    have q3 : w1.cell? ⟨gr, 3, none⟩ = some (.int .i64 0) := by rw [cell_of_row w1 _ 3 _ _ (0, 0) hQ1]; rfl
    have qz3 : w1.frozen? ⟨gr, 3, none⟩ = false := frozen_of_row w1 _ 3 _ _ hQ1
    have q4 : w1.cell? ⟨gr, 4, none⟩ = some (.string ⟨#[]⟩) := by rw [cell_of_row w1 _ 4 _ _ (0, 0) hQ1]; rfl
    have qz4 : w1.frozen? ⟨gr, 4, none⟩ = false := frozen_of_row w1 _ 4 _ _ hQ1
    have q5 : w1.cell? ⟨gr, 5, none⟩ = some (.int .i64 0) := by rw [cell_of_row w1 _ 5 _ _ (0, 0) hQ1]; rfl
    have qz5 : w1.frozen? ⟨gr, 5, none⟩ = false := frozen_of_row w1 _ 5 _ _ hQ1
    have q6 : w1.cell? ⟨gr, 6, none⟩ = some (.int .i64 0) := by rw [cell_of_row w1 _ 6 _ _ (0, 0) hQ1]; rfl
    have qz6 : w1.frozen? ⟨gr, 6, none⟩ = false := frozen_of_row w1 _ 6 _ _ hQ1
    have q7 : w1.cell? ⟨gr, 7, none⟩ = some (.string ⟨#[]⟩) := by rw [cell_of_row w1 _ 7 _ _ (0, 0) hQ1]; rfl
    have qz7 : w1.frozen? ⟨gr, 7, none⟩ = false := frozen_of_row w1 _ 7 _ _ hQ1
    have q8 : w1.cell? ⟨gr, 8, none⟩ = some (.slice none 0 0) := by rw [cell_of_row w1 _ 8 _ _ (0, 0) hQ1]; rfl
    have qz8 : w1.frozen? ⟨gr, 8, none⟩ = false := frozen_of_row w1 _ 8 _ _ hQ1
    go_wp2_with fail
    refine bodyPost_ret (v := .tuple #[.int .i64 0, .agg #[.int .i64 0, .int .i64 0, .int .i64 0, .int .i64 0, .string ⟨#[]⟩, .int .i64 0, .int .i64 0, .string ⟨#[]⟩, .slice none 0 0], .int .i64 E]) ?_ rfl ⟨0, rp0, .slice none 0 0, E, rfl, Sl.none _ _, (by intro x hx; cases hx), At.below hb1 (((((((((((At.refl gr w1).set 0 _).set 1 _).set 2 _).set 3 _).set 4 _).set 5 _).set 6 _).set 7 _).set 8 _) : At gr w1 (((((((((w1.setCell ⟨gr, 0, none⟩ (.int .i64 0)).setCell ⟨gr, 1, none⟩ (.int .i64 0)).setCell ⟨gr, 2, none⟩ (.int .i64 0)).setCell ⟨gr, 3, none⟩ (.int .i64 0)).setCell ⟨gr, 4, none⟩ (.string ⟨#[]⟩)).setCell ⟨gr, 5, none⟩ (.int .i64 0)).setCell ⟨gr, 6, none⟩ (.int .i64 0)).setCell ⟨gr, 7, none⟩ (.string ⟨#[]⟩)).setCell ⟨gr, 8, none⟩ (.slice none 0 0))) n2, .inr ⟨HE.out, rfl, rfl, rfl, HNO.out⟩⟩
    rw [results_tct rfl]
    go_simp
  have n1 : gr ≠ g := by omega
  have n3 : w.heap.size ≤ g := by omega
  have hl1 : r0.length ≤ l.length := by
    have h1 := intF_len (nextF l).1 false 1
    have h2 := next_len l
    rw [hx0] at h1
    simp only at h1
    omega
  have herF : erF l = 60 := by unfold erF; rw [hnx]; rfl
  have HNX := hid hnx
  have HX0 := hid hx0
  have HERF := hid herF
  clear hnx hx0 herF hgr l0 hg
  go_wp2_with fail
  refine (int_any g r0 e0 2147483647 w1 hr1 (by unfold maxLen; omega) (by omega) (by omega)).mono ?_
  rintro _ w2 ⟨rfl, hr2, aw⟩
  have hQ2 := (aw.block gr (Array.getElem?_eq_some_iff.1 hQ1).1 (by simpa using n1)).trans hQ1
  have hb2 := At.below hb1 aw n3
  have hl2 := intF_len r0 e0 2147483647
  obtain ⟨⟨n1', r1, e1⟩, hxn1'⟩ : ∃ x, intF r0 e0 2147483647 = x := ⟨_, rfl⟩
  rw [hxn1'] at hr2 hl2 ⊢
  simp only at hr2 hl2 ⊢
  have HXn1' := hid hxn1'
  clear hxn1' hr1 hQ1 hb1 aw
  go_wp2_with fail
  refine (int_any g r1 e1 999 w2 hr2 (by unfold maxLen; omega) (by omega) (by omega)).mono ?_
  rintro _ w3 ⟨rfl, hr3, aw⟩
  have hQ3 := (aw.block gr (Array.getElem?_eq_some_iff.1 hQ2).1 (by simpa using n1)).trans hQ2
  have hb3 := At.below hb2 aw n3
  have hl3 := intF_len r1 e1 999
  obtain ⟨⟨n2', r2, e2⟩, hxn2'⟩ : ∃ x, intF r1 e1 999 = x := ⟨_, rfl⟩
  rw [hxn2'] at hr3 hl3 ⊢
  simp only at hr3 hl3 ⊢
  have HXn2' := hid hxn2'
  clear hxn2' hr2 hQ2 hb2 aw
  go_wp2_with fail
  refine (int_any g r2 e2 4 w3 hr3 (by unfold maxLen; omega) (by omega) (by omega)).mono ?_
  rintro _ w4 ⟨rfl, hr4, aw⟩
  have hQ4 := (aw.block gr (Array.getElem?_eq_some_iff.1 hQ3).1 (by simpa using n1)).trans hQ3
  have hb4 := At.below hb3 aw n3
  have hl4 := intF_len r2 e2 4
  obtain ⟨⟨n3', r3, e3⟩, hxn3'⟩ : ∃ x, intF r2 e2 4 = x := ⟨_, rfl⟩
  rw [hxn3'] at hr4 hl4 ⊢
  simp only at hr4 hl4 ⊢
  have HXn3' := hid hxn3'
  clear hxn3' hr3 hQ3 hb3 aw
  go_wp2_with fail
  refine (int_any g r3 e3 501 w4 hr4 (by unfold maxLen; omega) (by omega) (by omega)).mono ?_
  rintro _ w5 ⟨rfl, hr5, aw⟩
  have hQ5 := (aw.block gr (Array.getElem?_eq_some_iff.1 hQ4).1 (by simpa using n1)).trans hQ4
  have hb5 := At.below hb4 aw n3
  have hl5 := intF_len r3 e3 501
  obtain ⟨⟨n4', r4, e4⟩, hxn4'⟩ : ∃ x, intF r3 e3 501 = x := ⟨_, rfl⟩
  rw [hxn4'] at hr5 hl5 ⊢
  simp only at hr5 hl5 ⊢
  have HXn4' := hid hxn4'
  clear hxn4' hr4 hQ4 hb4 aw
  go_wp2_with fail
  obtain ⟨w6, hw6⟩ : ∃ x, x = w5.alloc (.cells #[.int .i64 (n2' : Int), .int .i64 (n3' : Int), .int .i64 (n4' : Int), .int .i64 0, .string ⟨#[]⟩, .int .i64 0, .int .i64 0, .string ⟨#[]⟩, .slice none 0 0] 33) := ⟨_, rfl⟩
  have hX6 : w6.heap[w5.heap.size]? = some (.cells #[.int .i64 (n2' : Int), .int .i64 (n3' : Int), .int .i64 (n4' : Int), .int .i64 0, .string ⟨#[]⟩, .int .i64 0, .int .i64 0, .string ⟨#[]⟩, .slice none 0 0] 33 (0, 0)) := by rw [hw6]; exact heap_alloc_new w5 _
  have bx : Below w5.heap.size w5 w6 := by rw [hw6]; exact (Below.refl _ _).alloc (Nat.le_refl _) _
  rw [← hw6]
  obtain ⟨gx, hgx⟩ : ∃ gx, gx = w5.heap.size := ⟨_, rfl⟩
  have nx : gx ≠ g := by have := hr5.lt; omega
  have nq : gr ≠ gx := by have := (Array.getElem?_eq_some_iff.1 hQ5).1; omega
  have n4 : w.heap.size ≤ gx := by have := hb5.size; omega
  rw [← hgx] at hX6 ⊢
  clear hw6 hgx
  have hr6 := hr5.keep bx
  have hQ6 := (bx.block _ (Array.getElem?_eq_some_iff.1 hQ5).1).trans hQ5
  have hb6 := bnext hb5 bx
  clear hr5 hQ5 hb5
  refine (text_any_r g r4 e4 w6 hr6 (by unfold maxLen; omega)).mono ?_
  rintro _ w7 ⟨rfl, hr7, aw⟩
  have hQ7 := (aw.block gr (Array.getElem?_eq_some_iff.1 hQ6).1 (by simpa using n1)).trans hQ6
  have hX7 := (aw.block gx (Array.getElem?_eq_some_iff.1 hX6).1 (by simpa using nx)).trans hX6
  have hb7 := At.below hb6 aw n3
  have hl7 := textF_len r4 e4
  have hf7 := textF_fst r4 e4
  obtain ⟨⟨t5, r5, e5⟩, hxt5⟩ : ∃ x, textF r4 e4 = x := ⟨_, rfl⟩
  rw [hxt5] at hr7 hl7 hf7 ⊢
  simp only at hr7 hl7 hf7 ⊢
  have HXt5 := hid hxt5
  clear hxt5 hr6 hQ6 hb6 aw hX6
  by_cases ht : t5 = []
  · subst ht
    go_wp2_with fail
    refine (text_any_r g r5 e5 w7 hr7 (by unfold maxLen; omega)).mono ?_
    rintro _ w8 ⟨rfl, hr8, aw⟩
    have hQ8 := (aw.block gr (Array.getElem?_eq_some_iff.1 hQ7).1 (by simpa using n1)).trans hQ7
    have hX8 := (aw.block gx (Array.getElem?_eq_some_iff.1 hX7).1 (by simpa using nx)).trans hX7
    have hb8 := At.below hb7 aw n3
    have hl8 := textF_len r5 e5
    have hf8 := textF_fst r5 e5
    obtain ⟨⟨t6, r6, e6⟩, hxt6⟩ : ∃ x, textF r5 e5 = x := ⟨_, rfl⟩
    rw [hxt6] at hr8 hl8 hf8 ⊢
    simp only at hr8 hl8 hf8 ⊢
    have HXt6 := hid hxt6
    clear hxt6 hr7 hQ7 hb7 aw hX7
    have x7 : w8.cell? ⟨gx, 7, none⟩ = some (.string ⟨#[]⟩) := by rw [cell_of_row w8 _ 7 _ _ (0, 0) hX8]; rfl
    have xz7 : w8.frozen? ⟨gx, 7, none⟩ = false := frozen_of_row w8 _ 7 _ _ hX8
    go_wp2_with fail
    clear x7 xz7
    obtain ⟨w9, hw9⟩ : ∃ x, x = (w8.setCell ⟨gx, 7, none⟩ (.string ⟨t6.toArray⟩)) := ⟨_, rfl⟩
    have aw : At gx w8 w9 := by rw [hw9]; exact ((At.refl gx w8).set 7 _)
    have hy0 := heap_setCell_same w8 gx 7 _ _ (.string ⟨t6.toArray⟩) hX8
    have hX9 : w9.heap[gx]? = some (.cells #[.int .i64 (n2' : Int), .int .i64 (n3' : Int), .int .i64 (n4' : Int), .int .i64 0, .string ⟨#[]⟩, .int .i64 0, .int .i64 0, .string ⟨t6.toArray⟩, .slice none 0 0] 33 (0, 0)) := by rw [hw9]; exact hy0
    rw [← hw9]
    have hr9 := hr8.grown aw (Ne.symm nx)
    have hQ9 := (aw.block gr (Array.getElem?_eq_some_iff.1 hQ8).1 (by simpa using nq)).trans hQ8
    have hb9 := At.below hb8 aw n4
    clear hw9 aw hr8 hQ8 hb8 hX8 hy0
    refine (text_any_r g r6 e6 w9 hr9 (by unfold maxLen; omega)).mono ?_
    rintro _ w10 ⟨rfl, hr10, aw⟩
    have hQ10 := (aw.block gr (Array.getElem?_eq_some_iff.1 hQ9).1 (by simpa using n1)).trans hQ9
    have hX10 := (aw.block gx (Array.getElem?_eq_some_iff.1 hX9).1 (by simpa using nx)).trans hX9
    have hb10 := At.below hb9 aw n3
    have hl10 := textF_len r6 e6
    have hf10 := textF_fst r6 e6
    obtain ⟨⟨t7, r7, e7⟩, hxt7⟩ : ∃ x, textF r6 e6 = x := ⟨_, rfl⟩
    rw [hxt7] at hr10 hl10 hf10 ⊢
    simp only at hr10 hl10 hf10 ⊢
    have HXt7 := hid hxt7
    clear hxt7 hr9 hQ9 hb9 aw hX9
    go_wp2_with fail
    refine (eunpack_any t7 (by omega) w10).mono ?_
    rintro _ w11 ⟨v, ev, er, rfl, hsl, hfit, bu, hres2⟩
    obtain ⟨av, cv, rfl⟩ : ∃ a c, v = .slice a ev.length c := by
      obtain ⟨_, _, a, c, h, _⟩ := hsl
      exact ⟨a, c, h⟩
    have hr11 := hr10.keep bu
    have hQ11 := (bu.block _ (Array.getElem?_eq_some_iff.1 hQ10).1).trans hQ10
    have hb11 := bnext hb10 bu
    have hX11 := (bu.block _ (Array.getElem?_eq_some_iff.1 hX10).1).trans hX10
    clear hr10 hQ10 hb10 hX10
    have x8 : w11.cell? ⟨gx, 8, none⟩ = some (.slice none 0 0) := by rw [cell_of_row w11 _ 8 _ _ (0, 0) hX11]; rfl
    have xz8 : w11.frozen? ⟨gx, 8, none⟩ = false := frozen_of_row w11 _ 8 _ _ hX11
    go_upto_region 14 with (fail)
    clear x8 xz8
    obtain ⟨w12, hw12⟩ : ∃ x, x = (w11.setCell ⟨gx, 8, none⟩ (.slice av ev.length cv)) := ⟨_, rfl⟩
    have aw : At gx w11 w12 := by rw [hw12]; exact ((At.refl gx w11).set 8 _)
    have hy0 := heap_setCell_same w11 gx 8 _ _ (.slice av ev.length cv) hX11
    have hX12 : w12.heap[gx]? = some (.cells #[.int .i64 (n2' : Int), .int .i64 (n3' : Int), .int .i64 (n4' : Int), .int .i64 0, .string ⟨#[]⟩, .int .i64 0, .int .i64 0, .string ⟨t6.toArray⟩, .slice av ev.length cv] 33 (0, 0)) := by rw [hw12]; exact hy0
    have hsl := hsl.at aw (events_apart hX11)
    rw [← hw12]
    have hr12 := hr11.grown aw (Ne.symm nx)
    have hQ12 := (aw.block gr (Array.getElem?_eq_some_iff.1 hQ11).1 (by simpa using nq)).trans hQ11
    have hb12 := At.below hb11 aw n4
    clear hw12 aw hr11 hQ11 hb11 hX11 hy0
    rcases hres2 with ⟨hu, rfl⟩ | ⟨hu, rfl, hxs⟩
    · by_cases he : endF r7 e7 = true
      case neg =>
        have HNO := hid (rp_rej HNX.out HX0.out HXn1'.out HXn2'.out HXn3'.out HXn4'.out HXt5.out HXt6.out HXt7.out (fun q => he q.2.2.1))
        have he' : endF r7 e7 = false := by simpa using he
        clear hu hsl hfit
        go_wp2_with fail
        refine (end_any g r7 e7 w12 hr12).mono ?_
        rintro _ w99 ⟨rfl, hw9⟩
        rw [hw9, he']
        clear hw9
        have q0 : w12.cell? ⟨gr, 0, none⟩ = some (.int .i64 0) := by rw [cell_of_row w12 _ 0 _ _ (0, 0) hQ12]; rfl
        have qz0 : w12.frozen? ⟨gr, 0, none⟩ = false := frozen_of_row w12 _ 0 _ _ hQ12
        have q1 : w12.cell? ⟨gr, 1, none⟩ = some (.int .i64 0) := by rw [cell_of_row w12 _ 1 _ _ (0, 0) hQ12]; rfl
        have qz1 : w12.frozen? ⟨gr, 1, none⟩ = false := frozen_of_row w12 _ 1 _ _ hQ12
        have q2 : w12.cell? ⟨gr, 2, none⟩ = some (.int .i64 0) := by rw [cell_of_row w12 _ 2 _ _ (0, 0) hQ12]; rfl
        have qz2 : w12.frozen? ⟨gr, 2, none⟩ = false := frozen_of_row w12 _ 2 _ _ hQ12
        have q3 : w12.cell? ⟨gr, 3, none⟩ = some (.int .i64 0) := by rw [cell_of_row w12 _ 3 _ _ (0, 0) hQ12]; rfl
        have qz3 : w12.frozen? ⟨gr, 3, none⟩ = false := frozen_of_row w12 _ 3 _ _ hQ12
        have q4 : w12.cell? ⟨gr, 4, none⟩ = some (.string ⟨#[]⟩) := by rw [cell_of_row w12 _ 4 _ _ (0, 0) hQ12]; rfl
        have qz4 : w12.frozen? ⟨gr, 4, none⟩ = false := frozen_of_row w12 _ 4 _ _ hQ12
        have q5 : w12.cell? ⟨gr, 5, none⟩ = some (.int .i64 0) := by rw [cell_of_row w12 _ 5 _ _ (0, 0) hQ12]; rfl
        have qz5 : w12.frozen? ⟨gr, 5, none⟩ = false := frozen_of_row w12 _ 5 _ _ hQ12
        have q6 : w12.cell? ⟨gr, 6, none⟩ = some (.int .i64 0) := by rw [cell_of_row w12 _ 6 _ _ (0, 0) hQ12]; rfl
        have qz6 : w12.frozen? ⟨gr, 6, none⟩ = false := frozen_of_row w12 _ 6 _ _ hQ12
        have q7 : w12.cell? ⟨gr, 7, none⟩ = some (.string ⟨#[]⟩) := by rw [cell_of_row w12 _ 7 _ _ (0, 0) hQ12]; rfl
        have qz7 : w12.frozen? ⟨gr, 7, none⟩ = false := frozen_of_row w12 _ 7 _ _ hQ12
        have q8 : w12.cell? ⟨gr, 8, none⟩ = some (.slice none 0 0) := by rw [cell_of_row w12 _ 8 _ _ (0, 0) hQ12]; rfl
        have qz8 : w12.frozen? ⟨gr, 8, none⟩ = false := frozen_of_row w12 _ 8 _ _ hQ12
        go_wp2_with fail
        refine bodyPost_ret (v := .tuple #[.int .i64 0, .agg #[.int .i64 0, .int .i64 0, .int .i64 0, .int .i64 0, .string ⟨#[]⟩, .int .i64 0, .int .i64 0, .string ⟨#[]⟩, .slice none 0 0], .int .i64 60]) ?_ rfl ⟨0, rp0, .slice none 0 0, 60, rfl, Sl.none _ _, (by intro x hx; cases hx), At.below hb12 (((((((((((At.refl gr w12).set 0 _).set 1 _).set 2 _).set 3 _).set 4 _).set 5 _).set 6 _).set 7 _).set 8 _) : At gr w12 (((((((((w12.setCell ⟨gr, 0, none⟩ (.int .i64 0)).setCell ⟨gr, 1, none⟩ (.int .i64 0)).setCell ⟨gr, 2, none⟩ (.int .i64 0)).setCell ⟨gr, 3, none⟩ (.int .i64 0)).setCell ⟨gr, 4, none⟩ (.string ⟨#[]⟩)).setCell ⟨gr, 5, none⟩ (.int .i64 0)).setCell ⟨gr, 6, none⟩ (.int .i64 0)).setCell ⟨gr, 7, none⟩ (.string ⟨#[]⟩)).setCell ⟨gr, 8, none⟩ (.slice none 0 0))) n2, .inr ⟨HERF.out.symm, rfl, rfl, rfl, HNO.out⟩⟩
        rw [results_tct rfl]
        go_simp
      go_wp2_with fail
      refine (end_any g r7 e7 w12 hr12).mono ?_
      rintro _ w99 ⟨rfl, hw9⟩
      rw [hw9, he]
      clear hw9 w99
      have x7 : w12.cell? ⟨gx, 7, none⟩ = some (.string ⟨t6.toArray⟩) := by rw [cell_of_row w12 _ 7 _ _ (0, 0) hX12]; rfl
      have xz7 : w12.frozen? ⟨gx, 7, none⟩ = false := frozen_of_row w12 _ 7 _ _ hX12
      go_wp2_with fail
      clear x7 xz7
      refine (short1 t6 (by omega) _).mono ?_
      rintro _ w13 ⟨rfl, bs⟩
      have hsl := hsl.below bs
      have hr13 := hr12.keep bs
      have hQ13 := (bs.block _ (Array.getElem?_eq_some_iff.1 hQ12).1).trans hQ12
      have hb13 := bnext hb12 bs
      have hX13 := (bs.block _ (Array.getElem?_eq_some_iff.1 hX12).1).trans hX12
      clear hr12 hQ12 hb12 hX12
      by_cases hs6 : t6.length ≤ 16
      case neg =>
        have HNO := hid (rp_rej HNX.out HX0.out HXn1'.out HXn2'.out HXn3'.out HXn4'.out HXt5.out HXt6.out HXt7.out (fun q => hs6 q.2.2.2))
        rw [decide_eq_false hs6]
        clear hu hsl hfit
        have q0 : w13.cell? ⟨gr, 0, none⟩ = some (.int .i64 0) := by rw [cell_of_row w13 _ 0 _ _ (0, 0) hQ13]; rfl
        have qz0 : w13.frozen? ⟨gr, 0, none⟩ = false := frozen_of_row w13 _ 0 _ _ hQ13
        have q1 : w13.cell? ⟨gr, 1, none⟩ = some (.int .i64 0) := by rw [cell_of_row w13 _ 1 _ _ (0, 0) hQ13]; rfl
        have qz1 : w13.frozen? ⟨gr, 1, none⟩ = false := frozen_of_row w13 _ 1 _ _ hQ13
        have q2 : w13.cell? ⟨gr, 2, none⟩ = some (.int .i64 0) := by rw [cell_of_row w13 _ 2 _ _ (0, 0) hQ13]; rfl
        have qz2 : w13.frozen? ⟨gr, 2, none⟩ = false := frozen_of_row w13 _ 2 _ _ hQ13
        have q3 : w13.cell? ⟨gr, 3, none⟩ = some (.int .i64 0) := by rw [cell_of_row w13 _ 3 _ _ (0, 0) hQ13]; rfl
        have qz3 : w13.frozen? ⟨gr, 3, none⟩ = false := frozen_of_row w13 _ 3 _ _ hQ13
        have q4 : w13.cell? ⟨gr, 4, none⟩ = some (.string ⟨#[]⟩) := by rw [cell_of_row w13 _ 4 _ _ (0, 0) hQ13]; rfl
        have qz4 : w13.frozen? ⟨gr, 4, none⟩ = false := frozen_of_row w13 _ 4 _ _ hQ13
        have q5 : w13.cell? ⟨gr, 5, none⟩ = some (.int .i64 0) := by rw [cell_of_row w13 _ 5 _ _ (0, 0) hQ13]; rfl
        have qz5 : w13.frozen? ⟨gr, 5, none⟩ = false := frozen_of_row w13 _ 5 _ _ hQ13
        have q6 : w13.cell? ⟨gr, 6, none⟩ = some (.int .i64 0) := by rw [cell_of_row w13 _ 6 _ _ (0, 0) hQ13]; rfl
        have qz6 : w13.frozen? ⟨gr, 6, none⟩ = false := frozen_of_row w13 _ 6 _ _ hQ13
        have q7 : w13.cell? ⟨gr, 7, none⟩ = some (.string ⟨#[]⟩) := by rw [cell_of_row w13 _ 7 _ _ (0, 0) hQ13]; rfl
        have qz7 : w13.frozen? ⟨gr, 7, none⟩ = false := frozen_of_row w13 _ 7 _ _ hQ13
        have q8 : w13.cell? ⟨gr, 8, none⟩ = some (.slice none 0 0) := by rw [cell_of_row w13 _ 8 _ _ (0, 0) hQ13]; rfl
        have qz8 : w13.frozen? ⟨gr, 8, none⟩ = false := frozen_of_row w13 _ 8 _ _ hQ13
        go_wp2_with fail
        refine bodyPost_ret (v := .tuple #[.int .i64 0, .agg #[.int .i64 0, .int .i64 0, .int .i64 0, .int .i64 0, .string ⟨#[]⟩, .int .i64 0, .int .i64 0, .string ⟨#[]⟩, .slice none 0 0], .int .i64 60]) ?_ rfl ⟨0, rp0, .slice none 0 0, 60, rfl, Sl.none _ _, (by intro x hx; cases hx), At.below hb13 (((((((((((At.refl gr w13).set 0 _).set 1 _).set 2 _).set 3 _).set 4 _).set 5 _).set 6 _).set 7 _).set 8 _) : At gr w13 (((((((((w13.setCell ⟨gr, 0, none⟩ (.int .i64 0)).setCell ⟨gr, 1, none⟩ (.int .i64 0)).setCell ⟨gr, 2, none⟩ (.int .i64 0)).setCell ⟨gr, 3, none⟩ (.int .i64 0)).setCell ⟨gr, 4, none⟩ (.string ⟨#[]⟩)).setCell ⟨gr, 5, none⟩ (.int .i64 0)).setCell ⟨gr, 6, none⟩ (.int .i64 0)).setCell ⟨gr, 7, none⟩ (.string ⟨#[]⟩)).setCell ⟨gr, 8, none⟩ (.slice none 0 0))) n2, .inr ⟨HERF.out.symm, rfl, rfl, rfl, HNO.out⟩⟩
        rw [results_tct rfl]
        go_simp
      rw [decide_eq_true hs6]
      have HACC := hid (rp_acc HX0.out HXn1'.out HXn2'.out HXn3'.out HXn4'.out HXt5.out HXt6.out HXt7.out (.inl ⟨rfl, rfl⟩) hu he hs6)
      have hsl9 := (hsl.at (((((((((((At.refl gr w13).set 0 _).set 1 _).set 2 _).set 3 _).set 4 _).set 5 _).set 6 _).set 7 _).set 8 _) : At gr w13 (((((((((w13.setCell ⟨gr, 0, none⟩ (.int .i64 (n2' : Int))).setCell ⟨gr, 1, none⟩ (.int .i64 (n3' : Int))).setCell ⟨gr, 2, none⟩ (.int .i64 (n4' : Int))).setCell ⟨gr, 3, none⟩ (.int .i64 0)).setCell ⟨gr, 4, none⟩ (.string ⟨#[]⟩)).setCell ⟨gr, 5, none⟩ (.int .i64 0)).setCell ⟨gr, 6, none⟩ (.int .i64 0)).setCell ⟨gr, 7, none⟩ (.string ⟨t6.toArray⟩)).setCell ⟨gr, 8, none⟩ (.slice av ev.length cv))) (events_apart hQ13)).below (below_drewN _ _ 1)
      have hbf := below_to_drew (At.below hb13 (((((((((((At.refl gr w13).set 0 _).set 1 _).set 2 _).set 3 _).set 4 _).set 5 _).set 6 _).set 7 _).set 8 _) : At gr w13 (((((((((w13.setCell ⟨gr, 0, none⟩ (.int .i64 (n2' : Int))).setCell ⟨gr, 1, none⟩ (.int .i64 (n3' : Int))).setCell ⟨gr, 2, none⟩ (.int .i64 (n4' : Int))).setCell ⟨gr, 3, none⟩ (.int .i64 0)).setCell ⟨gr, 4, none⟩ (.string ⟨#[]⟩)).setCell ⟨gr, 5, none⟩ (.int .i64 0)).setCell ⟨gr, 6, none⟩ (.int .i64 0)).setCell ⟨gr, 7, none⟩ (.string ⟨t6.toArray⟩)).setCell ⟨gr, 8, none⟩ (.slice av ev.length cv))) n2)
      have HLL := hid ((by simpa using (next_out HNX.out).1 : l = wrapL (nextF l).1).trans (congrArg wrapL HACC.out.2))
      clear hu hsl he hs6
      have x0 : w13.cell? ⟨gx, 0, none⟩ = some (.int .i64 (n2' : Int)) := by rw [cell_of_row w13 _ 0 _ _ (0, 0) hX13]; rfl
      have xz0 : w13.frozen? ⟨gx, 0, none⟩ = false := frozen_of_row w13 _ 0 _ _ hX13
      have x1 : w13.cell? ⟨gx, 1, none⟩ = some (.int .i64 (n3' : Int)) := by rw [cell_of_row w13 _ 1 _ _ (0, 0) hX13]; rfl
      have xz1 : w13.frozen? ⟨gx, 1, none⟩ = false := frozen_of_row w13 _ 1 _ _ hX13
      have x2 : w13.cell? ⟨gx, 2, none⟩ = some (.int .i64 (n4' : Int)) := by rw [cell_of_row w13 _ 2 _ _ (0, 0) hX13]; rfl
      have xz2 : w13.frozen? ⟨gx, 2, none⟩ = false := frozen_of_row w13 _ 2 _ _ hX13
      have x3 : w13.cell? ⟨gx, 3, none⟩ = some (.int .i64 0) := by rw [cell_of_row w13 _ 3 _ _ (0, 0) hX13]; rfl
      have xz3 : w13.frozen? ⟨gx, 3, none⟩ = false := frozen_of_row w13 _ 3 _ _ hX13
      have x4 : w13.cell? ⟨gx, 4, none⟩ = some (.string ⟨#[]⟩) := by rw [cell_of_row w13 _ 4 _ _ (0, 0) hX13]; rfl
      have xz4 : w13.frozen? ⟨gx, 4, none⟩ = false := frozen_of_row w13 _ 4 _ _ hX13
      have x5 : w13.cell? ⟨gx, 5, none⟩ = some (.int .i64 0) := by rw [cell_of_row w13 _ 5 _ _ (0, 0) hX13]; rfl
      have xz5 : w13.frozen? ⟨gx, 5, none⟩ = false := frozen_of_row w13 _ 5 _ _ hX13
      have x6 : w13.cell? ⟨gx, 6, none⟩ = some (.int .i64 0) := by rw [cell_of_row w13 _ 6 _ _ (0, 0) hX13]; rfl
      have xz6 : w13.frozen? ⟨gx, 6, none⟩ = false := frozen_of_row w13 _ 6 _ _ hX13
      have x7 : w13.cell? ⟨gx, 7, none⟩ = some (.string ⟨t6.toArray⟩) := by rw [cell_of_row w13 _ 7 _ _ (0, 0) hX13]; rfl
      have xz7 : w13.frozen? ⟨gx, 7, none⟩ = false := frozen_of_row w13 _ 7 _ _ hX13
      have x8 : w13.cell? ⟨gx, 8, none⟩ = some (.slice av ev.length cv) := by rw [cell_of_row w13 _ 8 _ _ (0, 0) hX13]; rfl
      have xz8 : w13.frozen? ⟨gx, 8, none⟩ = false := frozen_of_row w13 _ 8 _ _ hX13
      have q0 : w13.cell? ⟨gr, 0, none⟩ = some (.int .i64 0) := by rw [cell_of_row w13 _ 0 _ _ (0, 0) hQ13]; rfl
      have qz0 : w13.frozen? ⟨gr, 0, none⟩ = false := frozen_of_row w13 _ 0 _ _ hQ13
      have q1 : w13.cell? ⟨gr, 1, none⟩ = some (.int .i64 0) := by rw [cell_of_row w13 _ 1 _ _ (0, 0) hQ13]; rfl
      have qz1 : w13.frozen? ⟨gr, 1, none⟩ = false := frozen_of_row w13 _ 1 _ _ hQ13
      have q2 : w13.cell? ⟨gr, 2, none⟩ = some (.int .i64 0) := by rw [cell_of_row w13 _ 2 _ _ (0, 0) hQ13]; rfl
      have qz2 : w13.frozen? ⟨gr, 2, none⟩ = false := frozen_of_row w13 _ 2 _ _ hQ13
      have q3 : w13.cell? ⟨gr, 3, none⟩ = some (.int .i64 0) := by rw [cell_of_row w13 _ 3 _ _ (0, 0) hQ13]; rfl
      have qz3 : w13.frozen? ⟨gr, 3, none⟩ = false := frozen_of_row w13 _ 3 _ _ hQ13
      have q4 : w13.cell? ⟨gr, 4, none⟩ = some (.string ⟨#[]⟩) := by rw [cell_of_row w13 _ 4 _ _ (0, 0) hQ13]; rfl
      have qz4 : w13.frozen? ⟨gr, 4, none⟩ = false := frozen_of_row w13 _ 4 _ _ hQ13
      have q5 : w13.cell? ⟨gr, 5, none⟩ = some (.int .i64 0) := by rw [cell_of_row w13 _ 5 _ _ (0, 0) hQ13]; rfl
      have qz5 : w13.frozen? ⟨gr, 5, none⟩ = false := frozen_of_row w13 _ 5 _ _ hQ13
      have q6 : w13.cell? ⟨gr, 6, none⟩ = some (.int .i64 0) := by rw [cell_of_row w13 _ 6 _ _ (0, 0) hQ13]; rfl
      have qz6 : w13.frozen? ⟨gr, 6, none⟩ = false := frozen_of_row w13 _ 6 _ _ hQ13
      have q7 : w13.cell? ⟨gr, 7, none⟩ = some (.string ⟨#[]⟩) := by rw [cell_of_row w13 _ 7 _ _ (0, 0) hQ13]; rfl
      have qz7 : w13.frozen? ⟨gr, 7, none⟩ = false := frozen_of_row w13 _ 7 _ _ hQ13
      have q8 : w13.cell? ⟨gr, 8, none⟩ = some (.slice none 0 0) := by rw [cell_of_row w13 _ 8 _ _ (0, 0) hQ13]; rfl
      have qz8 : w13.frozen? ⟨gr, 8, none⟩ = false := frozen_of_row w13 _ 8 _ _ hQ13
      go_wp2_with fail
      go_region
      go_wp2_with fail
      refine bodyPost_ret (v := .tuple #[.int .i64 n1', .agg #[.int .i64 (n2' : Int), .int .i64 (n3' : Int), .int .i64 (n4' : Int), .int .i64 0, .string ⟨#[]⟩, .int .i64 0, .int .i64 0, .string ⟨t6.toArray⟩, .slice av ev.length cv], .int .i64 0]) ?_ rfl ⟨n1', ⟨n2', n3', n4', tk0, t6, ev⟩, .slice av ev.length cv, 0, rfl, hsl9, hfit, hbf, .inl ⟨rfl, HACC.out.1, HLL.out⟩⟩
      rw [results_tct rfl]
      go_simp
    · have HNO := hid (rp_rej HNX.out HX0.out HXn1'.out HXn2'.out HXn3'.out HXn4'.out HXt5.out HXt6.out HXt7.out (fun q => by obtain ⟨-, ⟨ev9, h9⟩, -⟩ := q; rw [hu] at h9; cases h9))
      clear hu hsl hfit hxs
      have q0 : w12.cell? ⟨gr, 0, none⟩ = some (.int .i64 0) := by rw [cell_of_row w12 _ 0 _ _ (0, 0) hQ12]; rfl
      have qz0 : w12.frozen? ⟨gr, 0, none⟩ = false := frozen_of_row w12 _ 0 _ _ hQ12
      have q1 : w12.cell? ⟨gr, 1, none⟩ = some (.int .i64 0) := by rw [cell_of_row w12 _ 1 _ _ (0, 0) hQ12]; rfl
      have qz1 : w12.frozen? ⟨gr, 1, none⟩ = false := frozen_of_row w12 _ 1 _ _ hQ12
      have q2 : w12.cell? ⟨gr, 2, none⟩ = some (.int .i64 0) := by rw [cell_of_row w12 _ 2 _ _ (0, 0) hQ12]; rfl
      have qz2 : w12.frozen? ⟨gr, 2, none⟩ = false := frozen_of_row w12 _ 2 _ _ hQ12
      have q3 : w12.cell? ⟨gr, 3, none⟩ = some (.int .i64 0) := by rw [cell_of_row w12 _ 3 _ _ (0, 0) hQ12]; rfl
      have qz3 : w12.frozen? ⟨gr, 3, none⟩ = false := frozen_of_row w12 _ 3 _ _ hQ12
      have q4 : w12.cell? ⟨gr, 4, none⟩ = some (.string ⟨#[]⟩) := by rw [cell_of_row w12 _ 4 _ _ (0, 0) hQ12]; rfl
      have qz4 : w12.frozen? ⟨gr, 4, none⟩ = false := frozen_of_row w12 _ 4 _ _ hQ12
      have q5 : w12.cell? ⟨gr, 5, none⟩ = some (.int .i64 0) := by rw [cell_of_row w12 _ 5 _ _ (0, 0) hQ12]; rfl
      have qz5 : w12.frozen? ⟨gr, 5, none⟩ = false := frozen_of_row w12 _ 5 _ _ hQ12
      have q6 : w12.cell? ⟨gr, 6, none⟩ = some (.int .i64 0) := by rw [cell_of_row w12 _ 6 _ _ (0, 0) hQ12]; rfl
      have qz6 : w12.frozen? ⟨gr, 6, none⟩ = false := frozen_of_row w12 _ 6 _ _ hQ12
      have q7 : w12.cell? ⟨gr, 7, none⟩ = some (.string ⟨#[]⟩) := by rw [cell_of_row w12 _ 7 _ _ (0, 0) hQ12]; rfl
      have qz7 : w12.frozen? ⟨gr, 7, none⟩ = false := frozen_of_row w12 _ 7 _ _ hQ12
      have q8 : w12.cell? ⟨gr, 8, none⟩ = some (.slice none 0 0) := by rw [cell_of_row w12 _ 8 _ _ (0, 0) hQ12]; rfl
      have qz8 : w12.frozen? ⟨gr, 8, none⟩ = false := frozen_of_row w12 _ 8 _ _ hQ12
      go_wp2_with fail
      refine bodyPost_ret (v := .tuple #[.int .i64 0, .agg #[.int .i64 0, .int .i64 0, .int .i64 0, .int .i64 0, .string ⟨#[]⟩, .int .i64 0, .int .i64 0, .string ⟨#[]⟩, .slice none 0 0], .int .i64 60]) ?_ rfl ⟨0, rp0, .slice none 0 0, 60, rfl, Sl.none _ _, (by intro x hx; cases hx), At.below hb12 (((((((((((At.refl gr w12).set 0 _).set 1 _).set 2 _).set 3 _).set 4 _).set 5 _).set 6 _).set 7 _).set 8 _) : At gr w12 (((((((((w12.setCell ⟨gr, 0, none⟩ (.int .i64 0)).setCell ⟨gr, 1, none⟩ (.int .i64 0)).setCell ⟨gr, 2, none⟩ (.int .i64 0)).setCell ⟨gr, 3, none⟩ (.int .i64 0)).setCell ⟨gr, 4, none⟩ (.string ⟨#[]⟩)).setCell ⟨gr, 5, none⟩ (.int .i64 0)).setCell ⟨gr, 6, none⟩ (.int .i64 0)).setCell ⟨gr, 7, none⟩ (.string ⟨#[]⟩)).setCell ⟨gr, 8, none⟩ (.slice none 0 0))) n2, .inr ⟨HERF.out.symm, rfl, rfl, rfl, HNO.out⟩⟩
      rw [results_tct rfl]
      go_simp
  · have hq1 : (t5 == []) = false := by cases t5 with | nil => exact absurd rfl ht | cons _ _ => rfl
    have hq2 : ([] == t5) = false := by cases t5 with | nil => exact absurd rfl ht | cons _ _ => rfl
    have hq3 : ¬ t5.length = 0 := fun h => ht (List.eq_nil_of_length_eq_zero h)
    go_wp2_with fail
    refine (tasked_any t5 (by omega) w7).mono ?_
    rintro _ w8 ⟨⟨ta, tb, tc, td⟩, er, rfl, bt, hres⟩
    rw [show tkV' (ta, tb, tc, td) = .agg #[.int .i64 ta, .string ⟨tb.toArray⟩, .int .i64 tc, .int .i64 td] from rfl]
    have hr8 := hr7.keep bt
    have hQ8 := (bt.block _ (Array.getElem?_eq_some_iff.1 hQ7).1).trans hQ7
    have hb8 := bnext hb7 bt
    have hX8 := (bt.block _ (Array.getElem?_eq_some_iff.1 hX7).1).trans hX7
    clear hr7 hQ7 hb7 hX7
    have x3 : w8.cell? ⟨gx, 3, none⟩ = some (.int .i64 0) := by rw [cell_of_row w8 _ 3 _ _ (0, 0) hX8]; rfl
    have xz3 : w8.frozen? ⟨gx, 3, none⟩ = false := frozen_of_row w8 _ 3 _ _ hX8
    have x4 : w8.cell? ⟨gx, 4, none⟩ = some (.string ⟨#[]⟩) := by rw [cell_of_row w8 _ 4 _ _ (0, 0) hX8]; rfl
    have xz4 : w8.frozen? ⟨gx, 4, none⟩ = false := frozen_of_row w8 _ 4 _ _ hX8
    have x5 : w8.cell? ⟨gx, 5, none⟩ = some (.int .i64 0) := by rw [cell_of_row w8 _ 5 _ _ (0, 0) hX8]; rfl
    have xz5 : w8.frozen? ⟨gx, 5, none⟩ = false := frozen_of_row w8 _ 5 _ _ hX8
    have x6 : w8.cell? ⟨gx, 6, none⟩ = some (.int .i64 0) := by rw [cell_of_row w8 _ 6 _ _ (0, 0) hX8]; rfl
    have xz6 : w8.frozen? ⟨gx, 6, none⟩ = false := frozen_of_row w8 _ 6 _ _ hX8
    go_upto_region 9 with (fail)
    clear x3 xz3 x4 xz4 x5 xz5 x6 xz6
    obtain ⟨w9, hw9⟩ : ∃ x, x = ((((w8.setCell ⟨gx, 3, none⟩ (.int .i64 ta)).setCell ⟨gx, 4, none⟩ (.string ⟨tb.toArray⟩)).setCell ⟨gx, 5, none⟩ (.int .i64 tc)).setCell ⟨gx, 6, none⟩ (.int .i64 td)) := ⟨_, rfl⟩
    have aw : At gx w8 w9 := by rw [hw9]; exact (((((At.refl gx w8).set 3 _).set 4 _).set 5 _).set 6 _)
    have hy0 := heap_setCell_same w8 gx 3 _ _ (.int .i64 ta) hX8
    have hy1 := heap_setCell_same _ gx 4 _ _ (.string ⟨tb.toArray⟩) hy0
    have hy2 := heap_setCell_same _ gx 5 _ _ (.int .i64 tc) hy1
    have hy3 := heap_setCell_same _ gx 6 _ _ (.int .i64 td) hy2
    have hX9 : w9.heap[gx]? = some (.cells #[.int .i64 (n2' : Int), .int .i64 (n3' : Int), .int .i64 (n4' : Int), .int .i64 ta, .string ⟨tb.toArray⟩, .int .i64 tc, .int .i64 td, .string ⟨#[]⟩, .slice none 0 0] 33 (0, 0)) := by rw [hw9]; exact hy3
    rw [← hw9]
    have hr9 := hr8.grown aw (Ne.symm nx)
    have hQ9 := (aw.block gr (Array.getElem?_eq_some_iff.1 hQ8).1 (by simpa using nq)).trans hQ8
    have hb9 := At.below hb8 aw n4
    clear hw9 aw hr8 hQ8 hb8 hX8 hy0 hy1 hy2 hy3
    rcases hres with ⟨ht5, rfl⟩ | ⟨ht5, rfl, hz⟩
    · go_wp2_with fail
      refine (text_any_r g r5 e5 w9 hr9 (by unfold maxLen; omega)).mono ?_
      rintro _ w10 ⟨rfl, hr10, aw⟩
      have hQ10 := (aw.block gr (Array.getElem?_eq_some_iff.1 hQ9).1 (by simpa using n1)).trans hQ9
      have hX10 := (aw.block gx (Array.getElem?_eq_some_iff.1 hX9).1 (by simpa using nx)).trans hX9
      have hb10 := At.below hb9 aw n3
      have hl10 := textF_len r5 e5
      have hf10 := textF_fst r5 e5
      obtain ⟨⟨t6, r6, e6⟩, hxt6⟩ : ∃ x, textF r5 e5 = x := ⟨_, rfl⟩
      rw [hxt6] at hr10 hl10 hf10 ⊢
      simp only at hr10 hl10 hf10 ⊢
      have HXt6 := hid hxt6
      clear hxt6 hr9 hQ9 hb9 aw hX9
      have x7 : w10.cell? ⟨gx, 7, none⟩ = some (.string ⟨#[]⟩) := by rw [cell_of_row w10 _ 7 _ _ (0, 0) hX10]; rfl
      have xz7 : w10.frozen? ⟨gx, 7, none⟩ = false := frozen_of_row w10 _ 7 _ _ hX10
      go_wp2_with fail
      clear x7 xz7
      obtain ⟨w11, hw11⟩ : ∃ x, x = (w10.setCell ⟨gx, 7, none⟩ (.string ⟨t6.toArray⟩)) := ⟨_, rfl⟩
      have aw : At gx w10 w11 := by rw [hw11]; exact ((At.refl gx w10).set 7 _)
      have hy0 := heap_setCell_same w10 gx 7 _ _ (.string ⟨t6.toArray⟩) hX10
      have hX11 : w11.heap[gx]? = some (.cells #[.int .i64 (n2' : Int), .int .i64 (n3' : Int), .int .i64 (n4' : Int), .int .i64 ta, .string ⟨tb.toArray⟩, .int .i64 tc, .int .i64 td, .string ⟨t6.toArray⟩, .slice none 0 0] 33 (0, 0)) := by rw [hw11]; exact hy0
      rw [← hw11]
      have hr11 := hr10.grown aw (Ne.symm nx)
      have hQ11 := (aw.block gr (Array.getElem?_eq_some_iff.1 hQ10).1 (by simpa using nq)).trans hQ10
      have hb11 := At.below hb10 aw n4
      clear hw11 aw hr10 hQ10 hb10 hX10 hy0
      refine (text_any_r g r6 e6 w11 hr11 (by unfold maxLen; omega)).mono ?_
      rintro _ w12 ⟨rfl, hr12, aw⟩
      have hQ12 := (aw.block gr (Array.getElem?_eq_some_iff.1 hQ11).1 (by simpa using n1)).trans hQ11
      have hX12 := (aw.block gx (Array.getElem?_eq_some_iff.1 hX11).1 (by simpa using nx)).trans hX11
      have hb12 := At.below hb11 aw n3
      have hl12 := textF_len r6 e6
      have hf12 := textF_fst r6 e6
      obtain ⟨⟨t7, r7, e7⟩, hxt7⟩ : ∃ x, textF r6 e6 = x := ⟨_, rfl⟩
      rw [hxt7] at hr12 hl12 hf12 ⊢
      simp only at hr12 hl12 hf12 ⊢
      have HXt7 := hid hxt7
      clear hxt7 hr11 hQ11 hb11 aw hX11
      go_wp2_with fail
      refine (eunpack_any t7 (by omega) w12).mono ?_
      rintro _ w13 ⟨v, ev, er, rfl, hsl, hfit, bu, hres2⟩
      obtain ⟨av, cv, rfl⟩ : ∃ a c, v = .slice a ev.length c := by
        obtain ⟨_, _, a, c, h, _⟩ := hsl
        exact ⟨a, c, h⟩
      have hr13 := hr12.keep bu
      have hQ13 := (bu.block _ (Array.getElem?_eq_some_iff.1 hQ12).1).trans hQ12
      have hb13 := bnext hb12 bu
      have hX13 := (bu.block _ (Array.getElem?_eq_some_iff.1 hX12).1).trans hX12
      clear hr12 hQ12 hb12 hX12
      have x8 : w13.cell? ⟨gx, 8, none⟩ = some (.slice none 0 0) := by rw [cell_of_row w13 _ 8 _ _ (0, 0) hX13]; rfl
      have xz8 : w13.frozen? ⟨gx, 8, none⟩ = false := frozen_of_row w13 _ 8 _ _ hX13
      go_upto_region 14 with (fail)
      clear x8 xz8
      obtain ⟨w14, hw14⟩ : ∃ x, x = (w13.setCell ⟨gx, 8, none⟩ (.slice av ev.length cv)) := ⟨_, rfl⟩
      have aw : At gx w13 w14 := by rw [hw14]; exact ((At.refl gx w13).set 8 _)
      have hy0 := heap_setCell_same w13 gx 8 _ _ (.slice av ev.length cv) hX13
      have hX14 : w14.heap[gx]? = some (.cells #[.int .i64 (n2' : Int), .int .i64 (n3' : Int), .int .i64 (n4' : Int), .int .i64 ta, .string ⟨tb.toArray⟩, .int .i64 tc, .int .i64 td, .string ⟨t6.toArray⟩, .slice av ev.length cv] 33 (0, 0)) := by rw [hw14]; exact hy0
      have hsl := hsl.at aw (events_apart hX13)
      rw [← hw14]
      have hr14 := hr13.grown aw (Ne.symm nx)
      have hQ14 := (aw.block gr (Array.getElem?_eq_some_iff.1 hQ13).1 (by simpa using nq)).trans hQ13
      have hb14 := At.below hb13 aw n4
      clear hw14 aw hr13 hQ13 hb13 hX13 hy0
      rcases hres2 with ⟨hu, rfl⟩ | ⟨hu, rfl, hxs⟩
      · by_cases he : endF r7 e7 = true
        case neg =>
          have HNO := hid (rp_rej HNX.out HX0.out HXn1'.out HXn2'.out HXn3'.out HXn4'.out HXt5.out HXt6.out HXt7.out (fun q => he q.2.2.1))
          have he' : endF r7 e7 = false := by simpa using he
          clear hu hsl hfit
          go_wp2_with fail
          refine (end_any g r7 e7 w14 hr14).mono ?_
          rintro _ w99 ⟨rfl, hw9⟩
          rw [hw9, he']
          clear hw9
          have q0 : w14.cell? ⟨gr, 0, none⟩ = some (.int .i64 0) := by rw [cell_of_row w14 _ 0 _ _ (0, 0) hQ14]; rfl
          have qz0 : w14.frozen? ⟨gr, 0, none⟩ = false := frozen_of_row w14 _ 0 _ _ hQ14
          have q1 : w14.cell? ⟨gr, 1, none⟩ = some (.int .i64 0) := by rw [cell_of_row w14 _ 1 _ _ (0, 0) hQ14]; rfl
          have qz1 : w14.frozen? ⟨gr, 1, none⟩ = false := frozen_of_row w14 _ 1 _ _ hQ14
          have q2 : w14.cell? ⟨gr, 2, none⟩ = some (.int .i64 0) := by rw [cell_of_row w14 _ 2 _ _ (0, 0) hQ14]; rfl
          have qz2 : w14.frozen? ⟨gr, 2, none⟩ = false := frozen_of_row w14 _ 2 _ _ hQ14
          have q3 : w14.cell? ⟨gr, 3, none⟩ = some (.int .i64 0) := by rw [cell_of_row w14 _ 3 _ _ (0, 0) hQ14]; rfl
          have qz3 : w14.frozen? ⟨gr, 3, none⟩ = false := frozen_of_row w14 _ 3 _ _ hQ14
          have q4 : w14.cell? ⟨gr, 4, none⟩ = some (.string ⟨#[]⟩) := by rw [cell_of_row w14 _ 4 _ _ (0, 0) hQ14]; rfl
          have qz4 : w14.frozen? ⟨gr, 4, none⟩ = false := frozen_of_row w14 _ 4 _ _ hQ14
          have q5 : w14.cell? ⟨gr, 5, none⟩ = some (.int .i64 0) := by rw [cell_of_row w14 _ 5 _ _ (0, 0) hQ14]; rfl
          have qz5 : w14.frozen? ⟨gr, 5, none⟩ = false := frozen_of_row w14 _ 5 _ _ hQ14
          have q6 : w14.cell? ⟨gr, 6, none⟩ = some (.int .i64 0) := by rw [cell_of_row w14 _ 6 _ _ (0, 0) hQ14]; rfl
          have qz6 : w14.frozen? ⟨gr, 6, none⟩ = false := frozen_of_row w14 _ 6 _ _ hQ14
          have q7 : w14.cell? ⟨gr, 7, none⟩ = some (.string ⟨#[]⟩) := by rw [cell_of_row w14 _ 7 _ _ (0, 0) hQ14]; rfl
          have qz7 : w14.frozen? ⟨gr, 7, none⟩ = false := frozen_of_row w14 _ 7 _ _ hQ14
          have q8 : w14.cell? ⟨gr, 8, none⟩ = some (.slice none 0 0) := by rw [cell_of_row w14 _ 8 _ _ (0, 0) hQ14]; rfl
          have qz8 : w14.frozen? ⟨gr, 8, none⟩ = false := frozen_of_row w14 _ 8 _ _ hQ14
          go_wp2_with fail
          refine bodyPost_ret (v := .tuple #[.int .i64 0, .agg #[.int .i64 0, .int .i64 0, .int .i64 0, .int .i64 0, .string ⟨#[]⟩, .int .i64 0, .int .i64 0, .string ⟨#[]⟩, .slice none 0 0], .int .i64 60]) ?_ rfl ⟨0, rp0, .slice none 0 0, 60, rfl, Sl.none _ _, (by intro x hx; cases hx), At.below hb14 (((((((((((At.refl gr w14).set 0 _).set 1 _).set 2 _).set 3 _).set 4 _).set 5 _).set 6 _).set 7 _).set 8 _) : At gr w14 (((((((((w14.setCell ⟨gr, 0, none⟩ (.int .i64 0)).setCell ⟨gr, 1, none⟩ (.int .i64 0)).setCell ⟨gr, 2, none⟩ (.int .i64 0)).setCell ⟨gr, 3, none⟩ (.int .i64 0)).setCell ⟨gr, 4, none⟩ (.string ⟨#[]⟩)).setCell ⟨gr, 5, none⟩ (.int .i64 0)).setCell ⟨gr, 6, none⟩ (.int .i64 0)).setCell ⟨gr, 7, none⟩ (.string ⟨#[]⟩)).setCell ⟨gr, 8, none⟩ (.slice none 0 0))) n2, .inr ⟨HERF.out.symm, rfl, rfl, rfl, HNO.out⟩⟩
          rw [results_tct rfl]
          go_simp
        go_wp2_with fail
        refine (end_any g r7 e7 w14 hr14).mono ?_
        rintro _ w99 ⟨rfl, hw9⟩
        rw [hw9, he]
        clear hw9 w99
        have x7 : w14.cell? ⟨gx, 7, none⟩ = some (.string ⟨t6.toArray⟩) := by rw [cell_of_row w14 _ 7 _ _ (0, 0) hX14]; rfl
        have xz7 : w14.frozen? ⟨gx, 7, none⟩ = false := frozen_of_row w14 _ 7 _ _ hX14
        go_wp2_with fail
        clear x7 xz7
        refine (short1 t6 (by omega) _).mono ?_
        rintro _ w15 ⟨rfl, bs⟩
        have hsl := hsl.below bs
        have hr15 := hr14.keep bs
        have hQ15 := (bs.block _ (Array.getElem?_eq_some_iff.1 hQ14).1).trans hQ14
        have hb15 := bnext hb14 bs
        have hX15 := (bs.block _ (Array.getElem?_eq_some_iff.1 hX14).1).trans hX14
        clear hr14 hQ14 hb14 hX14
        by_cases hs6 : t6.length ≤ 16
        case neg =>
          have HNO := hid (rp_rej HNX.out HX0.out HXn1'.out HXn2'.out HXn3'.out HXn4'.out HXt5.out HXt6.out HXt7.out (fun q => hs6 q.2.2.2))
          rw [decide_eq_false hs6]
          clear hu hsl hfit
          have q0 : w15.cell? ⟨gr, 0, none⟩ = some (.int .i64 0) := by rw [cell_of_row w15 _ 0 _ _ (0, 0) hQ15]; rfl
          have qz0 : w15.frozen? ⟨gr, 0, none⟩ = false := frozen_of_row w15 _ 0 _ _ hQ15
          have q1 : w15.cell? ⟨gr, 1, none⟩ = some (.int .i64 0) := by rw [cell_of_row w15 _ 1 _ _ (0, 0) hQ15]; rfl
          have qz1 : w15.frozen? ⟨gr, 1, none⟩ = false := frozen_of_row w15 _ 1 _ _ hQ15
          have q2 : w15.cell? ⟨gr, 2, none⟩ = some (.int .i64 0) := by rw [cell_of_row w15 _ 2 _ _ (0, 0) hQ15]; rfl
          have qz2 : w15.frozen? ⟨gr, 2, none⟩ = false := frozen_of_row w15 _ 2 _ _ hQ15
          have q3 : w15.cell? ⟨gr, 3, none⟩ = some (.int .i64 0) := by rw [cell_of_row w15 _ 3 _ _ (0, 0) hQ15]; rfl
          have qz3 : w15.frozen? ⟨gr, 3, none⟩ = false := frozen_of_row w15 _ 3 _ _ hQ15
          have q4 : w15.cell? ⟨gr, 4, none⟩ = some (.string ⟨#[]⟩) := by rw [cell_of_row w15 _ 4 _ _ (0, 0) hQ15]; rfl
          have qz4 : w15.frozen? ⟨gr, 4, none⟩ = false := frozen_of_row w15 _ 4 _ _ hQ15
          have q5 : w15.cell? ⟨gr, 5, none⟩ = some (.int .i64 0) := by rw [cell_of_row w15 _ 5 _ _ (0, 0) hQ15]; rfl
          have qz5 : w15.frozen? ⟨gr, 5, none⟩ = false := frozen_of_row w15 _ 5 _ _ hQ15
          have q6 : w15.cell? ⟨gr, 6, none⟩ = some (.int .i64 0) := by rw [cell_of_row w15 _ 6 _ _ (0, 0) hQ15]; rfl
          have qz6 : w15.frozen? ⟨gr, 6, none⟩ = false := frozen_of_row w15 _ 6 _ _ hQ15
          have q7 : w15.cell? ⟨gr, 7, none⟩ = some (.string ⟨#[]⟩) := by rw [cell_of_row w15 _ 7 _ _ (0, 0) hQ15]; rfl
          have qz7 : w15.frozen? ⟨gr, 7, none⟩ = false := frozen_of_row w15 _ 7 _ _ hQ15
          have q8 : w15.cell? ⟨gr, 8, none⟩ = some (.slice none 0 0) := by rw [cell_of_row w15 _ 8 _ _ (0, 0) hQ15]; rfl
          have qz8 : w15.frozen? ⟨gr, 8, none⟩ = false := frozen_of_row w15 _ 8 _ _ hQ15
          go_wp2_with fail
          refine bodyPost_ret (v := .tuple #[.int .i64 0, .agg #[.int .i64 0, .int .i64 0, .int .i64 0, .int .i64 0, .string ⟨#[]⟩, .int .i64 0, .int .i64 0, .string ⟨#[]⟩, .slice none 0 0], .int .i64 60]) ?_ rfl ⟨0, rp0, .slice none 0 0, 60, rfl, Sl.none _ _, (by intro x hx; cases hx), At.below hb15 (((((((((((At.refl gr w15).set 0 _).set 1 _).set 2 _).set 3 _).set 4 _).set 5 _).set 6 _).set 7 _).set 8 _) : At gr w15 (((((((((w15.setCell ⟨gr, 0, none⟩ (.int .i64 0)).setCell ⟨gr, 1, none⟩ (.int .i64 0)).setCell ⟨gr, 2, none⟩ (.int .i64 0)).setCell ⟨gr, 3, none⟩ (.int .i64 0)).setCell ⟨gr, 4, none⟩ (.string ⟨#[]⟩)).setCell ⟨gr, 5, none⟩ (.int .i64 0)).setCell ⟨gr, 6, none⟩ (.int .i64 0)).setCell ⟨gr, 7, none⟩ (.string ⟨#[]⟩)).setCell ⟨gr, 8, none⟩ (.slice none 0 0))) n2, .inr ⟨HERF.out.symm, rfl, rfl, rfl, HNO.out⟩⟩
          rw [results_tct rfl]
          go_simp
        rw [decide_eq_true hs6]
        have HACC := hid (rp_acc HX0.out HXn1'.out HXn2'.out HXn3'.out HXn4'.out HXt5.out HXt6.out HXt7.out (.inr ht5) hu he hs6)
        have hsl9 := (hsl.at (((((((((((At.refl gr w15).set 0 _).set 1 _).set 2 _).set 3 _).set 4 _).set 5 _).set 6 _).set 7 _).set 8 _) : At gr w15 (((((((((w15.setCell ⟨gr, 0, none⟩ (.int .i64 (n2' : Int))).setCell ⟨gr, 1, none⟩ (.int .i64 (n3' : Int))).setCell ⟨gr, 2, none⟩ (.int .i64 (n4' : Int))).setCell ⟨gr, 3, none⟩ (.int .i64 ta)).setCell ⟨gr, 4, none⟩ (.string ⟨tb.toArray⟩)).setCell ⟨gr, 5, none⟩ (.int .i64 tc)).setCell ⟨gr, 6, none⟩ (.int .i64 td)).setCell ⟨gr, 7, none⟩ (.string ⟨t6.toArray⟩)).setCell ⟨gr, 8, none⟩ (.slice av ev.length cv))) (events_apart hQ15)).below (below_drewN _ _ 1)
        have hbf := below_to_drew (At.below hb15 (((((((((((At.refl gr w15).set 0 _).set 1 _).set 2 _).set 3 _).set 4 _).set 5 _).set 6 _).set 7 _).set 8 _) : At gr w15 (((((((((w15.setCell ⟨gr, 0, none⟩ (.int .i64 (n2' : Int))).setCell ⟨gr, 1, none⟩ (.int .i64 (n3' : Int))).setCell ⟨gr, 2, none⟩ (.int .i64 (n4' : Int))).setCell ⟨gr, 3, none⟩ (.int .i64 ta)).setCell ⟨gr, 4, none⟩ (.string ⟨tb.toArray⟩)).setCell ⟨gr, 5, none⟩ (.int .i64 tc)).setCell ⟨gr, 6, none⟩ (.int .i64 td)).setCell ⟨gr, 7, none⟩ (.string ⟨t6.toArray⟩)).setCell ⟨gr, 8, none⟩ (.slice av ev.length cv))) n2)
        have HLL := hid ((by simpa using (next_out HNX.out).1 : l = wrapL (nextF l).1).trans (congrArg wrapL HACC.out.2))
        clear hu hsl he hs6
        have x0 : w15.cell? ⟨gx, 0, none⟩ = some (.int .i64 (n2' : Int)) := by rw [cell_of_row w15 _ 0 _ _ (0, 0) hX15]; rfl
        have xz0 : w15.frozen? ⟨gx, 0, none⟩ = false := frozen_of_row w15 _ 0 _ _ hX15
        have x1 : w15.cell? ⟨gx, 1, none⟩ = some (.int .i64 (n3' : Int)) := by rw [cell_of_row w15 _ 1 _ _ (0, 0) hX15]; rfl
        have xz1 : w15.frozen? ⟨gx, 1, none⟩ = false := frozen_of_row w15 _ 1 _ _ hX15
        have x2 : w15.cell? ⟨gx, 2, none⟩ = some (.int .i64 (n4' : Int)) := by rw [cell_of_row w15 _ 2 _ _ (0, 0) hX15]; rfl
        have xz2 : w15.frozen? ⟨gx, 2, none⟩ = false := frozen_of_row w15 _ 2 _ _ hX15
        have x3 : w15.cell? ⟨gx, 3, none⟩ = some (.int .i64 ta) := by rw [cell_of_row w15 _ 3 _ _ (0, 0) hX15]; rfl
        have xz3 : w15.frozen? ⟨gx, 3, none⟩ = false := frozen_of_row w15 _ 3 _ _ hX15
        have x4 : w15.cell? ⟨gx, 4, none⟩ = some (.string ⟨tb.toArray⟩) := by rw [cell_of_row w15 _ 4 _ _ (0, 0) hX15]; rfl
        have xz4 : w15.frozen? ⟨gx, 4, none⟩ = false := frozen_of_row w15 _ 4 _ _ hX15
        have x5 : w15.cell? ⟨gx, 5, none⟩ = some (.int .i64 tc) := by rw [cell_of_row w15 _ 5 _ _ (0, 0) hX15]; rfl
        have xz5 : w15.frozen? ⟨gx, 5, none⟩ = false := frozen_of_row w15 _ 5 _ _ hX15
        have x6 : w15.cell? ⟨gx, 6, none⟩ = some (.int .i64 td) := by rw [cell_of_row w15 _ 6 _ _ (0, 0) hX15]; rfl
        have xz6 : w15.frozen? ⟨gx, 6, none⟩ = false := frozen_of_row w15 _ 6 _ _ hX15
        have x7 : w15.cell? ⟨gx, 7, none⟩ = some (.string ⟨t6.toArray⟩) := by rw [cell_of_row w15 _ 7 _ _ (0, 0) hX15]; rfl
        have xz7 : w15.frozen? ⟨gx, 7, none⟩ = false := frozen_of_row w15 _ 7 _ _ hX15
        have x8 : w15.cell? ⟨gx, 8, none⟩ = some (.slice av ev.length cv) := by rw [cell_of_row w15 _ 8 _ _ (0, 0) hX15]; rfl
        have xz8 : w15.frozen? ⟨gx, 8, none⟩ = false := frozen_of_row w15 _ 8 _ _ hX15
        have q0 : w15.cell? ⟨gr, 0, none⟩ = some (.int .i64 0) := by rw [cell_of_row w15 _ 0 _ _ (0, 0) hQ15]; rfl
        have qz0 : w15.frozen? ⟨gr, 0, none⟩ = false := frozen_of_row w15 _ 0 _ _ hQ15
        have q1 : w15.cell? ⟨gr, 1, none⟩ = some (.int .i64 0) := by rw [cell_of_row w15 _ 1 _ _ (0, 0) hQ15]; rfl
        have qz1 : w15.frozen? ⟨gr, 1, none⟩ = false := frozen_of_row w15 _ 1 _ _ hQ15
        have q2 : w15.cell? ⟨gr, 2, none⟩ = some (.int .i64 0) := by rw [cell_of_row w15 _ 2 _ _ (0, 0) hQ15]; rfl
        have qz2 : w15.frozen? ⟨gr, 2, none⟩ = false := frozen_of_row w15 _ 2 _ _ hQ15
        have q3 : w15.cell? ⟨gr, 3, none⟩ = some (.int .i64 0) := by rw [cell_of_row w15 _ 3 _ _ (0, 0) hQ15]; rfl
        have qz3 : w15.frozen? ⟨gr, 3, none⟩ = false := frozen_of_row w15 _ 3 _ _ hQ15
        have q4 : w15.cell? ⟨gr, 4, none⟩ = some (.string ⟨#[]⟩) := by rw [cell_of_row w15 _ 4 _ _ (0, 0) hQ15]; rfl
        have qz4 : w15.frozen? ⟨gr, 4, none⟩ = false := frozen_of_row w15 _ 4 _ _ hQ15
        have q5 : w15.cell? ⟨gr, 5, none⟩ = some (.int .i64 0) := by rw [cell_of_row w15 _ 5 _ _ (0, 0) hQ15]; rfl
        have qz5 : w15.frozen? ⟨gr, 5, none⟩ = false := frozen_of_row w15 _ 5 _ _ hQ15
        have q6 : w15.cell? ⟨gr, 6, none⟩ = some (.int .i64 0) := by rw [cell_of_row w15 _ 6 _ _ (0, 0) hQ15]; rfl
        have qz6 : w15.frozen? ⟨gr, 6, none⟩ = false := frozen_of_row w15 _ 6 _ _ hQ15
        have q7 : w15.cell? ⟨gr, 7, none⟩ = some (.string ⟨#[]⟩) := by rw [cell_of_row w15 _ 7 _ _ (0, 0) hQ15]; rfl
        have qz7 : w15.frozen? ⟨gr, 7, none⟩ = false := frozen_of_row w15 _ 7 _ _ hQ15
        have q8 : w15.cell? ⟨gr, 8, none⟩ = some (.slice none 0 0) := by rw [cell_of_row w15 _ 8 _ _ (0, 0) hQ15]; rfl
        have qz8 : w15.frozen? ⟨gr, 8, none⟩ = false := frozen_of_row w15 _ 8 _ _ hQ15
        go_wp2_with fail
        go_region
        go_wp2_with fail
        refine bodyPost_ret (v := .tuple #[.int .i64 n1', .agg #[.int .i64 (n2' : Int), .int .i64 (n3' : Int), .int .i64 (n4' : Int), .int .i64 ta, .string ⟨tb.toArray⟩, .int .i64 tc, .int .i64 td, .string ⟨t6.toArray⟩, .slice av ev.length cv], .int .i64 0]) ?_ rfl ⟨n1', ⟨n2', n3', n4', (ta, tb, tc, td), t6, ev⟩, .slice av ev.length cv, 0, rfl, hsl9, hfit, hbf, .inl ⟨rfl, HACC.out.1, HLL.out⟩⟩
        rw [results_tct rfl]
        go_simp
      · have HNO := hid (rp_rej HNX.out HX0.out HXn1'.out HXn2'.out HXn3'.out HXn4'.out HXt5.out HXt6.out HXt7.out (fun q => by obtain ⟨-, ⟨ev9, h9⟩, -⟩ := q; rw [hu] at h9; cases h9))
        clear hu hsl hfit hxs
        have q0 : w14.cell? ⟨gr, 0, none⟩ = some (.int .i64 0) := by rw [cell_of_row w14 _ 0 _ _ (0, 0) hQ14]; rfl
        have qz0 : w14.frozen? ⟨gr, 0, none⟩ = false := frozen_of_row w14 _ 0 _ _ hQ14
        have q1 : w14.cell? ⟨gr, 1, none⟩ = some (.int .i64 0) := by rw [cell_of_row w14 _ 1 _ _ (0, 0) hQ14]; rfl
        have qz1 : w14.frozen? ⟨gr, 1, none⟩ = false := frozen_of_row w14 _ 1 _ _ hQ14
        have q2 : w14.cell? ⟨gr, 2, none⟩ = some (.int .i64 0) := by rw [cell_of_row w14 _ 2 _ _ (0, 0) hQ14]; rfl
        have qz2 : w14.frozen? ⟨gr, 2, none⟩ = false := frozen_of_row w14 _ 2 _ _ hQ14
        have q3 : w14.cell? ⟨gr, 3, none⟩ = some (.int .i64 0) := by rw [cell_of_row w14 _ 3 _ _ (0, 0) hQ14]; rfl
        have qz3 : w14.frozen? ⟨gr, 3, none⟩ = false := frozen_of_row w14 _ 3 _ _ hQ14
        have q4 : w14.cell? ⟨gr, 4, none⟩ = some (.string ⟨#[]⟩) := by rw [cell_of_row w14 _ 4 _ _ (0, 0) hQ14]; rfl
        have qz4 : w14.frozen? ⟨gr, 4, none⟩ = false := frozen_of_row w14 _ 4 _ _ hQ14
        have q5 : w14.cell? ⟨gr, 5, none⟩ = some (.int .i64 0) := by rw [cell_of_row w14 _ 5 _ _ (0, 0) hQ14]; rfl
        have qz5 : w14.frozen? ⟨gr, 5, none⟩ = false := frozen_of_row w14 _ 5 _ _ hQ14
        have q6 : w14.cell? ⟨gr, 6, none⟩ = some (.int .i64 0) := by rw [cell_of_row w14 _ 6 _ _ (0, 0) hQ14]; rfl
        have qz6 : w14.frozen? ⟨gr, 6, none⟩ = false := frozen_of_row w14 _ 6 _ _ hQ14
        have q7 : w14.cell? ⟨gr, 7, none⟩ = some (.string ⟨#[]⟩) := by rw [cell_of_row w14 _ 7 _ _ (0, 0) hQ14]; rfl
        have qz7 : w14.frozen? ⟨gr, 7, none⟩ = false := frozen_of_row w14 _ 7 _ _ hQ14
        have q8 : w14.cell? ⟨gr, 8, none⟩ = some (.slice none 0 0) := by rw [cell_of_row w14 _ 8 _ _ (0, 0) hQ14]; rfl
        have qz8 : w14.frozen? ⟨gr, 8, none⟩ = false := frozen_of_row w14 _ 8 _ _ hQ14
        go_wp2_with fail
        refine bodyPost_ret (v := .tuple #[.int .i64 0, .agg #[.int .i64 0, .int .i64 0, .int .i64 0, .int .i64 0, .string ⟨#[]⟩, .int .i64 0, .int .i64 0, .string ⟨#[]⟩, .slice none 0 0], .int .i64 60]) ?_ rfl ⟨0, rp0, .slice none 0 0, 60, rfl, Sl.none _ _, (by intro x hx; cases hx), At.below hb14 (((((((((((At.refl gr w14).set 0 _).set 1 _).set 2 _).set 3 _).set 4 _).set 5 _).set 6 _).set 7 _).set 8 _) : At gr w14 (((((((((w14.setCell ⟨gr, 0, none⟩ (.int .i64 0)).setCell ⟨gr, 1, none⟩ (.int .i64 0)).setCell ⟨gr, 2, none⟩ (.int .i64 0)).setCell ⟨gr, 3, none⟩ (.int .i64 0)).setCell ⟨gr, 4, none⟩ (.string ⟨#[]⟩)).setCell ⟨gr, 5, none⟩ (.int .i64 0)).setCell ⟨gr, 6, none⟩ (.int .i64 0)).setCell ⟨gr, 7, none⟩ (.string ⟨#[]⟩)).setCell ⟨gr, 8, none⟩ (.slice none 0 0))) n2, .inr ⟨HERF.out.symm, rfl, rfl, rfl, HNO.out⟩⟩
        rw [results_tct rfl]
        go_simp
    · have HNO := hid (rp_rej HNX.out HX0.out HXn1'.out HXn2'.out HXn3'.out HXn4'.out HXt5.out rfl rfl (fun q => by rcases q.1 with h | ⟨tk9, h⟩; exact ht h; rw [ht5] at h; cases h))
      clear ht5 hz
      have q0 : w9.cell? ⟨gr, 0, none⟩ = some (.int .i64 0) := by rw [cell_of_row w9 _ 0 _ _ (0, 0) hQ9]; rfl
      have qz0 : w9.frozen? ⟨gr, 0, none⟩ = false := frozen_of_row w9 _ 0 _ _ hQ9
      have q1 : w9.cell? ⟨gr, 1, none⟩ = some (.int .i64 0) := by rw [cell_of_row w9 _ 1 _ _ (0, 0) hQ9]; rfl
      have qz1 : w9.frozen? ⟨gr, 1, none⟩ = false := frozen_of_row w9 _ 1 _ _ hQ9
      have q2 : w9.cell? ⟨gr, 2, none⟩ = some (.int .i64 0) := by rw [cell_of_row w9 _ 2 _ _ (0, 0) hQ9]; rfl
      have qz2 : w9.frozen? ⟨gr, 2, none⟩ = false := frozen_of_row w9 _ 2 _ _ hQ9
      have q3 : w9.cell? ⟨gr, 3, none⟩ = some (.int .i64 0) := by rw [cell_of_row w9 _ 3 _ _ (0, 0) hQ9]; rfl
      have qz3 : w9.frozen? ⟨gr, 3, none⟩ = false := frozen_of_row w9 _ 3 _ _ hQ9
      have q4 : w9.cell? ⟨gr, 4, none⟩ = some (.string ⟨#[]⟩) := by rw [cell_of_row w9 _ 4 _ _ (0, 0) hQ9]; rfl
      have qz4 : w9.frozen? ⟨gr, 4, none⟩ = false := frozen_of_row w9 _ 4 _ _ hQ9
      have q5 : w9.cell? ⟨gr, 5, none⟩ = some (.int .i64 0) := by rw [cell_of_row w9 _ 5 _ _ (0, 0) hQ9]; rfl
      have qz5 : w9.frozen? ⟨gr, 5, none⟩ = false := frozen_of_row w9 _ 5 _ _ hQ9
      have q6 : w9.cell? ⟨gr, 6, none⟩ = some (.int .i64 0) := by rw [cell_of_row w9 _ 6 _ _ (0, 0) hQ9]; rfl
      have qz6 : w9.frozen? ⟨gr, 6, none⟩ = false := frozen_of_row w9 _ 6 _ _ hQ9
      have q7 : w9.cell? ⟨gr, 7, none⟩ = some (.string ⟨#[]⟩) := by rw [cell_of_row w9 _ 7 _ _ (0, 0) hQ9]; rfl
      have qz7 : w9.frozen? ⟨gr, 7, none⟩ = false := frozen_of_row w9 _ 7 _ _ hQ9
      have q8 : w9.cell? ⟨gr, 8, none⟩ = some (.slice none 0 0) := by rw [cell_of_row w9 _ 8 _ _ (0, 0) hQ9]; rfl
      have qz8 : w9.frozen? ⟨gr, 8, none⟩ = false := frozen_of_row w9 _ 8 _ _ hQ9
      go_wp2_with fail
      refine bodyPost_ret (v := .tuple #[.int .i64 0, .agg #[.int .i64 0, .int .i64 0, .int .i64 0, .int .i64 0, .string ⟨#[]⟩, .int .i64 0, .int .i64 0, .string ⟨#[]⟩, .slice none 0 0], .int .i64 60]) ?_ rfl ⟨0, rp0, .slice none 0 0, 60, rfl, Sl.none _ _, (by intro x hx; cases hx), At.below hb9 (((((((((((At.refl gr w9).set 0 _).set 1 _).set 2 _).set 3 _).set 4 _).set 5 _).set 6 _).set 7 _).set 8 _) : At gr w9 (((((((((w9.setCell ⟨gr, 0, none⟩ (.int .i64 0)).setCell ⟨gr, 1, none⟩ (.int .i64 0)).setCell ⟨gr, 2, none⟩ (.int .i64 0)).setCell ⟨gr, 3, none⟩ (.int .i64 0)).setCell ⟨gr, 4, none⟩ (.string ⟨#[]⟩)).setCell ⟨gr, 5, none⟩ (.int .i64 0)).setCell ⟨gr, 6, none⟩ (.int .i64 0)).setCell ⟨gr, 7, none⟩ (.string ⟨#[]⟩)).setCell ⟨gr, 8, none⟩ (.slice none 0 0))) n2, .inr ⟨HERF.out.symm, rfl, rfl, rfl, HNO.out⟩⟩
      rw [results_tct rfl]
      go_simp
end Go.Proofs.Ytelacmchofehcaa
