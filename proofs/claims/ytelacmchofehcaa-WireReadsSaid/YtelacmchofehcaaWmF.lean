/- CONTRACT: wire.Requested. -/
import Derived.Test.YtelacmchofehcaaWmE
import Derived.Test.YtelacmchofehcaaWmB
import Derived.Deep.RegionLaw
import Derived.Test.YtelacmchofehcaaWmA
import Derived.Test.YtelacmchofehcaaPgmDec
import Derived.RegionTactic
import Derived.Deep.DeepCutAuto
namespace Go.Proofs.Ytelacmchofehcaa
open Go.RowKit
set_option linter.unusedVariables false
set_option linter.unusedSimpArgs false

def rq0 : Rq := ⟨0, [], [], [], [], 0, [], 0, 0, 0, 0, false⟩
def rqVal (q : Rq) (v u : Value) : Value := .agg #[.int .i64 q.kd, .string ⟨q.rq.toArray⟩, .string ⟨q.wd.toArray⟩, .string ⟨q.nm.toArray⟩, v, .int .i64 q.lim, u, .int .i64 q.rf, .int .i64 q.ty, .int .i64 q.fr, .int .i64 q.sh, .bool q.gd]
theorem manyG_step {n k : Nat} {s0 s : RS} {cs : List Cm} (h : manyG (cmG 5 16) n s0 = (cs ++ (manyG (cmG 5 16) (n - k) s).1, (manyG (cmG 5 16) (n - k) s).2)) (hk : k < n) :
    manyG (cmG 5 16) n s0 = ((cs ++ [(cmG 5 16 s).1]) ++ (manyG (cmG 5 16) (n - (k + 1)) (cmG 5 16 s).2).1, (manyG (cmG 5 16) (n - (k + 1)) (cmG 5 16 s).2).2) := by
  rw [h, show n - k = (n - (k + 1)) + 1 by omega]
  simp only [manyG, List.append_assoc, List.cons_append, List.nil_append]
theorem rdr_apart {w : World} {g : Nat} {l : List St} {r : List UInt8} {b : Bool} (h : Rdr w g r b) :
    l.length ≠ 0 → ∀ off, ¬ (∀ j (_ : j < (l.flatMap stC).length), w.cell? ⟨g, off + j, none⟩ = some (l.flatMap stC)[j]) := by
  intro hn off hall
  cases l with
  | nil => exact hn rfl
  | cons x r =>
    have hl : 6 ≤ ((x :: r : List St).flatMap stC).length := by rw [List.flatMap_cons, List.length_append]; simp [stC]
    have h5 := hall 5 (by omega)
    rw [row_cell h] at h5
    have : off + 5 < 2 := (Array.getElem?_eq_some_iff.1 h5).1
    omega
set_option maxHeartbeats 3200000 in
set_option maxRecDepth 100000 in
theorem requested_any (l : List UInt8) (hl : l.length ≤ 140737488355328) (w : World) :
    Calls Try.prog 10 #[.string ⟨l.toArray⟩] w fun e w' => ∃ (id : Int) (q : Rq) (v u : Value) (er : Int), e = .returned (.tuple #[.int .i64 id, rqVal q v u, .int .i64 er]) ∧ Sl w' v 6 q.ss.length (q.ss.flatMap stC) ∧ Sl w' u 3 q.cs.length (q.cs.flatMap cmc) ∧ Below w.heap.size w w' ∧
      ((er = 0 ∧ RqP id q ∧ l = wrapL (encRq id q)) ∨ (er = erF l ∧ id = 0 ∧ q = rq0 ∧ v = .slice none 0 0 ∧ u = .slice none 0 0 ∧ ∀ i y, RqP i y → l ≠ wrapL (encRq i y))) := by
  go_enter Try.func10, Try.ntmps10
  go_wp2_with fail
  obtain ⟨w0, hw0⟩ : ∃ w0, w0 = w.alloc (.cells #[.int .i64 0, .string ⟨#[]⟩, .string ⟨#[]⟩, .string ⟨#[]⟩, .slice none 0 0, .int .i64 0, .slice none 0 0, .int .i64 0, .int .i64 0, .int .i64 0, .int .i64 0, .bool false] 27) := ⟨_, rfl⟩
  rw [← hw0]
  have hQ0 : w0.heap[w.heap.size]? = some (.cells #[.int .i64 0, .string ⟨#[]⟩, .string ⟨#[]⟩, .string ⟨#[]⟩, .slice none 0 0, .int .i64 0, .slice none 0 0, .int .i64 0, .int .i64 0, .int .i64 0, .int .i64 0, .bool false] 27 (0, 0)) := by rw [hw0]; exact heap_alloc_new w _
  have b0 : Below w.heap.size w w0 := by rw [hw0]; exact (Below.refl _ _).alloc (Nat.le_refl _) _
  have l0 : w.heap.size < w0.heap.size := (Array.getElem?_eq_some_iff.1 hQ0).1
  clear hw0
  refine (opened_any l hl w0).mono ?_
  rintro _ w1 ⟨p, er0, rfl, b1, hres⟩
  have hQ1 := (b1.block _ l0).trans hQ0
  have hb1 := bnext b0 b1
  obtain ⟨gr, hgr⟩ : ∃ gr, gr = w.heap.size := ⟨_, rfl⟩
  have n2 : w.heap.size ≤ gr := by omega
  rw [← hgr] at hQ1 l0 ⊢
  clear hQ0 b0 b1
  rcases hres with ⟨rfl, rfl, hno⟩ | ⟨g, r0, e0, rfl, rfl, hg, hr1, hnx, hx0⟩
  · have HNO := hid (show ∀ i y, RqP i y → l ≠ wrapL (encRq i y) from fun i y hP => noMsg hno _ (by have := encRq_len hP; unfold encRq at this; omega))
    have hne := erF_ne l
    clear hgr hno
    obtain ⟨E, hE⟩ : ∃ E, E = erF l := ⟨_, rfl⟩
    rw [← hE] at hne ⊢
    have HE := hid hE
    clear hE
    have q0 : w1.cell? ⟨gr, 0, none⟩ = some (.int .i64 0) := by rw [cell_of_row w1 _ 0 _ _ (0, 0) hQ1]; rfl
    have qz0 : w1.frozen? ⟨gr, 0, none⟩ = false := frozen_of_row w1 _ 0 _ _ hQ1
    have q1 : w1.cell? ⟨gr, 1, none⟩ = some (.string ⟨#[]⟩) := by rw [cell_of_row w1 _ 1 _ _ (0, 0) hQ1]; rfl
    have qz1 : w1.frozen? ⟨gr, 1, none⟩ = false := frozen_of_row w1 _ 1 _ _ hQ1
    have q2 : w1.cell? ⟨gr, 2, none⟩ = some (.string ⟨#[]⟩) := by rw [cell_of_row w1 _ 2 _ _ (0, 0) hQ1]; rfl
    have qz2 : w1.frozen? ⟨gr, 2, none⟩ = false := frozen_of_row w1 _ 2 _ _ hQ1
    have q3 : w1.cell? ⟨gr, 3, none⟩ = some (.string ⟨#[]⟩) := by rw [cell_of_row w1 _ 3 _ _ (0, 0) hQ1]; rfl
    have qz3 : w1.frozen? ⟨gr, 3, none⟩ = false := frozen_of_row w1 _ 3 _ _ hQ1
    have q4 : w1.cell? ⟨gr, 4, none⟩ = some (.slice none 0 0) := by rw [cell_of_row w1 _ 4 _ _ (0, 0) hQ1]; rfl
    have qz4 : w1.frozen? ⟨gr, 4, none⟩ = false := frozen_of_row w1 _ 4 _ _ hQ1
    have q5 : w1.cell? ⟨gr, 5, none⟩ = some (.int .i64 0) := by rw [cell_of_row w1 _ 5 _ _ (0, 0) hQ1]; rfl
    have qz5 : w1.frozen? ⟨gr, 5, none⟩ = false := frozen_of_row w1 _ 5 _ _ hQ1
    have q6 : w1.cell? ⟨gr, 6, none⟩ = some (.slice none 0 0) := by rw [cell_of_row w1 _ 6 _ _ (0, 0) hQ1]; rfl
    have qz6 : w1.frozen? ⟨gr, 6, none⟩ = false := frozen_of_row w1 _ 6 _ _ hQ1
    have q7 : w1.cell? ⟨gr, 7, none⟩ = some (.int .i64 0) := by rw [cell_of_row w1 _ 7 _ _ (0, 0) hQ1]; rfl
    have qz7 : w1.frozen? ⟨gr, 7, none⟩ = false := frozen_of_row w1 _ 7 _ _ hQ1
    have q8 : w1.cell? ⟨gr, 8, none⟩ = some (.int .i64 0) := by rw [cell_of_row w1 _ 8 _ _ (0, 0) hQ1]; rfl
    have qz8 : w1.frozen? ⟨gr, 8, none⟩ = false := frozen_of_row w1 _ 8 _ _ hQ1
    have q9 : w1.cell? ⟨gr, 9, none⟩ = some (.int .i64 0) := by rw [cell_of_row w1 _ 9 _ _ (0, 0) hQ1]; rfl
    have qz9 : w1.frozen? ⟨gr, 9, none⟩ = false := frozen_of_row w1 _ 9 _ _ hQ1
    have q10 : w1.cell? ⟨gr, 10, none⟩ = some (.int .i64 0) := by rw [cell_of_row w1 _ 10 _ _ (0, 0) hQ1]; rfl
    have qz10 : w1.frozen? ⟨gr, 10, none⟩ = false := frozen_of_row w1 _ 10 _ _ hQ1
    have q11 : w1.cell? ⟨gr, 11, none⟩ = some (.bool false) := by rw [cell_of_row w1 _ 11 _ _ (0, 0) hQ1]; rfl
    have qz11 : w1.frozen? ⟨gr, 11, none⟩ = false := frozen_of_row w1 _ 11 _ _ hQ1
    go_wp2_with fail
    refine bodyPost_ret (v := .tuple #[.int .i64 0, .agg #[.int .i64 0, .string ⟨#[]⟩, .string ⟨#[]⟩, .string ⟨#[]⟩, .slice none 0 0, .int .i64 0, .slice none 0 0, .int .i64 0, .int .i64 0, .int .i64 0, .int .i64 0, .bool false], .int .i64 E]) ?_ rfl ⟨0, rq0, .slice none 0 0, .slice none 0 0, E, rfl, Sl.none _ _, Sl.none _ _, At.below hb1 ((((((((((((((At.refl gr w1).set 0 _).set 1 _).set 2 _).set 3 _).set 4 _).set 5 _).set 6 _).set 7 _).set 8 _).set 9 _).set 10 _).set 11 _) : At gr w1 ((((((((((((w1.setCell ⟨gr, 0, none⟩ (.int .i64 0)).setCell ⟨gr, 1, none⟩ (.string ⟨#[]⟩)).setCell ⟨gr, 2, none⟩ (.string ⟨#[]⟩)).setCell ⟨gr, 3, none⟩ (.string ⟨#[]⟩)).setCell ⟨gr, 4, none⟩ (.slice none 0 0)).setCell ⟨gr, 5, none⟩ (.int .i64 0)).setCell ⟨gr, 6, none⟩ (.slice none 0 0)).setCell ⟨gr, 7, none⟩ (.int .i64 0)).setCell ⟨gr, 8, none⟩ (.int .i64 0)).setCell ⟨gr, 9, none⟩ (.int .i64 0)).setCell ⟨gr, 10, none⟩ (.int .i64 0)).setCell ⟨gr, 11, none⟩ (.bool false))) n2, .inr ⟨HE.out, rfl, rfl, rfl, rfl, HNO.out⟩⟩
    rw [results_tct rfl]
    go_simp
  have n1 : gr ≠ g := by omega
  have n3 : w.heap.size ≤ g := by omega
  have hl1 : r0.length ≤ l.length := by
    have h1 := intF_len (nextF l).1 false 1
    have h2 := next_len l
    rw [hx0] at h1
    simp only at h1
    omega
  have herF : erF l = 60 := by unfold erF; rw [hnx]; rfl
  have HNX := hid hnx
  have HX0 := hid hx0
  have HERF := hid herF
  clear hnx hx0 herF hgr l0 hg
  go_wp2_with fail
  refine (int_any g r0 e0 2147483647 w1 hr1 (by unfold maxLen; omega) (by omega) (by omega)).mono ?_
  rintro _ w2 ⟨rfl, hr2, aw⟩
  have hQ2 := (aw.block gr (Array.getElem?_eq_some_iff.1 hQ1).1 (by simpa using n1)).trans hQ1
  have hb2 := At.below hb1 aw n3
  have hl2 := intF_len r0 e0 2147483647
  obtain ⟨⟨n1', r1, e1⟩, hxn1'⟩ : ∃ x, intF r0 e0 2147483647 = x := ⟨_, rfl⟩
  rw [hxn1'] at hr2 hl2 ⊢
  simp only at hr2 hl2 ⊢
  have HXn1' := hid hxn1'
  clear hxn1' hr1 hQ1 hb1 aw
  go_wp2_with fail
  refine (int_any g r1 e1 11 w2 hr2 (by unfold maxLen; omega) (by omega) (by omega)).mono ?_
  rintro _ w3 ⟨rfl, hr3, aw⟩
  have hQ3 := (aw.block gr (Array.getElem?_eq_some_iff.1 hQ2).1 (by simpa using n1)).trans hQ2
  have hb3 := At.below hb2 aw n3
  have hl3 := intF_len r1 e1 11
  obtain ⟨⟨n2', r2, e2⟩, hxn2'⟩ : ∃ x, intF r1 e1 11 = x := ⟨_, rfl⟩
  rw [hxn2'] at hr3 hl3 ⊢
  simp only at hr3 hl3 ⊢
  have HXn2' := hid hxn2'
  clear hxn2' hr2 hQ2 hb2 aw
  go_wp2_with fail
  refine (text_any_r g r2 e2 w3 hr3 (by unfold maxLen; omega)).mono ?_
  rintro _ w4 ⟨rfl, hr4, aw⟩
  have hQ4 := (aw.block gr (Array.getElem?_eq_some_iff.1 hQ3).1 (by simpa using n1)).trans hQ3
  have hb4 := At.below hb3 aw n3
  have hl4 := textF_len r2 e2
  have hf4 := textF_fst r2 e2
  obtain ⟨⟨t3, r3, e3⟩, hxt3⟩ : ∃ x, textF r2 e2 = x := ⟨_, rfl⟩
  rw [hxt3] at hr4 hl4 hf4 ⊢
  simp only at hr4 hl4 hf4 ⊢
  have HXt3 := hid hxt3
  clear hxt3 hr3 hQ3 hb3 aw
  go_wp2_with fail
  refine (text_any_r g r3 e3 w4 hr4 (by unfold maxLen; omega)).mono ?_
  rintro _ w5 ⟨rfl, hr5, aw⟩
  have hQ5 := (aw.block gr (Array.getElem?_eq_some_iff.1 hQ4).1 (by simpa using n1)).trans hQ4
  have hb5 := At.below hb4 aw n3
  have hl5 := textF_len r3 e3
  have hf5 := textF_fst r3 e3
  obtain ⟨⟨t4, r4, e4⟩, hxt4⟩ : ∃ x, textF r3 e3 = x := ⟨_, rfl⟩
  rw [hxt4] at hr5 hl5 hf5 ⊢
  simp only at hr5 hl5 hf5 ⊢
  have HXt4 := hid hxt4
  clear hxt4 hr4 hQ4 hb4 aw
  go_wp2_with fail
  refine (text_any_r g r4 e4 w5 hr5 (by unfold maxLen; omega)).mono ?_
  rintro _ w6 ⟨rfl, hr6, aw⟩
  have hQ6 := (aw.block gr (Array.getElem?_eq_some_iff.1 hQ5).1 (by simpa using n1)).trans hQ5
  have hb6 := At.below hb5 aw n3
  have hl6 := textF_len r4 e4
  have hf6 := textF_fst r4 e4
  obtain ⟨⟨t5, r5, e5⟩, hxt5⟩ : ∃ x, textF r4 e4 = x := ⟨_, rfl⟩
  rw [hxt5] at hr6 hl6 hf6 ⊢
  simp only at hr6 hl6 hf6 ⊢
  have HXt5 := hid hxt5
  clear hxt5 hr5 hQ5 hb5 aw
  go_wp2_with fail
  obtain ⟨w7, hw7⟩ : ∃ x, x = w6.alloc (.cells #[.int .i64 (n2' : Int), .string ⟨t3.toArray⟩, .string ⟨t4.toArray⟩, .string ⟨t5.toArray⟩, .slice none 0 0, .int .i64 0, .slice none 0 0, .int .i64 0, .int .i64 0, .int .i64 0, .int .i64 0, .bool false] 27) := ⟨_, rfl⟩
  have hX7 : w7.heap[w6.heap.size]? = some (.cells #[.int .i64 (n2' : Int), .string ⟨t3.toArray⟩, .string ⟨t4.toArray⟩, .string ⟨t5.toArray⟩, .slice none 0 0, .int .i64 0, .slice none 0 0, .int .i64 0, .int .i64 0, .int .i64 0, .int .i64 0, .bool false] 27 (0, 0)) := by rw [hw7]; exact heap_alloc_new w6 _
  have bx : Below w6.heap.size w6 w7 := by rw [hw7]; exact (Below.refl _ _).alloc (Nat.le_refl _) _
  rw [← hw7]
  obtain ⟨gx, hgx⟩ : ∃ gx, gx = w6.heap.size := ⟨_, rfl⟩
  have nx : gx ≠ g := by have := hr6.lt; omega
  have nq : gr ≠ gx := by have := (Array.getElem?_eq_some_iff.1 hQ6).1; omega
  have n4 : w.heap.size ≤ gx := by have := hb6.size; omega
  rw [← hgx] at hX7 ⊢
  clear hw7 hgx
  have hr7 := hr6.keep bx
  have hQ7 := (bx.block _ (Array.getElem?_eq_some_iff.1 hQ6).1).trans hQ6
  have hb7 := bnext hb6 bx
  clear hr6 hQ6 hb6
  refine (text_any_r g r5 e5 w7 hr7 (by unfold maxLen; omega)).mono ?_
  rintro _ w8 ⟨rfl, hr8, aw⟩
  have hQ8 := (aw.block gr (Array.getElem?_eq_some_iff.1 hQ7).1 (by simpa using n1)).trans hQ7
  have hX8 := (aw.block gx (Array.getElem?_eq_some_iff.1 hX7).1 (by simpa using nx)).trans hX7
  have hb8 := At.below hb7 aw n3
  have hl8 := textF_len r5 e5
  have hf8 := textF_fst r5 e5
  obtain ⟨⟨t6, r6, e6⟩, hxt6⟩ : ∃ x, textF r5 e5 = x := ⟨_, rfl⟩
  rw [hxt6] at hr8 hl8 hf8 ⊢
  simp only at hr8 hl8 hf8 ⊢
  have HXt6 := hid hxt6
  clear hxt6 hr7 hQ7 hb7 aw hX7
  go_wp2_with fail
  refine (decode_any t6 (by omega) w8).mono ?_
  rintro _ w9 ⟨v, lim, ss, er, rfl, hsl, bd, hres⟩
  obtain ⟨av, cv, rfl⟩ : ∃ a c, v = .slice a ss.length c := by
    obtain ⟨_, _, a, c, h, _⟩ := hsl
    exact ⟨a, c, h⟩
  have hr9 := hr8.keep bd
  have hQ9 := (bd.block _ (Array.getElem?_eq_some_iff.1 hQ8).1).trans hQ8
  have hb9 := bnext hb8 bd
  have hX9 := (bd.block _ (Array.getElem?_eq_some_iff.1 hX8).1).trans hX8
  clear hr8 hQ8 hb8 hX8
  obtain ⟨w10, hw10⟩ : ∃ x, x = w9.alloc (.cells #[.slice av ss.length cv, .int .i64 lim] 24) := ⟨_, rfl⟩
  have bp : Below w9.heap.size w9 w10 := by rw [hw10]; exact (Below.refl _ _).alloc (Nat.le_refl _) _
  have hgp : w10.cell? ⟨w9.heap.size, 0, none⟩ = some (.slice av ss.length cv) ∧ w10.cell? ⟨w9.heap.size, 1, none⟩ = some (.int .i64 lim) := by
    rw [hw10]
    exact ⟨(World.cell?_alloc_at _ _ _ _ rfl).trans rfl, (World.cell?_alloc_at _ _ _ _ rfl).trans rfl⟩
  obtain ⟨hp0, hp1⟩ := hgp
  have hsl := hsl.below bp
  have HW := hid hw10
  clear hw10
  have hr10 := hr9.keep bp
  have hQ10 := (bp.block _ (Array.getElem?_eq_some_iff.1 hQ9).1).trans hQ9
  have hb10 := bnext hb9 bp
  have hX10 := (bp.block _ (Array.getElem?_eq_some_iff.1 hX9).1).trans hX9
  clear hr9 hQ9 hb9 hX9
  rw [HW.out] at hp0 hp1
  have x4 : (w10).cell? ⟨gx, 4, none⟩ = some (.slice none 0 0) := by rw [cell_of_row w10 _ 4 _ _ (0, 0) hX10]; rfl
  have xz4 : (w10).frozen? ⟨gx, 4, none⟩ = false := frozen_of_row w10 _ 4 _ _ hX10
  have x5 : (w10).cell? ⟨gx, 5, none⟩ = some (.int .i64 0) := by rw [cell_of_row w10 _ 5 _ _ (0, 0) hX10]; rfl
  have xz5 : (w10).frozen? ⟨gx, 5, none⟩ = false := frozen_of_row w10 _ 5 _ _ hX10
  rw [HW.out] at x4
  rw [HW.out] at xz4
  rw [HW.out] at x5
  rw [HW.out] at xz5
  go_upto_region 8 with (fail)
  rw [← HW.out]
  clear hp0 hp1 x4 xz4 x5 xz5
  obtain ⟨w11, hw11⟩ : ∃ x, x = ((w10.setCell ⟨gx, 4, none⟩ (.slice av ss.length cv)).setCell ⟨gx, 5, none⟩ (.int .i64 lim)) := ⟨_, rfl⟩
  have aw : At gx w10 w11 := by rw [hw11]; exact (((At.refl gx w10).set 4 _).set 5 _)
  have hy0 := heap_setCell_same w10 gx 4 _ _ (.slice av ss.length cv) hX10
  have hy1 := heap_setCell_same _ gx 5 _ _ (.int .i64 lim) hy0
  have hX11 : w11.heap[gx]? = some (.cells #[.int .i64 (n2' : Int), .string ⟨t3.toArray⟩, .string ⟨t4.toArray⟩, .string ⟨t5.toArray⟩, .slice av ss.length cv, .int .i64 lim, .slice none 0 0, .int .i64 0, .int .i64 0, .int .i64 0, .int .i64 0, .bool false] 27 (0, 0)) := by rw [hw11]; exact hy1
  have hsl := hsl.at aw (steps_apart hX10)
  rw [← hw11]
  have hr11 := hr10.grown aw (Ne.symm nx)
  have hQ11 := (aw.block gr (Array.getElem?_eq_some_iff.1 hQ10).1 (by simpa using nq)).trans hQ10
  have hb11 := At.below hb10 aw n4
  clear hw11 aw hr10 hQ10 hb10 hX10 hy0 hy1
  go_wp2_with fail
  refine (int_any g r6 e6 501 w11 hr11 (by unfold maxLen; omega) (by omega) (by omega)).mono ?_
  rintro _ w12 ⟨rfl, hr12, aw⟩
  have hQ12 := (aw.block gr (Array.getElem?_eq_some_iff.1 hQ11).1 (by simpa using n1)).trans hQ11
  have hX12 := (aw.block gx (Array.getElem?_eq_some_iff.1 hX11).1 (by simpa using nx)).trans hX11
  have hsl := hsl.at aw (rdr_apart hr11)
  have hb12 := At.below hb11 aw n3
  have hl12 := intF_len r6 e6 501
  obtain ⟨⟨n7', r7, e7⟩, hxn7'⟩ : ∃ x, intF r6 e6 501 = x := ⟨_, rfl⟩
  rw [hxn7'] at hr12 hl12 ⊢
  simp only at hr12 hl12 ⊢
  have HXn7' := hid hxn7'
  clear hxn7' hr11 hQ11 hb11 aw hX11
  go_wp2_with fail
  refine (int_any g r7 e7 501 w12 hr12 (by unfold maxLen; omega) (by omega) (by omega)).mono ?_
  rintro _ w13 ⟨rfl, hr13, aw⟩
  have hQ13 := (aw.block gr (Array.getElem?_eq_some_iff.1 hQ12).1 (by simpa using n1)).trans hQ12
  have hX13 := (aw.block gx (Array.getElem?_eq_some_iff.1 hX12).1 (by simpa using nx)).trans hX12
  have hsl := hsl.at aw (rdr_apart hr12)
  have hb13 := At.below hb12 aw n3
  have hl13 := intF_len r7 e7 501
  obtain ⟨⟨n8', r8, e8⟩, hxn8'⟩ : ∃ x, intF r7 e7 501 = x := ⟨_, rfl⟩
  rw [hxn8'] at hr13 hl13 ⊢
  simp only at hr13 hl13 ⊢
  have HXn8' := hid hxn8'
  clear hxn8' hr12 hQ12 hb12 aw hX12
  go_wp2_with fail
  refine (int_any g r8 e8 501 w13 hr13 (by unfold maxLen; omega) (by omega) (by omega)).mono ?_
  rintro _ w14 ⟨rfl, hr14, aw⟩
  have hQ14 := (aw.block gr (Array.getElem?_eq_some_iff.1 hQ13).1 (by simpa using n1)).trans hQ13
  have hX14 := (aw.block gx (Array.getElem?_eq_some_iff.1 hX13).1 (by simpa using nx)).trans hX13
  have hsl := hsl.at aw (rdr_apart hr13)
  have hb14 := At.below hb13 aw n3
  have hl14 := intF_len r8 e8 501
  obtain ⟨⟨n9', r9, e9⟩, hxn9'⟩ : ∃ x, intF r8 e8 501 = x := ⟨_, rfl⟩
  rw [hxn9'] at hr14 hl14 ⊢
  simp only at hr14 hl14 ⊢
  have HXn9' := hid hxn9'
  clear hxn9' hr13 hQ13 hb13 aw hX13
  go_wp2_with fail
  refine (int_any g r9 e9 16 w14 hr14 (by unfold maxLen; omega) (by omega) (by omega)).mono ?_
  rintro _ w15 ⟨rfl, hr15, aw⟩
  have hQ15 := (aw.block gr (Array.getElem?_eq_some_iff.1 hQ14).1 (by simpa using n1)).trans hQ14
  have hX15 := (aw.block gx (Array.getElem?_eq_some_iff.1 hX14).1 (by simpa using nx)).trans hX14
  have hsl := hsl.at aw (rdr_apart hr14)
  have hb15 := At.below hb14 aw n3
  have hl15 := intF_len r9 e9 16
  obtain ⟨⟨n10', r10, e10⟩, hxn10'⟩ : ∃ x, intF r9 e9 16 = x := ⟨_, rfl⟩
  rw [hxn10'] at hr15 hl15 ⊢
  simp only at hr15 hl15 ⊢
  have HXn10' := hid hxn10'
  clear hxn10' hr14 hQ14 hb14 aw hX14
  have x7 : w15.cell? ⟨gx, 7, none⟩ = some (.int .i64 0) := by rw [cell_of_row w15 _ 7 _ _ (0, 0) hX15]; rfl
  have xz7 : w15.frozen? ⟨gx, 7, none⟩ = false := frozen_of_row w15 _ 7 _ _ hX15
  have x8 : w15.cell? ⟨gx, 8, none⟩ = some (.int .i64 0) := by rw [cell_of_row w15 _ 8 _ _ (0, 0) hX15]; rfl
  have xz8 : w15.frozen? ⟨gx, 8, none⟩ = false := frozen_of_row w15 _ 8 _ _ hX15
  have x9 : w15.cell? ⟨gx, 9, none⟩ = some (.int .i64 0) := by rw [cell_of_row w15 _ 9 _ _ (0, 0) hX15]; rfl
  have xz9 : w15.frozen? ⟨gx, 9, none⟩ = false := frozen_of_row w15 _ 9 _ _ hX15
  have x10 : w15.cell? ⟨gx, 10, none⟩ = some (.int .i64 0) := by rw [cell_of_row w15 _ 10 _ _ (0, 0) hX15]; rfl
  have xz10 : w15.frozen? ⟨gx, 10, none⟩ = false := frozen_of_row w15 _ 10 _ _ hX15
  go_wp2_with fail
  clear x7 xz7 x8 xz8 x9 xz9 x10 xz10
  obtain ⟨w16, hw16⟩ : ∃ x, x = ((((w15.setCell ⟨gx, 7, none⟩ (.int .i64 (n7' : Int))).setCell ⟨gx, 8, none⟩ (.int .i64 (n8' : Int))).setCell ⟨gx, 9, none⟩ (.int .i64 (n9' : Int))).setCell ⟨gx, 10, none⟩ (.int .i64 (n10' : Int))) := ⟨_, rfl⟩
  have aw : At gx w15 w16 := by rw [hw16]; exact (((((At.refl gx w15).set 7 _).set 8 _).set 9 _).set 10 _)
  have hy0 := heap_setCell_same w15 gx 7 _ _ (.int .i64 (n7' : Int)) hX15
  have hy1 := heap_setCell_same _ gx 8 _ _ (.int .i64 (n8' : Int)) hy0
  have hy2 := heap_setCell_same _ gx 9 _ _ (.int .i64 (n9' : Int)) hy1
  have hy3 := heap_setCell_same _ gx 10 _ _ (.int .i64 (n10' : Int)) hy2
  have hX16 : w16.heap[gx]? = some (.cells #[.int .i64 (n2' : Int), .string ⟨t3.toArray⟩, .string ⟨t4.toArray⟩, .string ⟨t5.toArray⟩, .slice av ss.length cv, .int .i64 lim, .slice none 0 0, .int .i64 (n7' : Int), .int .i64 (n8' : Int), .int .i64 (n9' : Int), .int .i64 (n10' : Int), .bool false] 27 (0, 0)) := by rw [hw16]; exact hy3
  have hsl := hsl.at aw (steps_apart hX15)
  rw [← hw16]
  have hr16 := hr15.grown aw (Ne.symm nx)
  have hQ16 := (aw.block gr (Array.getElem?_eq_some_iff.1 hQ15).1 (by simpa using nq)).trans hQ15
  have hb16 := At.below hb15 aw n4
  clear hw16 aw hr15 hQ15 hb15 hX15 hy0 hy1 hy2 hy3
  refine (int_any g r10 e10 1 w16 hr16 (by unfold maxLen; omega) (by omega) (by omega)).mono ?_
  rintro _ w17 ⟨rfl, hr17, aw⟩
  have hQ17 := (aw.block gr (Array.getElem?_eq_some_iff.1 hQ16).1 (by simpa using n1)).trans hQ16
  have hX17 := (aw.block gx (Array.getElem?_eq_some_iff.1 hX16).1 (by simpa using nx)).trans hX16
  have hsl := hsl.at aw (rdr_apart hr16)
  have hb17 := At.below hb16 aw n3
  have hl17 := intF_len r10 e10 1
  obtain ⟨⟨n11', r11, e11⟩, hxn11'⟩ : ∃ x, intF r10 e10 1 = x := ⟨_, rfl⟩
  rw [hxn11'] at hr17 hl17 ⊢
  simp only at hr17 hl17 ⊢
  have HXn11' := hid hxn11'
  clear hxn11' hr16 hQ16 hb16 aw hX16
  have x11 : w17.cell? ⟨gx, 11, none⟩ = some (.bool false) := by rw [cell_of_row w17 _ 11 _ _ (0, 0) hX17]; rfl
  have xz11 : w17.frozen? ⟨gx, 11, none⟩ = false := frozen_of_row w17 _ 11 _ _ hX17
  go_wp2_with fail
  clear x11 xz11
  obtain ⟨w18, hw18⟩ : ∃ x, x = (w17.setCell ⟨gx, 11, none⟩ (.bool ((n11' : Int) == 1))) := ⟨_, rfl⟩
  have aw : At gx w17 w18 := by rw [hw18]; exact ((At.refl gx w17).set 11 _)
  have hy0 := heap_setCell_same w17 gx 11 _ _ (.bool ((n11' : Int) == 1)) hX17
  have hX18 : w18.heap[gx]? = some (.cells #[.int .i64 (n2' : Int), .string ⟨t3.toArray⟩, .string ⟨t4.toArray⟩, .string ⟨t5.toArray⟩, .slice av ss.length cv, .int .i64 lim, .slice none 0 0, .int .i64 (n7' : Int), .int .i64 (n8' : Int), .int .i64 (n9' : Int), .int .i64 (n10' : Int), .bool ((n11' : Int) == 1)] 27 (0, 0)) := by rw [hw18]; exact hy0
  have hsl := hsl.at aw (steps_apart hX17)
  rw [← hw18]
  have hr18 := hr17.grown aw (Ne.symm nx)
  have hQ18 := (aw.block gr (Array.getElem?_eq_some_iff.1 hQ17).1 (by simpa using nq)).trans hQ17
  have hb18 := At.below hb17 aw n4
  clear hw18 aw hr17 hQ17 hb17 hX17 hy0
  refine (int_any g r11 e11 4 w18 hr18 (by unfold maxLen; omega) (by omega) (by omega)).mono ?_
  rintro _ w19 ⟨rfl, hr19, aw⟩
  have hQ19 := (aw.block gr (Array.getElem?_eq_some_iff.1 hQ18).1 (by simpa using n1)).trans hQ18
  have hX19 := (aw.block gx (Array.getElem?_eq_some_iff.1 hX18).1 (by simpa using nx)).trans hX18
  have hsl := hsl.at aw (rdr_apart hr18)
  have hb19 := At.below hb18 aw n3
  have hl19 := intF_len r11 e11 4
  obtain ⟨⟨n12', r12, e12⟩, hxn12'⟩ : ∃ x, intF r11 e11 4 = x := ⟨_, rfl⟩
  rw [hxn12'] at hr19 hl19 ⊢
  simp only at hr19 hl19 ⊢
  have HXn12' := hid hxn12'
  clear hxn12' hr18 hQ18 hb18 aw hX18
  go_wp2_with fail
  have hN4 : (n12' : Int) ≤ 4 := by
    have := intF_le (r := r11) (b := e11) (m := 4) (by decide)
    rw [HXn12'.out] at this
    exact this
  obtain ⟨wL, hwL⟩ : ∃ x, x = w19 := ⟨_, rfl⟩
  have st0 : RqSt w wL w19 g gr gx #[.int .i64 0, .string ⟨#[]⟩, .string ⟨#[]⟩, .string ⟨#[]⟩, .slice none 0 0, .int .i64 0, .slice none 0 0, .int .i64 0, .int .i64 0, .int .i64 0, .int .i64 0, .bool false] #[.int .i64 (n2' : Int), .string ⟨t3.toArray⟩, .string ⟨t4.toArray⟩, .string ⟨t5.toArray⟩, .slice av ss.length cv, .int .i64 lim, .slice none 0 0, .int .i64 (n7' : Int), .int .i64 (n8' : Int), .int .i64 (n9' : Int), .int .i64 (n10' : Int), .bool ((n11' : Int) == 1)] 27 r12 e12 := ⟨hr19, hQ19, hX19, hb19, by unfold maxLen; omega, by rw [hwL]; intro _ _ _ _; rfl, by rw [hwL]; exact Nat.le_refl _⟩
  have hgL : g < wL.heap.size ∧ gr < wL.heap.size ∧ gx < wL.heap.size ∧ w.heap.size ≤ wL.heap.size := by
    rw [hwL]
    exact ⟨hr19.lt, (Array.getElem?_eq_some_iff.1 hQ19).1, (Array.getElem?_eq_some_iff.1 hX19).1, hb19.size⟩
  have hslL : Sl wL (.slice av ss.length cv) 6 ss.length (ss.flatMap stC) := by rw [hwL]; exact hsl
  have hap1 := fun (hn : ss.length ≠ 0) => rdr_apart (l := ss) (by rw [hwL]; exact hr19 : Rdr wL g r12 e12) hn
  have hap2 := fun (hn : ss.length ≠ 0) => steps_apart (l := ss) (by rw [hwL]; exact hX19 : wL.heap[gx]? = some (.cells #[.int .i64 (n2' : Int), .string ⟨t3.toArray⟩, .string ⟨t4.toArray⟩, .string ⟨t5.toArray⟩, .slice av ss.length cv, .int .i64 lim, .slice none 0 0, .int .i64 (n7' : Int), .int .i64 (n8' : Int), .int .i64 (n9' : Int), .int .i64 (n10' : Int), .bool ((n11' : Int) == 1)] 27 (0, 0))) hn
  have HAP1 := hid hap1
  have HAP2 := hid hap2
  have hinfo : (Try.prog.info? 65).map (fun i => (i.zero, i.size, i.bytes)) = some (some (.agg #[.int .i64 0, .int .i64 0, .bool false]), 3, 24) := by kernel_rfl
  have hmx : maxLen = 9223372036854775807 := rfl
  clear hr19 hQ19 hX19 hb19 hsl hap1 hap2 hwL
  go_loopw [10] (fun n0 wr => ∃ (k : Nat) (ua : Option Addr) (uc : Nat) (cs : List Cm) (r : List UInt8) (b : Bool), k ≤ n12' ∧ n0 = .int .i64 ((n12' - k : Nat) : Int) ∧ RqSt w wL wr g gr gx #[.int .i64 0, .string ⟨#[]⟩, .string ⟨#[]⟩, .string ⟨#[]⟩, .slice none 0 0, .int .i64 0, .slice none 0 0, .int .i64 0, .int .i64 0, .int .i64 0, .int .i64 0, .bool false] #[.int .i64 (n2' : Int), .string ⟨t3.toArray⟩, .string ⟨t4.toArray⟩, .string ⟨t5.toArray⟩, .slice av ss.length cv, .int .i64 lim, .slice ua k uc, .int .i64 (n7' : Int), .int .i64 (n8' : Int), .int .i64 (n9' : Int), .int .i64 (n10' : Int), .bool ((n11' : Int) == 1)] 27 r b ∧ wr.ownsRow wL.heap.size 65 3 (.slice ua k uc) k (cs.flatMap cmc) ∧ cs.length = k ∧ manyG (cmG 5 16) n12' (r12, e12) = (cs ++ (manyG (cmG 5 16) (n12' - k) (r, b)).1, (manyG (cmG 5 16) (n12' - k) (r, b)).2)) (fun n0 _ => (intOf n0).toNat)
  case atStart => exact ⟨0, none, 0, [], r12, e12, by omega, rfl, st0, World.ownsRow_nil _ _ _ _, rfl, by simp⟩
  case round =>
    clear st0
    obtain ⟨k, ua, uc, cs, r, b, hk, rfl, hst, ho, hcl, hmn⟩ := hrel
    have HMN := hid hmn
    clear hmn
    by_cases hlt : k < n12'
    · have hpos : (0 : Int) < ((n12' - k : Nat) : Int) := by omega
      have hwr : ((n12' - k : Nat) : Int) - 1 = ((n12' - (k + 1) : Nat) : Int) := by omega
      have hstd := hst.below (below_drewN _ wr 1)
      have hod := own_new ho (below_drewN _ wr 1)
      have x6 := hst.cell (j := 6) (v := .slice ua k uc) rfl
      have xz6 := hst.frozen 6
      have y6 := hstd.cell (j := 6) (v := .slice ua k uc) rfl
      have yz6 := hstd.frozen 6
      go_wp2_with fail
      go_region_law ((first
        | (refine step_append_row _ rfl _ _ 25 rfl cmc 3 (by decide) cmc_len cmc_one wL.heap.size 65 (.agg #[.int .i64 0, .int .i64 0, .bool false]) 24 Try.underlying25 hinfo rfl _ k cs rfl (own_new (by assumption) ((Below.refl _ _).alloc (Nat.le_refl _) _)) _ _ rfl (cmG 5 16 (r, b)).1 (fun j q hq => (World.cell?_alloc_at _ _ _ _ rfl).trans (by rw [← hq]; exact List.getElem?_toArray)) (by omega) (by omega) (RqSt.below (by assumption) ((Below.refl _ _).alloc (Nat.le_refl _) _)).hsz ?_; intro a' c' wa hown hgrow; have hsta := RqSt.grown (RqSt.below (by assumption) ((Below.refl _ _).alloc (Nat.le_refl _) _)) (own_new (by assumption) ((Below.refl _ _).alloc (Nat.le_refl _) _)) hgrow hgL.1 hgL.2.1 hgL.2.2.1 hgL.2.2.2; have z6 := hsta.cell (j := 6) (v := .slice ua k uc) rfl; have zz6 := hsta.frozen 6)
        | (go_simp; go_at_call 27; refine (int_any _ _ _ _ _ (RqSt.hr (by assumption)) (RqSt.len (by assumption)) (by omega) (by omega)).mono ?_; rintro _ wz ⟨rfl, hrz, az⟩; have hstz := RqSt.rd (by assumption) hrz az (intF_len _ _ _) n1 nx n3; have hoz := own_at_lt (by assumption) az hgL.1; have z6 := hstz.cell (j := 6) (v := .slice ua k uc) rfl; have zz6 := hstz.frozen 6; have v6 : ∀ R : Array Value, (wz.alloc (.cells R 65)).cell? ⟨gx, 6, none⟩ = some (.slice ua k uc) := fun R => (hstz.below ((Below.refl _ _).alloc (Nat.le_refl _) _)).cell rfl)))
      all_goals
        have hstf := hsta.store 6 (.slice a' (k + 1) c') (Ne.symm nx) nq n4
        have hof := own_at_lt hown ((At.refl gx wa).set 6 (.slice a' (k + 1) c')) hgL.2.2.1
        have hmf := manyG_step HMN.out hlt
        have hnn : k + 1 ≤ n12' := hlt
        have hcl' : (cs ++ [(cmG 5 16 (r, b)).1]).length = k + 1 := by rw [List.length_append, hcl]; rfl
        have HF := hid (And.intro hnn (And.intro hstf (And.intro hof (And.intro hcl' hmf))))
        clear hstf hof hmf hcl'
        go_wp2_with fail
        go_roundw
        case rel => first
          | exact ⟨k + 1, a', c', cs ++ [(cmG 5 16 (r, b)).1], (cmG 5 16 (r, b)).2.1, (cmG 5 16 (r, b)).2.2, hnn, by go_num, HF.out.2.1, by simpa [List.flatMap_append] using HF.out.2.2.1, HF.out.2.2.2.1, HF.out.2.2.2.2⟩
          | ((repeat apply Exists.intro); exact ⟨⟨k + 1, a', c', cs ++ [(cmG 5 16 (r, b)).1], (cmG 5 16 (r, b)).2.1, (cmG 5 16 (r, b)).2.2, hnn, by go_num, HF.out.2.1, by simpa [List.flatMap_append] using HF.out.2.2.1, HF.out.2.2.2.1, HF.out.2.2.2.2⟩, rfl⟩)
        case measure => simp [intOf]; omega
    · obtain rfl : k = n12' := by omega
      have h13 := HMN.out
      rw [Nat.sub_self] at h13
      simp only [manyG, List.append_nil] at h13
      have HX13 := hid h13
      clear h13 HMN hlt
      rcases hres with ⟨hp, rfl⟩ | ⟨hp, rfl, hv, hlim, hss⟩
      · by_cases he : endF r b = true
        case neg =>
          have HNO := hid (rq_rej HNX.out HX0.out HXn1'.out HXn2'.out HXt3.out HXt4.out HXt5.out HXt6.out HXn7'.out HXn8'.out HXn9'.out HXn10'.out HXn11'.out HXn12'.out HX13.out (fun q => he q.2.1))
          have he' : endF r b = false := by simpa using he
          clear hp
          go_wp2_with fail
          refine (end_any g r b wr hst.hr).mono ?_
          rintro _ w99 ⟨rfl, hw9⟩
          rw [hw9, he']
          clear hw9
          have hQe := (hst).hQ
          have q0 : wr.cell? ⟨gr, 0, none⟩ = some (.int .i64 0) := by rw [cell_of_row wr _ 0 _ _ (0, 0) hQe]; rfl
          have qz0 : wr.frozen? ⟨gr, 0, none⟩ = false := frozen_of_row wr _ 0 _ _ hQe
          have q1 : wr.cell? ⟨gr, 1, none⟩ = some (.string ⟨#[]⟩) := by rw [cell_of_row wr _ 1 _ _ (0, 0) hQe]; rfl
          have qz1 : wr.frozen? ⟨gr, 1, none⟩ = false := frozen_of_row wr _ 1 _ _ hQe
          have q2 : wr.cell? ⟨gr, 2, none⟩ = some (.string ⟨#[]⟩) := by rw [cell_of_row wr _ 2 _ _ (0, 0) hQe]; rfl
          have qz2 : wr.frozen? ⟨gr, 2, none⟩ = false := frozen_of_row wr _ 2 _ _ hQe
          have q3 : wr.cell? ⟨gr, 3, none⟩ = some (.string ⟨#[]⟩) := by rw [cell_of_row wr _ 3 _ _ (0, 0) hQe]; rfl
          have qz3 : wr.frozen? ⟨gr, 3, none⟩ = false := frozen_of_row wr _ 3 _ _ hQe
          have q4 : wr.cell? ⟨gr, 4, none⟩ = some (.slice none 0 0) := by rw [cell_of_row wr _ 4 _ _ (0, 0) hQe]; rfl
          have qz4 : wr.frozen? ⟨gr, 4, none⟩ = false := frozen_of_row wr _ 4 _ _ hQe
          have q5 : wr.cell? ⟨gr, 5, none⟩ = some (.int .i64 0) := by rw [cell_of_row wr _ 5 _ _ (0, 0) hQe]; rfl
          have qz5 : wr.frozen? ⟨gr, 5, none⟩ = false := frozen_of_row wr _ 5 _ _ hQe
          have q6 : wr.cell? ⟨gr, 6, none⟩ = some (.slice none 0 0) := by rw [cell_of_row wr _ 6 _ _ (0, 0) hQe]; rfl
          have qz6 : wr.frozen? ⟨gr, 6, none⟩ = false := frozen_of_row wr _ 6 _ _ hQe
          have q7 : wr.cell? ⟨gr, 7, none⟩ = some (.int .i64 0) := by rw [cell_of_row wr _ 7 _ _ (0, 0) hQe]; rfl
          have qz7 : wr.frozen? ⟨gr, 7, none⟩ = false := frozen_of_row wr _ 7 _ _ hQe
          have q8 : wr.cell? ⟨gr, 8, none⟩ = some (.int .i64 0) := by rw [cell_of_row wr _ 8 _ _ (0, 0) hQe]; rfl
          have qz8 : wr.frozen? ⟨gr, 8, none⟩ = false := frozen_of_row wr _ 8 _ _ hQe
          have q9 : wr.cell? ⟨gr, 9, none⟩ = some (.int .i64 0) := by rw [cell_of_row wr _ 9 _ _ (0, 0) hQe]; rfl
          have qz9 : wr.frozen? ⟨gr, 9, none⟩ = false := frozen_of_row wr _ 9 _ _ hQe
          have q10 : wr.cell? ⟨gr, 10, none⟩ = some (.int .i64 0) := by rw [cell_of_row wr _ 10 _ _ (0, 0) hQe]; rfl
          have qz10 : wr.frozen? ⟨gr, 10, none⟩ = false := frozen_of_row wr _ 10 _ _ hQe
          have q11 : wr.cell? ⟨gr, 11, none⟩ = some (.bool false) := by rw [cell_of_row wr _ 11 _ _ (0, 0) hQe]; rfl
          have qz11 : wr.frozen? ⟨gr, 11, none⟩ = false := frozen_of_row wr _ 11 _ _ hQe
          have hbe := (hst).hb
          go_wp2_with fail
          refine bodyPost_ret (v := .tuple #[.int .i64 0, .agg #[.int .i64 0, .string ⟨#[]⟩, .string ⟨#[]⟩, .string ⟨#[]⟩, .slice none 0 0, .int .i64 0, .slice none 0 0, .int .i64 0, .int .i64 0, .int .i64 0, .int .i64 0, .bool false], .int .i64 60]) ?_ rfl ⟨0, rq0, .slice none 0 0, .slice none 0 0, 60, rfl, Sl.none _ _, Sl.none _ _, At.below hbe ((((((((((((((At.refl gr wr).set 0 _).set 1 _).set 2 _).set 3 _).set 4 _).set 5 _).set 6 _).set 7 _).set 8 _).set 9 _).set 10 _).set 11 _) : At gr wr ((((((((((((wr.setCell ⟨gr, 0, none⟩ (.int .i64 0)).setCell ⟨gr, 1, none⟩ (.string ⟨#[]⟩)).setCell ⟨gr, 2, none⟩ (.string ⟨#[]⟩)).setCell ⟨gr, 3, none⟩ (.string ⟨#[]⟩)).setCell ⟨gr, 4, none⟩ (.slice none 0 0)).setCell ⟨gr, 5, none⟩ (.int .i64 0)).setCell ⟨gr, 6, none⟩ (.slice none 0 0)).setCell ⟨gr, 7, none⟩ (.int .i64 0)).setCell ⟨gr, 8, none⟩ (.int .i64 0)).setCell ⟨gr, 9, none⟩ (.int .i64 0)).setCell ⟨gr, 10, none⟩ (.int .i64 0)).setCell ⟨gr, 11, none⟩ (.bool false))) n2, .inr ⟨HERF.out.symm, rfl, rfl, rfl, rfl, HNO.out⟩⟩
          rw [results_tct rfl]
          go_simp
        go_wp2_with fail
        refine (end_any g r b wr hst.hr).mono ?_
        rintro _ w99 ⟨rfl, hw9⟩
        rw [hw9, he]
        clear hw9 w99
        have x0 : wr.cell? ⟨gx, 0, none⟩ = some (.int .i64 (n2' : Int)) := (hst).cell rfl
        have xz0 := (hst).frozen 0
        have x1 : wr.cell? ⟨gx, 1, none⟩ = some (.string ⟨t3.toArray⟩) := (hst).cell rfl
        have xz1 := (hst).frozen 1
        have x2 : wr.cell? ⟨gx, 2, none⟩ = some (.string ⟨t4.toArray⟩) := (hst).cell rfl
        have xz2 := (hst).frozen 2
        have x3 : wr.cell? ⟨gx, 3, none⟩ = some (.string ⟨t5.toArray⟩) := (hst).cell rfl
        have xz3 := (hst).frozen 3
        by_cases hk1 : 1 ≤ n2'
        case neg =>
          have HNO := hid (rq_rej HNX.out HX0.out HXn1'.out HXn2'.out HXt3.out HXt4.out HXt5.out HXt6.out HXn7'.out HXn8'.out HXn9'.out HXn10'.out HXn11'.out HXn12'.out HX13.out (fun q => hk1 q.2.2.1))
          have hk2 : (n2' : Int) < 1 := by omega
          clear hp
          have hQe := (hst).hQ
          have q0 : wr.cell? ⟨gr, 0, none⟩ = some (.int .i64 0) := by rw [cell_of_row wr _ 0 _ _ (0, 0) hQe]; rfl
          have qz0 : wr.frozen? ⟨gr, 0, none⟩ = false := frozen_of_row wr _ 0 _ _ hQe
          have q1 : wr.cell? ⟨gr, 1, none⟩ = some (.string ⟨#[]⟩) := by rw [cell_of_row wr _ 1 _ _ (0, 0) hQe]; rfl
          have qz1 : wr.frozen? ⟨gr, 1, none⟩ = false := frozen_of_row wr _ 1 _ _ hQe
          have q2 : wr.cell? ⟨gr, 2, none⟩ = some (.string ⟨#[]⟩) := by rw [cell_of_row wr _ 2 _ _ (0, 0) hQe]; rfl
          have qz2 : wr.frozen? ⟨gr, 2, none⟩ = false := frozen_of_row wr _ 2 _ _ hQe
          have q3 : wr.cell? ⟨gr, 3, none⟩ = some (.string ⟨#[]⟩) := by rw [cell_of_row wr _ 3 _ _ (0, 0) hQe]; rfl
          have qz3 : wr.frozen? ⟨gr, 3, none⟩ = false := frozen_of_row wr _ 3 _ _ hQe
          have q4 : wr.cell? ⟨gr, 4, none⟩ = some (.slice none 0 0) := by rw [cell_of_row wr _ 4 _ _ (0, 0) hQe]; rfl
          have qz4 : wr.frozen? ⟨gr, 4, none⟩ = false := frozen_of_row wr _ 4 _ _ hQe
          have q5 : wr.cell? ⟨gr, 5, none⟩ = some (.int .i64 0) := by rw [cell_of_row wr _ 5 _ _ (0, 0) hQe]; rfl
          have qz5 : wr.frozen? ⟨gr, 5, none⟩ = false := frozen_of_row wr _ 5 _ _ hQe
          have q6 : wr.cell? ⟨gr, 6, none⟩ = some (.slice none 0 0) := by rw [cell_of_row wr _ 6 _ _ (0, 0) hQe]; rfl
          have qz6 : wr.frozen? ⟨gr, 6, none⟩ = false := frozen_of_row wr _ 6 _ _ hQe
          have q7 : wr.cell? ⟨gr, 7, none⟩ = some (.int .i64 0) := by rw [cell_of_row wr _ 7 _ _ (0, 0) hQe]; rfl
          have qz7 : wr.frozen? ⟨gr, 7, none⟩ = false := frozen_of_row wr _ 7 _ _ hQe
          have q8 : wr.cell? ⟨gr, 8, none⟩ = some (.int .i64 0) := by rw [cell_of_row wr _ 8 _ _ (0, 0) hQe]; rfl
          have qz8 : wr.frozen? ⟨gr, 8, none⟩ = false := frozen_of_row wr _ 8 _ _ hQe
          have q9 : wr.cell? ⟨gr, 9, none⟩ = some (.int .i64 0) := by rw [cell_of_row wr _ 9 _ _ (0, 0) hQe]; rfl
          have qz9 : wr.frozen? ⟨gr, 9, none⟩ = false := frozen_of_row wr _ 9 _ _ hQe
          have q10 : wr.cell? ⟨gr, 10, none⟩ = some (.int .i64 0) := by rw [cell_of_row wr _ 10 _ _ (0, 0) hQe]; rfl
          have qz10 : wr.frozen? ⟨gr, 10, none⟩ = false := frozen_of_row wr _ 10 _ _ hQe
          have q11 : wr.cell? ⟨gr, 11, none⟩ = some (.bool false) := by rw [cell_of_row wr _ 11 _ _ (0, 0) hQe]; rfl
          have qz11 : wr.frozen? ⟨gr, 11, none⟩ = false := frozen_of_row wr _ 11 _ _ hQe
          have hbe := (hst).hb
          go_wp2_with fail
          refine bodyPost_ret (v := .tuple #[.int .i64 0, .agg #[.int .i64 0, .string ⟨#[]⟩, .string ⟨#[]⟩, .string ⟨#[]⟩, .slice none 0 0, .int .i64 0, .slice none 0 0, .int .i64 0, .int .i64 0, .int .i64 0, .int .i64 0, .bool false], .int .i64 60]) ?_ rfl ⟨0, rq0, .slice none 0 0, .slice none 0 0, 60, rfl, Sl.none _ _, Sl.none _ _, At.below hbe ((((((((((((((At.refl gr wr).set 0 _).set 1 _).set 2 _).set 3 _).set 4 _).set 5 _).set 6 _).set 7 _).set 8 _).set 9 _).set 10 _).set 11 _) : At gr wr ((((((((((((wr.setCell ⟨gr, 0, none⟩ (.int .i64 0)).setCell ⟨gr, 1, none⟩ (.string ⟨#[]⟩)).setCell ⟨gr, 2, none⟩ (.string ⟨#[]⟩)).setCell ⟨gr, 3, none⟩ (.string ⟨#[]⟩)).setCell ⟨gr, 4, none⟩ (.slice none 0 0)).setCell ⟨gr, 5, none⟩ (.int .i64 0)).setCell ⟨gr, 6, none⟩ (.slice none 0 0)).setCell ⟨gr, 7, none⟩ (.int .i64 0)).setCell ⟨gr, 8, none⟩ (.int .i64 0)).setCell ⟨gr, 9, none⟩ (.int .i64 0)).setCell ⟨gr, 10, none⟩ (.int .i64 0)).setCell ⟨gr, 11, none⟩ (.bool false))) n2, .inr ⟨HERF.out.symm, rfl, rfl, rfl, rfl, HNO.out⟩⟩
          rw [results_tct rfl]
          go_simp
        have hk2 : ¬ (n2' : Int) < 1 := by omega
        go_wp2_with fail
        clear x0 xz0 x1 xz1 x2 xz2 x3 xz3
        refine (short3 t3 t4 t5 (by omega) (by omega) (by omega) _).mono ?_
        rintro _ ws ⟨rfl, bs⟩
        have hst9 := hst.below bs
        have ho9 := own_new ho bs
        have hsl9 := (hst.sl hslL HAP1.out HAP2.out).below bs
        by_cases hs3 : t3.length ≤ 16 ∧ t4.length ≤ 16 ∧ t5.length ≤ 16
        case neg =>
          have HNO := hid (rq_rej HNX.out HX0.out HXn1'.out HXn2'.out HXt3.out HXt4.out HXt5.out HXt6.out HXn7'.out HXn8'.out HXn9'.out HXn10'.out HXn11'.out HXn12'.out HX13.out (fun q => hs3 q.2.2.2))
          rw [decide_eq_false hs3]
          clear hp
          have hQe := (hst9).hQ
          have q0 : ws.cell? ⟨gr, 0, none⟩ = some (.int .i64 0) := by rw [cell_of_row ws _ 0 _ _ (0, 0) hQe]; rfl
          have qz0 : ws.frozen? ⟨gr, 0, none⟩ = false := frozen_of_row ws _ 0 _ _ hQe
          have q1 : ws.cell? ⟨gr, 1, none⟩ = some (.string ⟨#[]⟩) := by rw [cell_of_row ws _ 1 _ _ (0, 0) hQe]; rfl
          have qz1 : ws.frozen? ⟨gr, 1, none⟩ = false := frozen_of_row ws _ 1 _ _ hQe
          have q2 : ws.cell? ⟨gr, 2, none⟩ = some (.string ⟨#[]⟩) := by rw [cell_of_row ws _ 2 _ _ (0, 0) hQe]; rfl
          have qz2 : ws.frozen? ⟨gr, 2, none⟩ = false := frozen_of_row ws _ 2 _ _ hQe
          have q3 : ws.cell? ⟨gr, 3, none⟩ = some (.string ⟨#[]⟩) := by rw [cell_of_row ws _ 3 _ _ (0, 0) hQe]; rfl
          have qz3 : ws.frozen? ⟨gr, 3, none⟩ = false := frozen_of_row ws _ 3 _ _ hQe
          have q4 : ws.cell? ⟨gr, 4, none⟩ = some (.slice none 0 0) := by rw [cell_of_row ws _ 4 _ _ (0, 0) hQe]; rfl
          have qz4 : ws.frozen? ⟨gr, 4, none⟩ = false := frozen_of_row ws _ 4 _ _ hQe
          have q5 : ws.cell? ⟨gr, 5, none⟩ = some (.int .i64 0) := by rw [cell_of_row ws _ 5 _ _ (0, 0) hQe]; rfl
          have qz5 : ws.frozen? ⟨gr, 5, none⟩ = false := frozen_of_row ws _ 5 _ _ hQe
          have q6 : ws.cell? ⟨gr, 6, none⟩ = some (.slice none 0 0) := by rw [cell_of_row ws _ 6 _ _ (0, 0) hQe]; rfl
          have qz6 : ws.frozen? ⟨gr, 6, none⟩ = false := frozen_of_row ws _ 6 _ _ hQe
          have q7 : ws.cell? ⟨gr, 7, none⟩ = some (.int .i64 0) := by rw [cell_of_row ws _ 7 _ _ (0, 0) hQe]; rfl
          have qz7 : ws.frozen? ⟨gr, 7, none⟩ = false := frozen_of_row ws _ 7 _ _ hQe
          have q8 : ws.cell? ⟨gr, 8, none⟩ = some (.int .i64 0) := by rw [cell_of_row ws _ 8 _ _ (0, 0) hQe]; rfl
          have qz8 : ws.frozen? ⟨gr, 8, none⟩ = false := frozen_of_row ws _ 8 _ _ hQe
          have q9 : ws.cell? ⟨gr, 9, none⟩ = some (.int .i64 0) := by rw [cell_of_row ws _ 9 _ _ (0, 0) hQe]; rfl
          have qz9 : ws.frozen? ⟨gr, 9, none⟩ = false := frozen_of_row ws _ 9 _ _ hQe
          have q10 : ws.cell? ⟨gr, 10, none⟩ = some (.int .i64 0) := by rw [cell_of_row ws _ 10 _ _ (0, 0) hQe]; rfl
          have qz10 : ws.frozen? ⟨gr, 10, none⟩ = false := frozen_of_row ws _ 10 _ _ hQe
          have q11 : ws.cell? ⟨gr, 11, none⟩ = some (.bool false) := by rw [cell_of_row ws _ 11 _ _ (0, 0) hQe]; rfl
          have qz11 : ws.frozen? ⟨gr, 11, none⟩ = false := frozen_of_row ws _ 11 _ _ hQe
          have hbe := (hst9).hb
          go_wp2_with fail
          refine bodyPost_ret (v := .tuple #[.int .i64 0, .agg #[.int .i64 0, .string ⟨#[]⟩, .string ⟨#[]⟩, .string ⟨#[]⟩, .slice none 0 0, .int .i64 0, .slice none 0 0, .int .i64 0, .int .i64 0, .int .i64 0, .int .i64 0, .bool false], .int .i64 60]) ?_ rfl ⟨0, rq0, .slice none 0 0, .slice none 0 0, 60, rfl, Sl.none _ _, Sl.none _ _, At.below hbe ((((((((((((((At.refl gr ws).set 0 _).set 1 _).set 2 _).set 3 _).set 4 _).set 5 _).set 6 _).set 7 _).set 8 _).set 9 _).set 10 _).set 11 _) : At gr ws ((((((((((((ws.setCell ⟨gr, 0, none⟩ (.int .i64 0)).setCell ⟨gr, 1, none⟩ (.string ⟨#[]⟩)).setCell ⟨gr, 2, none⟩ (.string ⟨#[]⟩)).setCell ⟨gr, 3, none⟩ (.string ⟨#[]⟩)).setCell ⟨gr, 4, none⟩ (.slice none 0 0)).setCell ⟨gr, 5, none⟩ (.int .i64 0)).setCell ⟨gr, 6, none⟩ (.slice none 0 0)).setCell ⟨gr, 7, none⟩ (.int .i64 0)).setCell ⟨gr, 8, none⟩ (.int .i64 0)).setCell ⟨gr, 9, none⟩ (.int .i64 0)).setCell ⟨gr, 10, none⟩ (.int .i64 0)).setCell ⟨gr, 11, none⟩ (.bool false))) n2, .inr ⟨HERF.out.symm, rfl, rfl, rfl, rfl, HNO.out⟩⟩
          rw [results_tct rfl]
          go_simp
        rw [decide_eq_true hs3]
        have HACC := hid (rq_acc HX0.out HXn1'.out HXn2'.out HXt3.out HXt4.out HXt5.out HXt6.out HXn7'.out HXn8'.out HXn9'.out HXn10'.out HXn11'.out HXn12'.out HX13.out hp he hk1 hs3)
        have HLL := hid ((by simpa using (next_out HNX.out).1 : l = wrapL (nextF l).1).trans (congrArg wrapL HACC.out.2))
        have hQe := hst9.hQ
        have hsl10 := (hsl9.at ((((((((((((((At.refl gr ws).set 0 _).set 1 _).set 2 _).set 3 _).set 4 _).set 5 _).set 6 _).set 7 _).set 8 _).set 9 _).set 10 _).set 11 _) : At gr ws ((((((((((((ws.setCell ⟨gr, 0, none⟩ (.int .i64 (n2' : Int))).setCell ⟨gr, 1, none⟩ (.string ⟨t3.toArray⟩)).setCell ⟨gr, 2, none⟩ (.string ⟨t4.toArray⟩)).setCell ⟨gr, 3, none⟩ (.string ⟨t5.toArray⟩)).setCell ⟨gr, 4, none⟩ (.slice av ss.length cv)).setCell ⟨gr, 5, none⟩ (.int .i64 lim)).setCell ⟨gr, 6, none⟩ (.slice ua k uc)).setCell ⟨gr, 7, none⟩ (.int .i64 (n7' : Int))).setCell ⟨gr, 8, none⟩ (.int .i64 (n8' : Int))).setCell ⟨gr, 9, none⟩ (.int .i64 (n9' : Int))).setCell ⟨gr, 10, none⟩ (.int .i64 (n10' : Int))).setCell ⟨gr, 11, none⟩ (.bool ((n11' : Int) == 1)))) (steps_apart hQe)).below (below_drewN _ _ 1)
        have ho10 := own_new (own_at_lt ho9 ((((((((((((((At.refl gr ws).set 0 _).set 1 _).set 2 _).set 3 _).set 4 _).set 5 _).set 6 _).set 7 _).set 8 _).set 9 _).set 10 _).set 11 _) : At gr ws ((((((((((((ws.setCell ⟨gr, 0, none⟩ (.int .i64 (n2' : Int))).setCell ⟨gr, 1, none⟩ (.string ⟨t3.toArray⟩)).setCell ⟨gr, 2, none⟩ (.string ⟨t4.toArray⟩)).setCell ⟨gr, 3, none⟩ (.string ⟨t5.toArray⟩)).setCell ⟨gr, 4, none⟩ (.slice av ss.length cv)).setCell ⟨gr, 5, none⟩ (.int .i64 lim)).setCell ⟨gr, 6, none⟩ (.slice ua k uc)).setCell ⟨gr, 7, none⟩ (.int .i64 (n7' : Int))).setCell ⟨gr, 8, none⟩ (.int .i64 (n8' : Int))).setCell ⟨gr, 9, none⟩ (.int .i64 (n9' : Int))).setCell ⟨gr, 10, none⟩ (.int .i64 (n10' : Int))).setCell ⟨gr, 11, none⟩ (.bool ((n11' : Int) == 1)))) hgL.2.1) (below_drewN _ _ 1)
        have hbf := below_to_drew (At.below hst9.hb ((((((((((((((At.refl gr ws).set 0 _).set 1 _).set 2 _).set 3 _).set 4 _).set 5 _).set 6 _).set 7 _).set 8 _).set 9 _).set 10 _).set 11 _) : At gr ws ((((((((((((ws.setCell ⟨gr, 0, none⟩ (.int .i64 (n2' : Int))).setCell ⟨gr, 1, none⟩ (.string ⟨t3.toArray⟩)).setCell ⟨gr, 2, none⟩ (.string ⟨t4.toArray⟩)).setCell ⟨gr, 3, none⟩ (.string ⟨t5.toArray⟩)).setCell ⟨gr, 4, none⟩ (.slice av ss.length cv)).setCell ⟨gr, 5, none⟩ (.int .i64 lim)).setCell ⟨gr, 6, none⟩ (.slice ua k uc)).setCell ⟨gr, 7, none⟩ (.int .i64 (n7' : Int))).setCell ⟨gr, 8, none⟩ (.int .i64 (n8' : Int))).setCell ⟨gr, 9, none⟩ (.int .i64 (n9' : Int))).setCell ⟨gr, 10, none⟩ (.int .i64 (n10' : Int))).setCell ⟨gr, 11, none⟩ (.bool ((n11' : Int) == 1)))) n2)
        have hu10 := Sl.of_own ho10 (by omega)
        clear hp he hs3 hsl9 ho9 ho10
        have x0 : ws.cell? ⟨gx, 0, none⟩ = some (.int .i64 (n2' : Int)) := (hst9).cell rfl
        have xz0 := (hst9).frozen 0
        have x1 : ws.cell? ⟨gx, 1, none⟩ = some (.string ⟨t3.toArray⟩) := (hst9).cell rfl
        have xz1 := (hst9).frozen 1
        have x2 : ws.cell? ⟨gx, 2, none⟩ = some (.string ⟨t4.toArray⟩) := (hst9).cell rfl
        have xz2 := (hst9).frozen 2
        have x3 : ws.cell? ⟨gx, 3, none⟩ = some (.string ⟨t5.toArray⟩) := (hst9).cell rfl
        have xz3 := (hst9).frozen 3
        have x4 : ws.cell? ⟨gx, 4, none⟩ = some (.slice av ss.length cv) := (hst9).cell rfl
        have xz4 := (hst9).frozen 4
        have x5 : ws.cell? ⟨gx, 5, none⟩ = some (.int .i64 lim) := (hst9).cell rfl
        have xz5 := (hst9).frozen 5
        have x6 : ws.cell? ⟨gx, 6, none⟩ = some (.slice ua k uc) := (hst9).cell rfl
        have xz6 := (hst9).frozen 6
        have x7 : ws.cell? ⟨gx, 7, none⟩ = some (.int .i64 (n7' : Int)) := (hst9).cell rfl
        have xz7 := (hst9).frozen 7
        have x8 : ws.cell? ⟨gx, 8, none⟩ = some (.int .i64 (n8' : Int)) := (hst9).cell rfl
        have xz8 := (hst9).frozen 8
        have x9 : ws.cell? ⟨gx, 9, none⟩ = some (.int .i64 (n9' : Int)) := (hst9).cell rfl
        have xz9 := (hst9).frozen 9
        have x10 : ws.cell? ⟨gx, 10, none⟩ = some (.int .i64 (n10' : Int)) := (hst9).cell rfl
        have xz10 := (hst9).frozen 10
        have x11 : ws.cell? ⟨gx, 11, none⟩ = some (.bool ((n11' : Int) == 1)) := (hst9).cell rfl
        have xz11 := (hst9).frozen 11
        have q0 : ws.cell? ⟨gr, 0, none⟩ = some (.int .i64 0) := by rw [cell_of_row ws _ 0 _ _ (0, 0) hQe]; rfl
        have qz0 : ws.frozen? ⟨gr, 0, none⟩ = false := frozen_of_row ws _ 0 _ _ hQe
        have q1 : ws.cell? ⟨gr, 1, none⟩ = some (.string ⟨#[]⟩) := by rw [cell_of_row ws _ 1 _ _ (0, 0) hQe]; rfl
        have qz1 : ws.frozen? ⟨gr, 1, none⟩ = false := frozen_of_row ws _ 1 _ _ hQe
        have q2 : ws.cell? ⟨gr, 2, none⟩ = some (.string ⟨#[]⟩) := by rw [cell_of_row ws _ 2 _ _ (0, 0) hQe]; rfl
        have qz2 : ws.frozen? ⟨gr, 2, none⟩ = false := frozen_of_row ws _ 2 _ _ hQe
        have q3 : ws.cell? ⟨gr, 3, none⟩ = some (.string ⟨#[]⟩) := by rw [cell_of_row ws _ 3 _ _ (0, 0) hQe]; rfl
        have qz3 : ws.frozen? ⟨gr, 3, none⟩ = false := frozen_of_row ws _ 3 _ _ hQe
        have q4 : ws.cell? ⟨gr, 4, none⟩ = some (.slice none 0 0) := by rw [cell_of_row ws _ 4 _ _ (0, 0) hQe]; rfl
        have qz4 : ws.frozen? ⟨gr, 4, none⟩ = false := frozen_of_row ws _ 4 _ _ hQe
        have q5 : ws.cell? ⟨gr, 5, none⟩ = some (.int .i64 0) := by rw [cell_of_row ws _ 5 _ _ (0, 0) hQe]; rfl
        have qz5 : ws.frozen? ⟨gr, 5, none⟩ = false := frozen_of_row ws _ 5 _ _ hQe
        have q6 : ws.cell? ⟨gr, 6, none⟩ = some (.slice none 0 0) := by rw [cell_of_row ws _ 6 _ _ (0, 0) hQe]; rfl
        have qz6 : ws.frozen? ⟨gr, 6, none⟩ = false := frozen_of_row ws _ 6 _ _ hQe
        have q7 : ws.cell? ⟨gr, 7, none⟩ = some (.int .i64 0) := by rw [cell_of_row ws _ 7 _ _ (0, 0) hQe]; rfl
        have qz7 : ws.frozen? ⟨gr, 7, none⟩ = false := frozen_of_row ws _ 7 _ _ hQe
        have q8 : ws.cell? ⟨gr, 8, none⟩ = some (.int .i64 0) := by rw [cell_of_row ws _ 8 _ _ (0, 0) hQe]; rfl
        have qz8 : ws.frozen? ⟨gr, 8, none⟩ = false := frozen_of_row ws _ 8 _ _ hQe
        have q9 : ws.cell? ⟨gr, 9, none⟩ = some (.int .i64 0) := by rw [cell_of_row ws _ 9 _ _ (0, 0) hQe]; rfl
        have qz9 : ws.frozen? ⟨gr, 9, none⟩ = false := frozen_of_row ws _ 9 _ _ hQe
        have q10 : ws.cell? ⟨gr, 10, none⟩ = some (.int .i64 0) := by rw [cell_of_row ws _ 10 _ _ (0, 0) hQe]; rfl
        have qz10 : ws.frozen? ⟨gr, 10, none⟩ = false := frozen_of_row ws _ 10 _ _ hQe
        have q11 : ws.cell? ⟨gr, 11, none⟩ = some (.bool false) := by rw [cell_of_row ws _ 11 _ _ (0, 0) hQe]; rfl
        have qz11 : ws.frozen? ⟨gr, 11, none⟩ = false := frozen_of_row ws _ 11 _ _ hQe
        go_wp2_with fail
        go_region
        go_wp2_with fail
        refine bodyPost_ret (v := .tuple #[.int .i64 n1', .agg #[.int .i64 (n2' : Int), .string ⟨t3.toArray⟩, .string ⟨t4.toArray⟩, .string ⟨t5.toArray⟩, .slice av ss.length cv, .int .i64 lim, .slice ua k uc, .int .i64 (n7' : Int), .int .i64 (n8' : Int), .int .i64 (n9' : Int), .int .i64 (n10' : Int), .bool ((n11' : Int) == 1)], .int .i64 0]) ?_ rfl ⟨n1', ⟨n2', t3, t4, t5, ss, lim, cs, n7', n8', n9', n10', (n11' : Int) == 1⟩, .slice av ss.length cv, .slice ua k uc, 0, rfl, hsl10, by rw [hcl]; exact hu10, hbf, .inl ⟨rfl, HACC.out.1, HLL.out⟩⟩
        rw [results_tct rfl]
        go_simp
      · have HNO := hid (rq_rej HNX.out HX0.out HXn1'.out HXn2'.out HXt3.out HXt4.out HXt5.out HXt6.out HXn7'.out HXn8'.out HXn9'.out HXn10'.out HXn11'.out HXn12'.out HX13.out (fun q => by obtain ⟨⟨l9, s9, h9⟩, -⟩ := q; rw [hp] at h9; cases h9))
        clear hp hv hlim hss
        have hQe := (hst).hQ
        have q0 : wr.cell? ⟨gr, 0, none⟩ = some (.int .i64 0) := by rw [cell_of_row wr _ 0 _ _ (0, 0) hQe]; rfl
        have qz0 : wr.frozen? ⟨gr, 0, none⟩ = false := frozen_of_row wr _ 0 _ _ hQe
        have q1 : wr.cell? ⟨gr, 1, none⟩ = some (.string ⟨#[]⟩) := by rw [cell_of_row wr _ 1 _ _ (0, 0) hQe]; rfl
        have qz1 : wr.frozen? ⟨gr, 1, none⟩ = false := frozen_of_row wr _ 1 _ _ hQe
        have q2 : wr.cell? ⟨gr, 2, none⟩ = some (.string ⟨#[]⟩) := by rw [cell_of_row wr _ 2 _ _ (0, 0) hQe]; rfl
        have qz2 : wr.frozen? ⟨gr, 2, none⟩ = false := frozen_of_row wr _ 2 _ _ hQe
        have q3 : wr.cell? ⟨gr, 3, none⟩ = some (.string ⟨#[]⟩) := by rw [cell_of_row wr _ 3 _ _ (0, 0) hQe]; rfl
        have qz3 : wr.frozen? ⟨gr, 3, none⟩ = false := frozen_of_row wr _ 3 _ _ hQe
        have q4 : wr.cell? ⟨gr, 4, none⟩ = some (.slice none 0 0) := by rw [cell_of_row wr _ 4 _ _ (0, 0) hQe]; rfl
        have qz4 : wr.frozen? ⟨gr, 4, none⟩ = false := frozen_of_row wr _ 4 _ _ hQe
        have q5 : wr.cell? ⟨gr, 5, none⟩ = some (.int .i64 0) := by rw [cell_of_row wr _ 5 _ _ (0, 0) hQe]; rfl
        have qz5 : wr.frozen? ⟨gr, 5, none⟩ = false := frozen_of_row wr _ 5 _ _ hQe
        have q6 : wr.cell? ⟨gr, 6, none⟩ = some (.slice none 0 0) := by rw [cell_of_row wr _ 6 _ _ (0, 0) hQe]; rfl
        have qz6 : wr.frozen? ⟨gr, 6, none⟩ = false := frozen_of_row wr _ 6 _ _ hQe
        have q7 : wr.cell? ⟨gr, 7, none⟩ = some (.int .i64 0) := by rw [cell_of_row wr _ 7 _ _ (0, 0) hQe]; rfl
        have qz7 : wr.frozen? ⟨gr, 7, none⟩ = false := frozen_of_row wr _ 7 _ _ hQe
        have q8 : wr.cell? ⟨gr, 8, none⟩ = some (.int .i64 0) := by rw [cell_of_row wr _ 8 _ _ (0, 0) hQe]; rfl
        have qz8 : wr.frozen? ⟨gr, 8, none⟩ = false := frozen_of_row wr _ 8 _ _ hQe
        have q9 : wr.cell? ⟨gr, 9, none⟩ = some (.int .i64 0) := by rw [cell_of_row wr _ 9 _ _ (0, 0) hQe]; rfl
        have qz9 : wr.frozen? ⟨gr, 9, none⟩ = false := frozen_of_row wr _ 9 _ _ hQe
        have q10 : wr.cell? ⟨gr, 10, none⟩ = some (.int .i64 0) := by rw [cell_of_row wr _ 10 _ _ (0, 0) hQe]; rfl
        have qz10 : wr.frozen? ⟨gr, 10, none⟩ = false := frozen_of_row wr _ 10 _ _ hQe
        have q11 : wr.cell? ⟨gr, 11, none⟩ = some (.bool false) := by rw [cell_of_row wr _ 11 _ _ (0, 0) hQe]; rfl
        have qz11 : wr.frozen? ⟨gr, 11, none⟩ = false := frozen_of_row wr _ 11 _ _ hQe
        have hbe := (hst).hb
        go_wp2_with fail
        refine bodyPost_ret (v := .tuple #[.int .i64 0, .agg #[.int .i64 0, .string ⟨#[]⟩, .string ⟨#[]⟩, .string ⟨#[]⟩, .slice none 0 0, .int .i64 0, .slice none 0 0, .int .i64 0, .int .i64 0, .int .i64 0, .int .i64 0, .bool false], .int .i64 60]) ?_ rfl ⟨0, rq0, .slice none 0 0, .slice none 0 0, 60, rfl, Sl.none _ _, Sl.none _ _, At.below hbe ((((((((((((((At.refl gr wr).set 0 _).set 1 _).set 2 _).set 3 _).set 4 _).set 5 _).set 6 _).set 7 _).set 8 _).set 9 _).set 10 _).set 11 _) : At gr wr ((((((((((((wr.setCell ⟨gr, 0, none⟩ (.int .i64 0)).setCell ⟨gr, 1, none⟩ (.string ⟨#[]⟩)).setCell ⟨gr, 2, none⟩ (.string ⟨#[]⟩)).setCell ⟨gr, 3, none⟩ (.string ⟨#[]⟩)).setCell ⟨gr, 4, none⟩ (.slice none 0 0)).setCell ⟨gr, 5, none⟩ (.int .i64 0)).setCell ⟨gr, 6, none⟩ (.slice none 0 0)).setCell ⟨gr, 7, none⟩ (.int .i64 0)).setCell ⟨gr, 8, none⟩ (.int .i64 0)).setCell ⟨gr, 9, none⟩ (.int .i64 0)).setCell ⟨gr, 10, none⟩ (.int .i64 0)).setCell ⟨gr, 11, none⟩ (.bool false))) n2, .inr ⟨HERF.out.symm, rfl, rfl, rfl, rfl, HNO.out⟩⟩
        rw [results_tct rfl]
        go_simp
end Go.Proofs.Ytelacmchofehcaa
