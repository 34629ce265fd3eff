/- A SLICE OF NUMBERS of the call's own that may have been cut: its capacity may be less than its block; append. -/
import Derived.Test.YtfdbcnpbjabjoaaRowAppend
import Derived.Test.YtfdbcnpbjabjoaaMailArrP
import Derived.ArgAppend
namespace Go.Proofs.Ytfdbcnpbjabjoaa
open Go.RowKit
set_option linter.unusedVariables false
set_option linter.unusedSimpArgs false

def ivz (n : Int) : Value := .int .i64 n
/-- v is a slice of numbers that reads as zs, in a block from B on -/
def Lst (w : World) (B : Nat) (v : Value) (zs : List Int) : Prop :=
  (v = .slice none 0 0 ∧ zs = []) ∨ ∃ g cap cur, v = .slice (some ⟨g, 0, none⟩) zs.length cap ∧ B ≤ g ∧ w.heap[g]? = some (.cells cur 3 (0, 0)) ∧ zs.length ≤ cap ∧ cap ≤ cur.size ∧ cap ≤ maxLen ∧ cur.toList.take zs.length = zs.map ivz
theorem Lst.nil (w : World) (B : Nat) : Lst w B (.slice none 0 0) [] := .inl ⟨rfl, rfl⟩
theorem Lst.of_own {w : World} {B n : Nat} {v : Value} {zs : List Int} (h : w.ownsRow B 3 1 v n (zs.map ivz)) : Lst w B v zs := by
  have hn : zs.length = n := by have := h.1; rw [List.length_map] at this; omega
  subst hn
  rcases h.2 with ⟨rfl, h0⟩ | ⟨g, cap, cur, rfl, hB, hg, hc, hm, hs, ht⟩
  · exact .inl ⟨rfl, List.eq_nil_of_length_eq_zero h0⟩
  · exact .inr ⟨g, cap, cur, rfl, hB, hg, hc, by omega, hm, by rw [← ht]; simp⟩
theorem Lst.shape {w : World} {B : Nat} {v : Value} {zs : List Int} (h : Lst w B v zs) : ∃ a c, v = .slice a zs.length c := by
  rcases h with ⟨rfl, rfl⟩ | ⟨g, cap, cur, rfl, _⟩
  · exact ⟨_, _, rfl⟩
  · exact ⟨_, _, rfl⟩
theorem Lst.of_blocks {w w' : World} {B : Nat} {v : Value} {zs : List Int} (h : Lst w B v zs) (hb : ∀ g c, B ≤ g → w.heap[g]? = some (.cells c 3 (0, 0)) → w'.heap[g]? = w.heap[g]?) : Lst w' B v zs := by
  rcases h with h | ⟨g, cap, cur, e, hB, hg, hc, hs, hm, ht⟩
  · exact .inl h
  · exact .inr ⟨g, cap, cur, e, hB, (hb g cur hB hg).trans hg, hc, hs, hm, ht⟩
theorem Lst.below {w w' : World} {B : Nat} {v : Value} {zs : List Int} (h : Lst w B v zs) (b : Below w.heap.size w w') : Lst w' B v zs :=
  h.of_blocks fun g c _ hg => b.block g (Array.getElem?_eq_some_iff.1 hg).1
theorem Lst.keep {w w' : World} {B : Nat} {S : List TypeId} {v : Value} {zs : List Int} (h : Lst w B v zs) (b : KeepT B S w w') (hS : 3 ∉ S) : Lst w' B v zs :=
  h.of_blocks fun g c _ hg => (b.at hg hS).trans hg.symm
/-- the numbers stand where one block turns that is no row of numbers -/
theorem Lst.map {w w' : World} {B k : Nat} {v : Value} {zs : List Int} (h : Lst w B v zs) {es : Array (Lit × Value × Value)} (b : w.grownBy w' (some k)) (hk : ∀ c, w.heap[k]? ≠ some (.cells c 3 (0, 0))) : Lst w' B v zs :=
  h.of_blocks fun g c _ hg => b.block g (Array.getElem?_eq_some_iff.1 hg).1 (fun e => by
    simp only [Option.some.injEq] at e
    subst e
    exact hk c hg)
/-- the cell of a place -/
theorem Lst.cell {w : World} {B : Nat} {v : Value} {zs : List Int} (h : Lst w B v zs) {j : Nat} (hj : j < zs.length) : ∃ g cap, v = .slice (some ⟨g, 0, none⟩) zs.length cap ∧ zs.length ≤ cap ∧ B ≤ g ∧ g < w.heap.size ∧ ∀ i (hi : i < zs.length), w.cell? ⟨g, i, none⟩ = some (ivz zs[i]) := by
  rcases h with ⟨rfl, rfl⟩ | ⟨g, cap, cur, rfl, hB, hg, hc, hs, hm, ht⟩
  · simp at hj
  · refine ⟨g, cap, rfl, hc, hB, (Array.getElem?_eq_some_iff.1 hg).1, fun i hi => ?_⟩
    rw [cell_of_row w g i cur _ (0, 0) hg]
    have h1 : (cur.toList.take zs.length)[i]? = (zs.map ivz)[i]? := by rw [ht]
    rw [List.getElem?_take_of_lt hi, List.getElem?_map, List.getElem?_eq_getElem hi] at h1
    simpa using h1
theorem Lst.at {w : World} {B g n c : Nat} {zs : List Int} (h : Lst w B (.slice (some ⟨g, 0, none⟩) n c) zs) {j : Nat} (hj : j < zs.length) : w.cell? ⟨g, j, none⟩ = some (.int .i64 zs[j]) := by
  obtain ⟨g', cap, e, _, _, _, hc⟩ := h.cell hj
  simp only [Value.slice.injEq, Option.some.injEq, Addr.mk.injEq, and_true, true_and] at e
  obtain ⟨rfl, -, -⟩ := e
  exact hc j hj
theorem add_lit0 (g j : Nat) : (⟨g, 0, none⟩ : Addr).add j = ⟨g, j, none⟩ := by unfold Addr.add; split <;> simp_all
section
variable {P : Program} (w : World)
theorem Lst.run_one {t ty : TypeId} (ht : P.underlying t = some (.slice 3)) (hi : (P.info? 3).map (fun i => (i.zero, i.size, i.bytes)) = some (some (.int .i64 0), 1, 8))
    {B : Nat} {v : Value} {zs : List Int} (h : Lst w B v zs) {g c : Nat} {y : Int} (hy : w.cell? ⟨g, 0, none⟩ = some (ivz y)) (hl : zs.length + 1 ≤ 1000) (hB : B ≤ w.heap.size) :
    ∃ v' w', (Builtin.append_ #[t, t] ty #[v, .slice (some ⟨g, 0, none⟩) 1 c]).run P w = .ok v' w' ∧ Lst w' B v' (zs ++ [y]) ∧ w.grownBy w' v.ownBlock := by
  obtain ⟨i0, hi0, hz0, hz1, hz2⟩ := info_parts hi
  have hy' : ∀ j u, [ivz y][j]? = some u → w.cell? ((⟨g, 0, none⟩ : Addr).add j) = some u := by
    intro j u hj
    match j with
    | 0 => rw [add_lit0]; simp at hj; rw [← hj]; exact hy
    | j + 1 => simp at hj
  have h1 : ∀ u ∈ [ivz y], u.oneCell' = true := by intro u hu; simp at hu; subst hu; rfl
  rcases h with ⟨rfl, rfl⟩ | ⟨b, cap, cur, rfl, hbB, hb, hc, hs, hm, htk⟩
  · obtain ⟨v', w', hrun, r1, r2, _⟩ := run_append_own (P := P) w B t ty 3 i0 (.int .i64 0) 1 8 ht hi0 hz0 hz1 hz2 rfl (by decide) (.slice none 0 0) 0 [] (World.ownsRow_nil _ _ _ _) ⟨g, 0, none⟩ 1 c [ivz y] rfl hy' h1 (by decide) (by decide) hB
    exact ⟨v', w', hrun, Lst.of_own (n := 1) r1, r2⟩
  · by_cases hr : zs.length + 1 ≤ cap
    · have hz1' : i0.size = 1 := hz1
      have hrun := run_append_room_cells (P := P) w t ty 3 i0 ht hi0 b 0 zs.length cap ⟨g, 0, none⟩ 1 c [ivz y] (by rw [hz1']; rfl) hy' h1 hr
        (fun j hj => by
          simp only [List.length_cons, List.length_nil] at hj
          obtain rfl : j = 0 := by omega
          rw [hz1', cell_of_row w b _ cur _ (0, 0) hb, Array.getElem?_eq_getElem (by omega)]; rfl)
        (fun j hj => frozen_of_row w b _ cur _ hb)
      refine ⟨_, _, hrun, .inr ⟨b, cap, cur.setIfInBounds zs.length (ivz y), by rw [List.length_append]; rfl, hbB, ?_, by rw [List.length_append]; exact hr, by simpa using hs, hm, ?_⟩, ?_⟩
      · have := heap_setCell_same w b zs.length cur 3 (ivz y) hb
        rw [hz1']
        simpa [World.setCells] using this
      · rw [List.length_append, List.map_append, ← htk]
        simp only [Array.toList_setIfInBounds, List.length_cons, List.length_nil, List.map_cons, List.map_nil]
        have hlt : zs.length < cur.toList.length := by simp; omega
        rw [List.take_succ_eq_append_getElem (by simpa using hlt)]
        simp [List.take_set_of_le]
      · rw [hz1']
        exact ⟨rfl, rfl, rfl, by simp [World.setCells, World.setCell], fun k hk hne => by
          have := Below.heap_setCell w ⟨b, 0 + zs.length * 1, none⟩ (ivz y) k (fun e => hne (by simp [Value.ownBlock, e]))
          simpa [World.setCells] using this⟩
    · obtain ⟨v', w', hrun, r1, r2⟩ := run_append_arg_grows (P := P) w t ty 3 i0 (.int .i64 0) 1 8 ht hi0 hz0 hz1 hz2 rfl (by decide) ⟨b, 0, none⟩ zs.length cap (zs.map ivz) (by simp)
        (fun j u hj => by
          rw [add_lit0, cell_of_row w b j cur _ (0, 0) hb, ← hj, ← htk]
          have hj' : j < zs.length := by
            rcases Nat.lt_or_ge j zs.length with q | q
            · exact q
            · rw [List.getElem?_eq_none (by simpa using q)] at hj; simp at hj
          rw [List.getElem?_take_of_lt hj']; simp)
        ⟨g, 0, none⟩ 1 c [ivz y] rfl hy' (by omega) (by unfold maxLen; omega) (by omega)
      refine ⟨v', w', hrun, Lst.of_own (n := zs.length + 1) (by rw [List.map_append]; exact own_mono r1 hB), ⟨r2.os, r2.tape, r2.output, r2.size, fun k hk _ => r2.block k hk (by simp)⟩⟩
/-- 'append(l[:i:i], l[i+1:]...)' -/
theorem Lst.run_cut {t ty : TypeId} (ht : P.underlying t = some (.slice 3)) (hi : (P.info? 3).map (fun i => (i.zero, i.size, i.bytes)) = some (some (.int .i64 0), 1, 8))
    {B b cap : Nat} {zs : List Int} (h : Lst w B (.slice (some ⟨b, 0, none⟩) zs.length cap) zs) {i c : Nat} (hi' : i < zs.length) {a : Option Addr} (ha : i + 1 < zs.length → a = some ⟨b, i + 1, none⟩) (hl : zs.length ≤ 1000) (hB : B ≤ w.heap.size) :
    ∃ v' w', (Builtin.append_ #[t, t] ty #[.slice (some ⟨b, 0, none⟩) i i, .slice a (zs.length - (i + 1)) c]).run P w = .ok v' w' ∧ Lst w' B v' (zs.take i ++ zs.drop (i + 1)) ∧ Below w.heap.size w w' := by
  obtain ⟨i0, hi0, hz0, hz1, hz2⟩ := info_parts hi
  rcases h with ⟨e, _⟩ | ⟨b', cap', cur, e, hbB, hb, hc, hs, hm, htk⟩
  · cases e
  · simp only [Value.slice.injEq, Option.some.injEq, Addr.mk.injEq, and_true, true_and] at e
    obtain ⟨rfl, rfl⟩ := e
    have hcell : ∀ j, j < zs.length → w.cell? ⟨b, j, none⟩ = (zs.map ivz)[j]? := fun j hj => by
      rw [cell_of_row w b j cur _ (0, 0) hb, ← htk, List.getElem?_take_of_lt hj]; simp
    by_cases h0 : i + 1 < zs.length
    · rw [ha h0]
      obtain ⟨v', w', hrun, r1, r2⟩ := run_append_arg_grows (P := P) w t ty 3 i0 (.int .i64 0) 1 8 ht hi0 hz0 hz1 hz2 rfl (by decide) ⟨b, 0, none⟩ i i ((zs.take i).map ivz) (by simp; omega)
        (fun j u hj => by
          have hj' : j < i := by
            rcases Nat.lt_or_ge j i with q | q
            · exact q
            · rw [List.getElem?_eq_none (by simp; omega)] at hj; simp at hj
          rw [add_lit0, hcell j (by omega), ← hj, List.map_take, List.getElem?_take_of_lt hj'])
        ⟨b, i + 1, none⟩ (zs.length - (i + 1)) c ((zs.drop (i + 1)).map ivz) (by simp)
        (fun j u hj => by
          have e0 : (⟨b, i + 1, none⟩ : Addr).add j = ⟨b, i + 1 + j, none⟩ := by unfold Addr.add; split <;> simp_all
          have hj' : i + 1 + j < zs.length := by
            rcases Nat.lt_or_ge (i + 1 + j) zs.length with q | q
            · exact q
            · rw [List.getElem?_eq_none (by simp; omega)] at hj; simp at hj
          rw [e0, hcell _ hj', ← hj, List.map_drop, List.getElem?_drop]) (by omega) (by unfold maxLen; omega) (by omega)
      exact ⟨v', w', hrun, Lst.of_own (n := i + (zs.length - (i + 1))) (by rw [List.map_append]; exact own_mono r1 hB), ⟨r2.os, r2.tape, r2.output, r2.size, fun k hk => r2.block k hk (by simp)⟩⟩
    · have e1 : zs.length - (i + 1) = 0 := by omega
      refine ⟨.slice (some ⟨b, 0, none⟩) i i, w, ?_, .inr ⟨b, i, cur, ?_, hbB, hb, ?_, by omega, by omega, ?_⟩, Below.refl _ _⟩
      · rw [e1]
        cases a <;> simp [Builtin.append_, run_underlying ht, sizeOf, typeInfo, hi0, Builtin.lenOf, Builtin.firstCells, loadCells, loadCellsFrom, storeCells]
      · simp; omega
      · simp; omega
      · rw [List.drop_eq_nil_of_le (by omega), List.append_nil, List.length_take, Nat.min_eq_left (by omega), List.map_take, ← htk, List.take_take, Nat.min_eq_left (by omega)]
end
end Go.Proofs.Ytfdbcnpbjabjoaa
