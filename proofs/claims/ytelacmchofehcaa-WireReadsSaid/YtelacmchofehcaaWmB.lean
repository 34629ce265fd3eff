/- CONTRACTS: wire.within, short, bit; the reference's in, yes. A REQUEST, A REPLY in a block. NINE CELLS in a block. A SLICE THAT STANDS WHERE A BLOCK OF OTHER CELLS TURNS. WHAT STANDS while a reader reads on and a row grows. -/
import Derived.Test.YtelacmchofehcaaWmA
import Derived.Test.YtelacmchofehcaaSlices
import Derived.Test.YtelacmchofehcaaVaryRPut
import Derived.Test.YtelacmchofehcaaHeld
import Derived.Test.YtelacmchofehcaaPgmCheck
import Derived.Test.YtelacmchofehcaaEvtPack
import Derived.Test.YtelacmchofehcaaRowAppend
import Derived.Test.YtelacmchofehcaaRdr
namespace Go.Proofs.Ytelacmchofehcaa
open Go.RowKit
set_option linter.unusedVariables false

def InL (most : Int) (l : List Int) : Prop := ∀ n ∈ l, 0 ≤ n ∧ n ≤ most
instance (most : Int) (l : List Int) : Decidable (InL most l) := inferInstanceAs (Decidable (∀ n ∈ l, _))
def ShL (l : List (List UInt8)) : Prop := ∀ t ∈ l, t.length ≤ 16
instance (l : List (List UInt8)) : Decidable (ShL l) := inferInstanceAs (Decidable (∀ t ∈ l, _))
theorem sl_cell1 {w : World} {α : Type} {f : α → Value} {l : List α} {b off : Nat} (hc : ∀ j (_ : j < (l.map f).length), w.cell? ⟨b, off + j, none⟩ = some (l.map f)[j]) (k : Nat) (hk : k < l.length) : w.cell? ⟨b, off + k, none⟩ = some (f l[k]) := by
  rw [hc k (by rw [List.length_map]; exact hk), List.getElem_map]
theorem take_all {α : Type} {p : α → Prop} {l : List α} {k : Nat} (h : ∀ x ∈ l.take k, p x) (hk : k < l.length) (hp : p l[k]) : ∀ x ∈ l.take (k + 1), p x := fun x hx => by
  rw [List.take_succ_eq_append_getElem hk] at hx
  rcases List.mem_append.1 hx with g | g
  · exact h x g
  · simp at g; rw [g]; exact hp
set_option maxHeartbeats 1600000 in
set_option maxRecDepth 100000 in
theorem wwithin_any (most : Int) (v : Value) (l : List Int) (w : World) (hs : Sl w v 1 l.length (l.map (fun n => .int .i64 n))) : Calls Try.prog 19 #[.int .i64 most, v] w fun e w' => e = .returned (.bool (decide (InL most l))) ∧ w' = w := by
  have hm : l.length ≤ 9223372036854775807 := hs.2.1.1
  obtain ⟨_, _, a, cap, rfl, hc⟩ := hs
  have C1 := hid hc
  clear hc
  go_enter Try.func19, Try.ntmps19
  go_wp2_with fail
  go_loopw [9] (fun i0 wr => ∃ k : Nat, k ≤ l.length ∧ i0 = .int .i64 k ∧ (∀ n ∈ l.take k, 0 ≤ n ∧ n ≤ most) ∧ wr = w) (fun i0 _ => l.length - (intOf i0).toNat)
  case atStart => exact ⟨0, Nat.zero_le _, rfl, (by intro x hx; simp at hx), rfl⟩
  case round =>
    obtain ⟨k, hk, rfl, hall, rfl⟩ := hrel
    by_cases hlt : k < l.length
    · obtain ⟨b, off, rfl, hblt, hc⟩ := C1.out.resolve_left (by omega)
      have c0 := sl_cell1 (f := fun n => Value.int .i64 n) hc k hlt
      have hnot : ¬ (0 ≤ l[k] ∧ l[k] ≤ most) → ¬ InL most l := fun h q => h (q _ (List.getElem_mem hlt))
      have hsucc := take_all (p := fun n => 0 ≤ n ∧ n ≤ most) hall hlt
      clear hc hall
      generalize l[k] = n at c0 hnot hsucc
      by_cases h1 : n < 0
      · have hd := hid (decide_eq_false (hnot (by omega)))
        clear hnot hsucc
        go_wp2_with fail
        go_ret
        exact ⟨by rw [hd.out]; rfl, rfl⟩
      · by_cases h2 : most < n
        · have hd := hid (decide_eq_false (hnot (by omega)))
          clear hnot hsucc
          go_wp2_with fail
          go_ret
          exact ⟨by rw [hd.out]; rfl, rfl⟩
        · have hs2 := hid (hsucc ⟨by omega, by omega⟩)
          clear hnot hsucc
          go_wp2_with fail
          go_roundw
          case rel => exact ⟨k + 1, hlt, by go_num, hs2.out, trivial⟩
          case measure => simp [intOf]; omega
    · obtain rfl : k = l.length := by omega
      rw [List.take_length] at hall
      have hd := hid (decide_eq_true (show InL most l from hall))
      clear hall
      go_wp2_with fail
      go_ret
      exact ⟨by rw [hd.out]; rfl, rfl⟩
set_option maxHeartbeats 1600000 in
set_option maxRecDepth 100000 in
theorem wshort_any (v : Value) (l : List (List UInt8)) (w : World) (hs : Sl w v 1 l.length (l.map (fun t => .string ⟨t.toArray⟩))) (hf : ∀ t ∈ l, t.length ≤ 140737488355328) : Calls Try.prog 20 #[v] w fun e w' => e = .returned (.bool (decide (ShL l))) ∧ w' = w := by
  have hm : l.length ≤ 9223372036854775807 := hs.2.1.1
  obtain ⟨_, _, a, cap, rfl, hc⟩ := hs
  have C1 := hid hc
  clear hc
  go_enter Try.func20, Try.ntmps20
  go_wp2_with fail
  go_loopw [7] (fun i0 wr => ∃ k : Nat, k ≤ l.length ∧ i0 = .int .i64 k ∧ (∀ t ∈ l.take k, t.length ≤ 16) ∧ wr = w) (fun i0 _ => l.length - (intOf i0).toNat)
  case atStart => exact ⟨0, Nat.zero_le _, rfl, (by intro x hx; simp at hx), rfl⟩
  case round =>
    obtain ⟨k, hk, rfl, hall, rfl⟩ := hrel
    by_cases hlt : k < l.length
    · obtain ⟨b, off, rfl, hblt, hc⟩ := C1.out.resolve_left (by omega)
      have c0 := sl_cell1 (f := fun t : List UInt8 => Value.string ⟨t.toArray⟩) hc k hlt
      have hnot : ¬ (l[k].length ≤ 16) → ¬ ShL l := fun h q => h (q _ (List.getElem_mem hlt))
      have hsucc := take_all (p := fun t : List UInt8 => t.length ≤ 16) hall hlt
      have hfk := hf _ (List.getElem_mem hlt)
      clear hc hall
      generalize l[k] = t at c0 hnot hsucc hfk
      by_cases h1 : 16 < t.length
      · have hd := hid (decide_eq_false (hnot (by omega)))
        clear hnot hsucc
        go_wp2_with fail
        go_ret
        exact ⟨by rw [hd.out]; rfl, rfl⟩
      · have hs2 := hid (hsucc (by omega))
        clear hnot hsucc
        go_wp2_with fail
        go_roundw
        case rel => exact ⟨k + 1, hlt, by go_num, hs2.out, trivial⟩
        case measure => simp [intOf]; omega
    · obtain rfl : k = l.length := by omega
      rw [List.take_length] at hall
      have hd := hid (decide_eq_true (show ShL l from hall))
      clear hall
      go_wp2_with fail
      go_ret
      exact ⟨by rw [hd.out]; rfl, rfl⟩
/-- of literal slices: what is asked, the world grown by them -/
theorem within1 (most n : Int) (w : World) : Calls Try.prog 19 #[.int .i64 most, .slice (some ⟨w.heap.size, 0, none⟩) 1 1] (w.alloc (.cells #[.int .i64 n] 3)) fun e w' => e = .returned (.bool (decide (0 ≤ n ∧ n ≤ most))) ∧ Below w.heap.size w w' := by
  refine (wwithin_any most _ [n] _ (Sl.lit w [.int .i64 n] 3 (show 1 ≤ maxLen by decide))).mono ?_
  rintro _ w' ⟨rfl, rfl⟩
  exact ⟨by congr 3; simp [InL], (Below.refl _ _).alloc (Nat.le_refl _) _⟩
theorem within3 (most n m k : Int) (w : World) : Calls Try.prog 19 #[.int .i64 most, .slice (some ⟨w.heap.size, 0, none⟩) 3 3] (w.alloc (.cells #[.int .i64 n, .int .i64 m, .int .i64 k] 3)) fun e w' => e = .returned (.bool (decide ((0 ≤ n ∧ n ≤ most) ∧ (0 ≤ m ∧ m ≤ most) ∧ (0 ≤ k ∧ k ≤ most)))) ∧ Below w.heap.size w w' := by
  refine (wwithin_any most _ [n, m, k] _ (Sl.lit w [.int .i64 n, .int .i64 m, .int .i64 k] 3 (show 3 ≤ maxLen by decide))).mono ?_
  rintro _ w' ⟨rfl, rfl⟩
  exact ⟨by congr 3; simp [InL], (Below.refl _ _).alloc (Nat.le_refl _) _⟩
theorem short1 (a : List UInt8) (ha : a.length ≤ 140737488355328) (w : World) : Calls Try.prog 20 #[.slice (some ⟨w.heap.size, 0, none⟩) 1 1] (w.alloc (.cells #[.string ⟨a.toArray⟩] 9)) fun e w' => e = .returned (.bool (decide (a.length ≤ 16))) ∧ Below w.heap.size w w' := by
  refine (wshort_any _ [a] _ (Sl.lit w [.string ⟨a.toArray⟩] 9 (show 1 ≤ maxLen by decide)) (by simpa using ha)).mono ?_
  rintro _ w' ⟨rfl, rfl⟩
  exact ⟨by congr 3; simp [ShL], (Below.refl _ _).alloc (Nat.le_refl _) _⟩
theorem short3 (a b c : List UInt8) (ha : a.length ≤ 140737488355328) (hb : b.length ≤ 140737488355328) (hc : c.length ≤ 140737488355328) (w : World) : Calls Try.prog 20 #[.slice (some ⟨w.heap.size, 0, none⟩) 3 3] (w.alloc (.cells #[.string ⟨a.toArray⟩, .string ⟨b.toArray⟩, .string ⟨c.toArray⟩] 9)) fun e w' => e = .returned (.bool (decide (a.length ≤ 16 ∧ b.length ≤ 16 ∧ c.length ≤ 16))) ∧ Below w.heap.size w w' := by
  refine (wshort_any _ [a, b, c] _ (Sl.lit w [.string ⟨a.toArray⟩, .string ⟨b.toArray⟩, .string ⟨c.toArray⟩] 9 (show 3 ≤ maxLen by decide)) (by simp [ha, hb, hc])).mono ?_
  rintro _ w' ⟨rfl, rfl⟩
  exact ⟨by congr 3; simp [ShL], (Below.refl _ _).alloc (Nat.le_refl _) _⟩
theorem wbit_any (b : Bool) (w : World) : Calls Try.prog 24 #[.bool b] w fun e w' => e = .returned (.int .u64 (udN b)) ∧ w' = w := by
  cases b
  all_goals
    go_enter Try.func24, Try.ntmps24
    go_wp2
    go_ret
    exact ⟨rfl, rfl⟩
theorem win_any (n most : Int) (w : World) : Calls Try.prog 36 #[.int .i64 n, .int .i64 most] w fun e w' => e = .returned (.bool (decide (0 ≤ n ∧ n ≤ most))) ∧ w' = w := by
  by_cases h1 : 0 ≤ n
  · by_cases h2 : n ≤ most
    · rw [decide_eq_true (show 0 ≤ n ∧ n ≤ most from ⟨h1, h2⟩)]
      go_enter Try.func36, Try.ntmps36
      go_wp2
      go_ret
      exact ⟨rfl, rfl⟩
    · rw [decide_eq_false (show ¬ (0 ≤ n ∧ n ≤ most) from fun q => h2 q.2)]
      go_enter Try.func36, Try.ntmps36
      go_wp2
      go_ret
      exact ⟨rfl, rfl⟩
  · rw [decide_eq_false (show ¬ (0 ≤ n ∧ n ≤ most) from fun q => h1 q.1)]
    go_enter Try.func36, Try.ntmps36
    go_wp2
    go_ret
    exact ⟨rfl, rfl⟩
theorem wyes_any (b : Bool) (w : World) : Calls Try.prog 40 #[.bool b] w fun e w' => e = .returned (.string ⟨(putL (udN b)).toArray⟩) ∧ Below w.heap.size w w' := by
  cases b
  all_goals
    go_enter Try.func40, Try.ntmps40
    go_wp2_with fail
    refine (rint_any _ (by omega) (by omega) _).mono ?_
    rintro e w1 ⟨rfl, hb1⟩
    go_wp2_with fail
    go_ret
    exact ⟨rfl, hb1⟩
end Go.Proofs.Ytelacmchofehcaa
namespace Go.Proofs.Ytelacmchofehcaa
open Go.RowKit
set_option linter.unusedVariables false

def cmc (c : Cm) : List Value := [.int .i64 c.1, .int .i64 c.2.1, .bool c.2.2]
theorem cmc_len (c : Cm) : (cmc c).length = 3 := rfl
theorem cmc_one (c : Cm) : ∀ u ∈ cmc c, u.oneCell' = true := by
  intro u hu
  simp only [cmc, List.mem_cons, List.not_mem_nil, or_false] at hu
  rcases hu with rfl | rfl | rfl <;> rfl
theorem cm_cell {w : World} {l : List Cm} {b off : Nat} (hc : ∀ j (_ : j < (l.flatMap cmc).length), w.cell? ⟨b, off + j, none⟩ = some (l.flatMap cmc)[j]) (k j : Nat) (hj : j < 3) (hk : k < l.length) (v : Value) (hv : (cmc l[k])[j]? = some v) : w.cell? ⟨b, off + k * 3 + j, none⟩ = some v := by
  rw [Nat.add_assoc]; exact Sl.cell cmc_len hc k j hj hk v hv
/-- twelve cells in a block -/
structure H12 (w0 w : World) (g : Nat) (a0 a1 a2 a3 a4 a5 a6 a7 a8 a9 a10 a11 : Value) : Prop where
  c0 : w.cell? ⟨g, 0, none⟩ = some a0
  c1 : w.cell? ⟨g, 1, none⟩ = some a1
  c2 : w.cell? ⟨g, 2, none⟩ = some a2
  c3 : w.cell? ⟨g, 3, none⟩ = some a3
  c4 : w.cell? ⟨g, 4, none⟩ = some a4
  c5 : w.cell? ⟨g, 5, none⟩ = some a5
  c6 : w.cell? ⟨g, 6, none⟩ = some a6
  c7 : w.cell? ⟨g, 7, none⟩ = some a7
  c8 : w.cell? ⟨g, 8, none⟩ = some a8
  c9 : w.cell? ⟨g, 9, none⟩ = some a9
  c10 : w.cell? ⟨g, 10, none⟩ = some a10
  c11 : w.cell? ⟨g, 11, none⟩ = some a11
  below : Below w0.heap.size w0 w
  lt : g < w.heap.size
theorem H12.next {w0 w w' : World} {g : Nat} {a0 a1 a2 a3 a4 a5 a6 a7 a8 a9 a10 a11 : Value} (h : H12 w0 w g a0 a1 a2 a3 a4 a5 a6 a7 a8 a9 a10 a11) (b : Below w.heap.size w w') : H12 w0 w' g a0 a1 a2 a3 a4 a5 a6 a7 a8 a9 a10 a11 :=
  ⟨(b.cell (p := ⟨g, 0, none⟩) h.lt).trans h.c0, (b.cell (p := ⟨g, 1, none⟩) h.lt).trans h.c1, (b.cell (p := ⟨g, 2, none⟩) h.lt).trans h.c2, (b.cell (p := ⟨g, 3, none⟩) h.lt).trans h.c3, (b.cell (p := ⟨g, 4, none⟩) h.lt).trans h.c4, (b.cell (p := ⟨g, 5, none⟩) h.lt).trans h.c5, (b.cell (p := ⟨g, 6, none⟩) h.lt).trans h.c6, (b.cell (p := ⟨g, 7, none⟩) h.lt).trans h.c7, (b.cell (p := ⟨g, 8, none⟩) h.lt).trans h.c8, (b.cell (p := ⟨g, 9, none⟩) h.lt).trans h.c9, (b.cell (p := ⟨g, 10, none⟩) h.lt).trans h.c10, (b.cell (p := ⟨g, 11, none⟩) h.lt).trans h.c11, bnext h.below b, Nat.lt_of_lt_of_le h.lt b.size⟩
theorem H12.new (w : World) (t : TypeId) (a0 a1 a2 a3 a4 a5 a6 a7 a8 a9 a10 a11 : Value) : H12 w (w.alloc (.cells #[a0, a1, a2, a3, a4, a5, a6, a7, a8, a9, a10, a11] t)) w.heap.size a0 a1 a2 a3 a4 a5 a6 a7 a8 a9 a10 a11 := by
  obtain ⟨W, hW⟩ : ∃ W, W = w.alloc (.cells #[a0, a1, a2, a3, a4, a5, a6, a7, a8, a9, a10, a11] t) := ⟨_, rfl⟩
  have bW : Below w.heap.size w W := by rw [hW]; exact (Below.refl _ _).alloc (Nat.le_refl _) _
  have hC : W.heap[w.heap.size]? = some (.cells #[a0, a1, a2, a3, a4, a5, a6, a7, a8, a9, a10, a11] t (0, 0)) := by rw [hW]; exact heap_alloc_new w _
  rw [← hW]
  refine ⟨?_, ?_, ?_, ?_, ?_, ?_, ?_, ?_, ?_, ?_, ?_, ?_, bW, (Array.getElem?_eq_some_iff.1 hC).1⟩
  · rw [cell_of_row W _ 0 _ _ (0, 0) hC]; rfl
  · rw [cell_of_row W _ 1 _ _ (0, 0) hC]; rfl
  · rw [cell_of_row W _ 2 _ _ (0, 0) hC]; rfl
  · rw [cell_of_row W _ 3 _ _ (0, 0) hC]; rfl
  · rw [cell_of_row W _ 4 _ _ (0, 0) hC]; rfl
  · rw [cell_of_row W _ 5 _ _ (0, 0) hC]; rfl
  · rw [cell_of_row W _ 6 _ _ (0, 0) hC]; rfl
  · rw [cell_of_row W _ 7 _ _ (0, 0) hC]; rfl
  · rw [cell_of_row W _ 8 _ _ (0, 0) hC]; rfl
  · rw [cell_of_row W _ 9 _ _ (0, 0) hC]; rfl
  · rw [cell_of_row W _ 10 _ _ (0, 0) hC]; rfl
  · rw [cell_of_row W _ 11 _ _ (0, 0) hC]; rfl
end Go.Proofs.Ytelacmchofehcaa
namespace Go.Proofs.Ytelacmchofehcaa
open Go.RowKit

/-- 9 cells in a block -/
structure H9 (w0 w : World) (g : Nat) (a0 a1 a2 a3 a4 a5 a6 a7 a8 : Value) : Prop where
  c0 : w.cell? ⟨g, 0, none⟩ = some a0
  c1 : w.cell? ⟨g, 1, none⟩ = some a1
  c2 : w.cell? ⟨g, 2, none⟩ = some a2
  c3 : w.cell? ⟨g, 3, none⟩ = some a3
  c4 : w.cell? ⟨g, 4, none⟩ = some a4
  c5 : w.cell? ⟨g, 5, none⟩ = some a5
  c6 : w.cell? ⟨g, 6, none⟩ = some a6
  c7 : w.cell? ⟨g, 7, none⟩ = some a7
  c8 : w.cell? ⟨g, 8, none⟩ = some a8
  below : Below w0.heap.size w0 w
  lt : g < w.heap.size
theorem H9.next {w0 w w' : World} {g : Nat} {a0 a1 a2 a3 a4 a5 a6 a7 a8 : Value} (h : H9 w0 w g a0 a1 a2 a3 a4 a5 a6 a7 a8) (b : Below w.heap.size w w') : H9 w0 w' g a0 a1 a2 a3 a4 a5 a6 a7 a8 :=
  ⟨(b.cell (p := ⟨g, 0, none⟩) h.lt).trans h.c0, (b.cell (p := ⟨g, 1, none⟩) h.lt).trans h.c1, (b.cell (p := ⟨g, 2, none⟩) h.lt).trans h.c2, (b.cell (p := ⟨g, 3, none⟩) h.lt).trans h.c3, (b.cell (p := ⟨g, 4, none⟩) h.lt).trans h.c4, (b.cell (p := ⟨g, 5, none⟩) h.lt).trans h.c5, (b.cell (p := ⟨g, 6, none⟩) h.lt).trans h.c6, (b.cell (p := ⟨g, 7, none⟩) h.lt).trans h.c7, (b.cell (p := ⟨g, 8, none⟩) h.lt).trans h.c8, bnext h.below b, Nat.lt_of_lt_of_le h.lt b.size⟩
theorem H9.new (w : World) (t : TypeId) (a0 a1 a2 a3 a4 a5 a6 a7 a8 : Value) : H9 w (w.alloc (.cells #[a0, a1, a2, a3, a4, a5, a6, a7, a8] t)) w.heap.size a0 a1 a2 a3 a4 a5 a6 a7 a8 := by
  obtain ⟨W, hW⟩ : ∃ W, W = w.alloc (.cells #[a0, a1, a2, a3, a4, a5, a6, a7, a8] t) := ⟨_, rfl⟩
  have bW : Below w.heap.size w W := by rw [hW]; exact (Below.refl _ _).alloc (Nat.le_refl _) _
  have hC : W.heap[w.heap.size]? = some (.cells #[a0, a1, a2, a3, a4, a5, a6, a7, a8] t (0, 0)) := by rw [hW]; exact heap_alloc_new w _
  rw [← hW]
  refine ⟨?_, ?_, ?_, ?_, ?_, ?_, ?_, ?_, ?_, bW, (Array.getElem?_eq_some_iff.1 hC).1⟩
  · rw [cell_of_row W _ 0 _ _ (0, 0) hC]; rfl
  · rw [cell_of_row W _ 1 _ _ (0, 0) hC]; rfl
  · rw [cell_of_row W _ 2 _ _ (0, 0) hC]; rfl
  · rw [cell_of_row W _ 3 _ _ (0, 0) hC]; rfl
  · rw [cell_of_row W _ 4 _ _ (0, 0) hC]; rfl
  · rw [cell_of_row W _ 5 _ _ (0, 0) hC]; rfl
  · rw [cell_of_row W _ 6 _ _ (0, 0) hC]; rfl
  · rw [cell_of_row W _ 7 _ _ (0, 0) hC]; rfl
  · rw [cell_of_row W _ 8 _ _ (0, 0) hC]; rfl
end Go.Proofs.Ytelacmchofehcaa
namespace Go.Proofs.Ytelacmchofehcaa
open Go.RowKit
set_option linter.unusedVariables false

theorem Sl.at {w w' : World} {v : Value} {k n g : Nat} {cells : List Value} (h : Sl w v k n cells) (a : At g w w') (hno : n ≠ 0 → ∀ off, ¬ (∀ j (_ : j < cells.length), w.cell? ⟨g, off + j, Option.none⟩ = some cells[j])) : Sl w' v k n cells := by
  obtain ⟨h1, h2, ad, cap, h3, h4⟩ := h
  refine ⟨h1, h2, ad, cap, h3, ?_⟩
  by_cases hn : n = 0
  · exact .inl hn
  · obtain ⟨b, off, rfl, hlt, hc⟩ := h4.resolve_left hn
    refine .inr ⟨b, off, rfl, Nat.lt_of_lt_of_le hlt a.size, fun j hj => ?_⟩
    have hb : b ≠ g := by
      rintro rfl
      exact hno hn off hc
    rw [← hc j hj]
    exact World.cell?_of_block (w := w) (a.block b hlt (by simpa using hb))
theorem row_cell {w : World} {g : Nat} {row : Array Value} {t : TypeId} (h : w.heap[g]? = some (.cells row t (0, 0))) (j : Nat) : w.cell? ⟨g, j, none⟩ = row[j]? := cell_of_row w g j _ _ (0, 0) h
theorem events_apart {w : World} {g : Nat} {l : List Ev} {a0 a1 a2 a3 a5 a6 a7 a8 : Value} {s : ByteArray} {t : TypeId} (h : w.heap[g]? = some (.cells #[a0, a1, a2, a3, .string s, a5, a6, a7, a8] t (0, 0))) :
    l.length ≠ 0 → ∀ off, ¬ (∀ j (_ : j < (l.flatMap evc).length), w.cell? ⟨g, off + j, none⟩ = some (l.flatMap evc)[j]) := by
  intro hn off hall
  cases l with
  | nil => exact hn rfl
  | cons x r =>
    obtain ⟨id, kd, tk, rf, sp, ty, ud, dt⟩ := x
    have hl : 8 ≤ (((id, kd, tk, rf, sp, ty, ud, dt) :: r : List Ev).flatMap evc).length := by rw [List.flatMap_cons, List.length_append, evc_len]; omega
    have h3 := hall 3 (by omega)
    have h4 := hall 4 (by omega)
    have h7 := hall 7 (by omega)
    rw [row_cell h] at h3 h4 h7
    simp only [List.flatMap_cons, evc, List.cons_append, List.nil_append, List.getElem_cons_succ, List.getElem_cons_zero] at h3 h4 h7
    have : off + 7 < 9 := (Array.getElem?_eq_some_iff.1 h7).1
    rcases (by omega : off = 0 ∨ off = 1) with rfl | rfl
    · simp at h4
    · simp at h3
theorem steps_apart {w : World} {g : Nat} {l : List St} {a0 a5 a7 a8 a9 a10 a11 : Value} {s1 s2 s3 : ByteArray} {p q : Option Addr} {i j i' j' : Nat} {t : TypeId} (h : w.heap[g]? = some (.cells #[a0, .string s1, .string s2, .string s3, .slice p i j, a5, .slice q i' j', a7, a8, a9, a10, a11] t (0, 0))) :
    l.length ≠ 0 → ∀ off, ¬ (∀ j (_ : j < (l.flatMap stC).length), w.cell? ⟨g, off + j, none⟩ = some (l.flatMap stC)[j]) := by
  intro hn off hall
  cases l with
  | nil => exact hn rfl
  | cons x r =>
    obtain ⟨kd, nm, un, tr, ut, wt⟩ := x
    have hl : 6 ≤ (((kd, nm, un, tr, ut, wt) :: r : List St).flatMap stC).length := by rw [List.flatMap_cons, List.length_append]; simp [stC]
    have h0 := hall 0 (by omega)
    have h1 := hall 1 (by omega)
    have h3 := hall 3 (by omega)
    have h5 := hall 5 (by omega)
    rw [row_cell h] at h0 h1 h3 h5
    simp only [List.flatMap_cons, stC, List.cons_append, List.nil_append, List.getElem_cons_succ, List.getElem_cons_zero] at h0 h1 h3 h5
    have : off + 5 < 12 := (Array.getElem?_eq_some_iff.1 h5).1
    rcases (by omega : off = 0 ∨ off = 1 ∨ off = 2 ∨ off = 3 ∨ off = 4 ∨ off = 5 ∨ off = 6) with rfl | rfl | rfl | rfl | rfl | rfl | rfl
    · simp at h3
    · simp at h0
    · simp at h0
    · simp at h0
    · simp at h0
    · simp at h1
    · simp at h0
end Go.Proofs.Ytelacmchofehcaa
namespace Go.Proofs.Ytelacmchofehcaa
open Go.RowKit
set_option linter.unusedVariables false

structure RqSt (w0 wL w : World) (g gr gx : Nat) (Z X : Array Value) (t : TypeId) (r : List UInt8) (b : Bool) : Prop where
  hr : Rdr w g r b
  hQ : w.heap[gr]? = some (.cells Z t (0, 0))
  hX : w.heap[gx]? = some (.cells X t (0, 0))
  hb : Below w0.heap.size w0 w
  len : r.length ≤ maxLen
  hk : ∀ j, j < wL.heap.size → j ≠ g → j ≠ gx → w.heap[j]? = wL.heap[j]?
  hsz : wL.heap.size ≤ w.heap.size
section
variable {w0 wL w w' : World} {g gr gx : Nat} {Z X : Array Value} {t : TypeId} {r r' : List UInt8} {b b' : Bool}
theorem RqSt.cell (h : RqSt w0 wL w g gr gx Z X t r b) {j : Nat} {v : Value} (hv : X[j]? = some v) : w.cell? ⟨gx, j, none⟩ = some v := by rw [row_cell h.hX]; exact hv
theorem RqSt.frozen (h : RqSt w0 wL w g gr gx Z X t r b) (j : Nat) : w.frozen? ⟨gx, j, none⟩ = false := frozen_of_row w _ j _ _ h.hX
theorem RqSt.rd (h : RqSt w0 wL w g gr gx Z X t r b) (hr' : Rdr w' g r' b') (a : At g w w') (hl : r'.length ≤ r.length) (n1 : gr ≠ g) (nx : gx ≠ g) (n3 : w0.heap.size ≤ g) : RqSt w0 wL w' g gr gx Z X t r' b' :=
  ⟨hr', (a.block gr (Array.getElem?_eq_some_iff.1 h.hQ).1 (by simpa using n1)).trans h.hQ, (a.block gx (Array.getElem?_eq_some_iff.1 h.hX).1 (by simpa using nx)).trans h.hX, At.below h.hb a n3, Nat.le_trans hl h.len,
    fun j hj j1 j2 => (a.block j (Nat.lt_of_lt_of_le hj h.hsz) (by simpa using j1)).trans (h.hk j hj j1 j2), Nat.le_trans h.hsz a.size⟩
theorem RqSt.below (h : RqSt w0 wL w g gr gx Z X t r b) (k : Below w.heap.size w w') : RqSt w0 wL w' g gr gx Z X t r b :=
  ⟨h.hr.keep k, (k.block _ (Array.getElem?_eq_some_iff.1 h.hQ).1).trans h.hQ, (k.block _ (Array.getElem?_eq_some_iff.1 h.hX).1).trans h.hX, bnext h.hb k, h.len,
    fun j hj j1 j2 => (k.block j (Nat.lt_of_lt_of_le hj h.hsz)).trans (h.hk j hj j1 j2), Nat.le_trans h.hsz k.size⟩
theorem RqSt.grown (h : RqSt w0 wL w g gr gx Z X t r b) {e : TypeId} {k n : Nat} {u : Value} {xs : List Value} (ho : w.ownsRow wL.heap.size e k u n xs) (hg : w.grownBy w' u.ownBlock) (hg' : g < wL.heap.size) (hgr : gr < wL.heap.size) (hgx : gx < wL.heap.size) (h0 : w0.heap.size ≤ wL.heap.size) : RqSt w0 wL w' g gr gx Z X t r b := by
  have hl : ∀ j, j < wL.heap.size → w'.heap[j]? = w.heap[j]? := fun j hj => hg.block j (Nat.lt_of_lt_of_le hj h.hsz) (by
    cases hv : u.ownBlock with
    | none => simp
    | some q => have := (ho.lt q hv).1; simp; omega)
  exact ⟨(hl g hg').trans h.hr, (hl gr hgr).trans h.hQ, (hl gx hgx).trans h.hX, below_grown h.hb ho hg h0, h.len, fun j hj j1 j2 => (hl j hj).trans (h.hk j hj j1 j2), Nat.le_trans h.hsz hg.size⟩
theorem RqSt.store (h : RqSt w0 wL w g gr gx Z X t r b) (j : Nat) (v : Value) (n1 : g ≠ gx) (nq : gr ≠ gx) (n4 : w0.heap.size ≤ gx) : RqSt w0 wL (w.setCell ⟨gx, j, none⟩ v) g gr gx Z (X.setIfInBounds j v) t r b := by
  have a := (At.refl gx w).set j v
  exact ⟨h.hr.grown a n1, (a.block gr (Array.getElem?_eq_some_iff.1 h.hQ).1 (by simpa using nq)).trans h.hQ, heap_setCell_same w gx j _ _ v h.hX, At.below h.hb a n4, h.len,
    fun i hi j1 j2 => (a.block i (Nat.lt_of_lt_of_le hi h.hsz) (by simpa using j2)).trans (h.hk i hi j1 j2), Nat.le_trans h.hsz a.size⟩
theorem RqSt.sl (h : RqSt w0 wL w g gr gx Z X t r b) {v : Value} {k n : Nat} {cells : List Value} (hs : Sl wL v k n cells) (h1 : n ≠ 0 → ∀ off, ¬ (∀ j (_ : j < cells.length), wL.cell? ⟨g, off + j, none⟩ = some cells[j])) (h2 : n ≠ 0 → ∀ off, ¬ (∀ j (_ : j < cells.length), wL.cell? ⟨gx, off + j, none⟩ = some cells[j])) : Sl w v k n cells := by
  obtain ⟨g1, g2, ad, cap, g3, g4⟩ := hs
  refine ⟨g1, g2, ad, cap, g3, ?_⟩
  by_cases hn : n = 0
  · exact .inl hn
  · obtain ⟨q, off, rfl, hlt, hc⟩ := g4.resolve_left hn
    refine .inr ⟨q, off, rfl, Nat.lt_of_lt_of_le hlt h.hsz, fun j hj => ?_⟩
    have e1 : q ≠ g := by rintro rfl; exact h1 hn off hc
    have e2 : q ≠ gx := by rintro rfl; exact h2 hn off hc
    rw [← hc j hj]
    exact World.cell?_of_block (w := wL) (h.hk q hlt e1 e2)
theorem own_at_lt {B n k : Nat} {e : TypeId} {v : Value} {xs : List Value} (h : w.ownsRow B e k v n xs) (a : At g w w') (hg : g < B) : w'.ownsRow B e k v n xs := by
  refine h.kept a ?_
  cases hv : v.ownBlock with
  | none => exact .inl rfl
  | some q => exact .inr (by have := (h.lt q hv).1; simp; omega)
end
end Go.Proofs.Ytelacmchofehcaa
