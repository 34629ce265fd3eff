/- CONTRACTS: the number of the block in which a key would stand (table.block, its closure, sort.Search); table.Len. -/
import Derived.Test.YtfdbcnpbjabjoaaTabOpen
import Derived.Deep.LoopGhost
import Derived.Deep.Draws
import Derived.Deep.QuietTactic
import Derived.BigQuiet
import Derived.Lib.MinMax
import Derived.Shelf.Abstract
namespace Go.Proofs.Ytfdbcnpbjabjoaa
open Go.RowKit Go.Shelf
set_option linter.unusedVariables false
set_option linter.unusedSimpArgs false

/-- how many there are that do not stand behind the key -/
def upK (fs : List (List UInt8)) (key : List UInt8) : Nat := (List.range fs.length).countP (fun i => !ltB key (fs[i]?.getD []))
def blockK (fs : List (List UInt8)) (key : List UInt8) : Nat := upK fs key - 1
def MonoK (fs : List (List UInt8)) : Prop := ∀ a b, a ≤ b → b < fs.length → ∀ key, ltB key (fs[a]?.getD []) = true → ltB key (fs[b]?.getD []) = true
theorem binOp_gtr_tab (t : TypeId) (a b : ByteArray) : binOp .gtr t (.string a) (.string b) = pure (.bool !(Op.bytesLess a.toList b.toList || a.toList == b.toList)) := by simp [binOp, Op.stringOp]
attribute [local go_sem] binOp_gtr_tab
/-- the closure's two boxes -/
structure BxAt (w : World) (g bt bk : Nat) (t : Tb) (key : List UInt8) : Prop where
  c1 : w.cell? ⟨bt, 0, none⟩ = some (.pointer (some ⟨g, 0, none⟩))
  c2 : w.cell? ⟨bk, 0, none⟩ = some (.string ⟨key.toArray⟩)
  tab : TabAt w g t
theorem TabAt.drewN {w : World} {g : Nat} {t : Tb} (h : TabAt w g t) (m : Nat) : TabAt (w.drewN m) g t := h.below (below_drewN _ _ _)
theorem BxAt.drewN {w : World} {g bt bk : Nat} {t : Tb} {key : List UInt8} (h : BxAt w g bt bk t key) (m : Nat) : BxAt (w.drewN m) g bt bk t key := ⟨h.c1, h.c2, h.tab.drewN m⟩
set_option maxHeartbeats 3200000 in
set_option maxRecDepth 100000 in
theorem above_any (g bt bk : Nat) (t : Tb) (key : List UInt8) (i : Nat) (hi : i < t.fs.length) (w : World) (h : BxAt w g bt bk t key) :
    Calls Try.prog 84 #[.int .i64 (i : Int), .pointer (some ⟨bt, 0, none⟩), .pointer (some ⟨bk, 0, none⟩)] w fun e w' => e = .returned (.bool (ltB key (t.fs[i]?.getD []))) ∧ ∃ q, w' = w.drewN q := by
  obtain ⟨c1, c2, ht⟩ := h
  obtain ⟨fa, fc, ba, bc, hr, hf, -, -⟩ := ht.row
  have hm : t.fs.length ≤ 9223372036854775807 := hf.2.1.1
  obtain ⟨_, _, a', cap', hv, hc⟩ := hf
  rw [Value.slice.injEq] at hv
  obtain ⟨rfl, -, rfl⟩ := hv
  obtain ⟨b, off, rfl, hblt, hc⟩ := hc.resolve_left (by omega)
  have hci : w.cell? ⟨b, off + i, none⟩ = some (.string ⟨t.fs[i].toArray⟩) := by
    rw [hc i (by rw [List.length_map]; exact hi), List.getElem_map]; rfl
  have d0 : w.cell? ⟨g, 0, none⟩ = some (.slice (some ⟨b, off, none⟩) t.fs.length fc) := by rw [cell_of_row _ _ 0 _ _ (0, 0) hr]; rfl
  rw [List.getElem?_eq_getElem hi, Option.getD_some]
  generalize t.fs[i] = fi at *
  have hi0 : (0 : Int) ≤ (i : Int) := by omega
  have hi1 : (i : Int) < (t.fs.length : Int) := by omega
  have hq := hid (show (!(Op.bytesLess fi key || fi == key)) = ltB key fi by rw [leB_eq fi key]; simp)
  clear hc hr
  go_enter Try.func84, Try.ntmps84
  go_wp2_with fail
  go_quiet (fail)
  go_wp2_with fail
  go_ret
  exact ⟨by rw [← hq.out, Bool.not_or]; rfl, _, rfl⟩
set_option maxHeartbeats 4000000 in
set_option maxRecDepth 100000 in
theorem search_any (g bt bk : Nat) (t : Tb) (key : List UInt8) (hl : t.fs.length ≤ 1048576) (hmono : MonoK t.fs) (w : World) (h : BxAt w g bt bk t key) :
    Calls Try.prog 83 #[.int .i64 (t.fs.length : Int), .func (.func 84) #[] #[.pointer (some ⟨bt, 0, none⟩), .pointer (some ⟨bk, 0, none⟩)]] w fun e w' => e = .returned (.int .i64 (upK t.fs key : Nat)) ∧ ∃ q, w' = w.drewN q := by
  have HF := hid (fun (m i : Nat) (q : i < t.fs.length) => above_any g bt bk t key i q (w.drewN m) (h.drewN m))
  have M := hid hmono
  obtain ⟨cnt, hcnt⟩ : ∃ c, c = upK t.fs key := ⟨_, rfl⟩
  rw [← hcnt]
  have CN := hid hcnt
  obtain ⟨n, hn⟩ : ∃ n, n = t.fs.length := ⟨_, rfl⟩
  have NN := hid hn
  have hl' : n ≤ 1048576 := by omega
  have eg : ∀ args w, (callFunc 84 args).run Try.prog w = .ok (.enter 84 args) w := enters_of Try.func84 (by kernel_rfl) rfl
  rw [← hn]
  clear hcnt hmono hn hl h
  go_enter Try.func83, Try.ntmps83
  go_wp2_with fail
  go_loopg [5, 6] n (fun kx s5 s6 wr => ∃ (lo hi q : Nat), s5 = .int .i64 (lo : Int) ∧ s6 = .int .i64 (hi : Int) ∧ lo ≤ hi ∧ hi ≤ n ∧ hi - lo ≤ kx ∧ wr = w.drewN q ∧ Hid ((∀ x, x < lo → ltB key (t.fs[x]?.getD []) = false) ∧ (∀ x, hi ≤ x → x < n → ltB key (t.fs[x]?.getD []) = true)))
  case atStart => exact ⟨0, n, 0, rfl, rfl, Nat.zero_le _, Nat.le_refl _, by omega, rfl, (⟨fun x hx => absurd hx (Nat.not_lt_zero _), fun x h1 h2 => by omega⟩ : (∀ x, x < 0 → ltB key (t.fs[x]?.getD []) = false) ∧ (∀ x, n ≤ x → x < n → ltB key (t.fs[x]?.getD []) = true))⟩
  case round =>
    obtain ⟨lo, hi, q, rfl, rfl, hlh, hin, hg, rfl, I⟩ := hrel
    by_cases hlt : lo < hi
    · have hc := HF.out q ((lo + hi) / 2) (by rw [← NN.out]; omega)
      rw [show (((lo + hi) / 2 : Nat) : Int) = ((lo : Int) + (hi : Int)) / 2 by omega] at hc
      cases hp : ltB key (t.fs[(lo + hi) / 2]?.getD []) <;> rw [hp] at hc
      · have HP := hid hp
        clear hp
        go_wp2_with (go_at_fn 84; refine hc.mono ?_; rintro e w' ⟨rfl, nq, rfl⟩)
        go_roundg (hi - ((lo + hi) / 2 + 1))
        case measure => omega
        case rel =>
          exact ⟨(lo + hi) / 2 + 1, hi, q + nq, by rw [show ((lo : Int) + (hi : Int)) / 2 + 1 = (((lo + hi) / 2 + 1 : Nat) : Int) by omega], rfl, by omega, hin, Nat.le_refl _, rfl, (⟨fun x hx => (by
            cases hy : ltB key (t.fs[x]?.getD []) with
            | false => rfl
            | true => have := M.out x ((lo + hi) / 2) (by omega) (by rw [← NN.out]; omega) key hy; rw [HP.out] at this; cases this), I.out.2⟩ : (∀ x, x < (lo + hi) / 2 + 1 → ltB key (t.fs[x]?.getD []) = false) ∧ (∀ x, hi ≤ x → x < n → ltB key (t.fs[x]?.getD []) = true))⟩
      · have HP := hid hp
        clear hp
        go_wp2_with (go_at_fn 84; refine hc.mono ?_; rintro e w' ⟨rfl, nq, rfl⟩)
        go_roundg ((lo + hi) / 2 - lo)
        case measure => omega
        case rel =>
          exact ⟨lo, (lo + hi) / 2, q + nq, rfl, by rw [show ((lo : Int) + (hi : Int)) / 2 = (((lo + hi) / 2 : Nat) : Int) by omega], by omega, by omega, Nat.le_refl _, rfl, (⟨I.out.1, fun x hx hxn => M.out ((lo + hi) / 2) x hx (by rw [← NN.out]; exact hxn) key HP.out⟩ : (∀ x, x < lo → ltB key (t.fs[x]?.getD []) = false) ∧ (∀ x, (lo + hi) / 2 ≤ x → x < n → ltB key (t.fs[x]?.getD []) = true))⟩
    · obtain rfl : hi = lo := by omega
      have ecnt : cnt = hi := by
        rw [CN.out]
        unfold upK
        rw [← NN.out]
        have e : List.range n = List.range hi ++ (List.range (n - hi)).map (hi + ·) := by
          rw [← List.range_add]; congr 1; omega
        rw [e, List.countP_append]
        have h1 : (List.range hi).countP (fun i => !ltB key (t.fs[i]?.getD [])) = hi := by
          rw [List.countP_eq_length.2 (fun x hx => by simp [I.out.1 x (by simpa using hx)])]; simp
        have h2 : ((List.range (n - hi)).map (hi + ·)).countP (fun i => !ltB key (t.fs[i]?.getD [])) = 0 := by
          rw [List.countP_eq_zero]
          intro x hx
          obtain ⟨y, hy, rfl⟩ := List.mem_map.1 hx
          simp [I.out.2 (hi + y) (by omega) (by have := List.mem_range.1 hy; omega)]
        omega
      subst ecnt
      go_wp2_with fail
      go_ret
      exact ⟨rfl, q, rfl⟩
theorem upK_le (fs : List (List UInt8)) (key : List UInt8) : upK fs key ≤ fs.length := by
  unfold upK
  have := List.countP_le_length (p := fun i => !ltB key (fs[i]?.getD [])) (l := List.range fs.length)
  simpa using this
set_option maxHeartbeats 4000000 in
set_option maxRecDepth 100000 in
theorem block_any (g : Nat) (t : Tb) (key : List UInt8) (hl : t.fs.length ≤ 1048576) (hmono : MonoK t.fs) (w : World) (h : TabAt w g t) :
    Calls Try.prog 62 #[.pointer (some ⟨g, 0, none⟩), .string ⟨key.toArray⟩] w fun e w' => e = .returned (.int .i64 (blockK t.fs key : Nat)) ∧ Below w.heap.size w w' := by
  obtain ⟨w1, hw1⟩ : ∃ x, x = w.alloc (.cells #[.pointer (some ⟨g, 0, none⟩)] 61) := ⟨_, rfl⟩
  obtain ⟨w2, hw2⟩ : ∃ x, x = w1.alloc (.cells #[.string ⟨key.toArray⟩] 9) := ⟨_, rfl⟩
  have b1 : Below w.heap.size w w1 := by rw [hw1]; exact (Below.refl _ _).alloc (Nat.le_refl _) _
  have b2 : Below w1.heap.size w1 w2 := by rw [hw2]; exact (Below.refl _ _).alloc (Nat.le_refl _) _
  have e1 : w1.heap.size = w.heap.size + 1 := by rw [hw1, World.size_alloc]
  have hB := hid (bnext b1 b2)
  have r1 : w1.heap[w.heap.size]? = some (.cells #[.pointer (some ⟨g, 0, none⟩)] 61 (0, 0)) := by rw [hw1]; exact heap_alloc_new w _
  have r2 : w2.heap[w1.heap.size]? = some (.cells #[.string ⟨key.toArray⟩] 9 (0, 0)) := by rw [hw2]; exact heap_alloc_new w1 _
  have r1' := (b2.block _ (Array.getElem?_eq_some_iff.1 r1).1).trans r1
  have c1 : w2.cell? ⟨w.heap.size, 0, none⟩ = some (.pointer (some ⟨g, 0, none⟩)) := by rw [cell_of_row _ _ 0 _ _ (0, 0) r1']; rfl
  have c2 : w2.cell? ⟨w1.heap.size, 0, none⟩ = some (.string ⟨key.toArray⟩) := by rw [cell_of_row _ _ 0 _ _ (0, 0) r2]; rfl
  have ht2 := h.below hB.out
  have hs := search_any g w.heap.size w1.heap.size t key hl hmono w2 ⟨c1, c2, ht2⟩
  obtain ⟨fa, fc, ba, bc, hr, -, -, -⟩ := ht2.row
  have d0 : w2.cell? ⟨g, 0, none⟩ = some (.slice fa t.fs.length fc) := by rw [cell_of_row _ _ 0 _ _ (0, 0) hr]; rfl
  have hul := upK_le t.fs key
  have hbk : ((blockK t.fs key : Nat) : Int) = max 0 ((upK t.fs key : Nat) - 1 : Int) := by unfold blockK; omega
  rw [hbk]
  generalize upK t.fs key = u at *
  have hu1 : (u : Int) ≤ 1048576 := by omega
  have hu0 : (0 : Int) ≤ (u : Int) := by omega
  have HW1 := hid hw1
  have HW2 := hid hw2
  clear hw1 hw2 b1 b2 e1 ht2 hr hul hbk r1 r2 r1' h
  go_enter Try.func62, Try.ntmps62
  go_wp2_with (first | rw [← HW1.out] | rw [← HW2.out])
  refine hs.mono ?_
  rintro _ w3 ⟨rfl, q, rfl⟩
  go_wp2_with fail
  go_ret
  exact ⟨rfl, bnext hB.out (below_drewN _ _ _)⟩
theorem tlen_any (g : Nat) (t : Tb) (w : World) (h : TabAt w g t) :
    Calls Try.prog 28 #[.pointer (some ⟨g, 0, none⟩)] w fun e w' => e = .returned (.int .i64 (t.ps.length : Int)) ∧ w' = w := by
  obtain ⟨fa, fc, ba, bc, hr, -, -, -⟩ := h.row
  have d3 : w.cell? ⟨g, 3, none⟩ = some (.int .i64 (t.ps.length : Int)) := by rw [cell_of_row _ _ 3 _ _ (0, 0) hr]; rfl
  clear hr h
  go_enter Try.func28, Try.ntmps28
  go_wp2_with fail
  go_ret
  exact ⟨rfl, rfl⟩
end Go.Proofs.Ytfdbcnpbjabjoaa
