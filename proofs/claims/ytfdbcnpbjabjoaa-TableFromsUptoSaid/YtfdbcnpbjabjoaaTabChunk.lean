/- CONTRACTS: slices.Chunk at pairs, eight by eight: an iterator over slices. -/
import Derived.RangeFuncNested
import Derived.RangeFuncBound
import Derived.RangeFuncBox
import Derived.RangeFuncCalls
import Derived.RangeFuncLeaves
import Derived.Shelf.Abstract
import Derived.WalkKit
import Derived.OwnWalkIn
import Derived.TacticsInMore
import Derived.LoopNIn
import Derived.LoopIn
import Derived.Test.YtfdbcnpbjabjoaaTabPairs
import Derived.Test.YtfdbcnpbjabjoaaTabO
namespace Go.Proofs.Ytfdbcnpbjabjoaa
open Go.RowKit Go.Shelf
set_option linter.unusedVariables false
set_option linter.unusedSimpArgs false

attribute [local go_sem] Oper.semAt_some

/-- the j-th slice -/
def chV (b off n j : Nat) : Value := .slice (some ⟨b, off + 8 * j * 3, none⟩) (min 8 (n - 8 * j)) (min 8 (n - 8 * j))
def chE (b off n j : Nat) : Array Value := #[chV b off n j]
/-- what a loop's body keeps: Chunk's own boxes -/
structure KpC (bs bn : Nat) (A B : World) : Prop where
  s : B.heap[bs]? = A.heap[bs]?
  n : B.heap[bn]? = A.heap[bn]?
theorem KpC.refl (bs bn : Nat) (A : World) : KpC bs bn A A := ⟨rfl, rfl⟩
theorem KpC.trans {bs bn : Nat} {A B C : World} (h : KpC bs bn A B) (k : KpC bs bn B C) : KpC bs bn A C := ⟨k.s.trans h.s, k.n.trans h.n⟩
theorem KpC.put {bs bn : Nat} (W : World) (l : Nat) (o' : Obj) (h1 : bs ≠ l) (h2 : bn ≠ l) : KpC bs bn W (W.putObj l o') := ⟨World.putObj_heap_other h1, World.putObj_heap_other h2⟩
theorem KpC.below {bs bn : Nat} {A B : World} (h : Below A.heap.size A B) (h1 : bs < A.heap.size) (h2 : bn < A.heap.size) : KpC bs bn A B := ⟨h.block _ h1, h.block _ h2⟩
def chN (n : Nat) : Nat := (n + 7) / 8
theorem ch_nums {m n cap : Nat} (hmn : m < n) (hn : n ≤ 1099511627776) (hcap : n ≤ cap) : ∃ e p : Nat, e = min 8 (n - m) ∧ min (8 : Int) ((n - m : Nat) : Int) = (e : Int) ∧ wrap64 ((m : Int) + (e : Int)) = (p : Int) ∧ p - m = e ∧ ¬ p = m ∧ (m : Int) ≤ (p : Int) ∧ (p : Int) ≤ (cap : Int) ∧ (0 : Int) ≤ (p : Int) ∧ 1 ≤ e ∧ e ≤ 8 ∧ True := by
  refine ⟨min 8 (n - m), m + min 8 (n - m), rfl, by omega, ?_, by omega, by omega, by omega, by omega, by omega, by omega, by omega, trivial⟩
  unfold wrap64; omega
set_option maxRecDepth 100000 in
set_option maxHeartbeats 8000000 in
theorem chunk1_in (k : Nat) (hk : 3 ≤ k) (l bs bn b off n cap : Nat) (hn : n ≤ 1099511627776) (hcap : n ≤ cap) (J Jx : List (Fin (chN n)) → World → Prop) (W : World) (T1 T2 : TypeId)
    (hY : ∀ pre p W1, J pre W1 → pre.length < chN n → YieldAt Fence.wide (k - 1) Try.prog l (chE b off n p.val) W1 fun e W' =>
      (e = .returned (.bool true) ∧ J (pre ++ [p]) W' ∧ KpC bs bn W1 W') ∨ (e = .returned (.bool false) ∧ Jx (pre ++ [p]) W'))
    (hbs : W.heap[bs]? = some (.cells #[.slice (some ⟨b, off, none⟩) n cap] T1 (0, 0))) (hbn : W.heap[bn]? = some (.cells #[.int .i64 8] T2 (0, 0))) (h0 : J [] W) (hJd : ∀ s V, J s V → J s V.drew) :
    CallsIn Fence.wide k Try.prog 67 #[.func (.yield l) #[] #[], .pointer (some ⟨bs, 0, none⟩), .pointer (some ⟨bn, 0, none⟩)] W fun e W' => (∃ v, e = .returned v) ∧
      ((∃ ys, ys = List.finRange (chN n) ∧ J ys W') ∨ (∃ pre, True ∧ Jx pre W')) := by
  refine callsIn_of_wp Try.func67 rfl trivial ?_ rfl
  simp only [Try.ntmps67, List.size_toArray, List.length_cons, List.length_nil, Nat.reduceAdd, Nat.reduceSub, Array.replicate_succ, Array.replicate_zero, List.push_toArray, List.append_toArray, List.nil_append, List.cons_append]
  have HY := hid hY
  have HJD := hid hJd
  have HK := hid (show ∀ V : World, KpC bs bn W V → V.cell? ⟨bs, 0, none⟩ = some (.slice (some ⟨b, off, none⟩) n cap) ∧ V.cell? ⟨bn, 0, none⟩ = some (.int .i64 8) from fun V q => ⟨by rw [cell_of_row _ _ 0 _ _ (0, 0) (q.s.trans hbs)]; rfl, by rw [cell_of_row _ _ 0 _ _ (0, 0) (q.n.trans hbn)]; rfl⟩)
  clear hY hJd hbs hbn
  gi_wp2
  gi_loopw [4] (fun i wr => ∃ j : Nat, j ≤ chN n ∧ i = .int .i64 (8 * j : Nat) ∧ KpC bs bn W wr ∧ J ((List.finRange (chN n)).take j) wr) (fun i _ => 8 * chN n - (intOf i).toNat)
  case atStart => exact ⟨0, by omega, rfl, KpC.refl _ _ _, h0⟩
  case round =>
    obtain ⟨j, hj, rfl, hkp, hJs⟩ := hrel
    obtain ⟨c1, c2⟩ := HK.out wr hkp
    have hcn := hid (show chN n = (n + 7) / 8 from rfl)
    obtain ⟨m, hm⟩ : ∃ m, m = 8 * j := ⟨_, rfl⟩
    have HM := hid hm
    rw [← hm]
    by_cases hjq : j < chN n
    case neg =>
      obtain rfl : j = chN n := by omega
      have hmn : ¬ (m : Int) < (n : Int) := by have := hcn.out; omega
      rw [List.take_of_length_le (by simp)] at hJs
      clear hkp hjq hm
      gi_wp2
      go_end0
      exact ⟨⟨_, rfl⟩, .inl hJs⟩
    case pos =>
    have hmn : m < n := by have := hcn.out; omega
    have hmi : (m : Int) < (n : Int) := by omega
    have hm0 : (0 : Int) ≤ (m : Int) := by omega
    have hmc : ¬ cap = m := by omega
    have hnc : (n : Int) ≤ (cap : Int) := by omega
    have hmn2 : (m : Int) ≤ (n : Int) := by omega
    clear hm
    gi_wp2
    refine wpIn_wide.2 ?_
    refine wp_region_noPanic ?_
    refine wp_region_held_drew (S := (fun w' => w'.cell? ⟨bs, 0, none⟩ = some (.slice (some ⟨b, off, none⟩) n cap) ∧ w'.cell? ⟨bn, 0, none⟩ = some (.int .i64 8))) (by kernel_rfl) ?_ (fun hHeld => ?_)
    · exact ⟨c1, c2⟩
    refine wpAnyH_take (i := 0) (oi := ?fo0) (v := ?fv0) ?fe0 (by kernel_rfl) (by kernel_rfl) (by kernel_rfl) (fun _ _ _ h => h) (Or.inl ⟨?fw0, ?fy0⟩) (by assumption) ?fr0
    case fe0 => ((simp only [List.getElem?_toArray, List.getElem?_cons_succ, List.getElem?_cons_zero]) <;> rfl)
    case fw0 => rfl
    case fy0 => (intro w hSw; (try dsimp only at hSw); go_simp; (try with_reducible rfl))
    try simp only [Act.put, List.setIfInBounds_toArray, List.set_cons_zero, List.set_cons_succ]
    refine wpAnyH_take (i := 1) (oi := ?fo1) (v := ?fv1) ?fe1 (by kernel_rfl) (by kernel_rfl) (by kernel_rfl) (fun _ _ _ h => h) (Or.inl ⟨?fw1, ?fy1⟩) (by assumption) ?fr1
    case fe1 => ((simp only [List.getElem?_toArray, List.getElem?_cons_succ, List.getElem?_cons_zero]) <;> rfl)
    case fw1 => rfl
    case fy1 => (intro w hSw; (try dsimp only at hSw); go_simp; (try with_reducible rfl))
    try simp only [Act.put, List.setIfInBounds_toArray, List.set_cons_zero, List.set_cons_succ]
    refine wpAnyH_take (i := 2) (oi := ?fo2) (v := ?fv2) ?fe2 (by kernel_rfl) (by kernel_rfl) (by kernel_rfl) (fun _ _ _ h => h) (Or.inl ⟨?fw2, ?fy2⟩) (by assumption) ?fr2
    case fe2 => ((simp only [List.getElem?_toArray, List.getElem?_cons_succ, List.getElem?_cons_zero]) <;> rfl)
    case fw2 => rfl
    case fy2 => (intro w hSw; (try dsimp only at hSw); go_simp; (try with_reducible rfl))
    try simp only [Act.put, List.setIfInBounds_toArray, List.set_cons_zero, List.set_cons_succ]
    refine wpAnyH_take (i := 3) (oi := ?fo3) (v := ?fv3) ?fe3 (by kernel_rfl) (by kernel_rfl) (by kernel_rfl) (fun _ _ _ h => h) (Or.inl ⟨?fw3, ?fy3⟩) (by assumption) ?fr3
    case fe3 => ((simp only [List.getElem?_toArray, List.getElem?_cons_succ, List.getElem?_cons_zero]) <;> rfl)
    case fw3 => rfl
    case fy3 => (intro w hSw; (try dsimp only at hSw); go_simp; (try with_reducible rfl))
    try simp only [Act.put, List.setIfInBounds_toArray, List.set_cons_zero, List.set_cons_succ]
    refine wpAnyH_take (i := 4) (oi := ?fo4) (v := ?fv4) ?fe4 (by kernel_rfl) (by kernel_rfl) (by kernel_rfl) (fun _ _ _ h => h) (Or.inl ⟨?fw4, ?fy4⟩) (by assumption) ?fr4
    case fe4 => ((simp only [List.getElem?_toArray, List.getElem?_cons_succ, List.getElem?_cons_zero]) <;> rfl)
    case fw4 => rfl
    case fy4 => (intro w hSw; (try dsimp only at hSw); go_simp; (try with_reducible rfl))
    try simp only [Act.put, List.setIfInBounds_toArray, List.set_cons_zero, List.set_cons_succ]
    refine wpAnyH_take (i := 5) (oi := ?fo5) (v := ?fv5) ?fe5 (by kernel_rfl) (by kernel_rfl) (by kernel_rfl) (fun _ _ _ h => h) (Or.inl ⟨?fw5, ?fy5⟩) (by assumption) ?fr5
    case fe5 => ((simp only [List.getElem?_toArray, List.getElem?_cons_succ, List.getElem?_cons_zero]) <;> rfl)
    case fw5 => rfl
    case fy5 => (intro w hSw; (try dsimp only at hSw); go_simp; (try with_reducible rfl))
    try simp only [Act.put, List.setIfInBounds_toArray, List.set_cons_zero, List.set_cons_succ]
    refine wpAnyH_take (i := 6) (oi := ?fo6) (v := ?fv6) ?fe6 (by kernel_rfl) (by kernel_rfl) (by kernel_rfl) (fun _ _ _ h => h) (Or.inl ⟨?fw6, ?fy6⟩) (by assumption) ?fr6
    case fe6 => ((simp only [List.getElem?_toArray, List.getElem?_cons_succ, List.getElem?_cons_zero]) <;> rfl)
    case fw6 => rfl
    case fy6 => (intro w hSw; (try dsimp only at hSw); go_simp; (try with_reducible rfl))
    try simp only [Act.put, List.setIfInBounds_toArray, List.set_cons_zero, List.set_cons_succ]
    refine wpAnyH_done (by kernel_rfl) ?_ _
    refine NoPanic.normal ?_
    obtain ⟨e, p, he, hei, hw, hpe, hpm, g1, g2, g0, he1, he8, -⟩ := ch_nums hmn hn hcap
    have hee := hid (show 1 ≤ e ∧ e ≤ 8 from ⟨he1, he8⟩)
    rw [hei]
    have hE : chE b off n j = #[.slice (some ⟨b, off + m * 3, none⟩) e e] := by unfold chE chV; rw [← HM.out, ← he]
    have hJ2 := hid (HJD.out _ _ hJs)
    obtain ⟨fn, tmps, assign, body, hy, hR⟩ := HY.out ((List.finRange (chN n)).take j) ⟨j, hjq⟩ wr.drew hJ2.out (by simp; omega)
    rw [hE] at hy
    have c1' : wr.drew.cell? ⟨bs, 0, none⟩ = some (.slice (some ⟨b, off, none⟩) n cap) := c1
    have c2' : wr.drew.cell? ⟨bn, 0, none⟩ = some (.int .i64 8) := c2
    have hKD := hid (show KpC bs bn W wr.drew from ⟨hkp.s, hkp.n⟩)
    generalize wr.drew = wd at *
    clear hE he hei c1 c2 he1 he8 hkp hJs hHeld
    gi_wp2
    refine ⟨fun _ => by omega, hR.mono ?_⟩
    rintro ev W3 (⟨rfl, hJ3, hk3⟩ | ⟨rfl, hJx3⟩)
    · obtain ⟨d1, d2⟩ := HK.out W3 (hKD.out.trans hk3)
      have HK3 := hid (hKD.out.trans hk3)
      have HJ3 := hid (show J ((List.finRange (chN n)).take (j + 1)) W3 by rw [List.take_succ_eq_append_getElem (by simpa using hjq), List.getElem_finRange]; exact hJ3)
      clear hJ3 hk3 hy hR
      gi_wp2
      have e8 : (m : Int) + 8 = ((m + 8 : Nat) : Int) := rfl
      have e9 : m + 8 = 8 * (j + 1) := by rw [HM.out]; omega
      refine ⟨⟨j + 1, hjq, by rw [e8, e9], HK3.out, HJ3.out⟩, ?_⟩
      rw [e8]
      show 8 * chN n - (m + 8) < 8 * chN n - m
      have := HM.out
      clear hn
      omega
    · gi_wp2
      refine bodyPost_ret (results_none rfl _ _ _) rfl ?_
      exact ⟨⟨_, rfl⟩, .inr ⟨_, trivial, hJx3⟩⟩
/-- what Chunk hands back -/
def chunkV (n : Nat) : Value := .func (.func 67) #[] #[.pointer (some ⟨n, 0, none⟩), .pointer (some ⟨n + 1, 0, none⟩)]
set_option maxHeartbeats 1600000 in
set_option maxRecDepth 100000 in
theorem chunk_any (sa : Option Addr) (n cap : Nat) (w : World) : Calls Try.prog 36 #[.slice sa n cap, .int .i64 8] w fun e w' => e = .returned (chunkV w.heap.size) ∧ w' = (w.alloc (.cells #[.slice sa n cap] 55)).alloc (.cells #[.int .i64 8] 3) := by
  go_enter Try.func36, Try.ntmps36
  go_wp2_with fail
  go_ret
  exact ⟨by unfold chunkV; simp, rfl⟩
theorem chunk_stops (k : Nat) (hk : 3 ≤ k) (bs bn b off n cap : Nat) (hn : n ≤ 1099511627776) (hcap : n ≤ cap) (w : World) (T1 T2 : TypeId)
    (hbs : w.heap[bs]? = some (.cells #[.slice (some ⟨b, off, none⟩) n cap] T1 (0, 0))) (hbn : w.heap[bn]? = some (.cells #[.int .i64 8] T2 (0, 0))) :
    SeqStopsK Fence.wide k Try.prog 67 #[.pointer (some ⟨bs, 0, none⟩), .pointer (some ⟨bn, 0, none⟩)] (fun j : Fin (chN n) => chE b off n j.val) (KpC bs bn) (fun ys => ys = List.finRange (chN n)) (fun _ => True) (chN n) w := by
  intro l J Jx W hW hJ _ hY h0
  exact chunk1_in k hk l bs bn b off n cap hn hcap J Jx W T1 T2 hY ((hW.block bs (Array.getElem?_eq_some_iff.1 hbs).1).trans hbs) ((hW.block bn (Array.getElem?_eq_some_iff.1 hbn).1).trans hbn) h0
    (fun s V h => hJ _ _ _ none h (⟨((Below.refl 0 V).drew).os, ((Below.refl 0 V).drew).tape, ((Below.refl 0 V).drew).output, ((Below.refl 0 V).drew).size, fun i _ _ => rfl⟩ : V.grownBy V.drew none) (by simp))
end Go.Proofs.Ytfdbcnpbjabjoaa
