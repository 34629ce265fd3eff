/- MEMORY: the rows of one state turn, and nothing else. -/
import Derived.Test.YtckpfcocbjfcbaaSmLaw2
namespace Go.Proofs.Ytckpfcocbjfcbaa
open Go.RowKit
set_option linter.unusedVariables false

/-- the rows of a state that was answered (blocks from Ba, below Ra) have turned, nothing else has -/
structure RA (Ba Ra : Nat) (w0 w : World) (v u c : Value) (nv nu nc : Nat) : Prop where
  hs : ∃ xs, w.ownsRow Ba 56 6 v nv xs
  hj : ∃ xs, w.ownsRow Ba 52 4 u nu xs
  hc : ∃ xs, w.ownsRow Ba 54 3 c nc xs
  bs : ∀ b, v.ownBlock = some b → b < Ra
  bj : ∀ b, u.ownBlock = some b → b < Ra
  bc : ∀ b, c.ownBlock = some b → b < Ra
  os : w.os = w0.os
  tape : w.tape = w0.tape
  output : w.output = w0.output
  size : w.heap.size = w0.heap.size
  keep : ∀ i, (i < Ba ∨ Ra ≤ i) → w.heap[i]? = w0.heap[i]?
section
variable {Ba Ra : Nat} {w0 w w1 : World} {v u c : Value} {nv nu nc : Nat}
theorem RA.start {s : Sta} (h : StO w Ba s v u c) (hb : StO w1 Ba s v u c) (hr : w1.heap.size ≤ Ra) : RA Ba Ra w w v u c s.ss.length s.jobs.length s.clocks.length :=
  ⟨⟨_, h.hs⟩, ⟨_, h.hj⟩, ⟨_, h.hc⟩, fun b q => Nat.lt_of_lt_of_le (hb.hs.lt b q).2 hr, fun b q => Nat.lt_of_lt_of_le (hb.hj.lt b q).2 hr, fun b q => Nat.lt_of_lt_of_le (hb.hc.lt b q).2 hr, rfl, rfl, rfl, rfl, fun _ _ => rfl⟩
theorem own_obj {w : World} {B g n k c : Nat} {e : TypeId} {xs : List Value} (h : w.ownsRow B e k (.slice (some ⟨g, 0, none⟩) n c) n xs) : ∃ cur, w.heap[g]? = some (.cells cur e (0, 0)) := by
  rcases h.2 with ⟨h', _⟩ | ⟨g', cap', cur, h', _, hg, _⟩
  · simp at h'
  · simp only [Value.slice.injEq, Option.some.injEq, Addr.mk.injEq, and_true, true_and] at h'
    obtain ⟨rfl, rfl⟩ := h'
    exact ⟨cur, hg⟩
theorem RA.setj {g cu p : Nat} {x : Value} (h : RA Ba Ra w0 w v (.slice (some ⟨g, 0, none⟩) nu cu) c nv nu nc) : RA Ba Ra w0 (w.setCell ⟨g, p, none⟩ x) v (.slice (some ⟨g, 0, none⟩) nu cu) c nv nu nc := by
  obtain ⟨xs, hj⟩ := h.hj
  obtain ⟨ys, hs⟩ := h.hs
  obtain ⟨zs, hc⟩ := h.hc
  obtain ⟨cur, hg⟩ := own_obj hj
  have hlt := hj.lt g rfl
  have hr := h.bj g rfl
  have a : At g w (w.setCell ⟨g, p, none⟩ x) := (At.refl g w).set p x
  exact ⟨⟨_, own_at_row hs hg (by decide) a⟩, ⟨_, (hj.stored p x).1⟩, ⟨_, own_at_row hc hg (by decide) a⟩, h.bs, h.bj, h.bc, h.os, h.tape, h.output, by rw [show (w.setCell ⟨g, p, none⟩ x).heap.size = w.heap.size by simp [World.setCell]]; exact h.size, fun i hi => (Below.heap_setCell _ _ _ _ (by simp; omega)).trans (h.keep i hi)⟩
theorem RA.setc {g cu p : Nat} {x : Value} (h : RA Ba Ra w0 w v u (.slice (some ⟨g, 0, none⟩) nc cu) nv nu nc) : RA Ba Ra w0 (w.setCell ⟨g, p, none⟩ x) v u (.slice (some ⟨g, 0, none⟩) nc cu) nv nu nc := by
  obtain ⟨xs, hj⟩ := h.hj
  obtain ⟨ys, hs⟩ := h.hs
  obtain ⟨zs, hc⟩ := h.hc
  obtain ⟨cur, hg⟩ := own_obj hc
  have hlt := hc.lt g rfl
  have hr := h.bc g rfl
  have a : At g w (w.setCell ⟨g, p, none⟩ x) := (At.refl g w).set p x
  exact ⟨⟨_, own_at_row hs hg (by decide) a⟩, ⟨_, own_at_row hj hg (by decide) a⟩, ⟨_, (hc.stored p x).1⟩, h.bs, h.bj, h.bc, h.os, h.tape, h.output, by rw [show (w.setCell ⟨g, p, none⟩ x).heap.size = w.heap.size by simp [World.setCell]]; exact h.size, fun i hi => (Below.heap_setCell _ _ _ _ (by simp; omega)).trans (h.keep i hi)⟩
theorem RA.sets {g cu p : Nat} {x : Value} (h : RA Ba Ra w0 w (.slice (some ⟨g, 0, none⟩) nv cu) u c nv nu nc) : RA Ba Ra w0 (w.setCell ⟨g, p, none⟩ x) (.slice (some ⟨g, 0, none⟩) nv cu) u c nv nu nc := by
  obtain ⟨xs, hj⟩ := h.hj
  obtain ⟨ys, hs⟩ := h.hs
  obtain ⟨zs, hc⟩ := h.hc
  obtain ⟨cur, hg⟩ := own_obj hs
  have hlt := hs.lt g rfl
  have hr := h.bs g rfl
  have a : At g w (w.setCell ⟨g, p, none⟩ x) := (At.refl g w).set p x
  exact ⟨⟨_, (hs.stored p x).1⟩, ⟨_, own_at_row hj hg (by decide) a⟩, ⟨_, own_at_row hc hg (by decide) a⟩, h.bs, h.bj, h.bc, h.os, h.tape, h.output, by rw [show (w.setCell ⟨g, p, none⟩ x).heap.size = w.heap.size by simp [World.setCell]]; exact h.size, fun i hi => (Below.heap_setCell _ _ _ _ (by simp; omega)).trans (h.keep i hi)⟩
/-- a row that isn't among them stands -/
theorem RA.own {B n k : Nat} {e : TypeId} {x : Value} {xs : List Value} (h : RA Ba Ra w0 w v u c nv nu nc) (ho : w0.ownsRow B e k x n xs) (hb : ∀ b, x.ownBlock = some b → b < Ba ∨ Ra ≤ b) : w.ownsRow B e k x n xs := by
  refine ⟨ho.1, ?_⟩
  rcases ho.2 with h' | ⟨g, cap, cur, rfl, h1, h2, h3⟩
  · exact .inl h'
  · exact .inr ⟨g, cap, cur, rfl, h1, (h.keep g (hb g rfl)).trans h2, h3⟩
theorem RA.sto {B : Nat} {s : Sta} {x y z : Value} (h : RA Ba Ra w0 w v u c nv nu nc) (ho : StO w0 B s x y z) (hb : ∀ b, (x.ownBlock = some b ∨ y.ownBlock = some b ∨ z.ownBlock = some b) → b < Ba ∨ Ra ≤ b) : StO w B s x y z :=
  ⟨h.own ho.hs (fun b q => hb b (.inl q)), h.own ho.hj (fun b q => hb b (.inr (.inl q))), h.own ho.hc (fun b q => hb b (.inr (.inr q)))⟩
theorem RA.row {g : Nat} {o : Obj} (h : RA Ba Ra w0 w v u c nv nu nc) (hg : w0.heap[g]? = some o) (hb : g < Ba ∨ Ra ≤ g) : w.heap[g]? = some o := (h.keep g hb).trans hg
theorem RA.below {b0 : Nat} {wi : World} (h : RA Ba Ra w0 w v u c nv nu nc) (hb : Below b0 wi w0) (hB : b0 ≤ Ba) : Below b0 wi w :=
  ⟨h.os.trans hb.os, h.tape.trans hb.tape, h.output.trans hb.output, by rw [h.size]; exact hb.size, fun i hi => (h.keep i (.inl (Nat.lt_of_lt_of_le hi hB))).trans (hb.block i hi)⟩
theorem StO.blocks_lt {B : Nat} {s : Sta} {x y z : Value} (h : StO w B s x y z) {M : Nat} (hM : w.heap.size ≤ M) : ∀ b, (x.ownBlock = some b ∨ y.ownBlock = some b ∨ z.ownBlock = some b) → b < M := fun b q => by
  rcases q with q | q | q
  · have := (h.hs.lt b q).2; omega
  · have := (h.hj.lt b q).2; omega
  · have := (h.hc.lt b q).2; omega
theorem StO.blocks_ge {B : Nat} {s : Sta} {x y z : Value} (h : StO w B s x y z) {M : Nat} (hM : M ≤ B) : ∀ b, (x.ownBlock = some b ∨ y.ownBlock = some b ∨ z.ownBlock = some b) → M ≤ b := fun b q => by
  rcases q with q | q | q
  · have := (h.hs.lt b q).1; omega
  · have := (h.hj.lt b q).1; omega
  · have := (h.hc.lt b q).1; omega
/-- a row's cell -/
theorem own_one {B g n k c p : Nat} {e : TypeId} {xs : List Value} (h : w.ownsRow B e k (.slice (some ⟨g, 0, none⟩) n c) n xs) (hp : p < n * k) : ∃ x, w.cell? ⟨g, p, none⟩ = some x := by
  rw [h.cellAt p hp]
  have := h.1
  exact ⟨xs[p]'(by omega), List.getElem?_eq_getElem (by omega)⟩
theorem own_at_some {B n k c : Nat} {e : TypeId} {xs : List Value} {a : Option Addr} (h : w.ownsRow B e k (.slice a n c) n xs) (hn : n ≠ 0) : ∃ g, a = some ⟨g, 0, none⟩ := by
  rcases h.2 with ⟨h', h0⟩ | ⟨g, cap, cur, h', _⟩
  · exact absurd h0 hn
  · rw [Value.slice.injEq] at h'
    exact ⟨g, h'.1⟩
end
end Go.Proofs.Ytckpfcocbjfcbaa
