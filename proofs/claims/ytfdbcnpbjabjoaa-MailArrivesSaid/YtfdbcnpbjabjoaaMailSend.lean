/- CONTRACTS: mail.Send, Double. -/
import Derived.Test.YtfdbcnpbjabjoaaMailNet
namespace Go.Proofs.Ytfdbcnpbjabjoaa
set_option maxRecDepth 100000
open Go.RowKit

theorem send_none (w : World) (to text : ByteArray) : Calls Try.prog 13 #[.pointer none, .string to, .string text] w fun e w' => e = .returned (.tuple #[.int .i64 0, .int .i64 1]) ∧ w' = w := by
  go_enter Try.func13, Try.ntmps13
  go_wp2_with fail
  go_ret2
  exact ⟨rfl, rfl⟩

theorem letC_one (x : Letter) : ∀ u ∈ letC x, u.oneCell' = true := by
  intro u hu
  simp only [letC, List.mem_cons, List.not_mem_nil, or_false] at hu
  rcases hu with rfl | rfl | rfl <;> rfl
/-- append one letter that lies in a block of its own -/
theorem wpList_append_letter {P : Program} (w : World) {ops : Array Oper} {rest : List Oper} {o : Oper} {a : Act} {Q : Exit → Act → World → Prop} (hgd : o.guard = none) (s x : Operand) (t : TypeId)
    (ho : o.op = .call { callee := .builtin .append, args := #[s, x], argTypes := #[t, t] })
    (B : Nat) (e : TypeId) (z : Value) (bytes : Nat) (ht : P.underlying t = some (.slice e)) (hi : (P.info? e).map (fun i => (i.zero, i.size, i.bytes)) = some (some z, 3, bytes)) (hzs : z.cells.size = 3)
    (v : Value) (L : List Letter) (hs : a.eval s = v) (hown : w.ownsRow B e 3 v L.length (L.flatMap letC))
    (g c : Nat) (hx : a.eval x = .slice (some ⟨g, 0, none⟩) 1 c) (y : Letter) (hy : ∀ j u, (letC y)[j]? = some u → w.cell? ⟨g, j, none⟩ = some u)
    (hlen : L.length + 1 ≤ maxLen) (hbytes : (L.length + 1) * bytes ≤ 140737488355328) (hB : B ≤ w.heap.size)
    (h : ∀ v' w', w'.ownsRow B e 3 v' (L ++ [y]).length ((L ++ [y]).flatMap letC) → KeepT B [e] w w' → wpList P ops Q rest (a.put o.dst v') w') : wpList P ops Q (o :: rest) a w := by
  obtain ⟨i0, hi0, hz0, hz1, hz2⟩ := info_parts hi
  refine wpList_append_own w hgd s x t ho B e i0 z 3 bytes ht hi0 hz0 hz1 hz2 hzs (by decide) v L.length (L.flatMap letC) hs hown ⟨g, 0, none⟩ 1 c (letC y) hx rfl ?_ (letC_one y) hlen hbytes hB ?_
  · intro j u hj
    have e0 : (⟨g, 0, none⟩ : Addr).add j = ⟨g, j, none⟩ := by unfold Addr.add; split <;> simp_all
    rw [e0]; exact hy j u hj
  · intro v' w' g1 g2 _
    refine h v' w' ?_ ?_
    · rw [List.length_append, List.flatMap_append]; simpa using g1
    · refine ⟨g2.os, g2.tape, g2.output, g2.size, fun k hk hn => g2.block k hk (fun hv => ?_)⟩
      rcases hown.2 with ⟨rfl, _⟩ | ⟨b, cap, cur, rfl, hb, hc, _⟩
      · cases hv
      · simp only [Value.ownBlock, Option.some.injEq] at hv
        subst hv
        rcases hn with hn | hn
        · omega
        · exact hn _ _ _ hc (by simp)

def sendOk (to text : List UInt8) (L : List Letter) : Prop := 1 ≤ to.length ∧ to.length ≤ 16 ∧ text.length ≤ 1048576 ∧ L.length < 64
set_option maxHeartbeats 800000 in
theorem send_ok (w : World) (B g : Nat) (L : List Letter) (nx : Int) (to text : List UInt8) (h : Net w B g L nx) (hok : sendOk to text L) (hnx : 0 ≤ nx ∧ nx ≤ 4611686018427387904) :
    Calls Try.prog 13 #[.pointer (some ⟨g, 0, none⟩), .string ⟨to.toArray⟩, .string ⟨text.toArray⟩] w fun e w' =>
      e = .returned (.tuple #[.int .i64 nx, .int .i64 0]) ∧ Net w' B g (L ++ [(nx, to, text)]) (nx + 1) ∧ KeepT B [85, 87] w w' := by
  have hinfo : (Try.prog.info? 87).map (fun i => (i.zero, i.size, i.bytes)) = some (some (.agg #[.int .i64 0, .string .empty, .string .empty]), 3, 40) := by kernel_rfl
  obtain ⟨a, c, ho, hr, hB⟩ := h.shape
  obtain ⟨o1, o2, o3, o4⟩ := hok
  have c0 := ho.c0
  have c1 := ho.c1
  have f0 := ho.fz 0
  have f1 := ho.fz 1
  have ht : (to == []) = false := by cases to <;> simp at o1 ⊢
  have o2' : ¬ ((16 : Int) < (to.length : Int)) := by omega
  have o3' : ¬ ((1048576 : Int) < (text.length : Int)) := by omega
  clear h
  have k1 : KeepT B [85, 87] w (w.setCell ⟨g, 1, none⟩ (.int .i64 (nx + 1))) := (KeepT.refl _ _ _).setCell ho (by simp) hB
  have k1' : KeepT B [85] w (w.setCell ⟨g, 1, none⟩ (.int .i64 (nx + 1))) := (KeepT.refl _ _ _).setCell ho (by simp) hB
  have hr1 := k1'.own hr (by decide)
  have ho1 := ho.set1 (.int .i64 (nx + 1))
  have hlt := ho.lt
  have hss : (w.setCell ⟨g, 1, none⟩ (.int .i64 (nx + 1))).heap.size = w.heap.size := by simp [World.setCell]
  have h2 : ∀ (j : Nat) (u : Value), (letC (nx, to, text))[j]? = some u → ((w.setCell ⟨g, 1, none⟩ (.int .i64 (nx + 1))).alloc (.cells #[.int .i64 nx, .string ⟨to.toArray⟩, .string ⟨text.toArray⟩] 87)).cell? ⟨w.heap.size, j, none⟩ = some u := by
    intro j u hj
    rw [← hss, World.cell?_alloc_at _ _ _ _ rfl]
    rw [← hj]
    unfold letC strV
    exact List.getElem?_toArray
  have h4 : B ≤ ((w.setCell ⟨g, 1, none⟩ (.int .i64 (nx + 1))).alloc (.cells #[.int .i64 nx, .string ⟨to.toArray⟩, .string ⟨text.toArray⟩] 87)).heap.size := by
    simp [World.alloc, World.setCell]; omega
  go_enter Try.func13, Try.ntmps13
  go_wp2_with (at_builtin; go_must (refine wpList_append_letter _ rfl _ _ 83 rfl B 87 (.agg #[.int .i64 0, .string .empty, .string .empty]) 40 Try.underlying83 hinfo rfl _ L rfl (World.ownsRow.alloc hr1 _) w.heap.size 1 rfl (nx, to, text) h2 (by unfold maxLen; omega) (by omega) h4 ?_))
  intro v' w' hown hkeep
  obtain ⟨a', c', rfl⟩ := ownsRow_slice hown
  have hD := hkeep.obj (ho1.keep ((Below.refl _ _).alloc (Nat.le_refl _) (.cells #[.int .i64 nx, .string ⟨to.toArray⟩, .string ⟨text.toArray⟩] 87))) (by decide)
  have d0 := hD.c0
  have e0 := hD.fz 0
  clear c0 c1 f0 f1
  go_wp2_with fail
  go_ret2
  refine ⟨rfl, ⟨.slice a' (L.length + 1) c', ?_, ?_, hB⟩, ?_⟩
  · exact hD.set0 _
  · exact ((KeepT.refl B [85] _).setCell hD (by simp) hB).own (by simpa using hown) (by decide)
  · exact ((k1.alloc _).trans (hkeep.mono (by simp))).setCell hD (by simp) hB
def sendErr (to text : List UInt8) (L : List Letter) : Int := if to.length < 1 ∨ 16 < to.length then 1 else if 1048576 < text.length ∨ 64 ≤ L.length then 2 else 0
theorem sendErr_ok {to text : List UInt8} {L : List Letter} : sendErr to text L = 0 ↔ sendOk to text L := by
  unfold sendErr sendOk
  split
  · constructor
    · intro h; cases h
    · intro h; omega
  · split
    · constructor
      · intro h; cases h
      · intro h; omega
    · constructor
      · intro h; omega
      · intro _; rfl
theorem send_no (w : World) (B g : Nat) (L : List Letter) (nx : Int) (to text : List UInt8) (h : Net w B g L nx) (hno : ¬ sendOk to text L) :
    Calls Try.prog 13 #[.pointer (some ⟨g, 0, none⟩), .string ⟨to.toArray⟩, .string ⟨text.toArray⟩] w fun e w' =>
      e = .returned (.tuple #[.int .i64 0, .int .i64 (sendErr to text L)]) ∧ w' = w := by
  obtain ⟨a, c, ho, hr, hB⟩ := h.shape
  have c0 := ho.c0
  clear h hr ho
  by_cases ht : to = []
  · subst ht
    have hv : sendErr [] text L = 1 := rfl
    rw [hv]
    clear hv hno
    go_enter Try.func13, Try.ntmps13
    go_wp2_with fail
    go_ret2
    exact ⟨rfl, rfl⟩
  · have hl : 1 ≤ to.length := by cases to; exact absurd rfl ht; simp
    have ht' : (to == []) = false := by cases to; exact absurd rfl ht; rfl
    by_cases h16 : 16 < to.length
    · have hv : sendErr to text L = 1 := by unfold sendErr; rw [if_pos (.inr h16)]
      rw [hv]
      have h16' : (16 : Int) < (to.length : Int) := by omega
      clear hv hno
      go_enter Try.func13, Try.ntmps13
      go_wp2_with fail
      go_ret2
      exact ⟨rfl, rfl⟩
    · have h16' : ¬ (16 : Int) < (to.length : Int) := by omega
      by_cases h3 : 1048576 < text.length
      · have hv : sendErr to text L = 2 := by unfold sendErr; rw [if_neg (by omega), if_pos (.inl h3)]
        rw [hv]
        have h3' : (1048576 : Int) < (text.length : Int) := by omega
        clear hv hno
        go_enter Try.func13, Try.ntmps13
        go_wp2_with fail
        go_ret2
        exact ⟨rfl, rfl⟩
      · have h3' : ¬ (1048576 : Int) < (text.length : Int) := by omega
        have h4 : 64 ≤ L.length := by
          unfold sendOk at hno
          omega
        have hv : sendErr to text L = 2 := by unfold sendErr; rw [if_neg (by omega), if_pos (.inr h4)]
        rw [hv]
        have h4' : (64 : Int) ≤ (L.length : Int) := by omega
        clear hv hno
        go_enter Try.func13, Try.ntmps13
        go_wp2_with fail
        go_ret2
        exact ⟨rfl, rfl⟩
end Go.Proofs.Ytfdbcnpbjabjoaa
