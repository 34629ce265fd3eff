/- THE REFERENCE's NET (wherryref23): CONTRACTS of Send, Take, Double. -/
import Derived.Test.YtfdbcnpbjabjoaaMailTake
import Derived.Deep.AppendLies
import Derived.Laws.ResultCell
namespace Go.Proofs.Ytfdbcnpbjabjoaa
open Go.RowKit
set_option linter.unusedVariables false

/-- the reference's net in block g -/
def RNet (w : World) (B g : Nat) (L : List Letter) (nx : Int) : Prop :=
  ∃ lv, Obj2 w g 29 lv (.int .i64 nx) ∧ w.ownsRow B 40 3 lv L.length (L.flatMap letC) ∧ B ≤ g
theorem RNet.shape {w : World} {B g : Nat} {L : List Letter} {nx : Int} (h : RNet w B g L nx) : ∃ a c, Obj2 w g 29 (.slice a L.length c) (.int .i64 nx) ∧ w.ownsRow B 40 3 (.slice a L.length c) L.length (L.flatMap letC) ∧ B ≤ g := by
  obtain ⟨lv, ho, hr, hB⟩ := h
  obtain ⟨a, c, rfl⟩ := ownsRow_slice hr
  exact ⟨a, c, ho, hr, hB⟩
theorem RNet.keep {w w' : World} {B g : Nat} {L : List Letter} {nx : Int} (h : RNet w B g L nx) (k : KeepT B [85, 87] w w') : RNet w' B g L nx := by
  obtain ⟨lv, ho, hr, hB⟩ := h
  exact ⟨lv, k.obj ho (by decide), k.own hr (by decide), hB⟩
theorem Net.keep {w w' : World} {B g : Nat} {L : List Letter} {nx : Int} (h : Net w B g L nx) (k : KeepT B [29, 40] w w') : Net w' B g L nx := by
  obtain ⟨lv, ho, hr, hB⟩ := h
  exact ⟨lv, k.obj ho (by decide), k.own hr (by decide), hB⟩

set_option maxHeartbeats 800000 in
theorem rsend_ok (w : World) (B g : Nat) (L : List Letter) (nx : Int) (to text : List UInt8) (h : RNet w B g L nx) (hok : sendOk to text L) (hnx : 0 ≤ nx ∧ nx ≤ 4611686018427387904) :
    Calls Try.prog 14 #[.pointer (some ⟨g, 0, none⟩), .string ⟨to.toArray⟩, .string ⟨text.toArray⟩] w fun e w' =>
      e = .returned (.tuple #[.int .i64 (nx + 1), .int .i64 0]) ∧ RNet w' B g (L ++ [(nx + 1, to, text)]) (nx + 1) ∧ KeepT B [29, 40] w w' := by
  have hinfo : (Try.prog.info? 40).map (fun i => (i.zero, i.size, i.bytes)) = some (some (.agg #[.int .i64 0, .string .empty, .string .empty]), 3, 40) := by kernel_rfl
  obtain ⟨a, c, ho, hr, hB⟩ := h.shape
  obtain ⟨o1, o2, o3, o4⟩ := hok
  have c0 := ho.c0
  have c1 := ho.c1
  have f0 := ho.fz 0
  have f1 := ho.fz 1
  have o1' : ¬ ((to.length : Int) < (1 : Int)) := by omega
  have o2' : ¬ ((16 : Int) < (to.length : Int)) := by omega
  have o3' : ¬ ((1048576 : Int) < (text.length : Int)) := by omega
  have o4' : ¬ ((64 : Int) ≤ (L.length : Int)) := by omega
  obtain ⟨W, hW⟩ : ∃ W, W = w.setCell ⟨g, 1, none⟩ (.int .i64 (nx + 1)) := ⟨_, rfl⟩
  have k1 : KeepT B [29] w W := by rw [hW]; exact (KeepT.refl _ _ _).setCell ho (by simp) hB
  have ho1 : Obj2 W g 29 (.slice a L.length c) (.int .i64 (nx + 1)) := by rw [hW]; exact ho.set1 _
  have hr1 := k1.own hr (by decide)
  have d0 := ho1.c0
  have d1 := ho1.c1
  have hl := ho1.lt
  have g2 : ∀ (t : Nat) (u : Value), (letC (nx + 1, to, text))[t]? = some u → (W.drew.alloc (.cells #[.int .i64 (nx + 1), .string ⟨to.toArray⟩, .string ⟨text.toArray⟩] 40)).cell? ⟨W.heap.size, t, none⟩ = some u := by
    intro t u hu
    refine (World.cell?_alloc_at (w := W.drew) _ _ W.heap.size t rfl).trans ?_
    rw [← hu]
    unfold letC strV
    exact List.getElem?_toArray
  have g4 : B ≤ (W.drew.alloc (.cells #[.int .i64 (nx + 1), .string ⟨to.toArray⟩, .string ⟨text.toArray⟩] 40)).heap.size := by
    show B ≤ (W.heap.push _).size
    rw [Array.size_push]; omega
  have hrW : (W.drew.alloc (.cells #[.int .i64 (nx + 1), .string ⟨to.toArray⟩, .string ⟨text.toArray⟩] 40)).ownsRow B 40 3 (.slice a L.length c) L.length (L.flatMap letC) := World.ownsRow.alloc hr1 _
  have hoW : Obj2 (W.drew.alloc (.cells #[.int .i64 (nx + 1), .string ⟨to.toArray⟩, .string ⟨text.toArray⟩] 40)) g 29 (.slice a L.length c) (.int .i64 (nx + 1)) := Obj2.keep (w := W.drew) ho1 ((Below.refl _ _).alloc (Nat.le_refl _) (.cells #[.int .i64 (nx + 1), .string ⟨to.toArray⟩, .string ⟨text.toArray⟩] 40))
  have kW : KeepT B [29, 40] w (W.drew.alloc (.cells #[.int .i64 (nx + 1), .string ⟨to.toArray⟩, .string ⟨text.toArray⟩] 40)) := (k1.mono (by simp)).drew.alloc _
  have hX : Hid (W = w.setCell ⟨g, 1, none⟩ (.int .i64 (nx + 1))) := hW
  clear h hW hr hr1
  go_enter Try.func14, Try.ntmps14
  go_wp2_with (rw [← hX.out])
  go_region_law (refine step_append_letter _ rfl _ _ 27 rfl B 40 (.agg #[.int .i64 0, .string .empty, .string .empty]) 40 Try.underlying27 hinfo rfl _ L rfl hrW W.heap.size 1 rfl (nx + 1, to, text) g2 (by unfold maxLen; omega) (by omega) g4 ?_; intro a' c' w' hown hkeep; have hD := hkeep.obj hoW (by decide); have d0 := hD.c0; have d1 := hD.c1; have e0 := hD.fz 0)
  all_goals
    go_wp2_with fail
    go_ret2
    refine ⟨rfl, ⟨.slice a' (L.length + 1) c', ?_, ?_, hB⟩, ?_⟩
    · exact hD.set0 _
    · exact ((KeepT.refl B [29] _).setCell hD (by simp) hB).own (by simpa using hown) (by decide)
    · exact (kW.trans (hkeep.mono (by simp))).setCell hD (by simp) hB

/-- the cells ahead of the j-th letter, and those behind it -/
theorem row_take {w : World} {B b c : Nat} {e : TypeId} {L : List Letter} (h : w.ownsRow B e 3 (.slice (some ⟨b, 0, none⟩) L.length c) L.length (L.flatMap letC)) (j : Nat) :
    ∀ t u, ((L.take j).flatMap letC)[t]? = some u → w.cell? ((⟨b, 0, none⟩ : Addr).add t) = some u := by
  intro t u hu
  refine h.cells (g := b) rfl t u ?_
  have hl := (List.getElem?_eq_some_iff.1 hu).1
  rw [← List.take_append_drop j L, List.flatMap_append, List.getElem?_append_left hl]
  exact hu
theorem row_drop {w : World} {B b c : Nat} {e : TypeId} {L : List Letter} (h : w.ownsRow B e 3 (.slice (some ⟨b, 0, none⟩) L.length c) L.length (L.flatMap letC)) (j : Nat) (hj : j < L.length) :
    ∃ A : Addr, (if c = j + 1 then (some (⟨b, 0, none⟩ : Addr)) else some ⟨b, (j + 1) * 3, none⟩) = some A ∧ A.block = b ∧ ∀ t u, ((L.drop (j + 1)).flatMap letC)[t]? = some u → w.cell? (A.add t) = some u := by
  have hnc : L.length ≤ c := by
    rcases h.2 with ⟨e1, _⟩ | ⟨g, cap, cur, e1, _, _, hnc, _⟩
    · cases e1
    · cases e1; exact hnc
  by_cases hci : c = j + 1
  · refine ⟨⟨b, 0, none⟩, by rw [if_pos hci], rfl, ?_⟩
    intro t u hu
    have hl := (List.getElem?_eq_some_iff.1 hu).1
    rw [letters_len, List.length_drop] at hl
    omega
  · refine ⟨⟨b, (j + 1) * 3, none⟩, by rw [if_neg hci], rfl, ?_⟩
    intro t u hu
    have := h.cells (g := b) rfl ((j + 1) * 3 + t) u (by
      rw [← List.take_append_drop (j + 1) L, List.flatMap_append, List.getElem?_append_right (by rw [letters_len, List.length_take]; omega), letters_len, List.length_take, ← hu]
      congr 1
      omega)
    rw [Addr.add_lit] at this ⊢
    rw [Nat.zero_add] at this
    exact this
/-- append letters that lie one behind the other, at a step of a region that draws -/
theorem step_append_letters {P : Program} (w : World) {ops : Array Oper} {o : Oper} {a : Act} {K : Act → World → Prop} {Q : Exit → Act → World → Prop} {E : Prop} (hgd : o.guard = none) (s x : Operand) (t : TypeId)
    (ho : o.op = .call { callee := .builtin .append, args := #[s, x], argTypes := #[t, t] })
    (B : Nat) (e : TypeId) (z : Value) (bytes : Nat) (ht : P.underlying t = some (.slice e)) (hi : (P.info? e).map (fun i => (i.zero, i.size, i.bytes)) = some (some z, 3, bytes)) (hzs : z.cells.size = 3)
    (v : Value) (L : List Letter) (n : Nat) (hn : L.length = n) (hs : a.eval s = v) (hown : w.ownsRow B e 3 v n (L.flatMap letC))
    (A : Addr) (m c : Nat) (hx : a.eval x = .slice (some A) m c) (L2 : List Letter) (hm : L2.length = m) (hy : ∀ j u, (L2.flatMap letC)[j]? = some u → w.cell? (A.add j) = some u)
    (hlen : n + m ≤ maxLen) (hbytes : (n + m) * bytes ≤ 140737488355328) (w0 : World) (hB : B ≤ w.heap.size) (hb : Below B w0 w)
    (h : ∀ a' c' w', w'.ownsRow B e 3 (.slice a' (n + m) c') (n + m) ((L ++ L2).flatMap letC) → Below B w0 w' → K (a.put o.dst (.slice a' (n + m) c')) w') :
    if Region.wanted o (yielded ops a.tmps) = true then Oper.wp P o a w K Q else E := by
  have hw : Region.wanted o (yielded ops a.tmps) = true := by simp [Region.wanted, hgd]
  rw [if_pos hw]
  obtain ⟨i0, hi0, hz0, hz1, hz2⟩ := info_parts hi
  obtain ⟨v', w', hrun, r1, r2, _⟩ := run_append_own (P := P) w B t o.type e i0 z 3 bytes ht hi0 hz0 hz1 hz2 hzs (by decide) v n (L.flatMap letC) hown A m c (L2.flatMap letC) (by rw [letters_len, hm]) hy (letters_one L2) hlen hbytes hB
  obtain ⟨a', c', rfl⟩ := ownsRow_slice r1
  unfold Oper.wp
  simp [execOp, ho, resolve, invoke, builtin, hs, hx, hrun, Result.andThen]
  refine h a' c' w' ?_ (hb.grown r2 hB (fun j hj => (World.ownsRow.lt hown j hj).1))
  rw [List.flatMap_append]; exact r1
theorem ownsRow_base {w : World} {B B' : Nat} {e : TypeId} {k n : Nat} {v : Value} {xs : List Value} (h : w.ownsRow B e k v n xs) (hB : B' ≤ B) : w.ownsRow B' e k v n xs := by
  obtain ⟨h1, h2⟩ := h
  refine ⟨h1, h2.imp id ?_⟩
  rintro ⟨g, cap, cur, e1, h2, h3⟩
  exact ⟨g, cap, cur, e1, Nat.le_trans hB h2, h3⟩
theorem KeepT.at_new {B : Nat} {S : List TypeId} {w w' w'' : World} {g : Nat} (h : KeepT B S w w') (k : At g w' w'') (hg : w.heap.size ≤ g) : KeepT B S w w'' :=
  ⟨k.os.trans h.os, k.tape.trans h.tape, k.output.trans h.output, Nat.le_trans h.size k.size, fun i hi hn => (k.block i (Nat.lt_of_lt_of_le hi h.size) (by simp; omega)).trans (h.block i hi hn)⟩
theorem ownsRow_at {w w' : World} {B g : Nat} {e : TypeId} {k n : Nat} {v : Value} {xs : List Value} (h : w.ownsRow B e k v n xs) (a : At g w w') (hg : g < B) : w'.ownsRow B e k v n xs := by
  refine h.kept a ?_
  cases hv : v.ownBlock with
  | none => exact .inl rfl
  | some b => exact .inr (by have := (h.lt b hv).1; simp; omega)
set_option maxHeartbeats 800000 in
theorem rtake_ok (w : World) (B g : Nat) (L : List Letter) (nx : Int) (j : Nat) (h : RNet w B g L nx) (hj : j < L.length) (hsz : L.length ≤ 64) :
    Calls Try.prog 16 #[.pointer (some ⟨g, 0, none⟩), .int .i64 j] w fun e w' =>
      e = .returned (.tuple #[.agg #[.int .i64 L[j].1, strV L[j].2.1, strV L[j].2.2], .int .i64 0]) ∧ RNet w' B g (L.take j ++ L.drop (j + 1)) nx ∧ KeepT B [29, 40] w w' := by
  have hinfo : (Try.prog.info? 40).map (fun i => (i.zero, i.size, i.bytes)) = some (some (.agg #[.int .i64 0, .string .empty, .string .empty]), 3, 40) := by kernel_rfl
  obtain ⟨a, c, ho, hr, hB⟩ := h.shape
  obtain ⟨b, rfl⟩ : ∃ b, a = some ⟨b, 0, none⟩ := by
    rcases hr.2 with ⟨e1, h0⟩ | ⟨b, cap, cur, e1, _⟩
    · omega
    · cases e1; exact ⟨b, rfl⟩
  have hat : ∀ t, t < 3 → w.cell? ⟨b, j * 3 + t, none⟩ = (letC L[j])[t]? := by
    intro t ht
    rw [← letters_at hj t ht]
    have hl : j * 3 + t < (L.flatMap letC).length := by rw [letters_len]; omega
    have := hr.cells (g := b) rfl (j * 3 + t) _ (List.getElem?_eq_getElem hl)
    rw [List.getElem?_eq_getElem hl, ← this]
    rw [Addr.add_lit, Nat.zero_add]
  have h0 : w.cell? ⟨b, j * 3, none⟩ = some (.int .i64 L[j].1) := hat 0 (by decide)
  have h1 : w.cell? ⟨b, j * 3 + 1, none⟩ = some (.string ⟨L[j].2.1.toArray⟩) := hat 1 (by decide)
  have h2 : w.cell? ⟨b, j * 3 + 2, none⟩ = some (.string ⟨L[j].2.2.toArray⟩) := hat 2 (by decide)
  have hbl : b < w.heap.size := (hr.lt b rfl).2
  obtain ⟨A, hA, hAb, hsrc2⟩ := row_drop hr j hj
  have hsrc1 := row_take hr j
  have hnc : L.length ≤ c := by
    rcases hr.2 with ⟨e1, _⟩ | ⟨g, cap, cur, e1, _, _, hnc, _⟩
    · cases e1
    · cases e1; exact hnc
  have c0 := ho.c0
  have hl := ho.lt
  clear hat
  generalize L[j] = x at *
  have n0 : ¬ (j : Int) < 0 := by omega
  have n1 : ¬ (L.length : Int) ≤ (j : Int) := by omega
  have n2 : (0 : Int) ≤ (j : Int) + 1 := by omega
  have n3 : (j : Int) + 1 ≤ (L.length : Int) := by omega
  have n4 : (j : Int) ≤ (c : Int) := by omega
  have n5 : j ≤ c := by omega
  have n6 : j + 1 ≤ c := by omega
  have hwr : IntKind.i64.wrap ((j : Int) + 1) = (j : Int) + 1 := IntWalk.i64_in _ (by omega)
  obtain ⟨W, hW⟩ : ∃ W, W = (w.alloc (.cells #[.int .i64 0, .string ⟨#[]⟩, .string ⟨#[]⟩] 40)).alloc (.cells #[.int .i64 x.1, .string ⟨x.2.1.toArray⟩, .string ⟨x.2.2.toArray⟩] 40) := ⟨_, rfl⟩
  have hWs : W.heap.size = w.heap.size + 2 := by rw [hW]; show ((w.heap.push _).push _).size = _; rw [Array.size_push, Array.size_push]
  have bW : Below w.heap.size w W := by rw [hW]; exact ((Below.refl _ _).alloc (Nat.le_refl _) _).alloc (by show _ ≤ (w.heap.push _).size; rw [Array.size_push]; omega) _
  have hoW := ho.keep bW
  have d0 := hoW.c0
  have hxW : W.heap[w.heap.size + 1]? = some (.cells #[.int .i64 x.1, .string ⟨x.2.1.toArray⟩, .string ⟨x.2.2.toArray⟩] 40 (0, 0)) := by
    rw [hW]
    have := heap_alloc_new (w.alloc (.cells #[.int .i64 0, .string ⟨#[]⟩, .string ⟨#[]⟩] 40)) (.cells #[.int .i64 x.1, .string ⟨x.2.1.toArray⟩, .string ⟨x.2.2.toArray⟩] 40)
    rwa [show (w.alloc (.cells #[.int .i64 0, .string ⟨#[]⟩, .string ⟨#[]⟩] 40)).heap.size = w.heap.size + 1 from Array.size_push ..] at this
  have hzW : W.heap[w.heap.size]? = some (.cells #[.int .i64 0, .string ⟨#[]⟩, .string ⟨#[]⟩] 40 (0, 0)) := by
    rw [hW]
    refine (heap_alloc_old _ _ (by show _ < (w.heap.push _).size; rw [Array.size_push]; omega)).trans ?_
    exact heap_alloc_new w _
  have hown0 : W.drew.ownsRow W.heap.size 40 3 (.slice none 0 0) 0 (([] : List Letter).flatMap letC) := World.ownsRow_nil _ _ _ _
  have hs1 : Hid (∀ t u, ((L.take j).flatMap letC)[t]? = some u → W.drew.cell? ((⟨b, 0, none⟩ : Addr).add t) = some u) := fun t u hu => by
    have := hsrc1 t u hu
    rw [Addr.add_lit] at this ⊢
    exact (bW.cell (p := ⟨b, 0 + t, none⟩) hbl).trans this
  have hs2 : Hid (∀ w2, Below W.heap.size W w2 → ∀ t u, ((L.drop (j + 1)).flatMap letC)[t]? = some u → w2.cell? (A.add t) = some u) := fun w2 hb2 t u hu => by
    have hq := hsrc2 t u hu
    have hblk : (A.add t).block = b := by unfold Addr.add; split <;> exact hAb
    exact (hb2.cell (by rw [hblk]; omega)).trans ((bW.cell (by rw [hblk]; exact hbl)).trans hq)
  have hX : Hid (W = (w.alloc (.cells #[.int .i64 0, .string ⟨#[]⟩, .string ⟨#[]⟩] 40)).alloc (.cells #[.int .i64 x.1, .string ⟨x.2.1.toArray⟩, .string ⟨x.2.2.toArray⟩] 40)) := hW
  have hlt1 : (L.take j).length = j := by rw [List.length_take]; omega
  have hlt2 : (L.drop (j + 1)).length = L.length - (j + 1) := by rw [List.length_drop]
  have hlt3 : (L.take j ++ L.drop (j + 1)).length = j + (L.length - (j + 1)) := by rw [List.length_append, hlt1, hlt2]
  have hbb : Below W.heap.size W W.drew := ⟨rfl, rfl, rfl, Nat.le_refl _, fun _ _ => rfl⟩
  clear h hr hsrc1 hsrc2 hW
  go_enter Try.func16, Try.ntmps16
  go_wp2_with (rw [← hX.out])
  go_region_law (first
    | (refine step_append_letters _ rfl (.const (.slice none 0 0)) (.tmp 32) 27 rfl W.heap.size 40 (.agg #[.int .i64 0, .string .empty, .string .empty]) 40 Try.underlying27 hinfo rfl _ [] 0 rfl rfl hown0 ⟨b, 0, none⟩ j c rfl (L.take j) hlt1 hs1.out (by unfold maxLen; omega) (by omega) W (Nat.le_refl _) hbb ?_; intro a1 c1 w1 hown1 hb1; rw [Nat.zero_add] at hown1; rw [Nat.zero_add]; rw [List.nil_append] at hown1; have e1 := (hoW.below hb1 (by omega)).c0)
    | (refine step_append_letters _ rfl (.tmp 33) (.tmp 40) 27 rfl W.heap.size 40 (.agg #[.int .i64 0, .string .empty, .string .empty]) 40 Try.underlying27 hinfo rfl _ (L.take j) j hlt1 (by simp [Act.eval, Act.put]) hown1 A (L.length - (j + 1)) (c - (j + 1)) (by simp [Act.eval, Act.put]) (L.drop (j + 1)) hlt2 (hs2.out _ hb1) (by unfold maxLen; omega) (by omega) W hb1.size hb1 ?_; intro a2 c2 w2 hown2 hb2; have hD := hoW.below hb2 (by omega); have e0 := hD.c0; have e2 := hD.fz 0))
  all_goals
    obtain ⟨W3, hW3⟩ : ∃ W3, W3 = w2.setCell ⟨g, 0, none⟩ (.slice a2 (j + (L.length - (j + 1))) c2) := ⟨_, rfl⟩
    have b3 : At g w2 W3 := by rw [hW3]; exact (At.refl g w2).set 0 _
    have hx3 : W3.heap[w.heap.size + 1]? = some (.cells #[.int .i64 x.1, .string ⟨x.2.1.toArray⟩, .string ⟨x.2.2.toArray⟩] 40 (0, 0)) := (b3.block _ (by have := hb2.size; omega) (by simp; omega)).trans ((hb2.block _ (by omega)).trans hxW)
    have hz3 : W3.heap[w.heap.size]? = some (.cells #[.int .i64 0, .string ⟨#[]⟩, .string ⟨#[]⟩] 40 (0, 0)) := (b3.block _ (by have := hb2.size; omega) (by simp; omega)).trans ((hb2.block _ (by omega)).trans hzW)
    have y0 : W3.cell? ⟨w.heap.size + 1, 0, none⟩ = some (.int .i64 x.1) := by rw [cell_of_row W3 _ 0 _ _ (0, 0) hx3]; rfl
    have y1 : W3.cell? ⟨w.heap.size + 1, 1, none⟩ = some (.string ⟨x.2.1.toArray⟩) := by rw [cell_of_row W3 _ 1 _ _ (0, 0) hx3]; rfl
    have y2 : W3.cell? ⟨w.heap.size + 1, 2, none⟩ = some (.string ⟨x.2.2.toArray⟩) := by rw [cell_of_row W3 _ 2 _ _ (0, 0) hx3]; rfl
    have z0 : W3.cell? ⟨w.heap.size, 0, none⟩ = some (.int .i64 0) := by rw [cell_of_row W3 _ 0 _ _ (0, 0) hz3]; rfl
    have z1 : W3.cell? ⟨w.heap.size, 1, none⟩ = some (.string ⟨#[]⟩) := by rw [cell_of_row W3 _ 1 _ _ (0, 0) hz3]; rfl
    have z2 : W3.cell? ⟨w.heap.size, 2, none⟩ = some (.string ⟨#[]⟩) := by rw [cell_of_row W3 _ 2 _ _ (0, 0) hz3]; rfl
    have q0 : W3.frozen? ⟨w.heap.size, 0, none⟩ = false := frozen_of_row W3 _ 0 _ _ hz3
    have q1 : W3.frozen? ⟨w.heap.size, 1, none⟩ = false := frozen_of_row W3 _ 1 _ _ hz3
    have q2 : W3.frozen? ⟨w.heap.size, 2, none⟩ = false := frozen_of_row W3 _ 2 _ _ hz3
    have hX3 : Hid (W3 = w2.setCell ⟨g, 0, none⟩ (.slice a2 (j + (L.length - (j + 1))) c2)) := hW3
    clear hW3 hx3 hz3
    go_wp2_with (rw [← hX3.out])
    have a4 : At w.heap.size W3 (((W3.setCell ⟨w.heap.size, 0, none⟩ (.int .i64 x.1)).setCell ⟨w.heap.size, 1, none⟩ (.string ⟨x.2.1.toArray⟩)).setCell ⟨w.heap.size, 2, none⟩ (.string ⟨x.2.2.toArray⟩)) := (((At.refl _ _).set 0 _).set 1 _).set 2 _
    have k3 : KeepT B [29] w2 W3 := by rw [hX3.out]; exact (KeepT.refl _ _ _).setCell hD (by simp) hB
    have o3 : Obj2 W3 g 29 (.slice a2 (j + (L.length - (j + 1))) c2) (.int .i64 nx) := by rw [hX3.out]; exact hD.set0 _
    refine bodyPost_ret (v := .tuple #[.agg #[.int .i64 x.1, strV x.2.1, strV x.2.2], .int .i64 0]) ?_ rfl ⟨rfl, ⟨.slice a2 (j + (L.length - (j + 1))) c2, ?_, ?_, hB⟩, ?_⟩
    · rw [results_cell_tmp rfl]
      unfold strV
      go_simp
    · exact o3.of_block (a4.block g o3.lt (by simp; omega))
    · rw [hlt3]
      exact ownsRow_base (ownsRow_at (k3.own hown2 (by decide)) a4 (by omega)) (by omega)
    · exact ((((KeepT.of_below bW).trans (KeepT.of_below hb2)).trans (k3.mono (by simp)))).at_new a4 (Nat.le_refl _)
end Go.Proofs.Ytfdbcnpbjabjoaa
