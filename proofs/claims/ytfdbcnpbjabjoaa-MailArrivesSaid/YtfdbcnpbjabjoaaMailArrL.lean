/- MailArrives: what stands between two rounds. -/
import Derived.Test.YtfdbcnpbjabjoaaMailLst
import Derived.Laws.StructEq
namespace Go.Proofs.Ytfdbcnpbjabjoaa
open Go.RowKit Go.Maps
set_option linter.unusedVariables false

def i64B (n : Int) : Prop := -9223372036854775808 ≤ n ∧ n ≤ 9223372036854775807
theorem wf_of_i64 {n : Int} (h : i64B n) : (Lit.int .i64 n).wf = true := by
  unfold i64B at h
  simp [Lit.wf, IntKind.min, IntKind.max, IntKind.signed, IntKind.bits]; omega
theorem kInt : Maps.Keyed Try.prog 3 := Maps.int_keyed Try.underlying3
theorem keyI {n : Int} (h : i64B n) : keyOf Try.prog 3 (.int .i64 n) = some (iL n) := Maps.keyOf_int_mk Try.underlying3 (wf_of_i64 h)
theorem zeroInt (w : World) : (zeroValue 3).run Try.prog w = .ok (.int .i64 0) w := by kernel_rfl
def zStr2 : Value := .agg #[.string .empty, .string .empty]
theorem zeroStr2 (w : World) : (zeroValue 50).run Try.prog w = .ok zStr2 w := by kernel_rfl
theorem eqStr2 (a b : ByteArray) (w : World) : (Op.equalIn 10000 50 (.agg #[.string a, .string b]) (.agg #[.string a, .string b])).run Try.prog w = .ok true w := by
  have h1 := run_underlying (P := Try.prog) Try.underlying50
  have h2 := run_underlying (P := Try.prog) Try.underlying9
  have hs : ∀ w, (sizeOf 9).run Try.prog w = .ok 1 w := fun w => by kernel_rfl
  have p0 : ∀ w, (part 9 #[.string a, .string b] 0).run Try.prog w = .ok (.string a) w := fun w => by kernel_rfl
  have p1 : ∀ w, (part 9 #[.string a, .string b] 1).run Try.prog w = .ok (.string b) w := fun w => by kernel_rfl
  have e : ∀ c w, (Op.equalIn 9999 9 (.string c) (.string c)).run Try.prog w = .ok true w := fun c w => by
    show (Op.equalIn (9998 + 1) _ _ _).run _ _ = _
    rw [Op.equalIn]
    simp [h2, beq_toListBytes]
  show (Op.equalIn (9999 + 1) _ _ _).run _ _ = _
  rw [Op.equalIn]
  simp [h1, hs, show List.range' 0 2 = [0, 1] from rfl, p0, p1, e]
theorem infoInt : (Try.prog.info? 3).map (fun i => (i.zero, i.size, i.bytes)) = some (some (.int .i64 0), 1, 8) := by kernel_rfl
theorem MapV.blk {P : Program} {w : World} {k : TypeId} {b n : Nat} {f : Ent} (h : MapV P w k b n f) : ∃ es cl, w.heap[b]? = some (.map es cl) := by
  obtain ⟨D, ⟨es, cl, hb, _⟩, _⟩ := h.ex
  exact ⟨es, cl, hb⟩
theorem MapV.of_block {P : Program} {w w' : World} {k : TypeId} {b n : Nat} {f : Ent} (h : MapV P w k b n f) (e : w'.heap[b]? = w.heap[b]?) : MapV P w' k b n f := by
  obtain ⟨D, ⟨es, cl, hb, r⟩, hf⟩ := h.ex
  exact ⟨D, ⟨es, cl, e.trans hb, r⟩, hf⟩
theorem MapV.keepT {P : Program} {w w' : World} {k : TypeId} {b n B : Nat} {f : Ent} {S : List TypeId} (h : MapV P w k b n f) (K : KeepT B S w w') : MapV P w' k b n f := by
  obtain ⟨es, cl, hb⟩ := h.blk
  exact h.of_block (K.block b h.lt (.inr fun c t f e => by rw [hb] at e; cases e))
structure AW (w0 w : World) (B gs gm : Nat) (v : Value) (L : List Letter) (nx : Int) (N : Nat) : Prop where
  net : Net w B B L (nx + 1)
  list : Lst w B v (L.map (·.1))
  maps : ∃ fs fm, MapV Try.prog w 3 gs (2 * N) fs ∧ MapV Try.prog w 3 gm (2 * N) fm ∧ ArrOk L nx fs fm
  below : Below B w0 w
  hL : L.length ≤ 64
  n0 : 0 ≤ nx
  nk : nx ≤ N
  k5 : N ≤ 500
  ms : B ≤ gs ∧ B ≤ gm ∧ gs ≠ gm
  b0 : B = w0.heap.size
section
variable {w0 w w' : World} {B gs gm : Nat} {v : Value} {L : List Letter} {nx : Int} {N : Nat}
theorem AW.ge (h : AW w0 w B gs gm v L nx N) : B ≤ w.heap.size := by rw [h.b0]; exact h.below.size
theorem AW.of_below (h : AW w0 w B gs gm v L nx N) (b : Below w.heap.size w w') : AW w0 w' B gs gm v L nx N := by
  obtain ⟨fs, fm, h1, h2, h3⟩ := h.maps
  exact ⟨h.net.of_below b, h.list.below b, ⟨fs, fm, h1.below b, h2.below b, h3⟩, h.below.trans (b.mono h.ge), h.hL, h.n0, h.nk, h.k5, h.ms, h.b0⟩
theorem AW.up (h : AW w0 w B gs gm v L nx N) (hk : N + 1 ≤ 500) : AW w0 w B gs gm v L nx (N + 1) := by
  obtain ⟨fs, fm, h1, h2, h3⟩ := h.maps
  exact ⟨h.net, h.list, ⟨fs, fm, h1.mono (by omega), h2.mono (by omega), h3⟩, h.below, h.hL, h.n0, by have := h.nk; omega, hk, h.ms, h.b0⟩
theorem AW.start {w1 w2 w3 w4 : World} (b2 : Below w1.heap.size w1 w2) (n2 : Net w2 w1.heap.size w1.heap.size [] 1) (h3 : w3 = w2.alloc (.map #[] 0)) (h4 : w4 = w3.alloc (.map #[] 0)) :
    AW w1 w4 w1.heap.size w2.heap.size w3.heap.size (.slice none 0 0) [] 0 0 := by
  have b3 : Below w2.heap.size w2 w3 := by rw [h3]; exact (Below.refl _ _).alloc (Nat.le_refl _) _
  have b4 : Below w3.heap.size w3 w4 := by rw [h4]; exact (Below.refl _ _).alloc (Nat.le_refl _) _
  have s3 : w3.heap.size = w2.heap.size + 1 := by rw [h3, World.size_alloc]
  have s2 := b2.size
  exact ⟨(n2.of_below b3).of_below b4, Lst.nil _ _, ⟨Ent.none, Ent.none, (by rw [h3]; exact MapV.made w2 Try.prog 3 : MapV Try.prog w3 3 w2.heap.size 0 Ent.none).below b4, by rw [h4]; exact MapV.made w3 Try.prog 3, ArrOk.nil⟩,
    bnext b2 (bnext b3 b4), by simp, by decide, by decide, by decide, by omega, rfl⟩
/-- a store into a map -/
theorem Lst.store (h : Lst w B v (L.map (·.1))) {k n : Nat} {f : Ent} {t : TypeId} (hm : MapV Try.prog w t k n f) (g : w.grownBy w' (some k)) : Lst w' B v (L.map (·.1)) :=
  h.of_blocks fun b c _ hb => g.block b (Array.getElem?_eq_some_iff.1 hb).1 (fun e => by
    simp only [Option.some.injEq] at e
    subst e
    obtain ⟨es, cl, q⟩ := hm.blk
    rw [hb] at q; cases q)
theorem Net.blocks {g : Nat} (h : Net w B g L nx) (hb : ∀ b, B ≤ b → (∃ c t, w.heap[b]? = some (.cells c t (0, 0)) ∧ t ≠ 3) → w'.heap[b]? = w.heap[b]?) (hg : B ≤ g) : Net w' B g L nx := by
  obtain ⟨lv, ho, hr, hB⟩ := h
  refine ⟨lv, ho.of_block (hb g hg ⟨_, _, ho, by decide⟩), ⟨hr.1, ?_⟩, hB⟩
  rcases hr.2 with h0 | ⟨b, cap, cur, e, h1, h2, h3⟩
  · exact .inl h0
  · exact .inr ⟨b, cap, cur, e, h1, (hb b h1 ⟨_, _, h2, by decide⟩).trans h2, h3⟩
theorem Net.store {g : Nat} (h : Net w B g L nx) {k n : Nat} {f : Ent} {t : TypeId} (hm : MapV Try.prog w t k n f) (q : w.grownBy w' (some k)) (hg : B ≤ g) : Net w' B g L nx :=
  h.blocks (fun b _ ⟨c, t, hb, _⟩ => q.block b (Array.getElem?_eq_some_iff.1 hb).1 (fun e => by
    simp only [Option.some.injEq] at e
    subst e
    obtain ⟨es, cl, r⟩ := hm.blk
    rw [hb] at r; cases r)) hg
/-- an append to the list -/
theorem Net.listed {g : Nat} {zs : List Int} (h : Net w B g L nx) (hl : Lst w B v zs) (q : w.grownBy w' v.ownBlock) (hg : B ≤ g) : Net w' B g L nx :=
  h.blocks (fun b _ ⟨c, t, hb, ht⟩ => q.block b (Array.getElem?_eq_some_iff.1 hb).1 (fun e => by
    rcases hl with ⟨rfl, _⟩ | ⟨b', cap, cur, rfl, _, hb', _⟩
    · cases e
    · simp only [Value.ownBlock, Option.some.injEq] at e
      subst e
      rw [hb] at hb'; cases hb'
      exact ht rfl)) hg
theorem MapV.listed {k n : Nat} {f : Ent} {zs : List Int} (h : MapV Try.prog w 3 k n f) (hl : Lst w B v zs) (q : w.grownBy w' v.ownBlock) : MapV Try.prog w' 3 k n f := by
  obtain ⟨es, cl, hb⟩ := h.blk
  refine h.of_block (q.block k h.lt (fun e => ?_))
  rcases hl with ⟨rfl, _⟩ | ⟨b', cap, cur, rfl, _, hb', _⟩
  · cases e
  · simp only [Value.ownBlock, Option.some.injEq] at e
    subst e
    rw [hb] at hb'; cases hb'
theorem Lst.grown {zs : List Int} (h : Lst w B v zs) (q : w.grownBy w' v.ownBlock) {b0 : World} (hb : Below B b0 w) (hB : B ≤ w.heap.size) : Below B b0 w' := by
  refine ⟨q.os.trans hb.os, q.tape.trans hb.tape, q.output.trans hb.output, Nat.le_trans hb.size q.size, fun i hi => (q.block i (by omega) (fun e => ?_)).trans (hb.block i hi)⟩
  rcases h with ⟨rfl, _⟩ | ⟨b', cap, cur, rfl, h1, hb', _⟩
  · cases e
  · simp only [Value.ownBlock, Option.some.injEq] at e
    omega
theorem below_store {b0 : World} (hb : Below B b0 w) (hB : B ≤ w.heap.size) {k : Nat} (q : w.grownBy w' (some k)) (hk : B ≤ k) : Below B b0 w' :=
  ⟨q.os.trans hb.os, q.tape.trans hb.tape, q.output.trans hb.output, Nat.le_trans hb.size q.size, fun i hi => (q.block i (by omega) (fun e => by simp only [Option.some.injEq] at e; omega)).trans (hb.block i hi)⟩
/-- what stands behind two stores -/
structure AS (w0 w : World) (B gs gm : Nat) (v : Value) (zs : List Int) (L : List Letter) (nx : Int) (N : Nat) (fs fm : Ent) : Prop where
  net : Net w B B L (nx + 1)
  list : Lst w B v zs
  m1 : MapV Try.prog w 3 gs (2 * N) fs
  m2 : MapV Try.prog w 3 gm (2 * N) fm
  below : Below B w0 w
  ms : B ≤ gs ∧ B ≤ gm ∧ gs ≠ gm
  ge : B ≤ w.heap.size
section
variable {zs : List Int} {fs fm : Ent}
theorem AS.of_below (h : AS w0 w B gs gm v zs L nx N fs fm) (b : Below w.heap.size w w') : AS w0 w' B gs gm v zs L nx N fs fm :=
  ⟨h.net.of_below b, h.list.below b, h.m1.below b, h.m2.below b, h.below.trans (b.mono h.ge), h.ms, Nat.le_trans h.ge b.size⟩
theorem AS.of_keep {S : List TypeId} {L' : List Letter} {nx' : Int} (h : AS w0 w B gs gm v zs L nx N fs fm) (b : KeepT B S w w') (hS : 3 ∉ S) (n : Net w' B B L' (nx' + 1)) : AS w0 w' B gs gm v zs L' nx' N fs fm :=
  ⟨n, h.list.keep b hS, h.m1.keepT b, h.m2.keepT b, b.below h.below h.ge, h.ms, Nat.le_trans h.ge b.size⟩
theorem AW.toAS (h : AW w0 w B gs gm v L nx N) : ∃ fs fm, AS w0 w B gs gm v (L.map (·.1)) L nx N fs fm ∧ ArrOk L nx fs fm := by
  obtain ⟨fs, fm, h1, h2, h3⟩ := h.maps
  exact ⟨fs, fm, ⟨h.net, h.list, h1, h2, h.below, h.ms, h.ge⟩, h3⟩
theorem AS.store1 {N1 : Nat} {f : Ent} (h : AS w0 w B gs gm v zs L nx N fs fm) (m : MapV Try.prog w' 3 gs N1 f) (q : w.grownBy w' (some gs)) (hN : 2 * N ≤ N1) :
    Net w' B B L (nx + 1) ∧ Lst w' B v zs ∧ MapV Try.prog w' 3 gs N1 f ∧ MapV Try.prog w' 3 gm (2 * N) fm ∧ Below B w0 w' ∧ B ≤ w'.heap.size :=
  ⟨h.net.store h.m1 q (Nat.le_refl _), h.list.of_blocks (fun b c _ hb => q.block b (Array.getElem?_eq_some_iff.1 hb).1 (fun e => by
    simp only [Option.some.injEq] at e
    subst e
    obtain ⟨es, cl, r⟩ := h.m1.blk
    rw [hb] at r; cases r)), m, h.m2.kept q (by simpa using Ne.symm h.ms.2.2), below_store h.below h.ge q h.ms.1, Nat.le_trans h.ge q.size⟩
theorem AS.put1 {f : Ent} (h : AS w0 w B gs gm v zs L nx N fs fm) (m : MapV Try.prog w' 3 gs (2 * N + 1) f) (q : w.grownBy w' (some gs)) : AS w0 w' B gs gm v zs L nx (N + 1) f fm := by
  obtain ⟨a, b, c, d, e, g⟩ := h.store1 m q (by omega)
  exact ⟨a, b, c.mono (by omega), d.mono (by omega), e, h.ms, g⟩
theorem AS.put2 {f : Ent} {M : Nat} (h : AS w0 w B gs gm v zs L nx N fs fm) (m : MapV Try.prog w' 3 gm M f) (hM : M ≤ 2 * N) (q : w.grownBy w' (some gm)) : AS w0 w' B gs gm v zs L nx N fs f :=
  ⟨h.net.store h.m2 q (Nat.le_refl _), h.list.of_blocks (fun b c _ hb => q.block b (Array.getElem?_eq_some_iff.1 hb).1 (fun e => by
    simp only [Option.some.injEq] at e
    subst e
    obtain ⟨es, cl, r⟩ := h.m2.blk
    rw [hb] at r; cases r)), h.m1.kept q (by simpa using h.ms.2.2), m.mono hM, below_store h.below h.ge q h.ms.2.1, h.ms, Nat.le_trans h.ge q.size⟩
theorem AS.up (h : AS w0 w B gs gm v zs L nx N fs fm) : AS w0 w B gs gm v zs L nx (N + 1) fs fm := ⟨h.net, h.list, h.m1.mono (by omega), h.m2.mono (by omega), h.below, h.ms, h.ge⟩
/-- behind an append to the list -/
theorem AS.fin {v' : Value} {zs' : List Int} (h : AS w0 w B gs gm v zs L nx N fs fm) (l : Lst w' B v' zs') (q : w.grownBy w' v.ownBlock) (ok : ArrOk L nx fs fm) (hz : zs' = L.map (·.1)) (hL : L.length ≤ 64) (n0 : 0 ≤ nx) (nk : nx ≤ N) (k5 : N ≤ 500) (b0 : B = w0.heap.size) : AW w0 w' B gs gm v' L nx N :=
  ⟨h.net.listed h.list q (Nat.le_refl _), hz ▸ l, ⟨fs, fm, h.m1.listed h.list q, h.m2.listed h.list q, ok⟩, h.list.grown q h.below h.ge, hL, n0, nk, k5, h.ms, b0⟩
theorem AS.finB {v' : Value} {zs' : List Int} (h : AS w0 w B gs gm v zs L nx N fs fm) (l : Lst w' B v' zs') (q : Below w.heap.size w w') (ok : ArrOk L nx fs fm) (hz : zs' = L.map (·.1)) (hL : L.length ≤ 64) (n0 : 0 ≤ nx) (nk : nx ≤ N) (k5 : N ≤ 500) (b0 : B = w0.heap.size) : AW w0 w' B gs gm v' L nx N :=
  ⟨h.net.of_below q, hz ▸ l, ⟨fs, fm, h.m1.below q, h.m2.below q, ok⟩, h.below.trans (q.mono h.ge), hL, n0, nk, k5, h.ms, b0⟩
end
end
section
variable {P : Program} (w : World) {ops : Array Oper} {rest : List Oper} {o : Oper} {a : Act} {Q : Exit → Act → World → Prop}
theorem wpList_look_ok (hg : o.guard = none) (m x : Operand) (t : TypeId) (hop : o.op = Op.lookup t m x true)
    (k e : TypeId) (K : Keyed P k) (ht : P.underlying t = some (.map k e)) {z : Value} (hz : (zeroValue e).run P w = .ok z w) (b n : Nat) (f : Ent)
    (hm : a.eval m = .map (some b)) (hown : MapV P w k b n f) (key : Value) (kl : Lit) (hx : a.eval x = key) (hkey : keyOf P k key = some kl) (u : Value) (ok : Bool) (hu : (f kl).getD z = u) (hok : (f kl).isSome = ok)
    (hK : wpList P ops Q rest (a.put o.dst (.tuple #[u, .bool ok])) w) : wpList P ops Q (o :: rest) a w := by
  refine wpList_plain hg fun K' hK' => ?_
  have hrun := hown.look_ok K ht hz hkey
  rw [hu, hok] at hrun
  unfold Oper.wp
  simp [execOp, hop, hm, hx, hrun, Result.andThen]
  exact hK' _ _ hK
theorem wpList_lookG (hg : Region.wanted o (yielded ops a.tmps) = true) (m x : Operand) (t : TypeId) (hop : o.op = Op.lookup t m x false)
    (k e : TypeId) (K : Keyed P k) (ht : P.underlying t = some (.map k e)) {z : Value} (hz : (zeroValue e).run P w = .ok z w) (b n : Nat) (f : Ent)
    (hm : a.eval m = .map (some b)) (hown : MapV P w k b n f) (key : Value) (kl : Lit) (hx : a.eval x = key) (hkey : keyOf P k key = some kl) (u : Value) (hu : (f kl).getD z = u)
    (hK : wpList P ops Q rest (a.put o.dst u) w) : wpList P ops Q (o :: rest) a w := by
  refine BigFrame.wpList_want hg fun K' hK' => ?_
  have hrun := hown.look K ht hz hkey
  rw [hu] at hrun
  unfold Oper.wp
  simp [execOp, hop, hm, hx, hrun, Result.andThen]
  exact hK' _ _ hK
theorem wpList_append_lst (hgd : o.guard = none) (s x : Operand) (t : TypeId) (ho : o.op = .call { callee := .builtin .append, args := #[s, x], argTypes := #[t, t] })
    (ht : P.underlying t = some (.slice 3)) (hi : (P.info? 3).map (fun i => (i.zero, i.size, i.bytes)) = some (some (.int .i64 0), 1, 8))
    (B : Nat) (v : Value) (zs : List Int) (hs : a.eval s = v) (h : Lst w B v zs) (g c : Nat) (hx : a.eval x = .slice (some ⟨g, 0, none⟩) 1 c) (y : Int) (hy : w.cell? ⟨g, 0, none⟩ = some (.int .i64 y)) (hl : zs.length + 1 ≤ 1000) (hB : B ≤ w.heap.size)
    (hK : ∀ v' w', Lst w' B v' (zs ++ [y]) → w.grownBy w' v.ownBlock → wpList P ops Q rest (a.put o.dst v') w') : wpList P ops Q (o :: rest) a w := by
  obtain ⟨v', w', hrun, r1, r2⟩ := h.run_one w (ty := o.type) ht hi (c := c) hy hl hB
  refine wpList_plain hgd fun _ hK' => ?_
  unfold Oper.wp execOp
  simp only [ho, resolve, invoke, builtin, Sem.run_bind, Sem.run_pure, Result.andThen_ok, List.map_toArray, List.map_cons, List.map_nil, hs, hx, hrun]
  exact hK' _ _ (hK v' w' r1 r2)
theorem step_append_cut {K : Act → World → Prop} {E : Prop} (hgd : o.guard = none) (s x : Operand) (t : TypeId) (ho : o.op = .call { callee := .builtin .append, args := #[s, x], argTypes := #[t, t] })
    (ht : P.underlying t = some (.slice 3)) (hi : (P.info? 3).map (fun i => (i.zero, i.size, i.bytes)) = some (some (.int .i64 0), 1, 8))
    (B b cap n : Nat) (zs : List Int) (hn : zs.length = n) (h : Lst w B (.slice (some ⟨b, 0, none⟩) n cap) zs) (i c : Nat) (av : Option Addr) (hi' : i < zs.length) (hs : a.eval s = .slice (some ⟨b, 0, none⟩) i i) (hx : a.eval x = .slice av (n - (i + 1)) c)
    (ha : i + 1 < n → av = some ⟨b, i + 1, none⟩) (hl : zs.length ≤ 1000) (hB : B ≤ w.heap.size)
    (hK : ∀ v' w', Lst w' B v' (zs.take i ++ zs.drop (i + 1)) → Below w.heap.size w w' → K (a.put o.dst v') w') :
    if Region.wanted o (yielded ops a.tmps) = true then Oper.wp P o a w K Q else E := by
  have hw : Region.wanted o (yielded ops a.tmps) = true := by simp [Region.wanted, hgd]
  rw [if_pos hw]
  subst hn
  obtain ⟨v', w', hrun, r1, r2⟩ := h.run_cut w (ty := o.type) ht hi hi' (c := c) ha hl hB
  unfold Oper.wp
  simp [execOp, ho, resolve, invoke, builtin, hs, hx, hrun, Result.andThen]
  exact hK v' w' r1 r2
end
end Go.Proofs.Ytfdbcnpbjabjoaa
