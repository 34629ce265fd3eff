/- CONTRACTS: mail.Take, Lose, Double. -/
import Derived.Test.YtfdbcnpbjabjoaaMailDel
import Derived.Test.YtfdbcnpbjabjoaaMailSend
import Derived.Deep.RegionLaw
namespace Go.Proofs.Ytfdbcnpbjabjoaa
set_option maxRecDepth 100000
open Go.RowKit

theorem results_tmp4 {fn : Func} {t u v x : Tmp} (h : fn.results = #[.tmp t, .tmp u, .tmp v, .tmp x]) (tmps : Array Value) (P : Program) (w : World) :
    (results fn tmps).run P w = .ok (.tuple #[tmps.getD t undef, tmps.getD u undef, tmps.getD v undef, tmps.getD x undef]) w := by
  simp [results, h]
theorem letters_at {L : List Letter} {j : Nat} (hj : j < L.length) (t : Nat) (ht : t < 3) : (L.flatMap letC)[j * 3 + t]? = (letC L[j])[t]? := by
  have hsp : L.flatMap letC = (L.take j).flatMap letC ++ (letC L[j] ++ (L.drop (j + 1)).flatMap letC) := by
    rw [← List.flatMap_cons, ← List.flatMap_append, ← List.drop_eq_getElem_cons hj, List.take_append_drop]
  rw [hsp, List.getElem?_append_right (by rw [letters_len, List.length_take]; omega), letters_len, List.length_take, List.getElem?_append_left (by rw [letC_len]; omega)]
  congr 1
  omega
theorem take_no (w : World) (B g : Nat) (L : List Letter) (nx i : Int) (h : Net w B g L nx) (hno : wrongB L i = true) :
    Calls Try.prog 15 #[.pointer (some ⟨g, 0, none⟩), .int .i64 i] w fun e w' =>
      e = .returned (.tuple #[strV [], strV [], .int .i64 0, .int .i64 210]) ∧ w' = w := by
  go_enter Try.func15, Try.ntmps15
  go_wp2_with fail
  refine (wrong_any w B g L nx i h).mono ?_
  rintro _ _ ⟨rfl, rfl⟩
  rw [hno]
  go_wp2_with fail
  try simp only [Exit.inBlock, Exit.then]
  refine bodyPost_ret (results_tmp4 rfl _ _ _) rfl ?_
  exact ⟨rfl, rfl⟩
theorem take_none (w : World) (i : Int) :
    Calls Try.prog 15 #[.pointer none, .int .i64 i] w fun e w' =>
      e = .returned (.tuple #[strV [], strV [], .int .i64 0, .int .i64 210]) ∧ w' = w := by
  go_enter Try.func15, Try.ntmps15
  go_wp2_with fail
  refine (wrong_none w i).mono ?_
  rintro _ _ ⟨rfl, rfl⟩
  go_wp2_with fail
  try simp only [Exit.inBlock, Exit.then]
  refine bodyPost_ret (results_tmp4 rfl _ _ _) rfl ?_
  exact ⟨rfl, rfl⟩
set_option maxHeartbeats 800000 in
theorem take_ok (w : World) (B g : Nat) (L : List Letter) (nx : Int) (j : Nat) (h : Net w B g L nx) (hj : j < L.length) (hsz : L.length ≤ maxLen) :
    Calls Try.prog 15 #[.pointer (some ⟨g, 0, none⟩), .int .i64 j] w fun e w' =>
      e = .returned (.tuple #[strV L[j].2.1, strV L[j].2.2, .int .i64 L[j].1, .int .i64 0]) ∧ Net w' B g (L.take j ++ L.drop (j + 1)) nx ∧ KeepT B [85, 87] w w' := by
  have hw : wrongB L j = false := by unfold wrongB; rw [decide_eq_false (by omega), decide_eq_false (by omega)]; rfl
  obtain ⟨a, c, ho, hr, hB⟩ := h.shape
  obtain ⟨b, rfl⟩ : ∃ b, a = some ⟨b, 0, none⟩ := by
    rcases hr.2 with ⟨e1, h0⟩ | ⟨b, cap, cur, e1, _⟩
    · omega
    · cases e1; exact ⟨b, rfl⟩
  have hat : ∀ t, t < 3 → w.cell? ⟨b, j * 3 + t, none⟩ = (letC L[j])[t]? := by
    intro t ht
    rw [← letters_at hj t ht]
    have hl : j * 3 + t < (L.flatMap letC).length := by rw [letters_len]; omega
    have := hr.cells (g := b) rfl (j * 3 + t) _ (List.getElem?_eq_getElem hl)
    rw [List.getElem?_eq_getElem hl, ← this]
    rw [Addr.add_lit, Nat.zero_add]
  have h0 : w.cell? ⟨b, j * 3, none⟩ = some (.int .i64 L[j].1) := hat 0 (by decide)
  have h1 : w.cell? ⟨b, j * 3 + 1, none⟩ = some (.string ⟨L[j].2.1.toArray⟩) := hat 1 (by decide)
  have h2 : w.cell? ⟨b, j * 3 + 2, none⟩ = some (.string ⟨L[j].2.2.toArray⟩) := hat 2 (by decide)
  have hw0 := wrong_any w B g L nx j h
  rw [hw] at hw0
  have c0 := ho.c0
  clear hat
  generalize L[j] = x at *
  obtain ⟨W, hW⟩ : ∃ W, W = w.alloc (.cells #[.int .i64 x.1, .string ⟨x.2.1.toArray⟩, .string ⟨x.2.2.toArray⟩] 87) := ⟨_, rfl⟩
  have kW : Below w.heap.size w W := by rw [hW]; exact (Below.refl _ _).alloc (Nat.le_refl _) _
  have hrW : W.ownsRow B 87 3 (.slice (some ⟨b, 0, none⟩) L.length c) L.length (L.flatMap letC) := by rw [hW]; exact World.ownsRow.alloc hr _
  have hdel := delete_any W B b c L j hj hrW
  have hoW := ho.keep kW
  have x0 : W.cell? ⟨w.heap.size, 0, none⟩ = some (.int .i64 x.1) := by rw [hW, World.cell?_alloc_at _ _ _ _ rfl]; rfl
  have x1 : W.cell? ⟨w.heap.size, 1, none⟩ = some (.string ⟨x.2.1.toArray⟩) := by rw [hW, World.cell?_alloc_at _ _ _ _ rfl]; rfl
  have x2 : W.cell? ⟨w.heap.size, 2, none⟩ = some (.string ⟨x.2.2.toArray⟩) := by rw [hW, World.cell?_alloc_at _ _ _ _ rfl]; rfl
  have cW := hoW.c0
  have fW := hoW.fz 0
  have hl := ho.lt
  have hX : Hid (W = w.alloc (.cells #[.int .i64 x.1, .string ⟨x.2.1.toArray⟩, .string ⟨x.2.2.toArray⟩] 87)) := hW
  have hwr : wrap64 ((j : Int) + 1) = (j : Int) + 1 := by unfold maxLen at hsz; simp only [wrap64]; omega
  have hbl : b < w.heap.size := (hr.lt b rfl).2
  have hL : ((L.take j ++ L.drop (j + 1)).length = L.length - 1) := by rw [List.length_append, List.length_take, List.length_drop]; omega
  clear hW h hr
  go_enter Try.func15, Try.ntmps15
  go_wp2_with fail
  refine hw0.mono ?_
  rintro _ w1 ⟨rfl, hw1⟩
  rw [hw1]
  clear hw1 w1
  go_wp2_with (rw [← hX.out])
  rw [hwr]
  refine hdel.mono ?_
  rintro _ w2 ⟨rfl, d1, d2, d3⟩
  have hne : some w.heap.size ≠ some b := by simp; omega
  have hneg : some w.heap.size ≠ some g := by simp; omega
  have hoY := d2.obj hoW (by decide)
  have cY := hoY.c0
  have fY := hoY.fz 0
  obtain ⟨W3, hW3⟩ : ∃ W3, W3 = w2.setCell ⟨g, 0, none⟩ (.slice (some ⟨b, 0, none⟩) (L.length - 1) c) := ⟨_, rfl⟩
  have a3 : At g w2 W3 := by rw [hW3]; exact (At.refl g w2).set 0 _
  have y0 := a3.cell (d3.cell x0 hne) hneg
  have y1 := a3.cell (d3.cell x1 hne) hneg
  have y2 := a3.cell (d3.cell x2 hne) hneg
  have hfin : Net W3 B g (L.take j ++ L.drop (j + 1)) nx ∧ KeepT B [85, 87] w W3 := by
    have k3 : KeepT B [85] w2 W3 := by rw [hW3]; exact (KeepT.refl _ _ _).setCell hoY (by simp) hB
    refine ⟨⟨.slice (some ⟨b, 0, none⟩) (L.length - 1) c, ?_, ?_, hB⟩, ((KeepT.of_below kW).trans (d2.mono (by simp))).trans (k3.mono (by simp))⟩
    · rw [hW3]; exact hoY.set0 _
    · rw [hL]; exact k3.own d1 (by decide)
  have hX3 : Hid (W3 = w2.setCell ⟨g, 0, none⟩ (.slice (some ⟨b, 0, none⟩) (L.length - 1) c)) := hW3
  clear hdel hwr x0 x1 x2 c0 h0 h1 h2 cW fW hW3 a3
  go_wp2_with (rw [← hX3.out])
  go_quiet (fail)
  go_wp2_with fail
  try simp only [Exit.inBlock, Exit.then]
  refine bodyPost_ret (results_tmp4 rfl _ _ _) rfl ?_
  exact ⟨rfl, hfin.1, hfin.2.drewN nq⟩
theorem lose_none (w : World) (i : Int) :
    Calls Try.prog 19 #[.pointer none, .int .i64 i] w fun e w' => e = .returned (.int .i64 210) ∧ w' = w := by
  go_enter Try.func19, Try.ntmps19
  go_wp2_with fail
  refine (take_none w i).mono ?_
  rintro _ _ ⟨rfl, rfl⟩
  go_wp2_with fail
  go_ret
  exact ⟨rfl, rfl⟩
theorem lose_no (w : World) (B g : Nat) (L : List Letter) (nx i : Int) (h : Net w B g L nx) (hno : wrongB L i = true) :
    Calls Try.prog 19 #[.pointer (some ⟨g, 0, none⟩), .int .i64 i] w fun e w' => e = .returned (.int .i64 210) ∧ w' = w := by
  go_enter Try.func19, Try.ntmps19
  go_wp2_with fail
  refine (take_no w B g L nx i h hno).mono ?_
  rintro _ _ ⟨rfl, rfl⟩
  go_wp2_with fail
  go_ret
  exact ⟨rfl, rfl⟩
theorem lose_ok (w : World) (B g : Nat) (L : List Letter) (nx : Int) (j : Nat) (h : Net w B g L nx) (hj : j < L.length) (hsz : L.length ≤ maxLen) :
    Calls Try.prog 19 #[.pointer (some ⟨g, 0, none⟩), .int .i64 j] w fun e w' =>
      e = .returned (.int .i64 0) ∧ Net w' B g (L.take j ++ L.drop (j + 1)) nx ∧ KeepT B [85, 87] w w' := by
  go_enter Try.func19, Try.ntmps19
  go_wp2_with fail
  refine (take_ok w B g L nx j h hj hsz).mono ?_
  rintro _ w' ⟨rfl, h1, h2⟩
  unfold strV
  go_wp2_with fail
  go_ret
  exact ⟨rfl, h1, h2⟩
theorem double_none (w : World) (i : Int) :
    Calls Try.prog 17 #[.pointer none, .int .i64 i] w fun e w' => e = .returned (.int .i64 210) ∧ w' = w := by
  go_enter Try.func17, Try.ntmps17
  go_wp2_with fail
  refine (wrong_none w i).mono ?_
  rintro _ _ ⟨rfl, rfl⟩
  go_wp2_with fail
  go_ret
  exact ⟨rfl, rfl⟩
theorem double_no (w : World) (B g : Nat) (L : List Letter) (nx i : Int) (h : Net w B g L nx) (hno : wrongB L i = true) :
    Calls Try.prog 17 #[.pointer (some ⟨g, 0, none⟩), .int .i64 i] w fun e w' => e = .returned (.int .i64 210) ∧ w' = w := by
  go_enter Try.func17, Try.ntmps17
  go_wp2_with fail
  refine (wrong_any w B g L nx i h).mono ?_
  rintro _ _ ⟨rfl, rfl⟩
  rw [hno]
  go_wp2_with fail
  go_ret
  exact ⟨rfl, rfl⟩
theorem double_full (w : World) (B g : Nat) (L : List Letter) (nx i : Int) (h : Net w B g L nx) (hno : wrongB L i = false) (hf : 64 ≤ L.length) :
    Calls Try.prog 17 #[.pointer (some ⟨g, 0, none⟩), .int .i64 i] w fun e w' => e = .returned (.int .i64 2) ∧ w' = w := by
  have hw0 := wrong_any w B g L nx i h
  rw [hno] at hw0
  obtain ⟨a, c, ho, hr, hB⟩ := h.shape
  have c0 := ho.c0
  have hf' : (64 : Int) ≤ (L.length : Int) := by omega
  clear h hr
  go_enter Try.func17, Try.ntmps17
  go_wp2_with fail
  refine hw0.mono ?_
  rintro _ w1 ⟨rfl, hw1⟩
  rw [hw1]
  clear hw1 w1
  go_wp2_with fail
  go_ret
  exact ⟨rfl, rfl⟩
/-- append one letter that lies in a block of its own, at a step of a region that draws -/
theorem step_append_letter {P : Program} (w : World) {ops : Array Oper} {o : Oper} {a : Act} {K : Act → World → Prop} {Q : Exit → Act → World → Prop} {E : Prop} (hgd : o.guard = none) (s x : Operand) (t : TypeId)
    (ho : o.op = .call { callee := .builtin .append, args := #[s, x], argTypes := #[t, t] })
    (B : Nat) (e : TypeId) (z : Value) (bytes : Nat) (ht : P.underlying t = some (.slice e)) (hi : (P.info? e).map (fun i => (i.zero, i.size, i.bytes)) = some (some z, 3, bytes)) (hzs : z.cells.size = 3)
    (v : Value) (L : List Letter) (hs : a.eval s = v) (hown : w.ownsRow B e 3 v L.length (L.flatMap letC))
    (g c : Nat) (hx : a.eval x = .slice (some ⟨g, 0, none⟩) 1 c) (y : Letter) (hy : ∀ j u, (letC y)[j]? = some u → w.cell? ⟨g, j, none⟩ = some u)
    (hlen : L.length + 1 ≤ maxLen) (hbytes : (L.length + 1) * bytes ≤ 140737488355328) (hB : B ≤ w.heap.size)
    (h : ∀ a' c' w', w'.ownsRow B e 3 (.slice a' (L.length + 1) c') (L ++ [y]).length ((L ++ [y]).flatMap letC) → KeepT B [e] w w' → K (a.put o.dst (.slice a' (L.length + 1) c')) w') :
    if Region.wanted o (yielded ops a.tmps) = true then Oper.wp P o a w K Q else E := by
  have hw : Region.wanted o (yielded ops a.tmps) = true := by simp [Region.wanted, hgd]
  rw [if_pos hw]
  obtain ⟨i0, hi0, hz0, hz1, hz2⟩ := info_parts hi
  have hy' : ∀ j u, (letC y)[j]? = some u → w.cell? ((⟨g, 0, none⟩ : Addr).add j) = some u := by
    intro j u hj
    have e0 : (⟨g, 0, none⟩ : Addr).add j = ⟨g, j, none⟩ := by unfold Addr.add; split <;> simp_all
    rw [e0]; exact hy j u hj
  obtain ⟨v', w', hrun, r1, r2, _⟩ := run_append_own (P := P) w B t o.type e i0 z 3 bytes ht hi0 hz0 hz1 hz2 hzs (by decide) v L.length (L.flatMap letC) hown ⟨g, 0, none⟩ 1 c (letC y) rfl hy' (letC_one y) hlen hbytes hB
  obtain ⟨a', c', rfl⟩ := ownsRow_slice r1
  unfold Oper.wp
  simp [execOp, ho, resolve, invoke, builtin, hs, hx, hrun, Result.andThen]
  refine h a' c' w' ?_ ?_
  · rw [List.length_append, List.flatMap_append]; simpa using r1
  · refine ⟨r2.os, r2.tape, r2.output, r2.size, fun k hk hn => r2.block k hk (fun hv => ?_)⟩
    rcases hown.2 with ⟨rfl, _⟩ | ⟨b, cap, cur, rfl, hb, hc, _⟩
    · cases hv
    · simp only [Value.ownBlock, Option.some.injEq] at hv
      subst hv
      rcases hn with hn | hn
      · omega
      · exact hn _ _ _ hc (by simp)
set_option maxHeartbeats 800000 in
theorem double_ok (w : World) (B g : Nat) (L : List Letter) (nx : Int) (j : Nat) (h : Net w B g L nx) (hj : j < L.length) (hsz : L.length < 64) :
    Calls Try.prog 17 #[.pointer (some ⟨g, 0, none⟩), .int .i64 j] w fun e w' =>
      e = .returned (.int .i64 0) ∧ Net w' B g (L ++ [L[j]]) nx ∧ KeepT B [85, 87] w w' := by
  have hinfo : (Try.prog.info? 87).map (fun i => (i.zero, i.size, i.bytes)) = some (some (.agg #[.int .i64 0, .string .empty, .string .empty]), 3, 40) := by kernel_rfl
  have hw : wrongB L j = false := by unfold wrongB; rw [decide_eq_false (by omega), decide_eq_false (by omega)]; rfl
  obtain ⟨a, c, ho, hr, hB⟩ := h.shape
  obtain ⟨b, rfl⟩ : ∃ b, a = some ⟨b, 0, none⟩ := by
    rcases hr.2 with ⟨e1, h0⟩ | ⟨b, cap, cur, e1, _⟩
    · omega
    · cases e1; exact ⟨b, rfl⟩
  have hat : ∀ t, t < 3 → w.cell? ⟨b, j * 3 + t, none⟩ = (letC L[j])[t]? := by
    intro t ht
    rw [← letters_at hj t ht]
    have hl : j * 3 + t < (L.flatMap letC).length := by rw [letters_len]; omega
    have := hr.cells (g := b) rfl (j * 3 + t) _ (List.getElem?_eq_getElem hl)
    rw [List.getElem?_eq_getElem hl, ← this]
    rw [Addr.add_lit, Nat.zero_add]
  have h0 : w.cell? ⟨b, j * 3, none⟩ = some (.int .i64 L[j].1) := hat 0 (by decide)
  have h1 : w.cell? ⟨b, j * 3 + 1, none⟩ = some (.string ⟨L[j].2.1.toArray⟩) := hat 1 (by decide)
  have h2 : w.cell? ⟨b, j * 3 + 2, none⟩ = some (.string ⟨L[j].2.2.toArray⟩) := hat 2 (by decide)
  have hw0 := wrong_any w B g L nx j h
  rw [hw] at hw0
  have c0 := ho.c0
  have hl := ho.lt
  clear hat
  generalize L[j] = x at *
  have hf' : ¬ (64 : Int) ≤ (L.length : Int) := by omega
  have g2 : ∀ (t : Nat) (u : Value), (letC x)[t]? = some u → (w.drew.alloc (.cells #[.int .i64 x.1, .string ⟨x.2.1.toArray⟩, .string ⟨x.2.2.toArray⟩] 87)).cell? ⟨w.heap.size, t, none⟩ = some u := by
    intro t u hu
    refine (World.cell?_alloc_at (w := w.drew) _ _ w.heap.size t rfl).trans ?_
    rw [← hu]
    unfold letC strV
    exact List.getElem?_toArray
  have g4 : B ≤ (w.drew.alloc (.cells #[.int .i64 x.1, .string ⟨x.2.1.toArray⟩, .string ⟨x.2.2.toArray⟩] 87)).heap.size := by
    show B ≤ (w.heap.push _).size
    rw [Array.size_push]; omega
  have hrW : (w.drew.alloc (.cells #[.int .i64 x.1, .string ⟨x.2.1.toArray⟩, .string ⟨x.2.2.toArray⟩] 87)).ownsRow B 87 3 (.slice (some ⟨b, 0, none⟩) L.length c) L.length (L.flatMap letC) := World.ownsRow.alloc hr _
  have hoW : Obj2 (w.drew.alloc (.cells #[.int .i64 x.1, .string ⟨x.2.1.toArray⟩, .string ⟨x.2.2.toArray⟩] 87)) g 85 (.slice (some ⟨b, 0, none⟩) L.length c) (.int .i64 nx) := Obj2.keep (w := w.drew) ho ((Below.refl _ _).alloc (Nat.le_refl _) (.cells #[.int .i64 x.1, .string ⟨x.2.1.toArray⟩, .string ⟨x.2.2.toArray⟩] 87))
  have kW : KeepT B [85, 87] w (w.drew.alloc (.cells #[.int .i64 x.1, .string ⟨x.2.1.toArray⟩, .string ⟨x.2.2.toArray⟩] 87)) := (KeepT.refl _ _ _).drew.alloc _
  clear h hr
  go_enter Try.func17, Try.ntmps17
  go_wp2_with fail
  refine hw0.mono ?_
  rintro _ w1 ⟨rfl, hw1⟩
  rw [hw1]
  clear hw1 w1
  go_wp2_with fail
  go_region_law (refine step_append_letter _ rfl _ _ 83 rfl B 87 (.agg #[.int .i64 0, .string .empty, .string .empty]) 40 Try.underlying83 hinfo rfl _ L rfl hrW w.heap.size 1 rfl x g2 (by unfold maxLen; omega) (by omega) g4 ?_; intro a' c' w' hown hkeep; have hD := hkeep.obj hoW (by decide); have d0 := hD.c0; have e0 := hD.fz 0)
  all_goals
    go_wp2_with fail
    go_ret
    refine ⟨rfl, ⟨.slice a' (L.length + 1) c', ?_, ?_, hB⟩, ?_⟩
    · exact hD.set0 _
    · exact ((KeepT.refl B [85] _).setCell hD (by simp) hB).own (by simpa using hown) (by decide)
    · exact (kW.trans (hkeep.mono (by simp))).setCell hD (by simp) hB
end Go.Proofs.Ytfdbcnpbjabjoaa
