/- WALK of StateApplies. -/
import Derived.Test.YtckpfcocbjfcbaaSmD
import Derived.Test.YtckpfcocbjfcbaaSmS
namespace Go.Proofs.Ytckpfcocbjfcbaa
open Go.RowKit
set_option linter.unusedVariables false
set_option linter.unusedSimpArgs false

theorem step_append_sl {P : Program} (w : World) {ops : Array Oper} {o : Oper} {a : Act} {K : Act → World → Prop} {Q : Exit → Act → World → Prop} {E : Prop} (hgd : o.guard = none) (s x : Operand) (t : TypeId)
    (ho : o.op = .call { callee := .builtin .append, args := #[s, x], argTypes := #[t, t] })
    (B : Nat) (e : TypeId) (z : Value) (k bytes : Nat) (ht : P.underlying t = some (.slice e)) (hi : (P.info? e).map (fun i => (i.zero, i.size, i.bytes)) = some (some z, k, bytes)) (hzs : z.cells.size = k) (hk0 : 0 < k)
    (v : Value) (n : Nat) (xs : List Value) (hs : a.eval s = v) (hown : w.ownsRow B e k v n xs)
    (xv : Value) (m : Nat) (cells : List Value) (hx : a.eval x = xv) (hsl : Sl w xv k m cells) (h1 : ∀ u ∈ cells, u.oneCell' = true)
    (hlen : n + m ≤ maxLen) (hbytes : (n + m) * bytes ≤ 140737488355328) (w0 : World) (hB : B ≤ w.heap.size) (hb : Below B w0 w)
    (h : ∀ a' c' w', w'.ownsRow B e k (.slice a' (n + m) c') (n + m) (xs ++ cells) → Below B w0 w' → K (a.put o.dst (.slice a' (n + m) c')) w') :
    if Region.wanted o (yielded ops a.tmps) = true then Oper.wp P o a w K Q else E := by
  have hw : Region.wanted o (yielded ops a.tmps) = true := by simp [Region.wanted, hgd]
  rw [if_pos hw]
  obtain ⟨i0, hi0, hz0, hz1, hz2⟩ := info_parts hi
  obtain ⟨hl, ⟨_, hnil⟩, ad, cap, rfl, hc⟩ := hsl
  cases ad with
  | none =>
    have hc0 := hnil m cap rfl
    have hm : m = 0 := by
      rcases hc with h0 | ⟨b, off, h', _⟩
      · exact h0
      · cases h'
    subst hm; subst hc0
    have hce : cells = [] := List.eq_nil_of_length_eq_zero (by simpa using hl)
    subst hce
    have hrun := run_append_owned_none (P := P) (w := w) B t o.type e i0 k ht hi0 v n xs hown
    obtain ⟨a', c', rfl⟩ := ownsRow_slice hown
    unfold Oper.wp
    simp [execOp, ho, resolve, invoke, builtin, hs, hx, hrun, Result.andThen]
    exact h a' c' w (by simpa using hown) hb
  | some ad =>
    have hy : ∀ j u, cells[j]? = some u → w.cell? (ad.add j) = some u := by
      intro j u hj
      obtain ⟨hjl, rfl⟩ := List.getElem?_eq_some_iff.1 hj
      rcases hc with h0 | ⟨b, off, h', _, hcell⟩
      · subst h0; simp at hl; subst hl; simp at hjl
      · cases h'
        rw [Addr.add_lit]; exact hcell j hjl
    obtain ⟨v', w', hrun, r1, r2, _⟩ := run_append_own (P := P) w B t o.type e i0 z k bytes ht hi0 hz0 hz1 hz2 hzs hk0 v n xs hown ad m cap cells hl hy h1 hlen hbytes hB
    obtain ⟨a', c', rfl⟩ := ownsRow_slice r1
    unfold Oper.wp
    simp [execOp, ho, resolve, invoke, builtin, hs, hx, hrun, Result.andThen]
    exact h a' c' w' r1 (hb.grown r2 hB (fun j hj => (World.ownsRow.lt hown j hj).1))
theorem firstBad_ne : ∀ (r p : List Ev) (i : Nat) (e : Int), firstBad p r = some (i, e) → e ≠ 0
  | [], p, i, e, h => by cases h
  | x :: r, p, i, e, h => by
    simp only [firstBad] at h
    split at h
    · rename_i hc
      injection h with h
      injection h with h1 h2
      rw [← h2]; exact hc
    · exact firstBad_ne r _ i e h
theorem rb_ok {l : List Ev} (h : (rbuildF l).2.2 = 0) : Hs l ∧ rbuildF l = (stOf l, 0, 0) := by
  unfold rbuildF at h ⊢
  cases hf : firstBad [] l with
  | none => exact ⟨by simpa using firstBad_none l [] .nil hf, rfl⟩
  | some x =>
    obtain ⟨i, e⟩ := x
    rw [hf] at h
    exact absurd h (firstBad_ne l [] i e hf)
set_option maxHeartbeats 64000000 in
set_option maxRecDepth 100000 in
theorem stateApplies_w (a : Option Addr) (c : Nat) (l : List Ev) (id kd tk rf sp ty : Int) (ud : Bool) (dt : List UInt8) (hdt : dt.length ≤ 140737488355328) (w : World) (hs : Sl w (.slice a l.length c) 8 l.length (l.flatMap evc)) (hcap : l.length ≤ c) (hfit : FitE l) :
    Calls Try.prog 7 #[.slice a l.length c, .agg #[.int .i64 id, .int .i64 kd, .int .i64 tk, .int .i64 rf, .int .i64 sp, .int .i64 ty, .bool ud, .string ⟨dt.toArray⟩]] w fun e w' => e = .returned (.bool true) ∧ Below w.heap.size w w' := by
  have hm : l.length ≤ 9223372036854775807 := hs.2.1.1
  obtain ⟨w0, hw0⟩ : ∃ x, x = w.alloc (.cells #[.int .i64 id, .int .i64 kd, .int .i64 tk, .int .i64 rf, .int .i64 sp, .int .i64 ty, .bool ud, .string ⟨dt.toArray⟩] 23) := ⟨_, rfl⟩
  have b0 : Below w.heap.size w w0 := by rw [hw0]; exact (Below.refl _ _).alloc (Nat.le_refl _) _
  have he0 : w0.heap[w.heap.size]? = some (.cells #[.int .i64 id, .int .i64 kd, .int .i64 tk, .int .i64 rf, .int .i64 sp, .int .i64 ty, .bool ud, .string ⟨dt.toArray⟩] 23 (0, 0)) := by rw [hw0]; exact heap_alloc_new w _
  have hs0 := hs.below b0
  have HW := hid hw0
  clear hw0 hs
  by_cases h60 : l.length ≤ 60
  case neg =>
    have h60' : (60 : Int) < (l.length : Int) := by omega
    go_enter Try.func7, Try.ntmps7
    go_wp2_with fail
    rw [← HW.out]
    refine (awake_any w0).mono ?_
    rintro _ w1 ⟨rfl, b1⟩
    go_wp2_with fail
    go_ret
    exact ⟨rfl, bnext b0 b1⟩
  have h60' : (l.length : Int) ≤ 60 := by omega
  go_enter Try.func7, Try.ntmps7
  go_wp2_with fail
  rw [← HW.out]
  refine (awake_any w0).mono ?_
  rintro _ w1 ⟨rfl, b1⟩
  have hs1 := hs0.below b1
  have he1 := (b1.block _ (Array.getElem?_eq_some_iff.1 he0).1).trans he0
  go_wp2_with fail
  refine (build_any a c l w1 hs1 hfit).mono ?_
  rintro _ w2 ⟨va, ua, ca, vc, uc, cc, rfl, hst, b2⟩
  have hs2 := hs1.below b2
  have he2 := (b2.block _ (Array.getElem?_eq_some_iff.1 he1).1).trans he1
  by_cases hf0 : (rbuildF l).2.2 = 0
  case neg =>
    have hq : ((rbuildF l).2.2 == 0) = false := by simpa using hf0
    have hq' : ((rbuildF l).2.2 != 0) = true := by simpa using hf0
    have HB := hid (fun (R : Array Value) => bnext (bnext (bnext b0 b1) b2) ((Below.refl w2.heap.size w2).alloc (Nat.le_refl _) (.cells R 36)))
    clear hf0
    generalize (rbuildF l).2.2 = e9 at *
    generalize (rbuildF l).1 = s9 at *
    rw [show staV s9 (.slice va s9.ss.length vc) (.slice ua s9.jobs.length uc) (.slice ca s9.clocks.length cc) = .agg #[.slice va s9.ss.length vc, .int .i64 s9.lim, .int .i64 s9.status, .int .i64 s9.next, .int .i64 s9.began, .int .i64 s9.asked, .int .i64 s9.taken, .bool s9.fresh, .slice ua s9.jobs.length uc, .slice ca s9.clocks.length cc, .bool s9.cancel, .bool s9.overdue] from rfl]
    go_wp2_with fail
    go_ret
    exact ⟨rfl, HB.out _⟩
  obtain ⟨hH, hrb⟩ := rb_ok hf0
  have hap := hH.apply (id, kd, tk, rf, sp, ty, ud, dt)
  have hok := hH.sok
  rw [hrb] at hst ⊢
  simp only at hst ⊢
  have HRB := hid hrb
  obtain ⟨s, hsq⟩ : ∃ s, s = stOf l := ⟨_, rfl⟩
  rw [← hsq] at hst hap hok ⊢
  have HSQ := hid hsq
  obtain ⟨ss, lim, st, nx, bg, ak, tn, fr, js, cs, cn, ov⟩ := s
  rw [show staV ⟨ss, lim, st, nx, bg, ak, tn, fr, js, cs, cn, ov⟩ (.slice va (⟨ss, lim, st, nx, bg, ak, tn, fr, js, cs, cn, ov⟩ : Sta).ss.length vc) (.slice ua (⟨ss, lim, st, nx, bg, ak, tn, fr, js, cs, cn, ov⟩ : Sta).jobs.length uc) (.slice ca (⟨ss, lim, st, nx, bg, ak, tn, fr, js, cs, cn, ov⟩ : Sta).clocks.length cc) = .agg #[.slice va ss.length vc, .int .i64 lim, .int .i64 st, .int .i64 nx, .int .i64 bg, .int .i64 ak, .int .i64 tn, .bool fr, .slice ua js.length uc, .slice ca cs.length cc, .bool cn, .bool ov] from rfl]
  have b3 : Below w2.heap.size w2 (w2.alloc (.cells #[.slice va ss.length vc, .int .i64 lim, .int .i64 st, .int .i64 nx, .int .i64 bg, .int .i64 ak, .int .i64 tn, .bool fr, .slice ua js.length uc, .slice ca cs.length cc, .bool cn, .bool ov] 36)) := (Below.refl _ _).alloc (Nat.le_refl _) _
  have hx3 : (w2.alloc (.cells #[.slice va ss.length vc, .int .i64 lim, .int .i64 st, .int .i64 nx, .int .i64 bg, .int .i64 ak, .int .i64 tn, .bool fr, .slice ua js.length uc, .slice ca cs.length cc, .bool cn, .bool ov] 36)).heap[w2.heap.size]? = some (.cells #[.slice va ss.length vc, .int .i64 lim, .int .i64 st, .int .i64 nx, .int .i64 bg, .int .i64 ak, .int .i64 tn, .bool fr, .slice ua js.length uc, .slice ca cs.length cc, .bool cn, .bool ov] 36 (0, 0)) := heap_alloc_new w2 _
  have hs3 := hs2.below b3
  have hst3 := hst.new b3
  have he3 := (b3.block _ (Array.getElem?_eq_some_iff.1 he2).1).trans he2
  have b03 := bnext (bnext (bnext b0 b1) b2) b3
  have x0 : (w2.alloc (.cells #[.slice va ss.length vc, .int .i64 lim, .int .i64 st, .int .i64 nx, .int .i64 bg, .int .i64 ak, .int .i64 tn, .bool fr, .slice ua js.length uc, .slice ca cs.length cc, .bool cn, .bool ov] 36)).cell? ⟨w2.heap.size, 0, none⟩ = some (.slice va ss.length vc) := by rw [cell_of_row _ _ 0 _ _ (0, 0) hx3]; rfl
  have x1 : (w2.alloc (.cells #[.slice va ss.length vc, .int .i64 lim, .int .i64 st, .int .i64 nx, .int .i64 bg, .int .i64 ak, .int .i64 tn, .bool fr, .slice ua js.length uc, .slice ca cs.length cc, .bool cn, .bool ov] 36)).cell? ⟨w2.heap.size, 1, none⟩ = some (.int .i64 lim) := by rw [cell_of_row _ _ 1 _ _ (0, 0) hx3]; rfl
  have x2 : (w2.alloc (.cells #[.slice va ss.length vc, .int .i64 lim, .int .i64 st, .int .i64 nx, .int .i64 bg, .int .i64 ak, .int .i64 tn, .bool fr, .slice ua js.length uc, .slice ca cs.length cc, .bool cn, .bool ov] 36)).cell? ⟨w2.heap.size, 2, none⟩ = some (.int .i64 st) := by rw [cell_of_row _ _ 2 _ _ (0, 0) hx3]; rfl
  have x3 : (w2.alloc (.cells #[.slice va ss.length vc, .int .i64 lim, .int .i64 st, .int .i64 nx, .int .i64 bg, .int .i64 ak, .int .i64 tn, .bool fr, .slice ua js.length uc, .slice ca cs.length cc, .bool cn, .bool ov] 36)).cell? ⟨w2.heap.size, 3, none⟩ = some (.int .i64 nx) := by rw [cell_of_row _ _ 3 _ _ (0, 0) hx3]; rfl
  have x4 : (w2.alloc (.cells #[.slice va ss.length vc, .int .i64 lim, .int .i64 st, .int .i64 nx, .int .i64 bg, .int .i64 ak, .int .i64 tn, .bool fr, .slice ua js.length uc, .slice ca cs.length cc, .bool cn, .bool ov] 36)).cell? ⟨w2.heap.size, 4, none⟩ = some (.int .i64 bg) := by rw [cell_of_row _ _ 4 _ _ (0, 0) hx3]; rfl
  have x5 : (w2.alloc (.cells #[.slice va ss.length vc, .int .i64 lim, .int .i64 st, .int .i64 nx, .int .i64 bg, .int .i64 ak, .int .i64 tn, .bool fr, .slice ua js.length uc, .slice ca cs.length cc, .bool cn, .bool ov] 36)).cell? ⟨w2.heap.size, 5, none⟩ = some (.int .i64 ak) := by rw [cell_of_row _ _ 5 _ _ (0, 0) hx3]; rfl
  have x6 : (w2.alloc (.cells #[.slice va ss.length vc, .int .i64 lim, .int .i64 st, .int .i64 nx, .int .i64 bg, .int .i64 ak, .int .i64 tn, .bool fr, .slice ua js.length uc, .slice ca cs.length cc, .bool cn, .bool ov] 36)).cell? ⟨w2.heap.size, 6, none⟩ = some (.int .i64 tn) := by rw [cell_of_row _ _ 6 _ _ (0, 0) hx3]; rfl
  have x7 : (w2.alloc (.cells #[.slice va ss.length vc, .int .i64 lim, .int .i64 st, .int .i64 nx, .int .i64 bg, .int .i64 ak, .int .i64 tn, .bool fr, .slice ua js.length uc, .slice ca cs.length cc, .bool cn, .bool ov] 36)).cell? ⟨w2.heap.size, 7, none⟩ = some (.bool fr) := by rw [cell_of_row _ _ 7 _ _ (0, 0) hx3]; rfl
  have x8 : (w2.alloc (.cells #[.slice va ss.length vc, .int .i64 lim, .int .i64 st, .int .i64 nx, .int .i64 bg, .int .i64 ak, .int .i64 tn, .bool fr, .slice ua js.length uc, .slice ca cs.length cc, .bool cn, .bool ov] 36)).cell? ⟨w2.heap.size, 8, none⟩ = some (.slice ua js.length uc) := by rw [cell_of_row _ _ 8 _ _ (0, 0) hx3]; rfl
  have x9 : (w2.alloc (.cells #[.slice va ss.length vc, .int .i64 lim, .int .i64 st, .int .i64 nx, .int .i64 bg, .int .i64 ak, .int .i64 tn, .bool fr, .slice ua js.length uc, .slice ca cs.length cc, .bool cn, .bool ov] 36)).cell? ⟨w2.heap.size, 9, none⟩ = some (.slice ca cs.length cc) := by rw [cell_of_row _ _ 9 _ _ (0, 0) hx3]; rfl
  have x10 : (w2.alloc (.cells #[.slice va ss.length vc, .int .i64 lim, .int .i64 st, .int .i64 nx, .int .i64 bg, .int .i64 ak, .int .i64 tn, .bool fr, .slice ua js.length uc, .slice ca cs.length cc, .bool cn, .bool ov] 36)).cell? ⟨w2.heap.size, 10, none⟩ = some (.bool cn) := by rw [cell_of_row _ _ 10 _ _ (0, 0) hx3]; rfl
  have x11 : (w2.alloc (.cells #[.slice va ss.length vc, .int .i64 lim, .int .i64 st, .int .i64 nx, .int .i64 bg, .int .i64 ak, .int .i64 tn, .bool fr, .slice ua js.length uc, .slice ca cs.length cc, .bool cn, .bool ov] 36)).cell? ⟨w2.heap.size, 11, none⟩ = some (.bool ov) := by rw [cell_of_row _ _ 11 _ _ (0, 0) hx3]; rfl
  have y0 : (w2.alloc (.cells #[.slice va ss.length vc, .int .i64 lim, .int .i64 st, .int .i64 nx, .int .i64 bg, .int .i64 ak, .int .i64 tn, .bool fr, .slice ua js.length uc, .slice ca cs.length cc, .bool cn, .bool ov] 36)).cell? ⟨w.heap.size, 0, none⟩ = some (.int .i64 id) := by rw [cell_of_row _ _ 0 _ _ (0, 0) he3]; rfl
  have y1 : (w2.alloc (.cells #[.slice va ss.length vc, .int .i64 lim, .int .i64 st, .int .i64 nx, .int .i64 bg, .int .i64 ak, .int .i64 tn, .bool fr, .slice ua js.length uc, .slice ca cs.length cc, .bool cn, .bool ov] 36)).cell? ⟨w.heap.size, 1, none⟩ = some (.int .i64 kd) := by rw [cell_of_row _ _ 1 _ _ (0, 0) he3]; rfl
  have y2 : (w2.alloc (.cells #[.slice va ss.length vc, .int .i64 lim, .int .i64 st, .int .i64 nx, .int .i64 bg, .int .i64 ak, .int .i64 tn, .bool fr, .slice ua js.length uc, .slice ca cs.length cc, .bool cn, .bool ov] 36)).cell? ⟨w.heap.size, 2, none⟩ = some (.int .i64 tk) := by rw [cell_of_row _ _ 2 _ _ (0, 0) he3]; rfl
  have y3 : (w2.alloc (.cells #[.slice va ss.length vc, .int .i64 lim, .int .i64 st, .int .i64 nx, .int .i64 bg, .int .i64 ak, .int .i64 tn, .bool fr, .slice ua js.length uc, .slice ca cs.length cc, .bool cn, .bool ov] 36)).cell? ⟨w.heap.size, 3, none⟩ = some (.int .i64 rf) := by rw [cell_of_row _ _ 3 _ _ (0, 0) he3]; rfl
  have y4 : (w2.alloc (.cells #[.slice va ss.length vc, .int .i64 lim, .int .i64 st, .int .i64 nx, .int .i64 bg, .int .i64 ak, .int .i64 tn, .bool fr, .slice ua js.length uc, .slice ca cs.length cc, .bool cn, .bool ov] 36)).cell? ⟨w.heap.size, 4, none⟩ = some (.int .i64 sp) := by rw [cell_of_row _ _ 4 _ _ (0, 0) he3]; rfl
  have y5 : (w2.alloc (.cells #[.slice va ss.length vc, .int .i64 lim, .int .i64 st, .int .i64 nx, .int .i64 bg, .int .i64 ak, .int .i64 tn, .bool fr, .slice ua js.length uc, .slice ca cs.length cc, .bool cn, .bool ov] 36)).cell? ⟨w.heap.size, 5, none⟩ = some (.int .i64 ty) := by rw [cell_of_row _ _ 5 _ _ (0, 0) he3]; rfl
  have y6 : (w2.alloc (.cells #[.slice va ss.length vc, .int .i64 lim, .int .i64 st, .int .i64 nx, .int .i64 bg, .int .i64 ak, .int .i64 tn, .bool fr, .slice ua js.length uc, .slice ca cs.length cc, .bool cn, .bool ov] 36)).cell? ⟨w.heap.size, 6, none⟩ = some (.bool ud) := by rw [cell_of_row _ _ 6 _ _ (0, 0) he3]; rfl
  have y7 : (w2.alloc (.cells #[.slice va ss.length vc, .int .i64 lim, .int .i64 st, .int .i64 nx, .int .i64 bg, .int .i64 ak, .int .i64 tn, .bool fr, .slice ua js.length uc, .slice ca cs.length cc, .bool cn, .bool ov] 36)).cell? ⟨w.heap.size, 7, none⟩ = some (.string ⟨dt.toArray⟩) := by rw [cell_of_row _ _ 7 _ _ (0, 0) he3]; rfl
  have HAP := hid hap
  clear hf0 hrb hap hsq hs0 hs1 hs2 he0 he1 he2 b0 b1 b2 b3 hst HW
  go_wp2_with fail
  refine (apply_any ss lim st nx bg ak tn fr js cs cn ov va ua ca vc uc cc id kd tk rf sp ty ud dt _ hst3.read hok hdt).mono ?_
  rintro e' w4 hpost
  have hpost2 : APost _ _ _ e' w4 := hpost
  rw [HAP.out] at hpost2
  clear hpost x0 x1 x2 x3 x4 x5 x6 x7 x8 x9 x10 x11 y0 y1 y2 y3 y4 y5 y6 y7
  obtain ⟨g, hgq⟩ : ∃ g, g = comesF l (id, kd, tk, rf, sp, ty, ud, dt) := ⟨_, rfl⟩
  have HGQ := hid hgq
  rw [← hgq] at hpost2
  clear hgq
  obtain ⟨t, htq⟩ : ∃ t, t = if g = 0 then stOf (l ++ [(id, kd, tk, rf, sp, ty, ud, dt)]) else s0 := ⟨_, rfl⟩
  rw [show (if g = 0 then (stOf (l ++ [(id, kd, tk, rf, sp, ty, ud, dt)]), (0 : Int)) else (s0, g)) = (t, g) from by rw [htq]; by_cases hg : g = 0 <;> simp [hg]] at hpost2
  have HTQ := hid htq
  clear htq
  obtain ⟨b4, vt, ut, ct, vn, un, cm, rfl, hO4⟩ := hpost2
  simp only at hO4
  rw [show staV (t, g).1 (.slice vt (t, g).1.ss.length vn) (.slice ut (t, g).1.jobs.length un) (.slice ct (t, g).1.clocks.length cm) = .agg #[.slice vt t.ss.length vn, .int .i64 t.lim, .int .i64 t.status, .int .i64 t.next, .int .i64 t.began, .int .i64 t.asked, .int .i64 t.taken, .bool t.fresh, .slice ut t.jobs.length un, .slice ct t.clocks.length cm, .bool t.cancel, .bool t.overdue] from rfl]
  have b5 : Below w4.heap.size w4 (w4.alloc (.cells #[.slice vt t.ss.length vn, .int .i64 t.lim, .int .i64 t.status, .int .i64 t.next, .int .i64 t.began, .int .i64 t.asked, .int .i64 t.taken, .bool t.fresh, .slice ut t.jobs.length un, .slice ct t.clocks.length cm, .bool t.cancel, .bool t.overdue] 36)) := (Below.refl _ _).alloc (Nat.le_refl _) _
  have hz5 : (w4.alloc (.cells #[.slice vt t.ss.length vn, .int .i64 t.lim, .int .i64 t.status, .int .i64 t.next, .int .i64 t.began, .int .i64 t.asked, .int .i64 t.taken, .bool t.fresh, .slice ut t.jobs.length un, .slice ct t.clocks.length cm, .bool t.cancel, .bool t.overdue] 36)).heap[w4.heap.size]? = some (.cells #[.slice vt t.ss.length vn, .int .i64 t.lim, .int .i64 t.status, .int .i64 t.next, .int .i64 t.began, .int .i64 t.asked, .int .i64 t.taken, .bool t.fresh, .slice ut t.jobs.length un, .slice ct t.clocks.length cm, .bool t.cancel, .bool t.overdue] 36 (0, 0)) := heap_alloc_new w4 _
  have hx4 := (b4.block _ (Array.getElem?_eq_some_iff.1 hx3).1).trans hx3
  have hx5 := (b5.block _ (Array.getElem?_eq_some_iff.1 hx4).1).trans hx4
  have he4 := (b4.block _ (Array.getElem?_eq_some_iff.1 he3).1).trans he3
  have he5 := (b5.block _ (Array.getElem?_eq_some_iff.1 he4).1).trans he4
  have hs5 := (hs3.below b4).below b5
  have hst5 := (hst3.new b4).new b5
  have hO5 := hO4.new b5
  have b05 := bnext (bnext b03 b4) b5
  have y0 : (w4.alloc (.cells #[.slice vt t.ss.length vn, .int .i64 t.lim, .int .i64 t.status, .int .i64 t.next, .int .i64 t.began, .int .i64 t.asked, .int .i64 t.taken, .bool t.fresh, .slice ut t.jobs.length un, .slice ct t.clocks.length cm, .bool t.cancel, .bool t.overdue] 36)).cell? ⟨w.heap.size, 0, none⟩ = some (.int .i64 id) := by rw [cell_of_row _ _ 0 _ _ (0, 0) he5]; rfl
  have y1 : (w4.alloc (.cells #[.slice vt t.ss.length vn, .int .i64 t.lim, .int .i64 t.status, .int .i64 t.next, .int .i64 t.began, .int .i64 t.asked, .int .i64 t.taken, .bool t.fresh, .slice ut t.jobs.length un, .slice ct t.clocks.length cm, .bool t.cancel, .bool t.overdue] 36)).cell? ⟨w.heap.size, 1, none⟩ = some (.int .i64 kd) := by rw [cell_of_row _ _ 1 _ _ (0, 0) he5]; rfl
  have y2 : (w4.alloc (.cells #[.slice vt t.ss.length vn, .int .i64 t.lim, .int .i64 t.status, .int .i64 t.next, .int .i64 t.began, .int .i64 t.asked, .int .i64 t.taken, .bool t.fresh, .slice ut t.jobs.length un, .slice ct t.clocks.length cm, .bool t.cancel, .bool t.overdue] 36)).cell? ⟨w.heap.size, 2, none⟩ = some (.int .i64 tk) := by rw [cell_of_row _ _ 2 _ _ (0, 0) he5]; rfl
  have y3 : (w4.alloc (.cells #[.slice vt t.ss.length vn, .int .i64 t.lim, .int .i64 t.status, .int .i64 t.next, .int .i64 t.began, .int .i64 t.asked, .int .i64 t.taken, .bool t.fresh, .slice ut t.jobs.length un, .slice ct t.clocks.length cm, .bool t.cancel, .bool t.overdue] 36)).cell? ⟨w.heap.size, 3, none⟩ = some (.int .i64 rf) := by rw [cell_of_row _ _ 3 _ _ (0, 0) he5]; rfl
  have y4 : (w4.alloc (.cells #[.slice vt t.ss.length vn, .int .i64 t.lim, .int .i64 t.status, .int .i64 t.next, .int .i64 t.began, .int .i64 t.asked, .int .i64 t.taken, .bool t.fresh, .slice ut t.jobs.length un, .slice ct t.clocks.length cm, .bool t.cancel, .bool t.overdue] 36)).cell? ⟨w.heap.size, 4, none⟩ = some (.int .i64 sp) := by rw [cell_of_row _ _ 4 _ _ (0, 0) he5]; rfl
  have y5 : (w4.alloc (.cells #[.slice vt t.ss.length vn, .int .i64 t.lim, .int .i64 t.status, .int .i64 t.next, .int .i64 t.began, .int .i64 t.asked, .int .i64 t.taken, .bool t.fresh, .slice ut t.jobs.length un, .slice ct t.clocks.length cm, .bool t.cancel, .bool t.overdue] 36)).cell? ⟨w.heap.size, 5, none⟩ = some (.int .i64 ty) := by rw [cell_of_row _ _ 5 _ _ (0, 0) he5]; rfl
  have y6 : (w4.alloc (.cells #[.slice vt t.ss.length vn, .int .i64 t.lim, .int .i64 t.status, .int .i64 t.next, .int .i64 t.began, .int .i64 t.asked, .int .i64 t.taken, .bool t.fresh, .slice ut t.jobs.length un, .slice ct t.clocks.length cm, .bool t.cancel, .bool t.overdue] 36)).cell? ⟨w.heap.size, 6, none⟩ = some (.bool ud) := by rw [cell_of_row _ _ 6 _ _ (0, 0) he5]; rfl
  have y7 : (w4.alloc (.cells #[.slice vt t.ss.length vn, .int .i64 t.lim, .int .i64 t.status, .int .i64 t.next, .int .i64 t.began, .int .i64 t.asked, .int .i64 t.taken, .bool t.fresh, .slice ut t.jobs.length un, .slice ct t.clocks.length cm, .bool t.cancel, .bool t.overdue] 36)).cell? ⟨w.heap.size, 7, none⟩ = some (.string ⟨dt.toArray⟩) := by rw [cell_of_row _ _ 7 _ _ (0, 0) he5]; rfl
  clear hx3 hx4 he3 he4 hs3 hst3 hO4 b03 b4 b5
  go_wp2_with fail
  refine (rcomes_any a c l id kd tk rf sp ty ud dt hdt _ hs5 hH).mono ?_
  rintro _ w6 ⟨rfl, b6⟩
  rw [← HGQ.out]
  have qg : (g == g) = true := by simp
  have qg' : (g != g) = false := by simp
  have hs6 := hs5.below b6
  have hx6 := (b6.block _ (Array.getElem?_eq_some_iff.1 hx5).1).trans hx5
  have he6 := (b6.block _ (Array.getElem?_eq_some_iff.1 he5).1).trans he5
  have hz6 := (b6.block _ (Array.getElem?_eq_some_iff.1 hz5).1).trans hz5
  have hst6 := hst5.new b6
  have hO6 := hO5.new b6
  have b06 := bnext b05 b6
  clear y0 y1 y2 y3 y4 y5 y6 y7 hx5 he5 hz5 hs5 hst5 hO5 b05 b6
  go_wp2_with fail
  refine (rbuild_any a c l w6 hs6 hcap hfit).mono ?_
  rintro _ w7 ⟨va', ua', ca', vc', uc', cc', rfl, hrt, b7⟩
  rw [HRB.out] at hrt ⊢
  simp only at hrt ⊢
  rw [← HSQ.out] at hrt ⊢
  simp only at hrt ⊢
  rw [show staV ⟨ss, lim, st, nx, bg, ak, tn, fr, js, cs, cn, ov⟩ (.slice va' (⟨ss, lim, st, nx, bg, ak, tn, fr, js, cs, cn, ov⟩ : Sta).ss.length vc') (.slice ua' (⟨ss, lim, st, nx, bg, ak, tn, fr, js, cs, cn, ov⟩ : Sta).jobs.length uc') (.slice ca' (⟨ss, lim, st, nx, bg, ak, tn, fr, js, cs, cn, ov⟩ : Sta).clocks.length cc') = .agg #[.slice va' ss.length vc', .int .i64 lim, .int .i64 st, .int .i64 nx, .int .i64 bg, .int .i64 ak, .int .i64 tn, .bool fr, .slice ua' js.length uc', .slice ca' cs.length cc', .bool cn, .bool ov] from rfl]
  have b8 : Below w7.heap.size w7 (w7.alloc (.cells #[.slice va' ss.length vc', .int .i64 lim, .int .i64 st, .int .i64 nx, .int .i64 bg, .int .i64 ak, .int .i64 tn, .bool fr, .slice ua' js.length uc', .slice ca' cs.length cc', .bool cn, .bool ov] 36)) := (Below.refl _ _).alloc (Nat.le_refl _) _
  have hx7 := (b7.block _ (Array.getElem?_eq_some_iff.1 hx6).1).trans hx6
  have hx8 := (b8.block _ (Array.getElem?_eq_some_iff.1 hx7).1).trans hx7
  have he7 := (b7.block _ (Array.getElem?_eq_some_iff.1 he6).1).trans he6
  have he8 := (b8.block _ (Array.getElem?_eq_some_iff.1 he7).1).trans he7
  have hz7 := (b7.block _ (Array.getElem?_eq_some_iff.1 hz6).1).trans hz6
  have hz8 := (b8.block _ (Array.getElem?_eq_some_iff.1 hz7).1).trans hz7
  have hs8 := (hs6.below b7).below b8
  have hr1 := ((hst6.new b7).new b8).read
  have hr2 := hrt.below b8
  have hO8 := (hO6.new b7).new b8
  have b08 := bnext (bnext b06 b7) b8
  have x0 : (w7.alloc (.cells #[.slice va' ss.length vc', .int .i64 lim, .int .i64 st, .int .i64 nx, .int .i64 bg, .int .i64 ak, .int .i64 tn, .bool fr, .slice ua' js.length uc', .slice ca' cs.length cc', .bool cn, .bool ov] 36)).cell? ⟨w2.heap.size, 0, none⟩ = some (.slice va ss.length vc) := by rw [cell_of_row _ _ 0 _ _ (0, 0) hx8]; rfl
  have x1 : (w7.alloc (.cells #[.slice va' ss.length vc', .int .i64 lim, .int .i64 st, .int .i64 nx, .int .i64 bg, .int .i64 ak, .int .i64 tn, .bool fr, .slice ua' js.length uc', .slice ca' cs.length cc', .bool cn, .bool ov] 36)).cell? ⟨w2.heap.size, 1, none⟩ = some (.int .i64 lim) := by rw [cell_of_row _ _ 1 _ _ (0, 0) hx8]; rfl
  have x2 : (w7.alloc (.cells #[.slice va' ss.length vc', .int .i64 lim, .int .i64 st, .int .i64 nx, .int .i64 bg, .int .i64 ak, .int .i64 tn, .bool fr, .slice ua' js.length uc', .slice ca' cs.length cc', .bool cn, .bool ov] 36)).cell? ⟨w2.heap.size, 2, none⟩ = some (.int .i64 st) := by rw [cell_of_row _ _ 2 _ _ (0, 0) hx8]; rfl
  have x3 : (w7.alloc (.cells #[.slice va' ss.length vc', .int .i64 lim, .int .i64 st, .int .i64 nx, .int .i64 bg, .int .i64 ak, .int .i64 tn, .bool fr, .slice ua' js.length uc', .slice ca' cs.length cc', .bool cn, .bool ov] 36)).cell? ⟨w2.heap.size, 3, none⟩ = some (.int .i64 nx) := by rw [cell_of_row _ _ 3 _ _ (0, 0) hx8]; rfl
  have x4 : (w7.alloc (.cells #[.slice va' ss.length vc', .int .i64 lim, .int .i64 st, .int .i64 nx, .int .i64 bg, .int .i64 ak, .int .i64 tn, .bool fr, .slice ua' js.length uc', .slice ca' cs.length cc', .bool cn, .bool ov] 36)).cell? ⟨w2.heap.size, 4, none⟩ = some (.int .i64 bg) := by rw [cell_of_row _ _ 4 _ _ (0, 0) hx8]; rfl
  have x5 : (w7.alloc (.cells #[.slice va' ss.length vc', .int .i64 lim, .int .i64 st, .int .i64 nx, .int .i64 bg, .int .i64 ak, .int .i64 tn, .bool fr, .slice ua' js.length uc', .slice ca' cs.length cc', .bool cn, .bool ov] 36)).cell? ⟨w2.heap.size, 5, none⟩ = some (.int .i64 ak) := by rw [cell_of_row _ _ 5 _ _ (0, 0) hx8]; rfl
  have x6 : (w7.alloc (.cells #[.slice va' ss.length vc', .int .i64 lim, .int .i64 st, .int .i64 nx, .int .i64 bg, .int .i64 ak, .int .i64 tn, .bool fr, .slice ua' js.length uc', .slice ca' cs.length cc', .bool cn, .bool ov] 36)).cell? ⟨w2.heap.size, 6, none⟩ = some (.int .i64 tn) := by rw [cell_of_row _ _ 6 _ _ (0, 0) hx8]; rfl
  have x7 : (w7.alloc (.cells #[.slice va' ss.length vc', .int .i64 lim, .int .i64 st, .int .i64 nx, .int .i64 bg, .int .i64 ak, .int .i64 tn, .bool fr, .slice ua' js.length uc', .slice ca' cs.length cc', .bool cn, .bool ov] 36)).cell? ⟨w2.heap.size, 7, none⟩ = some (.bool fr) := by rw [cell_of_row _ _ 7 _ _ (0, 0) hx8]; rfl
  have x8 : (w7.alloc (.cells #[.slice va' ss.length vc', .int .i64 lim, .int .i64 st, .int .i64 nx, .int .i64 bg, .int .i64 ak, .int .i64 tn, .bool fr, .slice ua' js.length uc', .slice ca' cs.length cc', .bool cn, .bool ov] 36)).cell? ⟨w2.heap.size, 8, none⟩ = some (.slice ua js.length uc) := by rw [cell_of_row _ _ 8 _ _ (0, 0) hx8]; rfl
  have x9 : (w7.alloc (.cells #[.slice va' ss.length vc', .int .i64 lim, .int .i64 st, .int .i64 nx, .int .i64 bg, .int .i64 ak, .int .i64 tn, .bool fr, .slice ua' js.length uc', .slice ca' cs.length cc', .bool cn, .bool ov] 36)).cell? ⟨w2.heap.size, 9, none⟩ = some (.slice ca cs.length cc) := by rw [cell_of_row _ _ 9 _ _ (0, 0) hx8]; rfl
  have x10 : (w7.alloc (.cells #[.slice va' ss.length vc', .int .i64 lim, .int .i64 st, .int .i64 nx, .int .i64 bg, .int .i64 ak, .int .i64 tn, .bool fr, .slice ua' js.length uc', .slice ca' cs.length cc', .bool cn, .bool ov] 36)).cell? ⟨w2.heap.size, 10, none⟩ = some (.bool cn) := by rw [cell_of_row _ _ 10 _ _ (0, 0) hx8]; rfl
  have x11 : (w7.alloc (.cells #[.slice va' ss.length vc', .int .i64 lim, .int .i64 st, .int .i64 nx, .int .i64 bg, .int .i64 ak, .int .i64 tn, .bool fr, .slice ua' js.length uc', .slice ca' cs.length cc', .bool cn, .bool ov] 36)).cell? ⟨w2.heap.size, 11, none⟩ = some (.bool ov) := by rw [cell_of_row _ _ 11 _ _ (0, 0) hx8]; rfl
  clear hx6 hx7 he6 he7 hz6 hz7 hs6 hst6 hrt hO6 b06 b7 b8
  go_wp2_with fail
  refine (rsame_yes ss lim st nx bg ak tn fr js cs cn ov va ua ca va' ua' ca' vc uc cc vc' uc' cc' _ hr1 hr2).mono ?_
  rintro _ w9 ⟨rfl, b9⟩
  have he9 := (b9.block _ (Array.getElem?_eq_some_iff.1 he8).1).trans he8
  have hz9 := (b9.block _ (Array.getElem?_eq_some_iff.1 hz8).1).trans hz8
  have hs9 := hs8.below b9
  have hO9 := hO8.new b9
  have b09 := bnext b08 b9
  clear x0 x1 x2 x3 x4 x5 x6 x7 x8 x9 x10 x11 hr1 hr2 he8 hz8 hs8 hO8 b08 b9 hx8
  by_cases hg : g = 0
  case neg =>
    have ht0 : t = s0 := by rw [HTQ.out, if_neg hg]
    have hqg : (g == 0) = false := by simpa using hg
    have hqg' : (g != 0) = true := by simpa using hg
    subst ht0
    have hz9' : w9.heap[w4.heap.size]? = some (.cells #[.slice vt 0 vn, .int .i64 0, .int .i64 0, .int .i64 0, .int .i64 0, .int .i64 0, .int .i64 0, .bool false, .slice ut 0 un, .slice ct 0 cm, .bool false, .bool false] 36 (0, 0)) := hz9
    have z0 : w9.cell? ⟨w4.heap.size, 0, none⟩ = some (.slice vt 0 vn) := by rw [cell_of_row _ _ 0 _ _ (0, 0) hz9']; rfl
    have z1 : w9.cell? ⟨w4.heap.size, 1, none⟩ = some (.int .i64 0) := by rw [cell_of_row _ _ 1 _ _ (0, 0) hz9']; rfl
    have z2 : w9.cell? ⟨w4.heap.size, 2, none⟩ = some (.int .i64 0) := by rw [cell_of_row _ _ 2 _ _ (0, 0) hz9']; rfl
    have z3 : w9.cell? ⟨w4.heap.size, 3, none⟩ = some (.int .i64 0) := by rw [cell_of_row _ _ 3 _ _ (0, 0) hz9']; rfl
    have z4 : w9.cell? ⟨w4.heap.size, 4, none⟩ = some (.int .i64 0) := by rw [cell_of_row _ _ 4 _ _ (0, 0) hz9']; rfl
    have z5 : w9.cell? ⟨w4.heap.size, 5, none⟩ = some (.int .i64 0) := by rw [cell_of_row _ _ 5 _ _ (0, 0) hz9']; rfl
    have z6 : w9.cell? ⟨w4.heap.size, 6, none⟩ = some (.int .i64 0) := by rw [cell_of_row _ _ 6 _ _ (0, 0) hz9']; rfl
    have z7 : w9.cell? ⟨w4.heap.size, 7, none⟩ = some (.bool false) := by rw [cell_of_row _ _ 7 _ _ (0, 0) hz9']; rfl
    have z8 : w9.cell? ⟨w4.heap.size, 8, none⟩ = some (.slice ut 0 un) := by rw [cell_of_row _ _ 8 _ _ (0, 0) hz9']; rfl
    have z9 : w9.cell? ⟨w4.heap.size, 9, none⟩ = some (.slice ct 0 cm) := by rw [cell_of_row _ _ 9 _ _ (0, 0) hz9']; rfl
    have z10 : w9.cell? ⟨w4.heap.size, 10, none⟩ = some (.bool false) := by rw [cell_of_row _ _ 10 _ _ (0, 0) hz9']; rfl
    have z11 : w9.cell? ⟨w4.heap.size, 11, none⟩ = some (.bool false) := by rw [cell_of_row _ _ 11 _ _ (0, 0) hz9']; rfl
    have hr3 := hO9.read
    clear hz9 hz9' hg he9 hO9
    go_wp2_with fail
    refine (rsame_yes [] 0 0 0 0 0 0 false [] [] false false vt ut ct none none none vn un cm 0 0 0 w9 hr3 ⟨Sl.none _ _, Sl.none _ _, Sl.none _ _⟩).mono ?_
    rintro _ w10 ⟨rfl, b10⟩
    have HB := hid (bnext b09 b10)
    go_wp2_with fail
    go_ret
    exact ⟨rfl, HB.out⟩
  subst hg
  have hcm0 : comesF l (id, kd, tk, rf, sp, ty, ud, dt) = 0 := HGQ.out.symm
  have hH2 : Hs (l ++ [(id, kd, tk, rf, sp, ty, ud, dt)]) := .snoc hH hcm0
  have htt : t = stOf (l ++ [(id, kd, tk, rf, sp, ty, ud, dt)]) := by rw [HTQ.out, if_pos rfl]
  have HTT := hid htt
  clear htt hcm0
  obtain ⟨ss9, lim9, st9, nx9, bg9, ak9, tn9, fr9, js9, cs9, cn9, ov9⟩ := t
  simp only at hz9 hO9
  have hzl := (Array.getElem?_eq_some_iff.1 hz9).1
  have hel := (Array.getElem?_eq_some_iff.1 he9).1
  have z0 : w9.cell? ⟨w4.heap.size, 0, none⟩ = some (.slice vt ss9.length vn) := by rw [cell_of_row _ _ 0 _ _ (0, 0) hz9]; rfl
  have z1 : w9.cell? ⟨w4.heap.size, 1, none⟩ = some (.int .i64 lim9) := by rw [cell_of_row _ _ 1 _ _ (0, 0) hz9]; rfl
  have z2 : w9.cell? ⟨w4.heap.size, 2, none⟩ = some (.int .i64 st9) := by rw [cell_of_row _ _ 2 _ _ (0, 0) hz9]; rfl
  have z3 : w9.cell? ⟨w4.heap.size, 3, none⟩ = some (.int .i64 nx9) := by rw [cell_of_row _ _ 3 _ _ (0, 0) hz9]; rfl
  have z4 : w9.cell? ⟨w4.heap.size, 4, none⟩ = some (.int .i64 bg9) := by rw [cell_of_row _ _ 4 _ _ (0, 0) hz9]; rfl
  have z5 : w9.cell? ⟨w4.heap.size, 5, none⟩ = some (.int .i64 ak9) := by rw [cell_of_row _ _ 5 _ _ (0, 0) hz9]; rfl
  have z6 : w9.cell? ⟨w4.heap.size, 6, none⟩ = some (.int .i64 tn9) := by rw [cell_of_row _ _ 6 _ _ (0, 0) hz9]; rfl
  have z7 : w9.cell? ⟨w4.heap.size, 7, none⟩ = some (.bool fr9) := by rw [cell_of_row _ _ 7 _ _ (0, 0) hz9]; rfl
  have z8 : w9.cell? ⟨w4.heap.size, 8, none⟩ = some (.slice ut js9.length un) := by rw [cell_of_row _ _ 8 _ _ (0, 0) hz9]; rfl
  have z9 : w9.cell? ⟨w4.heap.size, 9, none⟩ = some (.slice ct cs9.length cm) := by rw [cell_of_row _ _ 9 _ _ (0, 0) hz9]; rfl
  have z10 : w9.cell? ⟨w4.heap.size, 10, none⟩ = some (.bool cn9) := by rw [cell_of_row _ _ 10 _ _ (0, 0) hz9]; rfl
  have z11 : w9.cell? ⟨w4.heap.size, 11, none⟩ = some (.bool ov9) := by rw [cell_of_row _ _ 11 _ _ (0, 0) hz9]; rfl
  have y0 : w9.cell? ⟨w.heap.size, 0, none⟩ = some (.int .i64 id) := by rw [cell_of_row _ _ 0 _ _ (0, 0) he9]; rfl
  have y1 : w9.cell? ⟨w.heap.size, 1, none⟩ = some (.int .i64 kd) := by rw [cell_of_row _ _ 1 _ _ (0, 0) he9]; rfl
  have y2 : w9.cell? ⟨w.heap.size, 2, none⟩ = some (.int .i64 tk) := by rw [cell_of_row _ _ 2 _ _ (0, 0) he9]; rfl
  have y3 : w9.cell? ⟨w.heap.size, 3, none⟩ = some (.int .i64 rf) := by rw [cell_of_row _ _ 3 _ _ (0, 0) he9]; rfl
  have y4 : w9.cell? ⟨w.heap.size, 4, none⟩ = some (.int .i64 sp) := by rw [cell_of_row _ _ 4 _ _ (0, 0) he9]; rfl
  have y5 : w9.cell? ⟨w.heap.size, 5, none⟩ = some (.int .i64 ty) := by rw [cell_of_row _ _ 5 _ _ (0, 0) he9]; rfl
  have y6 : w9.cell? ⟨w.heap.size, 6, none⟩ = some (.bool ud) := by rw [cell_of_row _ _ 6 _ _ (0, 0) he9]; rfl
  have y7 : w9.cell? ⟨w.heap.size, 7, none⟩ = some (.string ⟨dt.toArray⟩) := by rw [cell_of_row _ _ 7 _ _ (0, 0) he9]; rfl
  have SC := hid (fun (w' : World) (q : Below w9.heap.size w9 w') => (⟨q, (q.cell (p := ⟨w4.heap.size, 0, none⟩) hzl).trans z0, (q.cell (p := ⟨w4.heap.size, 1, none⟩) hzl).trans z1, (q.cell (p := ⟨w4.heap.size, 2, none⟩) hzl).trans z2, (q.cell (p := ⟨w4.heap.size, 3, none⟩) hzl).trans z3, (q.cell (p := ⟨w4.heap.size, 4, none⟩) hzl).trans z4, (q.cell (p := ⟨w4.heap.size, 5, none⟩) hzl).trans z5, (q.cell (p := ⟨w4.heap.size, 6, none⟩) hzl).trans z6, (q.cell (p := ⟨w4.heap.size, 7, none⟩) hzl).trans z7, (q.cell (p := ⟨w4.heap.size, 8, none⟩) hzl).trans z8, (q.cell (p := ⟨w4.heap.size, 9, none⟩) hzl).trans z9, (q.cell (p := ⟨w4.heap.size, 10, none⟩) hzl).trans z10, (q.cell (p := ⟨w4.heap.size, 11, none⟩) hzl).trans z11, (q.cell (p := ⟨w.heap.size, 0, none⟩) hel).trans y0, (q.cell (p := ⟨w.heap.size, 1, none⟩) hel).trans y1, (q.cell (p := ⟨w.heap.size, 2, none⟩) hel).trans y2, (q.cell (p := ⟨w.heap.size, 3, none⟩) hel).trans y3, (q.cell (p := ⟨w.heap.size, 4, none⟩) hel).trans y4, (q.cell (p := ⟨w.heap.size, 5, none⟩) hel).trans y5, (q.cell (p := ⟨w.heap.size, 6, none⟩) hel).trans y6, (q.cell (p := ⟨w.heap.size, 7, none⟩) hel).trans y7⟩ : Below w9.heap.size w9 w' ∧ w'.cell? ⟨w4.heap.size, 0, none⟩ = some (.slice vt ss9.length vn) ∧ w'.cell? ⟨w4.heap.size, 1, none⟩ = some (.int .i64 lim9) ∧ w'.cell? ⟨w4.heap.size, 2, none⟩ = some (.int .i64 st9) ∧ w'.cell? ⟨w4.heap.size, 3, none⟩ = some (.int .i64 nx9) ∧ w'.cell? ⟨w4.heap.size, 4, none⟩ = some (.int .i64 bg9) ∧ w'.cell? ⟨w4.heap.size, 5, none⟩ = some (.int .i64 ak9) ∧ w'.cell? ⟨w4.heap.size, 6, none⟩ = some (.int .i64 tn9) ∧ w'.cell? ⟨w4.heap.size, 7, none⟩ = some (.bool fr9) ∧ w'.cell? ⟨w4.heap.size, 8, none⟩ = some (.slice ut js9.length un) ∧ w'.cell? ⟨w4.heap.size, 9, none⟩ = some (.slice ct cs9.length cm) ∧ w'.cell? ⟨w4.heap.size, 10, none⟩ = some (.bool cn9) ∧ w'.cell? ⟨w4.heap.size, 11, none⟩ = some (.bool ov9) ∧ w'.cell? ⟨w.heap.size, 0, none⟩ = some (.int .i64 id) ∧ w'.cell? ⟨w.heap.size, 1, none⟩ = some (.int .i64 kd) ∧ w'.cell? ⟨w.heap.size, 2, none⟩ = some (.int .i64 tk) ∧ w'.cell? ⟨w.heap.size, 3, none⟩ = some (.int .i64 rf) ∧ w'.cell? ⟨w.heap.size, 4, none⟩ = some (.int .i64 sp) ∧ w'.cell? ⟨w.heap.size, 5, none⟩ = some (.int .i64 ty) ∧ w'.cell? ⟨w.heap.size, 6, none⟩ = some (.bool ud) ∧ w'.cell? ⟨w.heap.size, 7, none⟩ = some (.string ⟨dt.toArray⟩)))
  have hlen : (l ++ [(id, kd, tk, rf, sp, ty, ud, dt)]).length = l.length + 1 := by simp
  have hCS : ∀ (w' : World) (a2 : Option Addr) (c2 B : Nat), w'.ownsRow B 23 8 (.slice a2 (l.length + 1) c2) (l.length + 1) ((l ++ [(id, kd, tk, rf, sp, ty, ud, dt)]).flatMap evc) → Calls Try.prog 17 #[.slice a2 (l.length + 1) c2] w' fun e' w'' => ∃ (vq uq cq : Option Addr) (vm um cm' : Nat), e' = .returned (.agg #[.slice vq ss9.length vm, .int .i64 lim9, .int .i64 st9, .int .i64 nx9, .int .i64 bg9, .int .i64 ak9, .int .i64 tn9, .bool fr9, .slice uq js9.length um, .slice cq cs9.length cm', .bool cn9, .bool ov9]) ∧ StR w'' ⟨ss9, lim9, st9, nx9, bg9, ak9, tn9, fr9, js9, cs9, cn9, ov9⟩ (.slice vq ss9.length vm) (.slice uq js9.length um) (.slice cq cs9.length cm') ∧ Below w'.heap.size w' w'' := fun w' a2 c2 B h => by
    have := rstate_any a2 c2 (l ++ [(id, kd, tk, rf, sp, ty, ud, dt)]) w' (by rw [hlen]; exact Sl.of_own h (own_max' h)) hH2
    rw [hlen, ← HTT.out] at this
    exact this
  have HCS := hid hCS
  have hinfo : (Try.prog.info? 23).map (fun i => (i.zero, i.size, i.bytes)) = some (some (.agg #[.int .i64 0, .int .i64 0, .int .i64 0, .int .i64 0, .int .i64 0, .int .i64 0, .bool false, .string .empty]), 8, 72) := by kernel_rfl
  have hmx : maxLen = 9223372036854775807 := rfl
  have hrr := hO9.read
  have bd : Below w9.heap.size w9 (w9.drewN 1) := below_drewN _ _ 1
  have hsd := hs9.below bd
  have one : ∀ u ∈ l.flatMap evc, u.oneCell' = true := fun u hu => by
    obtain ⟨x, _, hx⟩ := List.mem_flatMap.1 hu
    exact evc_one x u hx
  have HRR := hid hrr
  clear z0 z1 z2 z3 z4 z5 z6 z7 z8 z9 z10 z11 y0 y1 y2 y3 y4 y5 y6 y7 hCS hz9 he9 hO9 hs9 hlen hrr hok hH
  go_wp2_with fail
  refine wp_region_noPanic ?_
  refine wp_region_held_drew (S := (fun w' => Below w9.heap.size w9 w' ∧ w'.cell? ⟨w4.heap.size, 0, none⟩ = some (.slice vt ss9.length vn) ∧ w'.cell? ⟨w4.heap.size, 1, none⟩ = some (.int .i64 lim9) ∧ w'.cell? ⟨w4.heap.size, 2, none⟩ = some (.int .i64 st9) ∧ w'.cell? ⟨w4.heap.size, 3, none⟩ = some (.int .i64 nx9) ∧ w'.cell? ⟨w4.heap.size, 4, none⟩ = some (.int .i64 bg9) ∧ w'.cell? ⟨w4.heap.size, 5, none⟩ = some (.int .i64 ak9) ∧ w'.cell? ⟨w4.heap.size, 6, none⟩ = some (.int .i64 tn9) ∧ w'.cell? ⟨w4.heap.size, 7, none⟩ = some (.bool fr9) ∧ w'.cell? ⟨w4.heap.size, 8, none⟩ = some (.slice ut js9.length un) ∧ w'.cell? ⟨w4.heap.size, 9, none⟩ = some (.slice ct cs9.length cm) ∧ w'.cell? ⟨w4.heap.size, 10, none⟩ = some (.bool cn9) ∧ w'.cell? ⟨w4.heap.size, 11, none⟩ = some (.bool ov9) ∧ w'.cell? ⟨w.heap.size, 0, none⟩ = some (.int .i64 id) ∧ w'.cell? ⟨w.heap.size, 1, none⟩ = some (.int .i64 kd) ∧ w'.cell? ⟨w.heap.size, 2, none⟩ = some (.int .i64 tk) ∧ w'.cell? ⟨w.heap.size, 3, none⟩ = some (.int .i64 rf) ∧ w'.cell? ⟨w.heap.size, 4, none⟩ = some (.int .i64 sp) ∧ w'.cell? ⟨w.heap.size, 5, none⟩ = some (.int .i64 ty) ∧ w'.cell? ⟨w.heap.size, 6, none⟩ = some (.bool ud) ∧ w'.cell? ⟨w.heap.size, 7, none⟩ = some (.string ⟨dt.toArray⟩))) (by kernel_rfl) ?_ (fun hHeld => ?_)
  · exact SC.out _ bd
  refine wpAnyH_take (i := 0) (oi := ?fo0) (v := ?fv0) ?fe0 (by kernel_rfl) (by kernel_rfl) (by kernel_rfl) (fun _ _ _ h => h) (Or.inl ⟨?fw0, ?fy0⟩) (by assumption) ?fr0
  case fe0 => ((simp only [List.getElem?_toArray, List.getElem?_cons_succ, List.getElem?_cons_zero]) <;> rfl)
  case fw0 => rfl
  case fy0 => (intro w hSw; (try dsimp only at hSw); go_simp; (try with_reducible rfl))
  try simp only [Act.put, List.setIfInBounds_toArray, List.set_cons_zero, List.set_cons_succ]
  refine wpAnyH_take (i := 1) (oi := ?fo1) (v := ?fv1) ?fe1 (by kernel_rfl) (by kernel_rfl) (by kernel_rfl) (fun _ _ _ h => h) (Or.inl ⟨?fw1, ?fy1⟩) (by assumption) ?fr1
  case fe1 => ((simp only [List.getElem?_toArray, List.getElem?_cons_succ, List.getElem?_cons_zero]) <;> rfl)
  case fw1 => rfl
  case fy1 => (intro w hSw; (try dsimp only at hSw); go_simp; (try with_reducible rfl))
  try simp only [Act.put, List.setIfInBounds_toArray, List.set_cons_zero, List.set_cons_succ]
  refine wpAnyH_take (i := 3) (oi := ?fo3) (v := ?fv3) ?fe3 (by kernel_rfl) (by kernel_rfl) (by kernel_rfl) (fun _ _ _ h => h) (Or.inl ⟨?fw3, ?fy3⟩) (by assumption) ?fr3
  case fe3 => ((simp only [List.getElem?_toArray, List.getElem?_cons_succ, List.getElem?_cons_zero]) <;> rfl)
  case fw3 => rfl
  case fy3 => (intro w hSw; (try dsimp only at hSw); go_simp; (try with_reducible rfl))
  try simp only [Act.put, List.setIfInBounds_toArray, List.set_cons_zero, List.set_cons_succ]
  refine wpAnyH_ready (rs := [2, 4]) (by kernel_rfl) (by simp) ?_
  refine AllReadyH.cons (o := ?po2) ?pe2 (fun K hK => ?pc2) ?pn2
  case pe2 => ((simp only [List.getElem?_toArray, List.getElem?_cons_succ, List.getElem?_cons_zero]) <;> rfl)
  case pn2 =>
    refine AllReadyH.cons (o := ?po4) ?pe4 (fun K hK => ?pc4) ?pn4
    case pn4 => exact AllReadyH.nil
    case pe4 => ((simp only [List.getElem?_toArray, List.getElem?_cons_succ, List.getElem?_cons_zero]) <;> rfl)
    go_simp
    have bE : Below w9.heap.size w9 (w9.drew.alloc (.cells #[.int .i64 id, .int .i64 kd, .int .i64 tk, .int .i64 rf, .int .i64 sp, .int .i64 ty, .bool ud, .string ⟨dt.toArray⟩] 23)) := bnext bd ((Below.refl _ _).alloc (Nat.le_refl _) _)
    have sE : w9.drew.heap.size = w9.heap.size := rfl
    have hyE : ∀ (j : Nat) (q9 : Value), (evc (id, kd, tk, rf, sp, ty, ud, dt))[j]? = some q9 → (w9.drew.alloc (.cells #[.int .i64 id, .int .i64 kd, .int .i64 tk, .int .i64 rf, .int .i64 sp, .int .i64 ty, .bool ud, .string ⟨dt.toArray⟩] 23)).cell? ⟨w9.heap.size, j, none⟩ = some q9 := fun j q hq => (World.cell?_alloc_at _ _ _ _ rfl).trans (by rw [← hq]; exact List.getElem?_toArray)
    have hlE : w9.heap.size < (w9.drew.alloc (.cells #[.int .i64 id, .int .i64 kd, .int .i64 tk, .int .i64 rf, .int .i64 sp, .int .i64 ty, .bool ud, .string ⟨dt.toArray⟩] 23)).heap.size := by
      have : (w9.drew.alloc (.cells #[.int .i64 id, .int .i64 kd, .int .i64 tk, .int .i64 rf, .int .i64 sp, .int .i64 ty, .bool ud, .string ⟨dt.toArray⟩] 23)).heap.size = w9.heap.size + 1 := Array.size_push ..
      omega
    have hsE := hsd.below ((Below.refl w9.drew.heap.size w9.drew).alloc (Nat.le_refl _) (.cells #[.int .i64 id, .int .i64 kd, .int .i64 tk, .int .i64 rf, .int .i64 sp, .int .i64 ty, .bool ud, .string ⟨dt.toArray⟩] 23))
    refine hK.out _ _ ?_ (fun hHeld4 => ?_)
    · exact SC.out _ bE
    clear hK K
    try simp only [Act.put, List.setIfInBounds_toArray, List.set_cons_zero, List.set_cons_succ]
    refine wpAnyH_ready (rs := [2]) (by kernel_rfl) (by simp) ?_
    refine AllReadyH.cons (o := ?qo2) ?qe2 (fun K hK => ?qc2) ?qn2
    case qn2 => exact AllReadyH.nil
    case qe2 => ((simp only [List.getElem?_toArray, List.getElem?_cons_succ, List.getElem?_cons_zero]) <;> rfl)
    refine step_append_sl _ (by rfl) (.const (.slice none 0 0)) (.tmp 55) 29 (by rfl) (w9.drew.alloc (.cells #[.int .i64 id, .int .i64 kd, .int .i64 tk, .int .i64 rf, .int .i64 sp, .int .i64 ty, .bool ud, .string ⟨dt.toArray⟩] 23)).heap.size 23 (.agg #[.int .i64 0, .int .i64 0, .int .i64 0, .int .i64 0, .int .i64 0, .int .i64 0, .bool false, .string .empty]) 8 72 Try.underlying29 hinfo (by rfl) (by decide) (.slice none 0 0) 0 [] (by rfl) (World.ownsRow_nil _ _ _ _) (.slice a l.length c) l.length (l.flatMap evc) (by rfl) hsE one (by omega) (by omega) (w9.drew.alloc (.cells #[.int .i64 id, .int .i64 kd, .int .i64 tk, .int .i64 rf, .int .i64 sp, .int .i64 ty, .bool ud, .string ⟨dt.toArray⟩] 23)) (Nat.le_refl _) (Below.refl _ _) ?_
    intro a1 c1 wa o1 b1a
    rw [List.nil_append, Nat.zero_add] at o1
    rw [Nat.zero_add]
    have b9a := bnext bE b1a
    have hyA : ∀ (j : Nat) (q9 : Value), (evc (id, kd, tk, rf, sp, ty, ud, dt))[j]? = some q9 → wa.cell? ⟨w9.heap.size, j, none⟩ = some q9 := fun j q hq => (b1a.cell (p := ⟨w9.heap.size, j, none⟩) hlE).trans (hyE j q hq)
    refine hK.out _ _ ?_ (fun hHeld2 => ?_)
    · exact SC.out _ b9a
    clear hK K
    try simp only [Act.put, List.setIfInBounds_toArray, List.set_cons_zero, List.set_cons_succ]
    refine wpAnyH_ready (rs := [5]) (by kernel_rfl) (by simp) ?_
    refine AllReadyH.cons (o := ?qo5) ?qe5 (fun K hK => ?qc5) ?qn5
    case qn5 => exact AllReadyH.nil
    case qe5 => ((simp only [List.getElem?_toArray, List.getElem?_cons_succ, List.getElem?_cons_zero]) <;> rfl)
    refine step_append_row _ (by rfl) _ _ 29 (by rfl) evc 8 (by decide) evc_len evc_one (w9.drew.alloc (.cells #[.int .i64 id, .int .i64 kd, .int .i64 tk, .int .i64 rf, .int .i64 sp, .int .i64 ty, .bool ud, .string ⟨dt.toArray⟩] 23)).heap.size 23 (.agg #[.int .i64 0, .int .i64 0, .int .i64 0, .int .i64 0, .int .i64 0, .int .i64 0, .bool false, .string .empty]) 72 Try.underlying29 hinfo (by rfl) _ l.length l (by rfl) o1 w9.heap.size _ (by rfl) ((id, kd, tk, rf, sp, ty, ud, dt) : Ev) hyA (by omega) (by omega) b1a.size ?_
    intro a2 c2 wz o5 g5
    have b9z := bnext bE (below_grown b1a o1 g5 (Nat.le_refl _))
    refine hK.out _ _ ?_ (fun hHeld5 => ?_)
    · exact SC.out _ b9z
    clear hK K
    try simp only [Act.put, List.setIfInBounds_toArray, List.set_cons_zero, List.set_cons_succ]
    refine wpAnyH_ready (rs := [6]) (by kernel_rfl) (by simp) ?_
    refine AllReadyH.cons (o := ?fo6) ?fe6 (fun K hK => ?fc6) ?fn6
    case fn6 => exact AllReadyH.nil
    case fe6 => ((simp only [List.getElem?_toArray, List.getElem?_cons_succ, List.getElem?_cons_zero]) <;> rfl)
    go_simp
    go_at_call 17
    refine (HCS.out _ _ _ _ o5).mono ?_
    rintro _ wq ⟨vq, uq, cq, vm, um, cm', rfl, hrq, bq⟩
    have b9q := bnext b9z bq
    refine hK.out _ _ ?_ (fun hHeld6 => ?_)
    · exact SC.out _ b9q
    clear hK K
    try simp only [Act.put, List.setIfInBounds_toArray, List.set_cons_zero, List.set_cons_succ]
    refine wpAnyH_ready (rs := [7]) (by kernel_rfl) (by simp) ?_
    refine AllReadyH.cons (o := ?fo7) ?fe7 (fun K hK => ?fc7) ?fn7
    case fn7 => exact AllReadyH.nil
    case fe7 => ((simp only [List.getElem?_toArray, List.getElem?_cons_succ, List.getElem?_cons_zero]) <;> rfl)
    go_simp
    go_at_call 14
    refine (rsame_yes ss9 lim9 st9 nx9 bg9 ak9 tn9 fr9 js9 cs9 cn9 ov9 vt ut ct vq uq cq vn un cm vm um cm' _ (HRR.out.below b9q) hrq).mono ?_
    rintro _ wt ⟨rfl, bt⟩
    have b9t := bnext b9q bt
    refine hK.out _ _ ?_ (fun hHeld7 => ?_)
    · exact SC.out _ b9t
    clear hK K
    try simp only [Act.put, List.setIfInBounds_toArray, List.set_cons_zero, List.set_cons_succ]
    refine wpAnyH_take (i := 8) (oi := ?fo8) (v := ?fv8) ?fe8 (by kernel_rfl) (by kernel_rfl) (by kernel_rfl) (fun _ _ _ h => h) (Or.inl ⟨?fw8, ?fy8⟩) (by assumption) ?fr8
    case fe8 => ((simp only [List.getElem?_toArray, List.getElem?_cons_succ, List.getElem?_cons_zero]) <;> rfl)
    case fw8 => rfl
    case fy8 => (intro w hSw; (try dsimp only at hSw); go_simp; (try with_reducible rfl))
    try simp only [Act.put, List.setIfInBounds_toArray, List.set_cons_zero, List.set_cons_succ]
    refine wpAnyH_done (by kernel_rfl) ?_ _
    refine NoPanic.normal ?_
    have HBF := hid (bnext b09 b9t)
    go_wp2_with fail
    go_ret
    exact ⟨rfl, HBF.out⟩
  refine step_append_sl _ (by rfl) (.const (.slice none 0 0)) (.tmp 55) 29 (by rfl) w9.heap.size 23 (.agg #[.int .i64 0, .int .i64 0, .int .i64 0, .int .i64 0, .int .i64 0, .int .i64 0, .bool false, .string .empty]) 8 72 Try.underlying29 hinfo (by rfl) (by decide) (.slice none 0 0) 0 [] (by rfl) (World.ownsRow_nil _ _ _ _) (.slice a l.length c) l.length (l.flatMap evc) (by rfl) hsd one (by omega) (by omega) w9 bd.size bd ?_
  intro a1 c1 wa o1 b1a
  rw [List.nil_append, Nat.zero_add] at o1
  rw [Nat.zero_add]
  refine hK.out _ _ ?_ (fun hHeld2 => ?_)
  · exact SC.out _ b1a
  clear hK K
  try simp only [Act.put, List.setIfInBounds_toArray, List.set_cons_zero, List.set_cons_succ]
  refine wpAnyH_ready (rs := [4]) (by kernel_rfl) (by simp) ?_
  refine AllReadyH.cons (o := ?fo4x) ?fe4x (fun K hK => ?fc4x) ?fn4x
  case fn4x => exact AllReadyH.nil
  case fe4x => ((simp only [List.getElem?_toArray, List.getElem?_cons_succ, List.getElem?_cons_zero]) <;> rfl)
  go_simp
  refine hK.out _ _ ?_ (fun hHeld4 => ?_)
  · exact SC.out _ (bnext b1a ((Below.refl _ _).alloc (Nat.le_refl _) _))
  clear hK K
  try simp only [Act.put, List.setIfInBounds_toArray, List.set_cons_zero, List.set_cons_succ]
  have bA : Below wa.heap.size wa (wa.alloc (.cells #[.int .i64 id, .int .i64 kd, .int .i64 tk, .int .i64 rf, .int .i64 sp, .int .i64 ty, .bool ud, .string ⟨dt.toArray⟩] 23)) := (Below.refl _ _).alloc (Nat.le_refl _) _
  have hyA : ∀ (j : Nat) (q9 : Value), (evc (id, kd, tk, rf, sp, ty, ud, dt))[j]? = some q9 → (wa.alloc (.cells #[.int .i64 id, .int .i64 kd, .int .i64 tk, .int .i64 rf, .int .i64 sp, .int .i64 ty, .bool ud, .string ⟨dt.toArray⟩] 23)).cell? ⟨wa.heap.size, j, none⟩ = some q9 := fun j q hq => (World.cell?_alloc_at _ _ _ _ rfl).trans (by rw [← hq]; exact List.getElem?_toArray)
  refine wpAnyH_ready (rs := [5]) (by kernel_rfl) (by simp) ?_
  refine AllReadyH.cons (o := ?fo5x) ?fe5x (fun K hK => ?fc5x) ?fn5x
  case fn5x => exact AllReadyH.nil
  case fe5x => ((simp only [List.getElem?_toArray, List.getElem?_cons_succ, List.getElem?_cons_zero]) <;> rfl)
  refine step_append_row _ (by rfl) _ _ 29 (by rfl) evc 8 (by decide) evc_len evc_one w9.heap.size 23 (.agg #[.int .i64 0, .int .i64 0, .int .i64 0, .int .i64 0, .int .i64 0, .int .i64 0, .bool false, .string .empty]) 72 Try.underlying29 hinfo (by rfl) _ l.length l (by rfl) (own_new o1 bA) wa.heap.size _ (by rfl) ((id, kd, tk, rf, sp, ty, ud, dt) : Ev) hyA (by omega) (by omega) (bnext b1a bA).size ?_
  intro a2 c2 wz o5 g5
  have b9z := below_grown (bnext b1a bA) (own_new o1 bA) g5 (Nat.le_refl _)
  refine hK.out _ _ ?_ (fun hHeld5 => ?_)
  · exact SC.out _ b9z
  clear hK K
  try simp only [Act.put, List.setIfInBounds_toArray, List.set_cons_zero, List.set_cons_succ]
  refine wpAnyH_ready (rs := [6]) (by kernel_rfl) (by simp) ?_
  refine AllReadyH.cons (o := ?fo6x) ?fe6x (fun K hK => ?fc6x) ?fn6x
  case fn6x => exact AllReadyH.nil
  case fe6x => ((simp only [List.getElem?_toArray, List.getElem?_cons_succ, List.getElem?_cons_zero]) <;> rfl)
  go_simp
  go_at_call 17
  refine (HCS.out _ _ _ _ o5).mono ?_
  rintro _ wq ⟨vq, uq, cq, vm, um, cm', rfl, hrq, bq⟩
  have b9q := bnext b9z bq
  refine hK.out _ _ ?_ (fun hHeld6 => ?_)
  · exact SC.out _ b9q
  clear hK K
  try simp only [Act.put, List.setIfInBounds_toArray, List.set_cons_zero, List.set_cons_succ]
  refine wpAnyH_ready (rs := [7]) (by kernel_rfl) (by simp) ?_
  refine AllReadyH.cons (o := ?fo7x) ?fe7x (fun K hK => ?fc7x) ?fn7x
  case fn7x => exact AllReadyH.nil
  case fe7x => ((simp only [List.getElem?_toArray, List.getElem?_cons_succ, List.getElem?_cons_zero]) <;> rfl)
  go_simp
  go_at_call 14
  refine (rsame_yes ss9 lim9 st9 nx9 bg9 ak9 tn9 fr9 js9 cs9 cn9 ov9 vt ut ct vq uq cq vn un cm vm um cm' _ (HRR.out.below b9q) hrq).mono ?_
  rintro _ wt ⟨rfl, bt⟩
  have b9t := bnext b9q bt
  refine hK.out _ _ ?_ (fun hHeld7 => ?_)
  · exact SC.out _ b9t
  clear hK K
  try simp only [Act.put, List.setIfInBounds_toArray, List.set_cons_zero, List.set_cons_succ]
  refine wpAnyH_take (i := 8) (oi := ?fo8x) (v := ?fv8x) ?fe8x (by kernel_rfl) (by kernel_rfl) (by kernel_rfl) (fun _ _ _ h => h) (Or.inl ⟨?fw8x, ?fy8x⟩) (by assumption) ?fr8x
  case fe8x => ((simp only [List.getElem?_toArray, List.getElem?_cons_succ, List.getElem?_cons_zero]) <;> rfl)
  case fw8x => rfl
  case fy8x => (intro w hSw; (try dsimp only at hSw); go_simp; (try with_reducible rfl))
  try simp only [Act.put, List.setIfInBounds_toArray, List.set_cons_zero, List.set_cons_succ]
  refine wpAnyH_done (by kernel_rfl) ?_ _
  refine NoPanic.normal ?_
  have HBF := hid (bnext b09 b9t)
  go_wp2_with fail
  go_ret
  exact ⟨rfl, HBF.out⟩
theorem stateApplies_v (v : Value) (a : Option Addr) (c : Nat) (l : List Ev) (u : Value) (id kd tk rf sp ty : Int) (ud : Bool) (dt : List UInt8) (w : World) (hv : v = .slice a l.length c) (hs : Sl w v 8 l.length (l.flatMap evc)) (hcap : l.length ≤ c) (hfit : FitE l) (hu : u = .agg #[.int .i64 id, .int .i64 kd, .int .i64 tk, .int .i64 rf, .int .i64 sp, .int .i64 ty, .bool ud, .string ⟨dt.toArray⟩]) (hdt : dt.length ≤ 140737488351232) : Calls Try.prog 7 #[v, u] w fun e w' => e = .returned (.bool true) ∧ Below w.heap.size w w' := by
  subst hv
  subst hu
  exact stateApplies_w a c l id kd tk rf sp ty ud dt (by omega) w hs hcap hfit
end Go.Proofs.Ytckpfcocbjfcbaa
