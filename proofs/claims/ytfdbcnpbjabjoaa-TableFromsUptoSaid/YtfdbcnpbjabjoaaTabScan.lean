/- CONTRACTS: frame.Scan, wherryref02.Scan. -/
import Derived.Test.YtfdbcnpbjabjoaaFrameRNext
import Derived.Test.YtfdbcnpbjabjoaaVaryPlain
import Derived.Test.YtfdbcnpbjabjoaaSlices
import Derived.Scope
import Derived.ScopeJumps
import Derived.WalkMore
import Derived.WalkSpells
namespace Go.Proofs.Ytfdbcnpbjabjoaa
open Go.RowKit
set_option maxRecDepth 100000

/-- a row of one-cell elements that the call owns -/
def OwnV (w : World) (B : Nat) (e : TypeId) (v : Value) (xs : List Value) : Prop := w.ownsRow B e 1 v xs.length xs
theorem OwnV.nil (w : World) (B : Nat) (e : TypeId) : OwnV w B e (.slice none 0 0) [] := World.ownsRow_nil w B e 1
theorem OwnV.keep {w w' : World} {B : Nat} {e : TypeId} {v : Value} {l : List Value} (h : OwnV w B e v l) (hb : Below w.heap.size w w') : OwnV w' B e v l :=
  World.ownsRow.kept (row := none) h ⟨hb.os, hb.tape, hb.output, hb.size, fun k hk _ => hb.block k hk⟩ (by cases hv : v.ownBlock <;> simp)
theorem OwnV.len {w : World} {B : Nat} {e : TypeId} {a : Option Addr} {n cap : Nat} {l : List Value} (h : OwnV w B e (.slice a n cap) l) : n = l.length := by
  rcases h.2 with ⟨hv, h0⟩ | ⟨g, cap', cur, hv, _⟩
  · simp at hv; omega
  · simp at hv; exact hv.2.1
theorem OwnV.sl {w : World} {B : Nat} {e : TypeId} {v : Value} {l : List Value} (h : OwnV w B e v l) (hn : l.length ≤ maxLen) : Sl w v 1 l.length l := Sl.of_own h hn
variable {P : Program}
theorem wpList_append_one (w : World) {ops : Array Oper} {rest : List Oper} {o : Oper} {a : Act} {Q : Exit → Act → World → Prop} (hgd : o.guard = none) (s x : Operand) (t : TypeId)
    (ho : o.op = .call { callee := .builtin .append, args := #[s, x], argTypes := #[t, t] })
    (B : Nat) (e : TypeId) (z : Value) (bytes : Nat) (ht : P.underlying t = some (.slice e)) (hi : (P.info? e).map (fun i => (i.zero, i.size, i.bytes)) = some (some z, 1, bytes)) (hzs : z.cells.size = 1)
    (v : Value) (l : List Value) (hs : a.eval s = v) (hown : OwnV w B e v l)
    (g : Nat) (hx : a.eval x = .slice (some ⟨g, 0, none⟩) 1 1) (u : Value) (hu : w.cell? ⟨g, 0, none⟩ = some u) (h1 : u.oneCell' = true)
    (hlen : l.length + 1 ≤ maxLen) (hbytes : (l.length + 1) * bytes ≤ 140737488355328) (w0 : World) (hB : B ≤ w.heap.size) (hb : Below B w0 w)
    (h : ∀ v' w', OwnV w' B e v' (l ++ [u]) → Below B w0 w' → w.grownBy w' v.ownBlock → wpList P ops Q rest (a.put o.dst v') w') : wpList P ops Q (o :: rest) a w := by
  obtain ⟨i0, hi0, hz0, hz1, hz2⟩ := info_parts hi
  refine wpList_append_own w hgd s x t ho B e i0 z 1 bytes ht hi0 hz0 hz1 hz2 hzs (by decide) v l.length l hs hown ⟨g, 0, none⟩ 1 1 [u] hx rfl ?_ ?_ hlen hbytes hB ?_
  · intro j u' hj
    match j with
    | 0 => simp at hj; rw [← hj]; exact hu
    | j + 1 => simp at hj
  · intro u' hu'; simp at hu'; subst hu'; exact h1
  · intro v' w' g1 g2 _
    refine h v' w' ?_ (hb.grown g2 hB (fun k hk => by have := (World.ownsRow.lt hown k hk).1; omega)) g2
    unfold OwnV; rw [List.length_append]; exact g1

theorem next_less {l : List UInt8} (h : (nextF l).2.2 = 0) : (nextF l).2.1.length < l.length := by
  unfold nextF at h ⊢
  cases hg : getFrom 0 l with
  | none => rw [hg] at h; dsimp only at h; split at h <;> cases h
  | some x =>
    obtain ⟨n, r⟩ := x
    obtain ⟨_, hr⟩ := (get_iff l n r).1 hg
    have hp := putL_pos n
    have hlen : l.length = (putL n).length + r.length := by rw [hr]; simp
    rw [hg] at h
    dsimp only at h ⊢
    split at h
    · cases h
    · split at h
      · cases h
      · split at h
        · cases h
        · rw [if_neg ‹_›, if_neg ‹_›, if_neg ‹_›]
          simp only [List.length_drop]
          omega
/-- the frames at the head, and what stands behind them -/
def scanL (l : List UInt8) : List (List UInt8) × List UInt8 :=
  if _h : (nextF l).2.2 = 0 then ((nextF l).1 :: (scanL (nextF l).2.1).1, (scanL (nextF l).2.1).2) else ([], l)
termination_by l.length
decreasing_by all_goals exact next_less _h
theorem scan_ok {l : List UInt8} (h : (nextF l).2.2 = 0) : scanL l = ((nextF l).1 :: (scanL (nextF l).2.1).1, (scanL (nextF l).2.1).2) := by rw [scanL, dif_pos h]
theorem scan_end {l : List UInt8} (h : (nextF l).2.2 ≠ 0) : scanL l = ([], l) := by rw [scanL, dif_neg h]
theorem next_body {l : List UInt8} : (nextF l).1.length ≤ l.length := by
  unfold nextF
  cases hg : getFrom 0 l with
  | none => dsimp only; split <;> simp
  | some x =>
    obtain ⟨n, r⟩ := x
    obtain ⟨_, hr⟩ := (get_iff l n r).1 hg
    have hlen : l.length = (putL n).length + r.length := by rw [hr]; simp
    dsimp only
    split
    · simp
    · split
      · simp
      · split
        · simp
        · simp only [List.length_take, List.length_drop]; omega

def ScanAt (s : List UInt8) (bs : List (List UInt8)) (r : List UInt8) : Prop :=
  scanL s = (bs ++ (scanL r).1, (scanL r).2) ∧ bs.length + r.length ≤ s.length
theorem ScanAt.start (s : List UInt8) : ScanAt s [] s := ⟨by simp, by simp⟩
theorem ScanAt.next {s r : List UInt8} {bs : List (List UInt8)} (h : ScanAt s bs r) (h0 : (nextF r).2.2 = 0) : ScanAt s (bs ++ [(nextF r).1]) (nextF r).2.1 := by
  have hl := next_less h0
  refine ⟨?_, by have := h.2; simp; omega⟩
  rw [h.1, scan_ok h0]; simp
theorem ScanAt.stop {s r : List UInt8} {bs : List (List UInt8)} (h : ScanAt s bs r) (h0 : (nextF r).2.2 ≠ 0) : scanL s = (bs, r) := by
  rw [h.1, scan_end h0]; simp

theorem wp_scope_jumps1 {c rest : Code} {a a1 : Act} {w w1 : World} {Q : Exit → Act → World → Prop} (l : Nat) (J : Act → World → Prop) (μ : Act → World → Nat) (hf : findLabel c l = some (.seq .skip rest))
    (first : ∀ R : Exit → Act → World → Prop, rest.wp P R a1 w1 → c.wp P R a w) (hJ : J a1 w1)
    (pass : ∀ a w, J a w → rest.wp P (Exit.jump l (fun a' w' => J a' w' ∧ μ a' w' < μ a w) Q) a w) : (Code.scope c).wp P Q a w :=
  wp_scope_jumps l J μ hf (first _ (wp_mono (pass a1 w1 hJ) fun e a w h => by
    cases e <;> first | exact h | exact ⟨h.1, h.2.1⟩)) (fun a w h => wp_seq (wp_skip (pass a w h)))
theorem ret_vi {v : Value} {a b : Int} (h : a = b) : Ending.returned (.tuple #[v, .int .i64 a]) = .returned (.tuple #[v, .int .i64 b]) := by rw [h]
def strLen : Value → Nat | .string s => s.size | _ => 0

set_option maxHeartbeats 1600000 in
theorem scan_any (l : List UInt8) (hl : l.length ≤ 1099511627776) (w : World) :
    Calls Try.prog 49 #[.string ⟨l.toArray⟩] w fun e w' => ∃ v, e = .returned (.tuple #[v, .int .i64 (l.length - (scanL l).2.length : Nat)]) ∧ OwnV w' w.heap.size 9 v ((scanL l).1.map strV) ∧ (scanL l).1.length ≤ l.length ∧ Below w.heap.size w w' := by
  have hinfo : (Try.prog.info? 9).map (fun i => (i.zero, i.size, i.bytes)) = some (some (.string .empty), 1, 16) := by kernel_rfl
  go_enter Try.func49, Try.ntmps49
  go_wp2_with fail
  refine wp_scope_jumps1 (a1 := { tmps := #[.string ⟨l.toArray⟩, undef, .slice none 0 0, .int .i64 0, .slice none 0 0, .string ⟨l.toArray⟩, undef, undef, undef, .string ⟨l.toArray⟩, undef, undef, undef, undef, undef, undef, undef, undef, undef, undef, undef, undef, undef, undef, undef, undef, undef, undef, undef], defers := [] }) (w1 := w) 0 (fun a' wr => ∃ (v : Value) (bs : List (List UInt8)) (r : List UInt8) (u1 u2 u3 u6 u7 u8 u9 u10 u11 u12 u13 u14 u15 u16 u17 u18 u19 u20 u21 u22 u23 u24 u25 u26 u27 u28 : Value),
    a' = { tmps := #[.string ⟨l.toArray⟩, u1, u2, u3, v, .string ⟨r.toArray⟩, u6, u7, u8, u9, u10, u11, u12, u13, u14, u15, u16, u17, u18, u19, u20, u21, u22, u23, u24, u25, u26, u27, u28], defers := [] } ∧ OwnV wr w.heap.size 9 v (bs.map strV) ∧ ScanAt l bs r ∧ Below w.heap.size w wr)
    (fun a' _ => strLen (a'.tmps.getD 5 undef)) rfl ?first ?hJ ?pass
  case first =>
    intro R hR
    go_wp2
    go_step3
    rename_i K hK
    exact hK _ _ hR
  case hJ => exact ⟨_, [], l, _, _, _, _, _, _, _, _, _, _, _, _, _, _, _, _, _, _, _, _, _, _, _, _, _, _, rfl, OwnV.nil _ _ _, ScanAt.start l, Below.refl _ _⟩
  case pass =>
    rintro a' wr ⟨v, bs, r, u1, u2, u3, u6, u7, u8, u9, u10, u11, u12, u13, u14, u15, u16, u17, u18, u19, u20, u21, u22, u23, u24, u25, u26, u27, u28, rfl, hown, hat, hb⟩
    have hrl : r.length ≤ 1099511627776 := by have := hat.2; omega
    have hsz := hb.size
    by_cases h0 : (nextF r).2.2 = 0
    · have hless := next_less h0
      have hat' := hat.next h0
      have hbs : (bs.map strV).length + 1 ≤ 1099511627776 := by have := hat'.2; simp at this ⊢; omega
      have hnx := next_any r (by unfold maxLen; omega) wr
      rw [h0] at hnx
      generalize (nextF r).1 = bd at hat' hnx
      generalize (nextF r).2.1 = bh at hat' hnx hless
      have HAT := hid hat'
      clear hat' h0 hat
      go_wp2_with fail
      refine hnx.mono ?_
      rintro e w1 ⟨rfl, hb1⟩
      have hown1 := hown.keep hb1
      have hb1' := bnext hb hb1
      have hsz1 := hb1.size
      go_wp2_with (at_builtin; go_must (refine wpList_append_one _ rfl _ _ 53 rfl w.heap.size 9 (.string .empty) 16 Try.underlying53 hinfo rfl _ (bs.map strV) rfl ?h1 w1.heap.size rfl _ (cell_new _ _ _) rfl (by unfold maxLen; omega) (by omega) w ?h4 ?h5 ?_))
      case h1 => exact World.ownsRow.alloc hown1 _
      case h4 => simp; omega
      case h5 => exact hb1'.alloc (by omega) _
      intro v' w2 hown2 hb2 _
      go_wp2
      go_step3
      refine ⟨rfl, ⟨v', bs ++ [bd], bh, _, _, _, _, _, _, _, _, _, _, _, _, _, _, _, _, _, _, _, _, _, _, _, _, _, _, rfl, ?_, HAT.out, hb2⟩, ?_⟩
      · rw [List.map_append]; exact hown2
      · simp [strLen]; exact hless
    · have hst := hat.stop h0
      have hnx := next_any r (by unfold maxLen; omega) wr
      have hle := hat.2
      have i0 : (nextF r).2.2 ≠ (0 : Int) := h0
      generalize nextF r = N at i0 hnx
      have HST := hid hst
      clear hst h0 hat
      go_wp2_with fail
      refine hnx.mono ?_
      rintro e w1 ⟨rfl, hb1⟩
      have hown1 := hown.keep hb1
      have hb1' := bnext hb hb1
      go_wp2_with fail
      simp only [Exit.jump]
      go_ret2
      rw [HST.out]
      have ed : (l.length : Int) - (r.length : Int) = ((l.length - r.length : Nat) : Int) := by omega
      exact ⟨v, ret_vi ed, hown1, by simp only []; omega, hb1'⟩

set_option maxHeartbeats 1600000 in
theorem rscan_any (l : List UInt8) (hl : l.length ≤ 1099511627776) (w : World) :
    Calls Try.prog 56 #[.string ⟨l.toArray⟩] w fun e w' => ∃ v, e = .returned (.tuple #[v, .int .i64 (l.length - (scanL l).2.length : Nat)]) ∧ OwnV w' w.heap.size 9 v ((scanL l).1.map strV) ∧ (scanL l).1.length ≤ l.length ∧ Below w.heap.size w w' := by
  have hinfo : (Try.prog.info? 9).map (fun i => (i.zero, i.size, i.bytes)) = some (some (.string .empty), 1, 16) := by kernel_rfl
  go_enter Try.func56, Try.ntmps56
  go_wp2_with fail
  go_loopw [4, 5] (fun v r0 wr => ∃ (bs : List (List UInt8)) (r : List UInt8), r0 = .string ⟨r.toArray⟩ ∧ OwnV wr w.heap.size 9 v (bs.map strV) ∧ ScanAt l bs r ∧ Below w.heap.size w wr) (fun _ r0 _ => strLen r0)
  case atStart => exact ⟨[], l, rfl, OwnV.nil _ _ _, ScanAt.start l, Below.refl _ _⟩
  case round =>
    obtain ⟨bs, r, rfl, hown, hat, hb⟩ := hrel
    have hrl : r.length ≤ 1099511627776 := by have := hat.2; omega
    have hsz := hb.size
    by_cases h0 : (nextF r).2.2 = 0
    · have hless := next_less h0
      have hat' := hat.next h0
      have hbs : (bs.map strV).length + 1 ≤ 1099511627776 := by have := hat'.2; simp at this ⊢; omega
      have hnx := rnext_any r (by unfold maxLen; omega) wr
      rw [h0] at hnx
      generalize (nextF r).1 = bd at hat' hnx
      generalize (nextF r).2.1 = bh at hat' hnx hless
      have HAT := hid hat'
      clear hat' h0 hat
      go_wp2_with fail
      refine hnx.mono ?_
      rintro e w1 ⟨rfl, hb1⟩
      have hown1 := hown.keep hb1
      have hb1' := bnext hb hb1
      have hsz1 := hb1.size
      go_wp2_with (at_builtin; go_must (refine wpList_append_one _ rfl _ _ 53 rfl w.heap.size 9 (.string .empty) 16 Try.underlying53 hinfo rfl _ (bs.map strV) rfl ?h1 w1.heap.size rfl _ (cell_new _ _ _) rfl (by unfold maxLen; omega) (by omega) w ?h4 ?h5 ?_))
      case h1 => exact World.ownsRow.alloc hown1 _
      case h4 => simp; omega
      case h5 => exact hb1'.alloc (by omega) _
      intro v' w2 hown2 hb2 _
      go_wp2
      go_roundw
      case rel => exact ⟨bs ++ [bd], bh, rfl, by rw [List.map_append]; exact hown2, HAT.out, hb2⟩
      case measure => simp [strLen]; exact hless
    · have hst := hat.stop h0
      have hnx := rnext_any r (by unfold maxLen; omega) wr
      have hle := hat.2
      have i0 : (nextF r).2.2 ≠ (0 : Int) := h0
      generalize nextF r = N at i0 hnx
      have HST := hid hst
      clear hst h0 hat
      go_wp2_with fail
      refine hnx.mono ?_
      rintro e w1 ⟨rfl, hb1⟩
      have hown1 := hown.keep hb1
      have hb1' := bnext hb hb1
      go_wp2_with fail
      go_ret2
      rw [HST.out]
      have ed : (l.length : Int) - (r.length : Int) = ((l.length - r.length : Nat) : Int) := by omega
      exact ⟨_, ret_vi ed, hown1, by simp only []; omega, hb1'⟩
theorem next_wrap (s r : List UInt8) (hs : s.length ≤ 1048576) : nextF (wrapL s ++ r) = (s, r, 0) := by
  have hu : U64 s.length := by unfold U64; omega
  have hg : getFrom 0 (wrapL s ++ r) = some (s.length, (fourL s ++ s) ++ r) := (get_iff _ _ _).2 ⟨hu, by unfold wrapL; simp⟩
  have h4 := fourL_len s
  have e1 : ((fourL s ++ s) ++ r).take 4 = fourL s := by rw [List.append_assoc, List.take_append_of_le_length (by omega), List.take_of_length_le (by omega)]
  have e2 : ((fourL s ++ s) ++ r).drop 4 = s ++ r := by rw [List.append_assoc, List.drop_append, List.drop_of_length_le (by omega)]; simp [h4]
  have e3 : ((s ++ r).take s.length) = s := by simp
  rw [next_ok hg (by omega) (by simp [h4]) (by rw [e1, e2, e3]), e2, e3, ← List.drop_drop, e2]
  simp
theorem scan_nil : scanL [] = ([], []) := scan_end (by decide)
theorem scan_wraps (r : List UInt8) : ∀ ts : List (List UInt8), (∀ t ∈ ts, t.length ≤ 1048576) → scanL (ts.flatMap wrapL ++ r) = (ts ++ (scanL r).1, (scanL r).2)
  | [], _ => by simp
  | t :: ts, h => by
    have hn := next_wrap t (ts.flatMap wrapL ++ r) (h t (by simp))
    rw [List.flatMap_cons, List.append_assoc, scan_ok (by rw [hn]), hn, scan_wraps r ts (fun x hx => h x (by simp [hx]))]
    rfl
theorem scan_all {ts : List (List UInt8)} (h : ∀ t ∈ ts, t.length ≤ 1048576) : scanL (ts.flatMap wrapL) = (ts, []) := by
  have := scan_wraps [] ts h
  rw [scan_nil] at this
  simpa using this
theorem scan_count : ∀ (n : Nat) (l : List UInt8), l.length ≤ n → (scanL l).1.length + (scanL l).2.length ≤ l.length ∧ ∀ b ∈ (scanL l).1, b.length ≤ l.length
  | 0, l, h => by
    obtain rfl : l = [] := List.eq_nil_of_length_eq_zero (by omega)
    rw [scan_nil]; simp
  | n + 1, l, h => by
    by_cases h0 : (nextF l).2.2 = 0
    · have hl := next_less h0
      obtain ⟨a, b⟩ := scan_count n (nextF l).2.1 (by omega)
      rw [scan_ok h0]
      refine ⟨by simp only [List.length_cons]; omega, fun x hx => ?_⟩
      rcases List.mem_cons.1 hx with rfl | hx
      · exact next_body
      · have := b x hx; omega
    · rw [scan_end h0]; simp
end Go.Proofs.Ytfdbcnpbjabjoaa
