/- PLAIN: the reference's Put, pair by pair: what is laid is in order, and may be. CONTRACTS: wherryref05.Wrong, Put; wherrylaw07.Laid. CONTRACT: wherrylaw07.Laid. -/
import Derived.Test.YtfdbcnpbjabjoaaTabRef3
import Derived.Test.YtfdbcnpbjabjoaaTabWt
import Derived.Test.YtfdbcnpbjabjoaaTabOB
import Derived.Test.YtfdbcnpbjabjoaaTabPair
namespace Go.Proofs.Ytfdbcnpbjabjoaa
open Go.RowKit
set_option linter.unusedVariables false
set_option linter.unusedSimpArgs false

def wrongP (p : Pr) : Int := if p.1 = [] ∨ (p.2.2 = true ∧ p.2.1 ≠ []) then 1 else if 64 < p.1.length ∨ 8192 < p.2.1.length then 2 else 0
theorem wrongP_ok {p : Pr} : wrongP p = 0 ↔ PrOk p := by
  unfold wrongP
  by_cases h1 : p.1 = [] ∨ (p.2.2 = true ∧ p.2.1 ≠ [])
  · rw [if_pos h1]
    refine ⟨fun h => (by cases h), fun h => ?_⟩
    rcases h1 with q | q
    · exact absurd q h.k0
    · exact absurd (h.gone q.1) q.2
  · rw [if_neg h1]
    simp only [not_or, not_and, ne_eq, Decidable.not_not] at h1
    by_cases h2 : 64 < p.1.length ∨ 8192 < p.2.1.length
    · rw [if_pos h2]
      refine ⟨fun h => (by cases h), fun h => ?_⟩
      have := h.k64; have := h.v8
      omega
    · rw [if_neg h2]
      exact ⟨fun _ => ⟨h1.1, by omega, by omega, h1.2⟩, fun _ => rfl⟩
def insP (p : Pr) (l : List Pr) : List Pr := l.take (atK p.1 l) ++ (p :: l.drop (atK p.1 l + if thereK p.1 l = true then 1 else 0))
theorem insP_nil (p : Pr) : insP p [] = [p] := by simp [insP, atK, thereK]
theorem thereK_lt {key : List UInt8} {q : Pr} {l : List Pr} (h : ltB q.1 key = true) : thereK key (q :: l) = thereK key l := by
  unfold thereK
  rw [atK_cons, if_pos h, List.getElem?_cons_succ]
theorem thereK_ge {key : List UInt8} {q : Pr} {l : List Pr} (h : ltB q.1 key = false) : thereK key (q :: l) = (q.1 == key) := by
  unfold thereK
  rw [atK_cons, if_neg (by rw [h]; simp), List.getElem?_cons_zero]
  rfl
theorem insP_lt {p q : Pr} {l : List Pr} (h : ltB q.1 p.1 = true) : insP p (q :: l) = q :: insP p l := by
  unfold insP
  rw [thereK_lt h, atK_cons, if_pos h, List.take_succ_cons, Nat.add_right_comm, List.drop_succ_cons]
  rfl
theorem insP_ge {p q : Pr} {l : List Pr} (h : ltB q.1 p.1 = false) : insP p (q :: l) = if q.1 = p.1 then p :: l else p :: q :: l := by
  unfold insP
  rw [thereK_ge h, atK_cons, if_neg (by rw [h]; simp)]
  by_cases e : q.1 = p.1
  · rw [if_pos e, if_pos (by rw [e]; simp)]; rfl
  · rw [if_neg e, if_neg (by simpa using e)]; rfl
theorem insP_asc (p : Pr) : ∀ (l : List Pr) (last : List UInt8), ascB last l → ltB last p.1 = true → ascB last (insP p l)
  | [], last, _, h => by rw [insP_nil]; exact ⟨h, trivial⟩
  | q :: l, last, ha, h => by
    cases hq : ltB q.1 p.1 with
    | true => rw [insP_lt hq]; exact ⟨ha.1, insP_asc p l q.1 ha.2 hq⟩
    | false =>
      rw [insP_ge hq]
      by_cases e : q.1 = p.1
      · rw [if_pos e]; exact ⟨h, by rw [← e]; exact ha.2⟩
      · rw [if_neg e]
        exact ⟨h, (ltB_tot hq).resolve_left e, ha.2⟩
theorem insP_mem (p : Pr) : ∀ (l : List Pr) (x : Pr), x ∈ insP p l → x = p ∨ x ∈ l
  | [], x, h => by rw [insP_nil] at h; exact .inl (List.mem_singleton.1 h)
  | q :: l, x, h => by
    cases hq : ltB q.1 p.1 with
    | true =>
      rw [insP_lt hq] at h
      rcases List.mem_cons.1 h with rfl | h
      · exact .inr (by simp)
      · exact (insP_mem p l x h).imp id (fun y => List.mem_cons_of_mem _ y)
    | false =>
      rw [insP_ge hq] at h
      by_cases e : q.1 = p.1
      · rw [if_pos e] at h
        exact (List.mem_cons.1 h).imp id (fun y => List.mem_cons_of_mem _ y)
      · rw [if_neg e] at h
        exact List.mem_cons.1 h
theorem insP_wt (p : Pr) : ∀ l : List Pr, wtP (insP p l) ≤ p.1.length + p.2.1.length + 3 + wtP l
  | [] => by rw [insP_nil, wtP_cons]; exact Nat.le_refl _
  | q :: l => by
    cases hq : ltB q.1 p.1 with
    | true => rw [insP_lt hq, wtP_cons, wtP_cons]; have := insP_wt p l; omega
    | false =>
      rw [insP_ge hq]
      split
      · rw [wtP_cons, wtP_cons]; omega
      · rw [wtP_cons]; omega
def putP (l : List Pr) (p : Pr) : List Pr := if wrongP p = 0 then insP p l else l
structure LaidOk (l : List Pr) : Prop where
  asc : ascB [] l
  ok : ∀ p ∈ l, PrOk p
theorem LaidOk.nil : LaidOk [] := ⟨trivial, by simp⟩
theorem LaidOk.put {l : List Pr} (h : LaidOk l) (p : Pr) : LaidOk (putP l p) := by
  unfold putP
  split
  · rename_i hw
    have hp := wrongP_ok.1 hw
    refine ⟨insP_asc p l [] h.asc (by rw [ltB_nil]; cases hk : p.1 with | nil => exact absurd hk hp.k0 | cons a b => rfl), fun x hx => ?_⟩
    rcases insP_mem p l x hx with rfl | hx
    · exact hp
    · exact h.ok x hx
  · exact h
theorem putP_wt (l : List Pr) (p : Pr) : wtP (putP l p) ≤ p.1.length + p.2.1.length + 3 + wtP l := by
  unfold putP
  split
  · exact insP_wt p l
  · omega
def laidP (puts : List Pr) : List Pr := puts.foldl putP []
theorem laid_fold : ∀ (puts l : List Pr), LaidOk l → LaidOk (puts.foldl putP l) ∧ wtP (puts.foldl putP l) ≤ wtP l + wtP puts
  | [], l, h => ⟨h, by simp [wtP]⟩
  | p :: puts, l, h => by
    rw [List.foldl_cons]
    obtain ⟨a, b⟩ := laid_fold puts (putP l p) (h.put p)
    refine ⟨a, Nat.le_trans b ?_⟩
    have := putP_wt l p
    rw [wtP_cons]; omega
theorem laid_ok (puts : List Pr) : LaidOk (laidP puts) := (laid_fold puts [] LaidOk.nil).1
theorem laid_wt (puts : List Pr) : wtP (laidP puts) ≤ wtP puts := by
  have := (laid_fold puts [] LaidOk.nil).2
  have e : wtP [] = 0 := rfl
  unfold laidP
  omega
theorem laidP_take {puts : List Pr} {k : Nat} (h : k < puts.length) : laidP (puts.take (k + 1)) = putP (laidP (puts.take k)) puts[k] := by
  unfold laidP
  rw [List.take_succ_eq_append_getElem h, List.foldl_append]; rfl
theorem wtP_take (puts : List Pr) (k : Nat) : wtP (puts.take k) ≤ wtP puts := by
  induction puts generalizing k with
  | nil => simp
  | cons p l ih =>
    cases k with
    | zero => simp [wtP]
    | succ k => rw [List.take_succ_cons, wtP_cons, wtP_cons]; have := ih k; omega
theorem LaidOk.chk {l : List Pr} (h : LaidOk l) : chkB [] l = 0 := chkB_ok.2 ⟨h.asc, h.ok⟩
theorem LaidOk.built {l : List Pr} (h : LaidOk l) : (buildF l).2 = 0 ∨ l = [] ∨ (buildF l).2 = 2 := by
  unfold buildF
  by_cases h1 : l = []
  · exact .inr (.inl h1)
  · rw [if_neg h1, if_neg (not_not_intro h.chk)]
    split
    · exact .inr (.inr rfl)
    · exact .inl rfl
theorem pair_wt {p : Pr} (h : PrOk p) : (pairL p).length ≤ p.1.length + p.2.1.length + 3 := by
  have h1 : (putL p.1.length).length ≤ 1 := putL_len 0 _ (by have := h.k64; omega)
  have h2 : (putL (p.2.1.length + 1)).length ≤ 2 := putL_len 1 _ (by have := h.v8; omega)
  have h3 : (putL 0).length ≤ 1 := putL_len 0 _ (by omega)
  unfold pairL textL
  split <;> simp only [List.length_append] <;> omega
theorem blk_wt : ∀ {g : List Pr}, (∀ p ∈ g, PrOk p) → (blkL g).length ≤ wtP g
  | [], _ => by simp [blkL]
  | p :: g, h => by
    have h1 := pair_wt (h p (by simp))
    have h2 := blk_wt (g := g) (fun q hq => h q (by simp [hq]))
    unfold blkL at h2 ⊢
    rw [List.flatMap_cons, List.length_append, wtP_cons]
    omega
theorem wtP_app (a b : List Pr) : wtP (a ++ b) = wtP a + wtP b := by simp [wtP]
set_option maxRecDepth 100000 in
theorem body_wt : ∀ (gs : List (List Pr)), (∀ g ∈ gs, (∀ p ∈ g, PrOk p) ∧ g.length ≤ 8) → (gs.flatMap fun g => wrapL (blkL g)).length ≤ wtP gs.flatten + 7 * gs.length ∧ (gs.flatMap fun g => textL (headK g)).length ≤ 65 * gs.length
  | [], _ => by simp
  | g :: gs, h => by
    obtain ⟨a, b⟩ := body_wt gs (fun x hx => h x (by simp [hx]))
    obtain ⟨h1, h2⟩ := h g (by simp)
    have h3 := blk_wt h1
    have h4 := blkL_le h1
    have h5 : (putL (blkL g).length).length ≤ 3 := putL_len 2 _ (by omega)
    have h6 := headK_le h1
    have h7 : (putL (headK g).length).length ≤ 1 := putL_len 0 _ (by omega)
    rw [List.flatMap_cons, List.flatMap_cons, List.flatten_cons, wtP_app, List.length_append, List.length_append, List.length_cons]
    have e1 : (wrapL (blkL g)).length ≤ (blkL g).length + 7 := by
      unfold wrapL
      simp only [List.length_append, fourL_len]
      omega
    have e2 : (textL (headK g)).length ≤ 65 := by unfold textL; rw [List.length_append]; omega
    constructor <;> omega
set_option maxRecDepth 100000 in
theorem build_wt {l : List Pr} (h : LaidOk l) (hw : wtP l ≤ 1048576) (hb : (buildF l).2 = 0) : (buildF l).1.length ≤ 5242880 := by
  obtain ⟨hne, hck, hft, hs⟩ := build_ok hb
  rw [hs, List.length_append]
  have hgok : ∀ g ∈ grp l, (∀ p ∈ g, PrOk p) ∧ g.length ≤ 8 := fun g hg => by
    rw [← gAt_all l] at hg
    obtain ⟨j, -, rfl⟩ := List.mem_map.1 hg
    exact ⟨gAt_ok h.ok j.val, by rw [gAt_len]; omega⟩
  obtain ⟨b1, b2⟩ := body_wt (grp l) hgok
  have hgl : (grp l).length = (l.length + 7) / 8 := grp_len l
  have hln := wtP_len l
  rw [grp_flat] at b1
  have f1 := putL_len10 (n := (grp l).length) (by unfold U64; omega)
  have f2 := putL_len10 (n := l.length) (by unfold U64; omega)
  have f3 : (filtL l).length = min (l.length + 8) 8192 := makeL_len _ _
  have f4 := textL_le (k := filtL l) (by omega)
  have f5 := wrapL_le hft
  have f6 : (footL l).length = (putL (grp l).length).length + ((indexL l).length + ((putL l.length).length + (textL (filtL l)).length)) := by
    unfold footL
    simp only [List.length_append]
  have b3 : (indexL l).length ≤ 65 * (grp l).length := b2
  have b4 : (bodyL l).length ≤ wtP l + 7 * (grp l).length := b1
  clear b1 b2 hs hck hne hb hgok hft
  generalize (grp l).length = n at *
  generalize (indexL l).length = a1 at *
  generalize (bodyL l).length = a2 at *
  generalize (footL l).length = a3 at *
  generalize (putL n).length = a4 at *
  generalize (putL l.length).length = a5 at *
  generalize (textL (filtL l)).length = a6 at *
  generalize (filtL l).length = a7 at *
  generalize (wrapL (footL l)).length = a8 at *
  generalize wtP l = a9 at *
  generalize l.length = a10 at *
  have c1 : n ≤ 131072 := by omega
  have c2 : a7 ≤ 8192 := by omega
  omega
end Go.Proofs.Ytfdbcnpbjabjoaa
namespace Go.Proofs.Ytfdbcnpbjabjoaa
open Go.RowKit
set_option linter.unusedVariables false
set_option linter.unusedSimpArgs false

set_option maxHeartbeats 4000000 in
set_option maxRecDepth 100000 in
theorem wrong_any (p : Pr) (hk : p.1.length ≤ 1048576 ∧ p.2.1.length ≤ 1048576) (w : World) : Calls Try.prog 85 #[prV p] w fun e w' => e = .returned (.int .i64 (wrongP p)) ∧ Below w.heap.size w w' := by
  obtain ⟨kk, vv, gg⟩ := p
  unfold prV
  dsimp only at hk ⊢
  obtain ⟨w1, hw1⟩ : ∃ y, y = w.alloc (.cells #[.string ⟨kk.toArray⟩, .string ⟨vv.toArray⟩, .bool gg] 70) := ⟨_, rfl⟩
  have b1 : Below w.heap.size w w1 := by rw [hw1]; exact (Below.refl _ _).alloc (Nat.le_refl _) _
  have hr1 : w1.heap[w.heap.size]? = some (.cells #[.string ⟨kk.toArray⟩, .string ⟨vv.toArray⟩, .bool gg] 70 (0, 0)) := by rw [hw1]; exact heap_alloc_new w _
  obtain ⟨y0, y1, y2, -⟩ := prow_cell hr1
  have hks : (kk.length : Int) ≤ 1048576 := by omega
  have hvs : (vv.length : Int) ≤ 1048576 := by omega
  have HW1 := hid hw1
  have HB := hid b1
  clear hw1 b1 hr1
  have fin : ∀ c : Int, wrongP (kk, vv, gg) = c → Ending.returned (.int .i64 c) = Ending.returned (.int .i64 (wrongP (kk, vv, gg))) := fun c h => by rw [h]
  have FIN := hid fin
  clear fin
  by_cases hkz : kk = []
  · subst hkz
    have HC := hid (show wrongP ([], vv, gg) = 1 from if_pos (.inl rfl))
    go_enter Try.func85, Try.ntmps85
    go_wp2_with (rw [← HW1.out])
    go_ret
    exact ⟨FIN.out 1 HC.out, HB.out⟩
  · have hkz2 : (kk == ([] : List UInt8)) = false := by simp [hkz]
    have low : ∀ (hn : ¬ (kk = [] ∨ (gg = true ∧ vv ≠ []))), wrongP (kk, vv, gg) = if 64 < kk.length ∨ 8192 < vv.length then 2 else 0 := fun hn => if_neg hn
    have LOW := hid low
    clear low
    cases gg with
    | true =>
      by_cases hvz : vv = []
      · subst hvz
        have hl := LOW.out (by simp [hkz])
        by_cases h64 : 64 < kk.length
        · have HC := hid (hl.trans (if_pos (.inl h64)))
          have hkI : (64 : Int) < (kk.length : Int) := by omega
          clear hl
          go_enter Try.func85, Try.ntmps85
          go_wp2_with (rw [← HW1.out])
          go_ret
          exact ⟨FIN.out 2 HC.out, HB.out⟩
        · have HC := hid (hl.trans (if_neg (by simp; omega)))
          have hkI : ¬ (64 : Int) < (kk.length : Int) := by omega
          clear hl
          go_enter Try.func85, Try.ntmps85
          go_wp2_with (rw [← HW1.out])
          go_ret
          exact ⟨FIN.out 0 HC.out, HB.out⟩
      · have hvz2 : (vv == ([] : List UInt8)) = false := by simp [hvz]
        have hvz4 : (vv != ([] : List UInt8)) = true := by simp [hvz]
        have HC := hid (show wrongP (kk, vv, true) = 1 from if_pos (.inr ⟨rfl, hvz⟩))
        go_enter Try.func85, Try.ntmps85
        go_wp2_with (rw [← HW1.out])
        go_ret
        exact ⟨FIN.out 1 HC.out, HB.out⟩
    | false =>
      have hl := LOW.out (by simp [hkz])
      by_cases h64 : 64 < kk.length
      · have HC := hid (hl.trans (if_pos (.inl h64)))
        have hkI : (64 : Int) < (kk.length : Int) := by omega
        clear hl
        go_enter Try.func85, Try.ntmps85
        go_wp2_with (rw [← HW1.out])
        go_ret
        exact ⟨FIN.out 2 HC.out, HB.out⟩
      · have hkI : ¬ (64 : Int) < (kk.length : Int) := by omega
        by_cases h81 : 8192 < vv.length
        · have HC := hid (hl.trans (if_pos (.inr h81)))
          have hvI : (8192 : Int) < (vv.length : Int) := by omega
          clear hl
          go_enter Try.func85, Try.ntmps85
          go_wp2_with (rw [← HW1.out])
          go_ret
          exact ⟨FIN.out 2 HC.out, HB.out⟩
        · have HC := hid (hl.trans (if_neg (fun q => q.elim h64 h81)))
          have hvI : ¬ (8192 : Int) < (vv.length : Int) := by omega
          clear hl
          go_enter Try.func85, Try.ntmps85
          go_wp2_with (rw [← HW1.out])
          go_ret
          exact ⟨FIN.out 0 HC.out, HB.out⟩
theorem Sl.takeP {w : World} {a : Option Addr} {c k : Nat} {l : List Pr} (h : Sl w (.slice a l.length c) 3 l.length (l.flatMap prC)) (hk : k ≤ l.length) : Sl w (.slice a k c) 3 k ((l.take k).flatMap prC) := by
  obtain ⟨h1, ⟨h2, h3⟩, a', cap, hv, hc⟩ := h
  rw [Value.slice.injEq] at hv
  obtain ⟨rfl, -, rfl⟩ := hv
  have hl : ∀ m : List Pr, (m.flatMap prC).length = m.length * 3 := fun m => length_flatMap_const prC_len m
  have hkl : ((l.take k).flatMap prC).length = k * 3 := by rw [hl, List.length_take, Nat.min_eq_left hk]
  refine ⟨hkl, ⟨by omega, fun n c' e => ?_⟩, a, c, rfl, ?_⟩
  · rw [Value.slice.injEq] at e
    obtain ⟨rfl, -, rfl⟩ := e
    exact h3 _ _ rfl
  · by_cases hz : k = 0
    · exact .inl hz
    · obtain ⟨b, off, rfl, hb, hcc⟩ := hc.resolve_left (by omega)
      right
      refine ⟨b, off, rfl, hb, fun j hj => ?_⟩
      have e : l.flatMap prC = (l.take k).flatMap prC ++ (l.drop k).flatMap prC := by rw [← List.flatMap_append, List.take_append_drop]
      have hj2 : j < (l.flatMap prC).length := by rw [e, List.length_append]; omega
      rw [hcc j hj2]
      congr 1
      simp only [e]
      rw [List.getElem_append_left hj]
theorem prs_one (l : List Pr) : ∀ u ∈ l.flatMap prC, u.oneCell' = true := fun u hu => by
  obtain ⟨p, -, hp⟩ := List.mem_flatMap.1 hu
  exact prC_one p u hp
theorem own_capP {w : World} {B n : Nat} {e : TypeId} {a : Option Addr} {c : Nat} {xs : List Value} (h : w.ownsRow B e 3 (.slice a n c) n xs) : n ≤ c := by
  rcases h.2 with ⟨q, h0⟩ | ⟨g, cap, cur, q, _, _, h1, _⟩
  · omega
  · rw [Value.slice.injEq] at q
    omega
theorem flatMap_three (a b : List Pr) (p : Pr) : (a ++ [p] ++ b).flatMap prC = a.flatMap prC ++ (prC p ++ b.flatMap prC) := by simp
/-- behind the last append and the store -/
theorem put_end {B g n : Nat} {w5 w6 : World} {x : Value} {a6 : Option Addr} {c6 : Nat} {l : List Pr} (hr5 : w5.heap[g]? = some (.cells #[x] 68 (0, 0))) (hg : g < B) (hb : Below B w5 w6) (ho : w6.ownsRow B 70 3 (.slice a6 n c6) n (l.flatMap prC)) (hn : l.length = n) (hm : n ≤ maxLen) :
    RtAt (w6.setCell ⟨g, 0, none⟩ (.slice a6 n c6)) g l := by
  subst hn
  have h6 := (hb.block g hg).trans hr5
  refine ⟨a6, c6, ?_, Sl.of_own (ho.kept (grownBy_setCell' w6 g _) (.inr fun e => by have := (ho.lt g e).1; omega)) hm, own_capP ho⟩
  exact heap_setCell_same w6 g 0 _ _ _ h6
set_option maxHeartbeats 8000000 in
set_option maxRecDepth 100000 in
theorem rput_any5 (g : Nat) (ps : List Pr) (p : Pr) (hl : ps.length ≤ 1048576) (hk : p.1.length ≤ 1048576 ∧ p.2.1.length ≤ 1048576) (w : World) (h : RtAt w g ps) :
    Calls Try.prog 66 #[.pointer (some ⟨g, 0, none⟩), prV p] w fun e w' => e = .returned (.int .i64 (wrongP p)) ∧ RtAt w' g (putP ps p) ∧ At g w w' := by
  obtain ⟨kk, vv, gg⟩ := p
  unfold prV
  dsimp only at hk ⊢
  obtain ⟨w1, hw1⟩ : ∃ y, y = w.alloc (.cells #[.string ⟨kk.toArray⟩, .string ⟨vv.toArray⟩, .bool gg] 70) := ⟨_, rfl⟩
  have b1 : Below w.heap.size w w1 := by rw [hw1]; exact (Below.refl _ _).alloc (Nat.le_refl _) _
  have hr1 : w1.heap[w.heap.size]? = some (.cells #[.string ⟨kk.toArray⟩, .string ⟨vv.toArray⟩, .bool gg] 70 (0, 0)) := by rw [hw1]; exact heap_alloc_new w _
  have hs1 : w1.heap.size = w.heap.size + 1 := by rw [hw1, World.size_alloc]
  have h1 := h.below b1
  obtain ⟨pa, pc, hr0, hs0, hpc⟩ := id h
  have HSL := hid (fun (V : World) (q : Below w.heap.size w V) => hs0.below q)
  have hrg0 := hr0
  clear hs0
  have hg0 : g < w.heap.size := by obtain ⟨pa, pc, q, -⟩ := h; exact (Array.getElem?_eq_some_iff.1 q).1
  have HWR := hid (wrong_any (kk, vv, gg) hk w1)
  unfold prV at HWR
  dsimp only at HWR
  obtain ⟨y0, y1, y2, -⟩ := prow_cell hr1
  have HW1 := hid hw1
  have HS1 := hid hs1
  clear hw1 h hs1
  go_enter Try.func66, Try.ntmps66
  go_wp2_with (rw [← HW1.out])
  refine HWR.out.mono ?_
  rintro _ w2 ⟨rfl, b2⟩
  have h2 := h1.below b2
  have hB2 := bnext b1 b2
  have hr2 := (b2.block _ (Array.getElem?_eq_some_iff.1 hr1).1).trans hr1
  have hs2 := b2.size
  obtain ⟨z0, z1, z2, -⟩ := prow_cell hr2
  clear y0 y1 y2 b1 b2 h1 HWR
  by_cases hw0 : wrongP (kk, vv, gg) = 0
  case neg =>
    have HP := hid (show putP ps (kk, vv, gg) = ps from if_neg hw0)
    have HB := hid hB2
    have HR := hid h2
    generalize hE : wrongP (kk, vv, gg) = e at *
    have HE := hid hE
    clear hE
    have he2 : (e == 0) = false := by simpa using hw0
    clear h2 hB2 hr1 hr2 HSL hrg0 hr0
    go_wp2_with fail
    go_ret
    exact ⟨by rw [HE.out]; rfl, by rw [HP.out]; exact HR.out, At.of_below HB.out⟩
  case pos =>
  have HW0 := hid hw0
  rw [hw0]
  have ha := at_any g ps kk (by omega) w2 h2
  have hrg := (hB2.block g hg0).trans hrg0
  clear hrg0 hr0 h2
  obtain ⟨i, hi⟩ : ∃ i, i = atK kk ps := ⟨_, rfl⟩
  have hile : i ≤ ps.length := by rw [hi]; exact atK_le kk ps
  obtain ⟨th, hth⟩ : ∃ t, t = thereK kk ps := ⟨_, rfl⟩
  have HLT := hid (show th = true → i < ps.length from fun q => by
    rw [hth] at q
    rcases Nat.lt_or_ge (atK kk ps) ps.length with z | z
    · rw [hi]; exact z
    · unfold thereK at q; rw [List.getElem?_eq_none z] at q; cases q)
  rw [← hi, ← hth] at ha
  have HI := hid hi
  have HTH := hid hth.symm
  clear hi hth hw0 hr1
  go_wp2_with fail
  refine ha.mono ?_
  rintro _ w3 ⟨rfl, qd, rfl⟩
  have hB3 : Below w.heap.size w (w2.drewN qd) := ⟨hB2.os, hB2.tape, hB2.output, hB2.size, hB2.block⟩
  have x0 : (w2.drewN qd).cell? ⟨w.heap.size, 0, none⟩ = some (.string ⟨kk.toArray⟩) := z0
  have x1 : (w2.drewN qd).cell? ⟨w.heap.size, 1, none⟩ = some (.string ⟨vv.toArray⟩) := z1
  have x2 : (w2.drewN qd).cell? ⟨w.heap.size, 2, none⟩ = some (.bool gg) := z2
  have hrg3 : (w2.drewN qd).heap[g]? = some (.cells #[.slice pa ps.length pc] 68 (0, 0)) := hrg
  have d3 : (w2.drewN qd).cell? ⟨g, 0, none⟩ = some (.slice pa ps.length pc) := by rw [cell_of_row _ _ 0 _ _ (0, 0) hrg3]; rfl
  have hsl3 := HSL.out _ hB3
  have hs3 : w1.heap.size ≤ (w2.drewN qd).heap.size := hs2
  clear z0 z1 z2 hrg ha hB2 hs2 hr2
  generalize w2.drewN qd = w3 at *
  have hslt := hsl3.takeP hile
  have hone := prs_one (ps.take i)
  have hiI : (i : Int) ≤ (pc : Int) := by omega
  have hi0 : (0 : Int) ≤ (i : Int) := Int.natCast_nonneg _
  have hgl : g < w1.heap.size := by rw [HS1.out]; omega
  have hpl : w.heap.size < w1.heap.size := by rw [HS1.out]; omega
  have hBl : w.heap.size ≤ w1.heap.size := by omega
  go_wp2_with (at_builtin; refine wpList_append_sl _ rfl _ _ 55 rfl w1.heap.size 70 (.agg #[.string .empty, .string .empty, .bool false]) 3 40 Try.underlying55 infoPr rfl (by decide) (.slice none 0 0) 0 [] rfl (World.ownsRow_nil _ _ _ _) (.slice pa i pc) i ((ps.take i).flatMap prC) rfl hslt hone (by unfold maxLen; omega) (by omega) w3 hs3 (Below.refl _ _) ?_)
  intro v4 w4 ho4 hb4 _
  obtain ⟨a4, c4, rfl⟩ := ownsRow_slice ho4
  have y0 := (hb4.cell (p := ⟨w.heap.size, 0, none⟩) hpl).trans x0
  have y1 := (hb4.cell (p := ⟨w.heap.size, 1, none⟩) hpl).trans x1
  have y2 := (hb4.cell (p := ⟨w.heap.size, 2, none⟩) hpl).trans x2
  have hrg4 := (hb4.block g hgl).trans hrg3
  have hB4 := hB3.trans (hb4.mono hBl)
  have hs4 : w1.heap.size ≤ w4.heap.size := Nat.le_trans hs3 hb4.size
  obtain ⟨Wn, hWn⟩ : ∃ y, y = w4.alloc (.cells #[.string ⟨kk.toArray⟩, .string ⟨vv.toArray⟩, .bool gg] 70) := ⟨_, rfl⟩
  have hrn : Wn.ownsRow w1.heap.size 70 3 (.slice a4 i c4) i ((ps.take i).flatMap prC) := by rw [hWn]; exact ho4.alloc _
  have hyn : ∀ j u, (prC (kk, vv, gg))[j]? = some u → Wn.cell? ⟨w4.heap.size, j, none⟩ = some u := fun j u q => by
    have hh : Wn.heap[w4.heap.size]? = some (.cells #[.string ⟨kk.toArray⟩, .string ⟨vv.toArray⟩, .bool gg] 70 (0, 0)) := by rw [hWn]; exact heap_alloc_new w4 _
    rw [cell_of_row _ _ j _ _ (0, 0) hh, ← q]
    simp [prC, strV]
  have hbn : Below w1.heap.size w4 Wn := by rw [hWn]; exact (Below.refl _ _).alloc hs4 _
  have hsn : w1.heap.size ≤ Wn.heap.size := Nat.le_trans hs4 hbn.size
  have HWn := hid hWn
  clear x0 x1 x2 hrg3 d3 hsl3 hslt hone hWn hb4
  go_wp2_with (at_builtin; rw [← HWn.out]; refine wpList_append_row _ rfl _ _ 55 rfl prC 3 (by decide) prC_len prC_one w1.heap.size 70 (.agg #[.string .empty, .string .empty, .bool false]) 40 Try.underlying55 infoPr rfl (.slice a4 i c4) i (ps.take i) rfl hrn w4.heap.size 1 rfl (kk, vv, gg) hyn (by unfold maxLen; omega) (by omega) hsn ?_)
  intro a5 c5 w5 ho5 hg5
  have hb5 : Below w1.heap.size w4 w5 := hbn.grown hg5 hsn (fun k q => (ho4.lt k q).1)
  have hr5 := (hb5.block g hgl).trans hrg4
  have d5 : w5.cell? ⟨g, 0, none⟩ = some (.slice pa ps.length pc) := by rw [cell_of_row _ _ 0 _ _ (0, 0) hr5]; rfl
  have f5 : w5.frozen? ⟨g, 0, none⟩ = false := frozen_of_row w5 g 0 _ _ hr5
  have HB5 := hid (hB4.trans (hb5.mono hBl))
  have hsl5 := HSL.out w5 HB5.out
  have hB5 : w1.heap.size ≤ w5.heap.size := Nat.le_trans hs4 hb5.size
  have hi1 : (i : Int) ≤ 1048576 := by omega
  clear hrn hyn hbn hsn ho4 y0 y1 y2 hrg4 hB4 hB3 hs3 hs4 hg5 hb5 HWn
  cases th with
  | true =>
    have HIN := hid (show putP ps (kk, vv, gg) = (ps.take i ++ [(kk, vv, gg)]) ++ ps.drop (i + 1) by
      unfold putP insP
      rw [if_pos HW0.out]
      dsimp only
      rw [← HI.out, HTH.out]
      simp)
    obtain ⟨k, hk2⟩ : ∃ k, k = i + 1 := ⟨_, rfl⟩
    rw [← hk2] at HIN
    have hkle : k ≤ ps.length := by have := HLT.out rfl; omega
    have hkI : (i : Int) + 1 = (k : Int) := by omega
    clear hk2
    have hkn : (k : Int) ≤ (ps.length : Int) := by omega
    have hk0 : (0 : Int) ≤ (k : Int) := Int.natCast_nonneg _
    have hsd := hsl5.dropP hkle hpc
    have hdo := prs_one (ps.drop k)
    have HLN := hid (show ((ps.take i ++ [(kk, vv, gg)]) ++ ps.drop k).length = i + 1 + (ps.length - k) by
      simp only [List.length_append, List.length_take, List.length_drop, List.length_singleton]
      omega)
    by_cases hpk : pc = k
    · rw [if_pos hpk] at hsd
      rw [show pc - k = 0 by omega] at hsd
      go_wp2_with (at_builtin; go_loud (refine wpList_append_sl _ rfl _ _ 55 rfl w1.heap.size 70 (.agg #[.string .empty, .string .empty, .bool false]) 3 40 Try.underlying55 infoPr rfl (by decide) (.slice a5 (i + 1) c5) (i + 1) ((ps.take i).flatMap prC ++ prC (kk, vv, gg)) rfl ho5 (.slice pa (ps.length - k) 0) (ps.length - k) ((ps.drop k).flatMap prC) rfl hsd hdo (by unfold maxLen; omega) (by omega) w5 hB5 (Below.refl _ _) ?_))
      intro v6 w6 ho6 hb6 hg6
      obtain ⟨a6, c6, rfl⟩ := ownsRow_slice ho6
      rw [← flatMap_three] at ho6
      have HT := hid (put_end hr5 hgl hb6 ho6 HLN.out (by unfold maxLen; omega))
      rw [← HIN.out] at HT
      have d6 := (hb6.cell (p := ⟨g, 0, none⟩) hgl).trans d5
      have f6 := (hb6.frozen (p := ⟨g, 0, none⟩) hgl).trans f5
      have HB6 := hid (HB5.out.trans (hb6.mono hBl))
      clear ho6 hb6 hg6 ho5 hsd
      go_wp2_with fail
      go_ret
      exact ⟨by rw [HW0.out]; rfl, HT.out, (At.of_below HB6.out).set 0 _⟩
    · rw [if_neg hpk] at hsd
      go_wp2_with (at_builtin; go_loud (refine wpList_append_sl _ rfl _ _ 55 rfl w1.heap.size 70 (.agg #[.string .empty, .string .empty, .bool false]) 3 40 Try.underlying55 infoPr rfl (by decide) (.slice a5 (i + 1) c5) (i + 1) ((ps.take i).flatMap prC ++ prC (kk, vv, gg)) rfl ho5 (.slice (pa.map (·.add (k * 3))) (ps.length - k) (pc - k)) (ps.length - k) ((ps.drop k).flatMap prC) rfl hsd hdo (by unfold maxLen; omega) (by omega) w5 hB5 (Below.refl _ _) ?_))
      intro v6 w6 ho6 hb6 hg6
      obtain ⟨a6, c6, rfl⟩ := ownsRow_slice ho6
      rw [← flatMap_three] at ho6
      have HT := hid (put_end hr5 hgl hb6 ho6 HLN.out (by unfold maxLen; omega))
      rw [← HIN.out] at HT
      have d6 := (hb6.cell (p := ⟨g, 0, none⟩) hgl).trans d5
      have f6 := (hb6.frozen (p := ⟨g, 0, none⟩) hgl).trans f5
      have HB6 := hid (HB5.out.trans (hb6.mono hBl))
      clear ho6 hb6 hg6 ho5 hsd
      go_wp2_with fail
      go_ret
      exact ⟨by rw [HW0.out]; rfl, HT.out, (At.of_below HB6.out).set 0 _⟩
  | false =>
    have HIN := hid (show putP ps (kk, vv, gg) = (ps.take i ++ [(kk, vv, gg)]) ++ ps.drop (i) by
      unfold putP insP
      rw [if_pos HW0.out]
      dsimp only
      rw [← HI.out, HTH.out]
      simp)
    obtain ⟨k, hk2⟩ : ∃ k, k = i := ⟨_, rfl⟩
    subst hk2
    have hkle : k ≤ ps.length := hile
    have hkn : (k : Int) ≤ (ps.length : Int) := by omega
    have hk0 : (0 : Int) ≤ (k : Int) := Int.natCast_nonneg _
    have hsd := hsl5.dropP hkle hpc
    have hdo := prs_one (ps.drop k)
    have HLN := hid (show ((ps.take k ++ [(kk, vv, gg)]) ++ ps.drop k).length = k + 1 + (ps.length - k) by
      simp only [List.length_append, List.length_take, List.length_drop, List.length_singleton]
      omega)
    by_cases hpk : pc = k
    · rw [if_pos hpk] at hsd
      rw [show pc - k = 0 by omega] at hsd
      go_wp2_with (at_builtin; go_loud (refine wpList_append_sl _ rfl _ _ 55 rfl w1.heap.size 70 (.agg #[.string .empty, .string .empty, .bool false]) 3 40 Try.underlying55 infoPr rfl (by decide) (.slice a5 (k + 1) c5) (k + 1) ((ps.take k).flatMap prC ++ prC (kk, vv, gg)) rfl ho5 (.slice pa (ps.length - k) 0) (ps.length - k) ((ps.drop k).flatMap prC) rfl hsd hdo (by unfold maxLen; omega) (by omega) w5 hB5 (Below.refl _ _) ?_))
      intro v6 w6 ho6 hb6 hg6
      obtain ⟨a6, c6, rfl⟩ := ownsRow_slice ho6
      rw [← flatMap_three] at ho6
      have HT := hid (put_end hr5 hgl hb6 ho6 HLN.out (by unfold maxLen; omega))
      rw [← HIN.out] at HT
      have d6 := (hb6.cell (p := ⟨g, 0, none⟩) hgl).trans d5
      have f6 := (hb6.frozen (p := ⟨g, 0, none⟩) hgl).trans f5
      have HB6 := hid (HB5.out.trans (hb6.mono hBl))
      clear ho6 hb6 hg6 ho5 hsd
      go_wp2_with fail
      go_ret
      exact ⟨by rw [HW0.out]; rfl, HT.out, (At.of_below HB6.out).set 0 _⟩
    · rw [if_neg hpk] at hsd
      go_wp2_with (at_builtin; go_loud (refine wpList_append_sl _ rfl _ _ 55 rfl w1.heap.size 70 (.agg #[.string .empty, .string .empty, .bool false]) 3 40 Try.underlying55 infoPr rfl (by decide) (.slice a5 (k + 1) c5) (k + 1) ((ps.take k).flatMap prC ++ prC (kk, vv, gg)) rfl ho5 (.slice (pa.map (·.add (k * 3))) (ps.length - k) (pc - k)) (ps.length - k) ((ps.drop k).flatMap prC) rfl hsd hdo (by unfold maxLen; omega) (by omega) w5 hB5 (Below.refl _ _) ?_))
      intro v6 w6 ho6 hb6 hg6
      obtain ⟨a6, c6, rfl⟩ := ownsRow_slice ho6
      rw [← flatMap_three] at ho6
      have HT := hid (put_end hr5 hgl hb6 ho6 HLN.out (by unfold maxLen; omega))
      rw [← HIN.out] at HT
      have d6 := (hb6.cell (p := ⟨g, 0, none⟩) hgl).trans d5
      have f6 := (hb6.frozen (p := ⟨g, 0, none⟩) hgl).trans f5
      have HB6 := hid (HB5.out.trans (hb6.mono hBl))
      clear ho6 hb6 hg6 ho5 hsd
      go_wp2_with fail
      go_ret
      exact ⟨by rw [HW0.out]; rfl, HT.out, (At.of_below HB6.out).set 0 _⟩
end Go.Proofs.Ytfdbcnpbjabjoaa
namespace Go.Proofs.Ytfdbcnpbjabjoaa
open Go.RowKit Go.Shelf
set_option linter.unusedVariables false
set_option linter.unusedSimpArgs false

theorem laid_len (puts : List Pr) (k : Nat) (h : wtP puts ≤ 1048576) : (laidP (puts.take k)).length ≤ 1048576 := by
  have h1 := wtP_len (laidP (puts.take k))
  have h2 := laid_wt (puts.take k)
  have h3 := wtP_take puts k
  omega
set_option maxHeartbeats 4000000 in
set_option maxRecDepth 100000 in
theorem laid_any (v0 : Value) (puts : List Pr) (hw : wtP puts ≤ 1048576) (w : World) (h0 : Sl w v0 3 puts.length (puts.flatMap prC)) :
    Calls Try.prog 33 #[v0] w fun e w' => ∃ a c, e = .returned (.slice a (laidP puts).length c) ∧ Sl w' (.slice a (laidP puts).length c) 3 (laidP puts).length ((laidP puts).flatMap prC) ∧ (laidP puts).length ≤ c ∧ Below w.heap.size w w' := by
  have hn := wtP_len puts
  obtain ⟨-, -, a', cap, rfl, hc⟩ := h0
  have hlI : (puts.length : Int) ≤ 1048576 := by omega
  have HC := hid hc
  have HWT := hid hw
  clear hc
  obtain ⟨w1, hw1⟩ : ∃ y, y = w.alloc (.cells #[.slice none 0 0] 68) := ⟨_, rfl⟩
  have b1 : Below w.heap.size w w1 := by rw [hw1]; exact (Below.refl _ _).alloc (Nat.le_refl _) _
  have hr1 : RtAt w1 w.heap.size [] := ⟨none, 0, by rw [hw1]; exact heap_alloc_new w _, Sl.none _ _, Nat.le_refl _⟩
  have HR1 := hid hr1
  have HB1 := hid b1
  have HW1 := hid hw1
  clear hw1 b1 hr1
  go_enter Try.func33, Try.ntmps33
  go_wp2_with (rw [← HW1.out])
  go_loopw [10] (fun i wr => ∃ k : Nat, k ≤ puts.length ∧ i = .int .i64 k ∧ RtAt wr w.heap.size (laidP (puts.take k)) ∧ Below w.heap.size w wr) (fun i _ => puts.length - (intOf i).toNat)
  case atStart => exact ⟨0, by omega, rfl, HR1.out, HB1.out⟩
  case round =>
    obtain ⟨k, hk, rfl, hr, hb⟩ := hrel
    by_cases hkq : k < puts.length
    case neg =>
      obtain rfl : k = puts.length := by omega
      rw [List.take_length] at hr
      obtain ⟨pa, pc, h1, h2, h3⟩ := hr
      have d0 : wr.cell? ⟨w.heap.size, 0, none⟩ = some (.slice pa (laidP puts).length pc) := by rw [cell_of_row _ _ 0 _ _ (0, 0) h1]; rfl
      have H2 := hid h2
      have H3 := hid h3
      have HB := hid hb
      clear h1 h2 h3 hb hkq hk
      go_wp2_with fail
      go_ret
      exact ⟨_, _, rfl, H2.out, H3.out, HB.out⟩
    case pos =>
    obtain ⟨b, off, rfl, hblt, hcc⟩ := HC.out.resolve_left (by omega)
    have hcm : ∀ (j : Nat) (u : Value), (prC puts[k])[j]? = some u → wr.cell? ⟨b, off + k * 3 + j, none⟩ = some u := fun j u hu => by
      have hj : j < 3 := by have := (List.getElem?_eq_some_iff.1 hu).1; rwa [prC_len] at this
      rw [hb.cell (p := ⟨b, off + k * 3 + j, none⟩) hblt, Nat.add_assoc]
      exact Sl.cell (f := prC) (k := 3) prC_len hcc k j hj hkq u hu
    have HTK := hid (laidP_take hkq)
    have hbm : puts[k].1.length ≤ 1048576 ∧ puts[k].2.1.length ≤ 1048576 := by have := wtP_mem (List.getElem_mem hkq); have := HWT.out; omega
    have hln := laid_len puts k HWT.out
    obtain ⟨pm, hpm⟩ : ∃ y, y = puts[k] := ⟨_, rfl⟩
    rw [← hpm] at hcm hbm HTK
    obtain ⟨kk, vv, gg⟩ := pm
    have q0 : wr.cell? ⟨b, off + k * 3, none⟩ = some (.string ⟨kk.toArray⟩) := hcm 0 _ rfl
    have q1 : wr.cell? ⟨b, off + k * 3 + 1, none⟩ = some (.string ⟨vv.toArray⟩) := hcm 1 _ rfl
    have q2 : wr.cell? ⟨b, off + k * 3 + 2, none⟩ = some (.bool gg) := hcm 2 _ rfl
    have hmi : (k : Int) < (puts.length : Int) := by omega
    have hm0 : (0 : Int) ≤ (k : Int) := Int.natCast_nonneg _
    obtain ⟨W2, hW⟩ : ∃ y, y = wr.alloc (.cells #[.string ⟨kk.toArray⟩, .string ⟨vv.toArray⟩, .bool gg] 70) := ⟨_, rfl⟩
    have bW : Below wr.heap.size wr W2 := by rw [hW]; exact (Below.refl _ _).alloc (Nat.le_refl _) _
    have hCW : W2.heap[wr.heap.size]? = some (.cells #[.string ⟨kk.toArray⟩, .string ⟨vv.toArray⟩, .bool gg] 70 (0, 0)) := by rw [hW]; exact heap_alloc_new wr _
    obtain ⟨y0, y1, y2, -⟩ := prow_cell hCW
    have hP := rput_any5 w.heap.size (laidP (puts.take k)) (kk, vv, gg) hln hbm W2 (hr.below bW)
    unfold prV at hP
    dsimp only at hP
    have HB2 := hid (bnext hb bW)
    have HW := hid hW
    clear hW bW hCW hcm hpm hcc hr hb
    go_wp2_with (rw [← HW.out])
    refine hP.mono ?_
    rintro _ w3 ⟨rfl, hr3, a3⟩
    have HR3 := hid (show RtAt w3 w.heap.size (laidP (puts.take (k + 1))) by rw [HTK.out]; exact hr3)
    have HB3 := hid (At.below HB2.out a3 (Nat.le_refl _))
    clear hr3 a3 hP
    go_wp2_with fail
    go_roundw
    case rel => exact ⟨k + 1, by omega, by go_num, HR3.out, HB3.out⟩
    case measure => simp [intOf]; omega
end Go.Proofs.Ytfdbcnpbjabjoaa
