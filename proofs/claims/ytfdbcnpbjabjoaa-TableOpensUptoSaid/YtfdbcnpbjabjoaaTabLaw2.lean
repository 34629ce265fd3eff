/- CONTRACT: wherrylaw07.TableOpens. -/
import Derived.Test.YtfdbcnpbjabjoaaTabAwake
import Derived.Test.YtfdbcnpbjabjoaaTabROpen
import Derived.Test.YtfdbcnpbjabjoaaTabSame
import Derived.Test.YtfdbcnpbjabjoaaTabRef3
namespace Go.Proofs.Ytfdbcnpbjabjoaa
open Go.RowKit
set_option linter.unusedVariables false
set_option linter.unusedSimpArgs false

theorem find_none {key : List UInt8} {l : List Pr} (h : ∀ p ∈ l, p.1 ≠ key) : findK key l = none := List.find?_eq_none.2 fun p hp => by simpa using h p hp
theorem find_ne {key : List UInt8} {q : Pr} {l : List Pr} (h : ¬ q.1 = key) : findK key (q :: l) = findK key l := by unfold findK; simp [List.find?_cons, h]
theorem find_eq {key : List UInt8} {q : Pr} {l : List Pr} (h : q.1 = key) : findK key (q :: l) = some q := by unfold findK; simp [List.find?_cons, h]
theorem get_same (key : List UInt8) : ∀ (l : List Pr) (last : List UInt8), ascB last l → findK key l = if thereK key l = true then l[atK key l]? else none
  | [], _, _ => rfl
  | q :: l, last, ha => by
    cases hq : ltB q.1 key with
    | true =>
      have hne : ¬ q.1 = key := fun e => by rw [e, ltB_irr] at hq; cases hq
      have e0 : atK key (q :: l) = atK key l + 1 := by rw [atK_cons, if_pos hq]
      have e1 : thereK key (q :: l) = thereK key l := by unfold thereK; rw [e0, List.getElem?_cons_succ]
      rw [e1, e0, List.getElem?_cons_succ, ← get_same key l q.1 ha.2, find_ne hne]
    | false =>
      have e0 : atK key (q :: l) = 0 := by rw [atK_cons, if_neg (by rw [hq]; simp)]
      have e1 : thereK key (q :: l) = (q.1 == key) := by unfold thereK; rw [e0, List.getElem?_cons_zero]; rfl
      rw [e1, e0, List.getElem?_cons_zero]
      by_cases e : q.1 = key
      · rw [if_pos (by simpa using e), find_eq e]
      · rw [if_neg (by simpa using e)]
        have hkq : ltB key q.1 = true := (ltB_tot hq).resolve_left e
        refine find_none fun p hp => ?_
        rcases List.mem_cons.1 hp with rfl | hp
        · exact e
        · intro e2
          have h1 := asc_lt ha.2 p hp
          rw [e2] at h1
          have h2 := ltB_trans h1 hkq
          rw [ltB_irr] at h2; cases h2
theorem get_there {key : List UInt8} {l : List Pr} (h : ascB [] l) : (findK key l).isSome = thereK key l ∧ (findK key l).getD pr0 = if thereK key l = true then l[atK key l]?.getD pr0 else pr0 := by
  rw [get_same key l [] h]
  cases ht : thereK key l with
  | false => simp
  | true =>
    have hm : atK key l < l.length := by
      rcases Nat.lt_or_ge (atK key l) l.length with q | q
      · exact q
      · unfold thereK at ht; rw [List.getElem?_eq_none q] at ht; cases ht
    rw [if_pos rfl, if_pos rfl, List.getElem?_eq_getElem hm]
    simp
theorem dropK_nil (l : List Pr) : dropK [] l = l := by
  unfold dropK
  cases l with
  | nil => rfl
  | cons p l => rw [List.dropWhile_cons, ltB_nil2]; rfl
theorem own_cap {w : World} {B n : Nat} {e : TypeId} {a : Option Addr} {c : Nat} {xs : List Value} (h : w.ownsRow B e 3 (.slice a n c) n xs) : n ≤ c := by
  rcases h.2 with ⟨q, h0⟩ | ⟨g, cap, cur, q, _, _, h1, _⟩
  · omega
  · rw [Value.slice.injEq] at q
    omega
theorem same_yes (xs : List Pr) (v1 v2 : Value) (hn : xs.length ≤ 1099511627776) (w : World) (h1 : Sl w v1 3 xs.length (xs.flatMap prC)) (h2 : Sl w v2 3 xs.length (xs.flatMap prC)) :
    Calls Try.prog 29 #[v1, v2] w fun e w' => e = .returned (.bool true) ∧ Below w.heap.size w w' := by
  refine (same_any xs xs v1 v2 hn hn w h1 h2).mono ?_
  rintro _ w' ⟨rfl, q, rfl⟩
  exact ⟨by rw [decide_eq_true rfl], ⟨rfl, rfl, rfl, Nat.le_refl _, fun _ _ => rfl⟩⟩
/-- what From lays -/
theorem from_boxes {w w' : World} {x y : Value} {T1 T2 : TypeId} (h : w' = (w.alloc (.cells #[x] T1)).alloc (.cells #[y] T2)) : w'.heap[w.heap.size]? = some (.cells #[x] T1 (0, 0)) ∧ w'.heap[w.heap.size + 1]? = some (.cells #[y] T2 (0, 0)) ∧ Below w.heap.size w w' := by
  have h1 := heap_alloc_new w (.cells #[x] T1)
  have h2 := heap_alloc_new (w.alloc (.cells #[x] T1)) (.cells #[y] T2)
  rw [World.size_alloc] at h2
  refine ⟨?_, by rw [h]; exact h2, by rw [h]; exact ((Below.refl _ _).alloc (Nat.le_refl _) _).alloc (by simp) _⟩
  rw [h]
  exact (heap_alloc_old _ _ _ (by simp)).trans h1
set_option maxHeartbeats 8000000 in
set_option maxRecDepth 100000 in
theorem tableOpens_v (s : List UInt8) (_h1 : s.length ≤ 140737488351232) (key : List UInt8) (_h2 : key.length ≤ 140737488351232) (w : World) (hs : s.length ≤ 1048576) (hk : key.length ≤ 1048576) :
    Calls Try.prog 8 #[.string ⟨s.toArray⟩, .string ⟨key.toArray⟩] w fun e w' => e = .returned (.bool true) ∧ Below w.heap.size w w' := by
  have HO := hid (fun V => open_any s (by omega) V)
  have HR := hid (fun V => ropen_any s (by omega) V)
  have hsame := open_same s (by omega) (Nat.le_trans (Nat.le_add_right _ _) (scan_count s.length s (Nat.le_refl _)).1)
  have hgd : ∀ t, openP s = some t → ∃ prs, GoodT t prs := fun t h => open_good (by omega) h
  rw [← hsame] at HR
  cases hop : openP s with
  | none =>
    rw [hop] at HO HR
    clear hgd hsame hop
    go_enter Try.func8, Try.ntmps8
    go_wp2_with fail
    refine (awake_any w).mono ?_
    rintro _ w1 ⟨rfl, b1⟩
    go_wp2_with fail
    refine (HO.out w1).mono ?_
    rintro _ w2 ⟨rfl, b2⟩
    go_wp2_with fail
    refine (HR.out w2).mono ?_
    rintro _ w3 ⟨rfl, b3⟩
    have B3 := hid (bnext b1 (bnext b2 b3))
    clear b1 b2 b3
    go_wp2_with fail
    go_ret
    exact ⟨rfl, B3.out⟩
  | some t =>
    obtain ⟨prs, hg⟩ := hgd t hop
    rw [hop] at HO HR
    simp only [Option.map_some] at HR
    have hln := flat_len prs hg.g8
    have hpl : t.ps.length ≤ 8388608 := by
      have := hg.bl.1
      rw [hg.bs, List.length_map] at this
      rw [hg.ps]; omega
    obtain ⟨hg1, hg2⟩ := get_there (key := key) hg.asc
    have HDN := hid (dropK_nil t.ps)
    have HG := hid hg
    have hdl : (dropK key t.ps).length ≤ 8388608 := Nat.le_trans (List.dropWhile_sublist _).length_le hpl
    clear hgd hsame hop hg hln
    go_enter Try.func8, Try.ntmps8
    go_wp2_with fail
    refine (awake_any w).mono ?_
    rintro _ w1 ⟨rfl, b1⟩
    go_wp2_with fail
    refine (HO.out w1).mono ?_
    rintro _ w2 ⟨⟨g, rfl, ht, -⟩, b2⟩
    go_wp2_with fail
    refine (HR.out w2).mono ?_
    rintro _ w3 ⟨⟨v3, rfl, how⟩, b3⟩
    obtain ⟨pa, pc, rfl⟩ := ownsRow_slice how
    have hpc := own_cap how
    have hsl3 := Sl.of_own how (by unfold maxLen; omega)
    have ht3 := ht.below b3
    obtain ⟨w4, hw4⟩ : ∃ y, y = w3.alloc (.cells #[.slice pa t.ps.length pc] 68) := ⟨_, rfl⟩
    have b4 : Below w3.heap.size w3 w4 := by rw [hw4]; exact (Below.refl _ _).alloc (Nat.le_refl _) _
    have hr4 : RtAt w4 w3.heap.size t.ps := ⟨pa, pc, by rw [hw4]; exact heap_alloc_new w3 _, hsl3.below b4, hpc⟩
    have ht4 := ht3.below b4
    have hsl4 := hsl3.below b4
    have HW4 := hid hw4
    have HGT := hid (tget_any g t prs key (by unfold maxLen; omega) HG.out w4 ht4)
    have HRG := hid (fun (V : World) (q : RtAt V w3.heap.size t.ps) => refget_any w3.heap.size t.ps key (by omega) V q)
    rw [← hg2, ← hg1] at HRG
    unfold getV at HGT
    have HFR := hid (fun (V : World) (q : RtAt V w3.heap.size t.ps) => reffrom_any w3.heap.size t.ps key (by omega) V q)
    have HSM := hid (fun (V : World) (v1 v2 : Value) (x : Sl V v1 3 (dropK key t.ps).length ((dropK key t.ps).flatMap prC)) (y : Sl V v2 3 (dropK key t.ps).length ((dropK key t.ps).flatMap prC)) => same_yes (dropK key t.ps) v1 v2 (by omega) V x y)
    have HSN := hid (fun (V : World) (v1 v2 : Value) (x : Sl V v1 3 t.ps.length (t.ps.flatMap prC)) (y : Sl V v2 3 t.ps.length (t.ps.flatMap prC)) => same_yes t.ps v1 v2 (by omega) V x y)
    generalize (findK key t.ps).getD pr0 = P at *
    generalize (findK key t.ps).isSome = th at *
    obtain ⟨kk, vv, gg⟩ := P
    have ep : (prC (kk, vv, gg)).toArray = #[.string ⟨kk.toArray⟩, .string ⟨vv.toArray⟩, .bool gg] := rfl
    rw [ep] at HGT HRG
    have HB4 := hid (bnext b1 (bnext b2 (bnext b3 b4)))
    clear how hsl3 ht ht3 hw4 hg1 hg2 ep b1 b2 b3 b4
    go_wp2_with (rw [← HW4.out])
    refine HGT.out.mono ?_
    rintro _ w5 ⟨rfl, b5⟩
    obtain ⟨W6, hW6⟩ : ∃ y, y = w5.alloc (.cells #[.string ⟨kk.toArray⟩, .string ⟨vv.toArray⟩, .bool gg] 70) := ⟨_, rfl⟩
    have b6 : Below w5.heap.size w5 W6 := by rw [hW6]; exact (Below.refl _ _).alloc (Nat.le_refl _) _
    have h6 : W6.heap[w5.heap.size]? = some (.cells #[.string ⟨kk.toArray⟩, .string ⟨vv.toArray⟩, .bool gg] 70 (0, 0)) := by rw [hW6]; exact heap_alloc_new w5 _
    have HW6 := hid hW6
    clear hW6
    go_wp2_with (rw [← HW6.out])
    refine (HRG.out W6 ((hr4.below b5).below b6)).mono ?_
    rintro _ w7 ⟨rfl, b7⟩
    obtain ⟨W8, hW8⟩ : ∃ y, y = w7.alloc (.cells #[.string ⟨kk.toArray⟩, .string ⟨vv.toArray⟩, .bool gg] 70) := ⟨_, rfl⟩
    have b8 : Below w7.heap.size w7 W8 := by rw [hW8]; exact (Below.refl _ _).alloc (Nat.le_refl _) _
    have h8 : W8.heap[w7.heap.size]? = some (.cells #[.string ⟨kk.toArray⟩, .string ⟨vv.toArray⟩, .bool gg] 70 (0, 0)) := by rw [hW8]; exact heap_alloc_new w7 _
    have b78 := bnext b7 b8
    have h6' := (b78.block _ (Array.getElem?_eq_some_iff.1 h6).1).trans h6
    obtain ⟨x0, x1, x2, -⟩ := prow_cell h6'
    obtain ⟨y0, y1, y2, -⟩ := prow_cell h8
    have b48 := bnext b5 (bnext b6 b78)
    have hr8 := hr4.below b48
    have ht8 := ht4.below b48
    have HSL8 := hid (hsl4.below b48)
    have HB8 := hid (bnext HB4.out b48)
    have HW8 := hid hW8
    have HLN := hid (tlen_any g t W8 ht8)
    clear hW8 b5 b6 b7 b8 b78 b48 h6 h6' h8 hr4 ht4 hsl4
    go_wp2_with (rw [← HW8.out])
    refine HLN.out.mono ?_
    rintro _ w9 ⟨rfl, hw9⟩
    subst hw9
    go_wp2_with fail
    refine (from_any g key w9).mono ?_
    rintro _ wa ⟨rfl, hwa⟩
    obtain ⟨e1, e2, ba⟩ := from_boxes hwa
    clear hwa x0 x1 x2 y0 y1 y2
    go_wp2_with fail
    refine (collect_any w9.heap.size g t prs key HG.out wa _ _ e1 e2 (ht8.below ba)).mono ?_
    rintro _ wb ⟨vb, rfl, hob, bb⟩
    have hsb := Sl.of_own hob (by unfold maxLen; omega)
    have bab := bnext ba bb
    have hrb := hr8.below bab
    have htb := ht8.below bab
    obtain ⟨ab, cb, rfl⟩ := ownsRow_slice hob
    clear hob e1 e2 ba bb hr8 ht8
    go_wp2_with fail
    refine (HFR.out wb hrb).mono ?_
    rintro _ wc ⟨vc, rfl, hsc, bc⟩
    go_wp2_with fail
    refine (HSM.out wc _ _ (hsb.below bc) hsc).mono ?_
    rintro _ wd ⟨rfl, bd⟩
    have b9 := bnext bab (bnext bc bd)
    have htd := htb.below (bnext bc bd)
    clear hsb hsc hrb htb bc bd bab
    go_wp2_with fail
    refine (from_any g [] wd).mono ?_
    rintro _ we ⟨rfl, hwe⟩
    obtain ⟨e1, e2, be⟩ := from_boxes hwe
    clear hwe
    go_wp2_with fail
    refine (collect_any wd.heap.size g t prs [] HG.out we _ _ e1 e2 (htd.below be)).mono ?_
    rintro _ wf ⟨vf, rfl, hof, bf⟩
    rw [HDN.out] at hof
    have hsf := Sl.of_own hof (by unfold maxLen; omega)
    obtain ⟨af, cf, rfl⟩ := ownsRow_slice hof
    have b10 := bnext b9 (bnext be bf)
    have hs10 := HSL8.out.below b10
    clear hof e1 e2 be bf htd b9
    go_wp2_with fail
    refine (HSN.out wf _ _ hsf hs10).mono ?_
    rintro _ wg ⟨rfl, bg⟩
    have HBG := hid (bnext HB8.out (bnext b10 bg))
    clear hsf hs10 b10 bg
    go_wp2_with fail
    go_ret
    exact ⟨rfl, HBG.out⟩
end Go.Proofs.Ytfdbcnpbjabjoaa
