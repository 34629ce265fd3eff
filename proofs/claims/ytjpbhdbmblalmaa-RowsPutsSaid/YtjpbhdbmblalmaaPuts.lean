/- CONTRACT: rows.Puts. -/
import Derived.Test.YtjpbhdbmblalmaaPutKeys
import Derived.Test.YtjpbhdbmblalmaaEvtPack
import Derived.Test.YtjpbhdbmblalmaaRowAppend
namespace Go.Proofs.Ytjpbhdbmblalmaa
open Go.RowKit
set_option linter.unusedVariables false

abbrev Pr := List UInt8 × List UInt8
def prc (x : Pr) : List Value := [.string ⟨x.1.toArray⟩, .string ⟨x.2.toArray⟩, .bool false]
theorem prc_len (x : Pr) : (prc x).length = 3 := rfl
theorem prc_one (x : Pr) : ∀ u ∈ prc x, u.oneCell' = true := by
  intro u hu
  simp only [prc, List.mem_cons, List.not_mem_nil, or_false] at hu
  rcases hu with rfl | rfl | rfl <;> rfl
def prOf (wid : List UInt8) (x : Ev) : Pr := (eventL wid x.id.toNat, encE x)
def putsK (wid : List UInt8) (l : List Ev) (k : Nat) : List Pr := (l.take k).map (prOf wid)
theorem putsK_succ (wid : List UInt8) (l : List Ev) (k : Nat) (h : k < l.length) : putsK wid l (k + 1) = putsK wid l k ++ [prOf wid l[k]] := by
  unfold putsK
  rw [List.take_succ_eq_append_getElem h, List.map_append]; rfl
theorem putsK_len (wid : List UInt8) (l : List Ev) (k : Nat) (h : k ≤ l.length) : (putsK wid l k).length = k := by
  unfold putsK
  rw [List.length_map, List.length_take]; omega
open Classical in
def puL (wid : List UInt8) (l : List Ev) : List Pr := if NamedP wid ∧ ∀ x ∈ l, EvP x then putsK wid l l.length else []
open Classical in
def puE (wid : List UInt8) (l : List Ev) : Int := if ¬ NamedP wid then 1 else if ∀ x ∈ l, EvP x then 0 else 120
theorem pu_ok {wid : List UInt8} {l : List Ev} (h : NamedP wid) (h2 : ∀ x ∈ l, EvP x) : puL wid l = putsK wid l l.length ∧ puE wid l = 0 := by
  unfold puL puE
  rw [if_pos ⟨h, h2⟩, if_neg (not_not_intro h), if_pos h2]; exact ⟨rfl, rfl⟩
theorem pu_name {wid : List UInt8} {l : List Ev} (h : ¬ NamedP wid) : puL wid l = [] ∧ puE wid l = 1 := by
  unfold puL puE
  rw [if_neg (fun q => h q.1), if_pos h]; exact ⟨rfl, rfl⟩
theorem pu_bad {wid : List UInt8} {l : List Ev} (h : NamedP wid) (h2 : ¬ ∀ x ∈ l, EvP x) : puL wid l = [] ∧ puE wid l = 120 := by
  unfold puL puE
  rw [if_neg (fun q => h2 q.2), if_neg (not_not_intro h), if_neg h2]; exact ⟨rfl, rfl⟩
set_option maxHeartbeats 3200000 in
set_option maxRecDepth 100000 in
theorem puts_any (wid : List UInt8) (hwl : wid.length ≤ 140737488351232) (v : Value) (l : List Ev) (w : World) (hs : Sl w v 8 l.length (l.flatMap evc)) (hf : FitE l) (hl72 : l.length * 72 ≤ 140737488351232) :
    Calls Try.prog 22 #[.string ⟨wid.toArray⟩, v] w fun e w' => ∃ (v' : Value) (er : Int), e = .returned (.tuple #[v', .int .i64 er]) ∧ er = puE wid l ∧ w'.ownsRow w.heap.size 87 3 v' (puL wid l).length ((puL wid l).flatMap prc) ∧ Below w.heap.size w w' := by
  have hinfo : (Try.prog.info? 87).map (fun i => (i.zero, i.size, i.bytes)) = some (some (.agg #[.string .empty, .string .empty, .bool false]), 3, 40) := by kernel_rfl
  have hmx : maxLen = 9223372036854775807 := rfl
  have hm := hs.2.1.1
  obtain ⟨_, _, a, cap, rfl, hc⟩ := hs
  have C1 := hid hc
  clear hc
  by_cases hn : NamedP wid
  case neg =>
    have hd : decide (NamedP wid) = false := decide_eq_false hn
    have HR := hid (pu_name (l := l) hn)
    go_enter Try.func22, Try.ntmps22
    go_wp2_with fail
    refine (named_any wid (by omega) _).mono ?_
    rintro _ w9 ⟨rfl, hw9⟩
    rw [hw9, hd]
    clear hw9 w9 hd hn
    go_wp2_with fail
    go_ret2
    exact ⟨_, 1, rfl, HR.out.2.symm, by rw [HR.out.1]; exact World.ownsRow_nil _ _ _ _, Below.refl _ _⟩
  have hd : decide (NamedP wid) = true := decide_eq_true hn
  have HNM := hid hn
  go_enter Try.func22, Try.ntmps22
  go_wp2_with fail
  refine (named_any wid (by omega) _).mono ?_
  rintro _ w9 ⟨rfl, hw9⟩
  rw [hw9, hd]
  clear hw9 w9 hd hn
  go_wp2_with fail
  go_loopw [6, 16] (fun s0 i0 wr => ∃ k : Nat, k ≤ l.length ∧ i0 = .int .i64 k ∧ wr.ownsRow w.heap.size 87 3 s0 k ((putsK wid l k).flatMap prc) ∧ (∀ x ∈ l.take k, EvP x) ∧ Below w.heap.size w wr) (fun _ i0 _ => l.length - (intOf i0).toNat)
  case atStart => exact ⟨0, Nat.zero_le _, rfl, World.ownsRow_nil _ _ _ _, (by intro x hx; simp at hx), Below.refl _ _⟩
  case round =>
    obtain ⟨k, hk, rfl, ho, hall, hb⟩ := hrel
    obtain ⟨a0, cc0, rfl⟩ := ownsRow_slice ho
    by_cases hlt : k < l.length
    · obtain ⟨b, off, rfl, hblt, hc⟩ := C1.out.resolve_left (by omega)
      have hsucc := putsK_succ wid l k hlt
      have hkl := putsK_len wid l k hk
      have c0 : wr.cell? ⟨b, off + k * 8, none⟩ = some (.int .i64 l[k].1) := (hb.cell (p := ⟨b, off + k * 8 + 0, none⟩) hblt).trans (ev_cell hc k 0 (by decide) hlt _ rfl)
      have c1 : wr.cell? ⟨b, off + k * 8 + 1, none⟩ = some (.int .i64 l[k].2.1) := (hb.cell (p := ⟨b, off + k * 8 + 1, none⟩) hblt).trans (ev_cell hc k 1 (by decide) hlt _ rfl)
      have c2 : wr.cell? ⟨b, off + k * 8 + 2, none⟩ = some (.int .i64 l[k].2.2.1) := (hb.cell (p := ⟨b, off + k * 8 + 2, none⟩) hblt).trans (ev_cell hc k 2 (by decide) hlt _ rfl)
      have c3 : wr.cell? ⟨b, off + k * 8 + 3, none⟩ = some (.int .i64 l[k].2.2.2.1) := (hb.cell (p := ⟨b, off + k * 8 + 3, none⟩) hblt).trans (ev_cell hc k 3 (by decide) hlt _ rfl)
      have c4 : wr.cell? ⟨b, off + k * 8 + 4, none⟩ = some (.int .i64 l[k].2.2.2.2.1) := (hb.cell (p := ⟨b, off + k * 8 + 4, none⟩) hblt).trans (ev_cell hc k 4 (by decide) hlt _ rfl)
      have c5 : wr.cell? ⟨b, off + k * 8 + 5, none⟩ = some (.int .i64 l[k].2.2.2.2.2.1) := (hb.cell (p := ⟨b, off + k * 8 + 5, none⟩) hblt).trans (ev_cell hc k 5 (by decide) hlt _ rfl)
      have c6 : wr.cell? ⟨b, off + k * 8 + 6, none⟩ = some (.bool l[k].2.2.2.2.2.2.1) := (hb.cell (p := ⟨b, off + k * 8 + 6, none⟩) hblt).trans (ev_cell hc k 6 (by decide) hlt _ rfl)
      have c7 : wr.cell? ⟨b, off + k * 8 + 7, none⟩ = some (.string ⟨l[k].2.2.2.2.2.2.2.toArray⟩) := (hb.cell (p := ⟨b, off + k * 8 + 7, none⟩) hblt).trans (ev_cell hc k 7 (by decide) hlt _ rfl)
      have hfx := hf _ (List.getElem_mem hlt)
      have htk : ∀ x ∈ l.take (k + 1), EvP x ∨ x = l[k] := fun x hx => by
        rw [List.take_succ_eq_append_getElem hlt] at hx
        rcases List.mem_append.1 hx with h | h
        · exact .inl (hall x h)
        · simp at h; exact .inr h
      have hno : ¬ EvP l[k] → puL wid l = [] ∧ puE wid l = 120 := fun h => pu_bad HNM.out (fun q => h (q _ (List.getElem_mem hlt)))
      obtain ⟨⟨id, kd, tk, rf, sp, ty, ud, dt⟩, hx⟩ : ∃ x, l[k] = x := ⟨_, rfl⟩
      rw [hx] at c0 c1 c2 c3 c4 c5 c6 c7 hfx hsucc htk hno
      simp only at c0 c1 c2 c3 c4 c5 c6 c7
      simp only [Ev.dt] at hfx
      clear hx
      go_wp2_with fail
      obtain ⟨W, hW⟩ : ∃ W, W = wr.alloc (.cells #[.int .i64 id, .int .i64 kd, .int .i64 tk, .int .i64 rf, .int .i64 sp, .int .i64 ty, .bool ud, .string ⟨dt.toArray⟩] 23) := ⟨_, rfl⟩
      rw [← hW]
      have bWr : Below wr.heap.size wr W := by rw [hW]; exact (Below.refl _ _).alloc (Nat.le_refl _) _
      have bW := bnext hb bWr
      have oW := own_new ho bWr
      have hC : W.heap[wr.heap.size]? = some (.cells #[.int .i64 id, .int .i64 kd, .int .i64 tk, .int .i64 rf, .int .i64 sp, .int .i64 ty, .bool ud, .string ⟨dt.toArray⟩] 23 (0, 0)) := by rw [hW]; exact heap_alloc_new wr _
      have hl4 : wr.heap.size < W.heap.size := (Array.getElem?_eq_some_iff.1 hC).1
      have x0 : W.cell? ⟨wr.heap.size, 0, none⟩ = some (.int .i64 id) := by rw [cell_of_row W _ 0 _ _ (0, 0) hC]; rfl
      clear hW hC c0 c1 c2 c3 c4 c5 c6 c7 bWr ho
      refine (eencode_any id kd tk rf sp ty ud dt hfx W).mono ?_
      rintro _ w2 ⟨rfl, b2⟩
      have hb2 := bnext bW b2
      have o2 := own_new oW b2
      have y0 : w2.cell? ⟨wr.heap.size, 0, none⟩ = some (.int .i64 id) := (b2.cell (p := ⟨wr.heap.size, 0, none⟩) hl4).trans x0
      clear x0 oW
      by_cases hp : EvP (id, kd, tk, rf, sp, ty, ud, dt)
      · have hE : encEV (id, kd, tk, rf, sp, ty, ud, dt) = encE (id, kd, tk, rf, sp, ty, ud, dt) := by unfold encEV; rw [if_pos hp]
        rw [hE, ev_yes hp]
        have hpid : 1 ≤ id ∧ id ≤ 9223372036854775807 := by
          have h1 := hp.2.1
          try simp only [Ev.id] at h1
          omega
        have HS := hid hsucc
        have HN := hid (show ∀ x ∈ l.take (k + 1), EvP x from fun x hx => by
          rcases htk x hx with h | h
          · exact h
          · rw [h]; exact hp)
        clear hsucc htk hno hE hp hall
        go_wp2_with fail
        refine (event_any wid (by omega) id (by omega) (by omega) _).mono ?_
        rintro _ w3 ⟨rfl, b3⟩
        have hb3 := bnext hb2 b3
        have o3 := own_new o2 b3
        clear o2 y0
        have bP : Below w3.heap.size w3 (w3.alloc (.cells #[.string ⟨(eventL wid id.toNat).toArray⟩, .string ⟨(encE (id, kd, tk, rf, sp, ty, ud, dt)).toArray⟩, .bool false] 87)) := (Below.refl _ _).alloc (Nat.le_refl _) _
        have oZ := own_new o3 bP
        have bb := bnext hb3 bP
        have hy : ∀ (j : Nat) (q9 : Value), (prc (prOf wid (id, kd, tk, rf, sp, ty, ud, dt)))[j]? = some q9 → (w3.alloc (.cells #[.string ⟨(eventL wid id.toNat).toArray⟩, .string ⟨(encE (id, kd, tk, rf, sp, ty, ud, dt)).toArray⟩, .bool false] 87)).cell? ⟨w3.heap.size, j, none⟩ = some q9 := by
          intro j u hu
          refine (World.cell?_alloc_at _ _ _ _ rfl).trans ?_
          rw [← hu]
          exact List.getElem?_toArray
        have hB9 : w.heap.size ≤ (w3.alloc (.cells #[.string ⟨(eventL wid id.toNat).toArray⟩, .string ⟨(encE (id, kd, tk, rf, sp, ty, ud, dt)).toArray⟩, .bool false] 87)).heap.size := bb.size
        clear o3
        go_wp2_with ((at_builtin; go_must (refine wpList_append_row _ rfl _ _ 49 rfl prc 3 (by decide) prc_len prc_one w.heap.size 87 (.agg #[.string .empty, .string .empty, .bool false]) 40 Try.underlying49 hinfo rfl _ k (putsK wid l k) rfl oZ w3.heap.size 1 rfl (prOf wid (id, kd, tk, rf, sp, ty, ud, dt)) hy (by omega) (by omega) hB9 ?_)))
        intro a' c' w' hown hgrow
        have bZ' := below_grown bb oZ hgrow (Nat.le_refl _)
        clear hy bP oZ bb hB9
        go_wp2_with fail
        go_roundw
        case rel => exact ⟨k + 1, by omega, by go_num, by rw [HS.out, List.flatMap_append, List.flatMap_cons, List.flatMap_nil, List.append_nil]; exact hown, HN.out, bZ'⟩
        case measure => simp [intOf]; omega
      · have HN := hid (hno hp)
        rw [ev_no hp]
        clear hsucc htk hno hp hall y0
        generalize encEV (id, kd, tk, rf, sp, ty, ud, dt) = L
        go_wp2_with fail
        go_ret2
        exact ⟨_, 120, rfl, HN.out.2.symm, by rw [HN.out.1]; exact World.ownsRow_nil _ _ _ _, hb2⟩
    · obtain rfl : k = l.length := by omega
      rw [List.take_length] at hall
      have HV := hid (pu_ok HNM.out hall)
      have hkl := putsK_len wid l l.length (Nat.le_refl _)
      clear hall
      go_wp2_with fail
      go_ret2
      exact ⟨_, 0, rfl, HV.out.2.symm, by rw [HV.out.1, hkl]; exact ho, hb⟩
end Go.Proofs.Ytjpbhdbmblalmaa
