/- CONTRACTS: the reference's Events, Event, Puts. -/
import Derived.Test.YtjpbhdbmblalmaaPuts
import Derived.Test.YtjpbhdbmblalmaaEvtREnc
namespace Go.Proofs.Ytjpbhdbmblalmaa
open Go.RowKit
set_option linter.unusedVariables false

set_option maxRecDepth 100000 in
theorem wevents_any (l : List UInt8) (hl : l.length ≤ 9223372036854770000) (w : World) : Calls Try.prog 64 #[.string ⟨l.toArray⟩] w fun e w' => e = .returned (.string ⟨(104 :: textL l).toArray⟩) ∧ Below w.heap.size w w' := by
  have h10 := putL_len10 (n := l.length) (by unfold U64; omega)
  go_enter Try.func64, Try.ntmps64
  go_wp2_with fail
  refine (rtext_any l (by omega) _).mono ?_
  rintro e w1 ⟨rfl, hb⟩
  have hcat := run_cat (P := Try.prog) w1 [104] (textL l) (by simp [textL]; omega)
  go_wp2_with fail
  go_ret
  exact ⟨rfl, hb⟩
set_option maxRecDepth 100000 in
theorem wevent_any (l : List UInt8) (hl : l.length ≤ 9223372036854770000) (id : Int) (h0 : 0 ≤ id) (h1 : id ≤ 9223372036854775807) (w : World) : Calls Try.prog 50 #[.string ⟨l.toArray⟩, .int .i64 id] w fun e w' => e = .returned (.string ⟨(eventL l id.toNat).toArray⟩) ∧ Below w.heap.size w w' := by
  obtain ⟨a, rfl⟩ := Int.eq_ofNat_of_zero_le h0
  rw [Int.toNat_natCast]
  have h10 := putL_len10 (n := l.length) (by unfold U64; omega)
  go_enter Try.func50, Try.ntmps50
  go_wp2_with fail
  refine (wevents_any l (by omega) _).mono ?_
  rintro e w1 ⟨rfl, hb1⟩
  go_wp2_with fail
  refine (rfixed_any a (by unfold U64; omega) _).mono ?_
  rintro e w2 ⟨rfl, hb2⟩
  have hln := fixedL_len a
  have hx : (⟨(fixedL a).toArray⟩ : ByteArray).extract 4 8 = ⟨((fixedL a).drop 4).toArray⟩ := by
    rw [← ext_drop, hln]
  have hcat := run_cat (P := Try.prog) w2 (104 :: textL l) ((fixedL a).drop 4) (by simp [fixedL_len, textL]; omega)
  go_wp2_with fail
  go_ret
  exact ⟨rfl, bnext hb1 hb2⟩
set_option maxHeartbeats 3200000 in
set_option maxRecDepth 100000 in
theorem rputs_any (wid : List UInt8) (hwl : wid.length ≤ 140737488351232) (v : Value) (l : List Ev) (w : World) (hs : Sl w v 8 l.length (l.flatMap evc)) (hf : FitE l) (hl72 : l.length * 72 ≤ 140737488351232) :
    Calls Try.prog 23 #[.string ⟨wid.toArray⟩, v] w fun e w' => ∃ (v' : Value) (er : Int), e = .returned (.tuple #[v', .int .i64 er]) ∧ er = puE wid l ∧ w'.ownsRow w.heap.size 87 3 v' (puL wid l).length ((puL wid l).flatMap prc) ∧ Below w.heap.size w w' := by
  have hinfo : (Try.prog.info? 87).map (fun i => (i.zero, i.size, i.bytes)) = some (some (.agg #[.string .empty, .string .empty, .bool false]), 3, 40) := by kernel_rfl
  have hmx : maxLen = 9223372036854775807 := rfl
  have hm := hs.2.1.1
  obtain ⟨_, _, a, cap, rfl, hc⟩ := hs
  have C1 := hid hc
  clear hc
  by_cases hn : NamedP wid
  case neg =>
    have hd : decide (NamedP wid) = false := decide_eq_false hn
    have HR := hid (pu_name (l := l) hn)
    go_enter Try.func23, Try.ntmps23
    go_wp2_with fail
    refine (rnamed_any wid (by omega) _).mono ?_
    rintro _ w9 ⟨rfl, hw9⟩
    rw [hw9, hd]
    clear hw9 w9 hd hn
    go_wp2_with fail
    go_ret2
    exact ⟨_, 1, rfl, HR.out.2.symm, by rw [HR.out.1]; exact World.ownsRow_nil _ _ _ _, Below.refl _ _⟩
  have hd : decide (NamedP wid) = true := decide_eq_true hn
  have HNM := hid hn
  go_enter Try.func23, Try.ntmps23
  go_wp2_with fail
  refine (rnamed_any wid (by omega) _).mono ?_
  rintro _ w9 ⟨rfl, hw9⟩
  rw [hw9, hd]
  clear hw9 w9 hd hn
  go_wp2_with fail
  go_loopw [6, 7] (fun s0 i0 wr => ∃ k : Nat, k ≤ l.length ∧ i0 = .int .i64 k ∧ wr.ownsRow w.heap.size 87 3 s0 k ((putsK wid l k).flatMap prc) ∧ (∀ x ∈ l.take k, EvP x) ∧ Below w.heap.size w wr) (fun _ i0 _ => l.length - (intOf i0).toNat)
  case atStart => exact ⟨0, Nat.zero_le _, rfl, World.ownsRow_nil _ _ _ _, (by intro x hx; simp at hx), Below.refl _ _⟩
  case round =>
    obtain ⟨k, hk, rfl, ho, hall, hb⟩ := hrel
    obtain ⟨a0, cc0, rfl⟩ := ownsRow_slice ho
    by_cases hlt : k < l.length
    · obtain ⟨b, off, rfl, hblt, hc⟩ := C1.out.resolve_left (by omega)
      have hsucc := putsK_succ wid l k hlt
      have hkl := putsK_len wid l k hk
      have c0 : wr.cell? ⟨b, off + k * 8, none⟩ = some (.int .i64 l[k].1) := (hb.cell (p := ⟨b, off + k * 8 + 0, none⟩) hblt).trans (ev_cell hc k 0 (by decide) hlt _ rfl)
      have c1 : wr.cell? ⟨b, off + k * 8 + 1, none⟩ = some (.int .i64 l[k].2.1) := (hb.cell (p := ⟨b, off + k * 8 + 1, none⟩) hblt).trans (ev_cell hc k 1 (by decide) hlt _ rfl)
      have c2 : wr.cell? ⟨b, off + k * 8 + 2, none⟩ = some (.int .i64 l[k].2.2.1) := (hb.cell (p := ⟨b, off + k * 8 + 2, none⟩) hblt).trans (ev_cell hc k 2 (by decide) hlt _ rfl)
      have c3 : wr.cell? ⟨b, off + k * 8 + 3, none⟩ = some (.int .i64 l[k].2.2.2.1) := (hb.cell (p := ⟨b, off + k * 8 + 3, none⟩) hblt).trans (ev_cell hc k 3 (by decide) hlt _ rfl)
      have c4 : wr.cell? ⟨b, off + k * 8 + 4, none⟩ = some (.int .i64 l[k].2.2.2.2.1) := (hb.cell (p := ⟨b, off + k * 8 + 4, none⟩) hblt).trans (ev_cell hc k 4 (by decide) hlt _ rfl)
      have c5 : wr.cell? ⟨b, off + k * 8 + 5, none⟩ = some (.int .i64 l[k].2.2.2.2.2.1) := (hb.cell (p := ⟨b, off + k * 8 + 5, none⟩) hblt).trans (ev_cell hc k 5 (by decide) hlt _ rfl)
      have c6 : wr.cell? ⟨b, off + k * 8 + 6, none⟩ = some (.bool l[k].2.2.2.2.2.2.1) := (hb.cell (p := ⟨b, off + k * 8 + 6, none⟩) hblt).trans (ev_cell hc k 6 (by decide) hlt _ rfl)
      have c7 : wr.cell? ⟨b, off + k * 8 + 7, none⟩ = some (.string ⟨l[k].2.2.2.2.2.2.2.toArray⟩) := (hb.cell (p := ⟨b, off + k * 8 + 7, none⟩) hblt).trans (ev_cell hc k 7 (by decide) hlt _ rfl)
      have hfx := hf _ (List.getElem_mem hlt)
      have htk : ∀ x ∈ l.take (k + 1), EvP x ∨ x = l[k] := fun x hx => by
        rw [List.take_succ_eq_append_getElem hlt] at hx
        rcases List.mem_append.1 hx with h | h
        · exact .inl (hall x h)
        · simp at h; exact .inr h
      have hno : ¬ EvP l[k] → puL wid l = [] ∧ puE wid l = 120 := fun h => pu_bad HNM.out (fun q => h (q _ (List.getElem_mem hlt)))
      obtain ⟨⟨id, kd, tk, rf, sp, ty, ud, dt⟩, hx⟩ : ∃ x, l[k] = x := ⟨_, rfl⟩
      rw [hx] at c0 c1 c2 c3 c4 c5 c6 c7 hfx hsucc htk hno
      simp only at c0 c1 c2 c3 c4 c5 c6 c7
      simp only [Ev.dt] at hfx
      clear hx
      go_wp2_with fail
      refine (rencodeE_any id kd tk rf sp ty ud dt hfx wr).mono ?_
      rintro _ w2 ⟨rfl, b2⟩
      have hb2 := bnext hb b2
      have o2 := own_new ho b2
      have y0 : w2.cell? ⟨b, off + k * 8, none⟩ = some (.int .i64 id) := (b2.cell (p := ⟨b, off + k * 8, none⟩) (Nat.lt_of_lt_of_le hblt hb.size)).trans c0
      clear c0 c1 c2 c3 c4 c5 c6 c7 ho
      by_cases hp : EvP (id, kd, tk, rf, sp, ty, ud, dt)
      · have hE : encEV (id, kd, tk, rf, sp, ty, ud, dt) = encE (id, kd, tk, rf, sp, ty, ud, dt) := by unfold encEV; rw [if_pos hp]
        rw [hE, ev_yes hp]
        have hpid : 1 ≤ id ∧ id ≤ 9223372036854775807 := by
          have h1 := hp.2.1
          try simp only [Ev.id] at h1
          omega
        have HS := hid hsucc
        have HN := hid (show ∀ x ∈ l.take (k + 1), EvP x from fun x hx => by
          rcases htk x hx with h | h
          · exact h
          · rw [h]; exact hp)
        clear hsucc htk hno hE hp hall
        go_wp2_with fail
        refine (wevent_any wid (by omega) id (by omega) (by omega) _).mono ?_
        rintro _ w3 ⟨rfl, b3⟩
        have hb3 := bnext hb2 b3
        have o3 := own_new o2 b3
        clear o2 y0
        have bP : Below w3.heap.size w3 (w3.alloc (.cells #[.string ⟨(eventL wid id.toNat).toArray⟩, .string ⟨(encE (id, kd, tk, rf, sp, ty, ud, dt)).toArray⟩, .bool false] 87)) := (Below.refl _ _).alloc (Nat.le_refl _) _
        have oZ := own_new o3 bP
        have bb := bnext hb3 bP
        have hy : ∀ (j : Nat) (q9 : Value), (prc (prOf wid (id, kd, tk, rf, sp, ty, ud, dt)))[j]? = some q9 → (w3.alloc (.cells #[.string ⟨(eventL wid id.toNat).toArray⟩, .string ⟨(encE (id, kd, tk, rf, sp, ty, ud, dt)).toArray⟩, .bool false] 87)).cell? ⟨w3.heap.size, j, none⟩ = some q9 := by
          intro j u hu
          refine (World.cell?_alloc_at _ _ _ _ rfl).trans ?_
          rw [← hu]
          exact List.getElem?_toArray
        have hB9 : w.heap.size ≤ (w3.alloc (.cells #[.string ⟨(eventL wid id.toNat).toArray⟩, .string ⟨(encE (id, kd, tk, rf, sp, ty, ud, dt)).toArray⟩, .bool false] 87)).heap.size := bb.size
        clear o3
        go_wp2_with ((at_builtin; go_must (refine wpList_append_row _ rfl _ _ 49 rfl prc 3 (by decide) prc_len prc_one w.heap.size 87 (.agg #[.string .empty, .string .empty, .bool false]) 40 Try.underlying49 hinfo rfl _ k (putsK wid l k) rfl oZ w3.heap.size 1 rfl (prOf wid (id, kd, tk, rf, sp, ty, ud, dt)) hy (by omega) (by omega) hB9 ?_)))
        intro a' c' w' hown hgrow
        have bZ' := below_grown bb oZ hgrow (Nat.le_refl _)
        clear hy bP oZ bb hB9
        go_wp2_with fail
        go_roundw
        case rel => exact ⟨k + 1, by omega, by go_num, by rw [HS.out, List.flatMap_append, List.flatMap_cons, List.flatMap_nil, List.append_nil]; exact hown, HN.out, bZ'⟩
        case measure => simp [intOf]; omega
      · have HN := hid (hno hp)
        rw [ev_no hp]
        clear hsucc htk hno hp hall y0
        generalize encEV (id, kd, tk, rf, sp, ty, ud, dt) = L
        go_wp2_with fail
        go_ret2
        exact ⟨_, 120, rfl, HN.out.2.symm, by rw [HN.out.1]; exact World.ownsRow_nil _ _ _ _, hb2⟩
    · obtain rfl : k = l.length := by omega
      rw [List.take_length] at hall
      have HV := hid (pu_ok HNM.out hall)
      have hkl := putsK_len wid l l.length (Nat.le_refl _)
      clear hall
      go_wp2_with fail
      go_ret2
      exact ⟨_, 0, rfl, HV.out.2.symm, by rw [HV.out.1, hkl]; exact ho, hb⟩
end Go.Proofs.Ytjpbhdbmblalmaa
