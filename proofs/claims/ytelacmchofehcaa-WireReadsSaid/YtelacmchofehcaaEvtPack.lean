/- CONTRACT: event.Pack. -/
import Derived.Test.YtelacmchofehcaaEvtDec
import Derived.Test.YtelacmchofehcaaSlices
namespace Go.Proofs.Ytelacmchofehcaa
open Go.RowKit
set_option linter.unusedVariables false

def evc (x : Ev) : List Value := [.int .i64 x.id, .int .i64 x.kd, .int .i64 x.tk, .int .i64 x.rf, .int .i64 x.sp, .int .i64 x.ty, .bool x.ud, .string ⟨x.dt.toArray⟩]
theorem evc_len (x : Ev) : (evc x).length = 8 := rfl
def FitE (l : List Ev) : Prop := ∀ x ∈ l, x.dt.length ≤ 140737488355328
def encHk (l : List Ev) (k : Nat) : List UInt8 := putL l.length ++ encHs (l.take k)
theorem encHk_succ (l : List Ev) (k : Nat) (h : k < l.length) : encHk l (k + 1) = encHk l k ++ textL (encE l[k]) := by
  unfold encHk encHs
  rw [List.take_succ_eq_append_getElem h, List.flatMap_append, List.flatMap_cons, List.flatMap_nil, List.append_nil, List.append_assoc]
theorem encHk_len {l : List Ev} (h : l.length ≤ 500) (k : Nat) (hp : ∀ x ∈ l.take k, EvP x) : (encHk l k).length ≤ 800000 := by
  have h1 := putL_len10' l.length (by omega)
  have h2 : ∀ m : List Ev, (∀ x ∈ m, EvP x) → (encHs m).length ≤ 1510 * m.length := by
    intro m
    induction m with
    | nil => intro _; simp [encHs]
    | cons x m ih =>
      intro hm
      have hx := encE_len (hm x (by simp))
      have i2 := ih (fun y hy => hm y (by simp [hy]))
      have h3 := putL_len10' (encE x).length (by omega)
      unfold encHs at i2 ⊢
      rw [List.flatMap_cons, List.length_append, List.length_cons]
      have : (textL (encE x)).length ≤ 1510 := by unfold textL; rw [List.length_append]; omega
      omega
  have h3 := h2 (l.take k) hp
  have h4 : (l.take k).length ≤ 500 := by rw [List.length_take]; omega
  unfold encHk
  rw [List.length_append]; omega
theorem ev_cell {w : World} {l : List Ev} {b off : Nat} (hc : ∀ j (_ : j < (l.flatMap evc).length), w.cell? ⟨b, off + j, none⟩ = some (l.flatMap evc)[j]) (k j : Nat) (hj : j < 8) (hk : k < l.length) (v : Value) (hv : (evc l[k])[j]? = some v) : w.cell? ⟨b, off + k * 8 + j, none⟩ = some v := by
  rw [Nat.add_assoc]; exact Sl.cell evc_len hc k j hj hk v hv
set_option maxHeartbeats 1600000 in
set_option maxRecDepth 100000 in
theorem pack_any (v : Value) (l : List Ev) (w : World) (hs : Sl w v 8 l.length (l.flatMap evc)) (hf : FitE l) : Calls Try.prog 33 #[v] w fun e w' => e = .returned (.tuple #[.string ⟨(hiV l).toArray⟩, .int .i64 (hiE l)]) ∧ Below w.heap.size w w' := by
  have hm := hs.2.1.1
  obtain ⟨_, _, a, cap, rfl, hc⟩ := hs
  have C1 := hid hc
  clear hc
  by_cases h500 : 500 < l.length
  · have hv : hiV l = [] := by unfold hiV; rw [if_neg (fun q => by have := q.1; omega)]
    have he : hiE l = 2 := by unfold hiE; rw [if_pos h500]
    rw [hv, he]
    clear hv he
    go_enter Try.func33, Try.ntmps33
    go_wp2_with fail
    go_ret2
    exact ⟨rfl, Below.refl _ _⟩
  · go_enter Try.func33, Try.ntmps33
    go_wp2_with fail
    refine (put_w l.length (by omega) _).mono ?_
    rintro _ w1 ⟨rfl, b1⟩
    rw [Int.toNat_natCast]
    go_wp2_with fail
    have h0 : putL l.length = encHk l 0 := by unfold encHk encHs; simp
    rw [h0]
    clear h0
    go_loopw [4, 18] (fun s0 i0 wr => ∃ k : Nat, k ≤ l.length ∧ i0 = .int .i64 k ∧ s0 = .string ⟨(encHk l k).toArray⟩ ∧ (∀ x ∈ l.take k, EvP x) ∧ Below w.heap.size w wr) (fun _ i0 _ => l.length - (intOf i0).toNat)
    case atStart => exact ⟨0, Nat.zero_le _, rfl, rfl, (by intro x hx; simp at hx), b1⟩
    case round =>
      obtain ⟨k, hk, rfl, rfl, hall, hb⟩ := hrel
      by_cases hlt : k < l.length
      · obtain ⟨b, off, rfl, hblt, hc⟩ := C1.out.resolve_left (by omega)
        have hsucc := encHk_succ l k hlt
        have hlen := encHk_len (by omega) k hall
        have c0 : wr.cell? ⟨b, off + k * 8, none⟩ = some (.int .i64 l[k].1) := (hb.cell (p := ⟨b, off + k * 8 + 0, none⟩) hblt).trans (ev_cell hc k 0 (by decide) hlt _ rfl)
        have c1 : wr.cell? ⟨b, off + k * 8 + 1, none⟩ = some (.int .i64 l[k].2.1) := (hb.cell (p := ⟨b, off + k * 8 + 1, none⟩) hblt).trans (ev_cell hc k 1 (by decide) hlt _ rfl)
        have c2 : wr.cell? ⟨b, off + k * 8 + 2, none⟩ = some (.int .i64 l[k].2.2.1) := (hb.cell (p := ⟨b, off + k * 8 + 2, none⟩) hblt).trans (ev_cell hc k 2 (by decide) hlt _ rfl)
        have c3 : wr.cell? ⟨b, off + k * 8 + 3, none⟩ = some (.int .i64 l[k].2.2.2.1) := (hb.cell (p := ⟨b, off + k * 8 + 3, none⟩) hblt).trans (ev_cell hc k 3 (by decide) hlt _ rfl)
        have c4 : wr.cell? ⟨b, off + k * 8 + 4, none⟩ = some (.int .i64 l[k].2.2.2.2.1) := (hb.cell (p := ⟨b, off + k * 8 + 4, none⟩) hblt).trans (ev_cell hc k 4 (by decide) hlt _ rfl)
        have c5 : wr.cell? ⟨b, off + k * 8 + 5, none⟩ = some (.int .i64 l[k].2.2.2.2.2.1) := (hb.cell (p := ⟨b, off + k * 8 + 5, none⟩) hblt).trans (ev_cell hc k 5 (by decide) hlt _ rfl)
        have c6 : wr.cell? ⟨b, off + k * 8 + 6, none⟩ = some (.bool l[k].2.2.2.2.2.2.1) := (hb.cell (p := ⟨b, off + k * 8 + 6, none⟩) hblt).trans (ev_cell hc k 6 (by decide) hlt _ rfl)
        have c7 : wr.cell? ⟨b, off + k * 8 + 7, none⟩ = some (.string ⟨l[k].2.2.2.2.2.2.2.toArray⟩) := (hb.cell (p := ⟨b, off + k * 8 + 7, none⟩) hblt).trans (ev_cell hc k 7 (by decide) hlt _ rfl)
        have hfx := hf _ (List.getElem_mem hlt)
        have htk : ∀ x ∈ l.take (k + 1), EvP x ∨ x = l[k] := fun x hx => by
          rw [List.take_succ_eq_append_getElem hlt] at hx
          rcases List.mem_append.1 hx with h | h
          · exact .inl (hall x h)
          · simp at h; exact .inr h
        have hno : ¬ EvP l[k] → hiV l = [] ∧ hiE l = 120 := fun h => by
          have hq : ¬ HistP l := fun q => h (q.2 _ (List.getElem_mem hlt))
          unfold hiV hiE
          rw [if_neg hq, if_neg h500, if_neg hq]
          exact ⟨rfl, rfl⟩
        obtain ⟨⟨id, kd, tk, rf, sp, ty, ud, dt⟩, hx⟩ : ∃ x, l[k] = x := ⟨_, rfl⟩
        rw [hx] at c0 c1 c2 c3 c4 c5 c6 c7 hfx hsucc htk hno
        simp only at c0 c1 c2 c3 c4 c5 c6 c7
        simp only [Ev.dt] at hfx
        clear hx
        go_wp2_with fail
        obtain ⟨W, hW⟩ : ∃ W, W = wr.alloc (.cells #[.int .i64 id, .int .i64 kd, .int .i64 tk, .int .i64 rf, .int .i64 sp, .int .i64 ty, .bool ud, .string ⟨dt.toArray⟩] 82) := ⟨_, rfl⟩
        rw [← hW]
        have bW := bnext hb (show Below wr.heap.size wr W by rw [hW]; exact (Below.refl _ _).alloc (Nat.le_refl _) _)
        clear hW c0 c1 c2 c3 c4 c5 c6 c7
        refine (eencode_any id kd tk rf sp ty ud dt hfx W).mono ?_
        rintro _ w2 ⟨rfl, b2⟩
        have hb2 := bnext bW b2
        by_cases hp : EvP (id, kd, tk, rf, sp, ty, ud, dt)
        · have hE : encEV (id, kd, tk, rf, sp, ty, ud, dt) = encE (id, kd, tk, rf, sp, ty, ud, dt) := by unfold encEV; rw [if_pos hp]
          rw [hE, ev_yes hp]
          have hel := encE_len hp
          have htl : (textL (encE (id, kd, tk, rf, sp, ty, ud, dt))).length ≤ 1510 := by
            have := putL_len10' (encE (id, kd, tk, rf, sp, ty, ud, dt)).length (by omega)
            unfold textL; rw [List.length_append]; omega
          have HS := hid hsucc
          have HN := hid (show ∀ x ∈ l.take (k + 1), EvP x from fun x hx => by
            rcases htk x hx with h | h
            · exact h
            · rw [h]; exact hp)
          clear hsucc htk hno hE hp hall
          generalize encE (id, kd, tk, rf, sp, ty, ud, dt) = L at *
          generalize encHk l k = pre at *
          go_wp2_with fail
          refine (text_any L (by omega) _).mono ?_
          rintro _ w3 ⟨rfl, b3⟩
          have hb3 := bnext hb2 b3
          have hcat := run_cat (P := Try.prog) w3 pre (textL L) (by omega)
          go_wp2_with fail
          go_roundw
          case rel => exact ⟨k + 1, by omega, by go_num, by rw [HS.out], HN.out, hb3⟩
          case measure => simp [intOf]; omega
        · have HN := hid (hno hp)
          rw [ev_no hp]
          clear hsucc htk hno hp hall
          generalize encEV (id, kd, tk, rf, sp, ty, ud, dt) = L
          go_wp2_with fail
          go_ret2
          exact ⟨by rw [HN.out.1, HN.out.2]; rfl, hb2⟩
      · obtain rfl : k = l.length := by omega
        rw [List.take_length] at hall
        have hp : HistP l := ⟨by omega, hall⟩
        have hv : hiV l = encHk l l.length := by unfold hiV encHi encHk; rw [if_pos hp, List.take_length]
        have he : hiE l = 0 := by unfold hiE; rw [if_neg h500, if_pos hp]
        have HV := hid (And.intro hv he)
        clear hv he hp hall
        go_wp2_with fail
        go_ret2
        exact ⟨by rw [HV.out.1, HV.out.2]; rfl, hb⟩
end Go.Proofs.Ytelacmchofehcaa
