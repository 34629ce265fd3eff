/- WALK of StateOnce. -/
import Derived.Test.YtckpfcocbjfcbaaSmLaw2
import Derived.Test.YtckpfcocbjfcbaaStOnceK
namespace Go.Proofs.Ytckpfcocbjfcbaa
open Go.RowKit
set_option linter.unusedVariables false
set_option linter.unusedSimpArgs false

theorem zeroBool (w : World) : (zeroValue 4).run Try.prog w = .ok (.bool false) w := by kernel_rfl
/-- what was seen -/
def SeenOk (l : List Ev) (k : Nat) (f : Ent) : Prop := ∀ a b c : Int, i64B a → i64B b → i64B c → (∀ x ∈ l.take k, onceK x ≠ some (a, b, c)) → f (L3 a b c) = Option.none
theorem seen_zero (l : List Ev) : SeenOk l 0 Ent.none := fun _ _ _ _ _ _ _ => rfl
theorem seen_skip {l : List Ev} {k : Nat} {f : Ent} (h : SeenOk l k f) (hk : k < l.length) : SeenOk l (k + 1) f := fun a b c ha hb hc hx => h a b c ha hb hc (fun x hm => hx x (by rw [List.take_succ_eq_append_getElem hk]; exact List.mem_append.2 (.inl hm)))
theorem seen_put {l : List Ev} {k : Nat} {f : Ent} (h : SeenOk l k f) (hk : k < l.length) {a b c : Int} (ha : i64B a) (hb : i64B b) (hc : i64B c) (hv : onceK l[k] = some (a, b, c)) (v : Value) : SeenOk l (k + 1) (f.put (L3 a b c) v) := fun a' b' c' ha' hb' hc' hx => by
  have hne : L3 a' b' c' ≠ L3 a b c := fun q => by
    have := L3_inj ha' hb' hc' ha hb hc q
    refine hx l[k] (by rw [List.take_succ_eq_append_getElem hk]; exact List.mem_append.2 (.inr (List.mem_singleton.2 rfl))) ?_
    rw [hv, this]
  unfold Ent.put
  rw [Maps.sameKey_ne hne]
  exact seen_skip h hk a' b' c' ha' hb' hc' hx
theorem seen_not {l : List Ev} {k : Nat} {f : Ent} (h : SeenOk l k f) (hH : Hs l) (hk : k < l.length) {a b c : Int} (ha : i64B a) (hb : i64B b) (hc : i64B c) (hv : onceK l[k] = some (a, b, c)) : (f (L3 a b c)).getD (.bool false) = .bool false := by
  rw [h a b c ha hb hc (hH.once hk hv)]; rfl
set_option maxHeartbeats 64000000 in
set_option maxRecDepth 100000 in
theorem stateOnce_w (a : Option Addr) (c : Nat) (l : List Ev) (w : World) (hs : Sl w (.slice a l.length c) 8 l.length (l.flatMap evc)) (hcap : l.length ≤ c) (hfit : FitE l) :
    Calls Try.prog 4 #[.slice a l.length c] w fun e w' => e = .returned (.bool true) ∧ Below w.heap.size w w' := by
  have hm : l.length ≤ 9223372036854775807 := hs.2.1.1
  have hmm := @run_makeMap Try.prog
  have HSI := hid hs
  go_enter Try.func4, Try.ntmps4
  go_wp2_with fail
  refine (awake_any w).mono ?_
  rintro _ w1 ⟨rfl, b1⟩
  have hs1 := hs.below b1
  go_wp2_with fail
  refine (build_any a c l w1 hs1 hfit).mono ?_
  rintro _ w2 ⟨va, ua, ca, vc, uc, cc, rfl, hst, b2⟩
  by_cases hf0 : (rbuildF l).2.2 = 0
  case neg =>
    have hq : ((rbuildF l).2.2 == 0) = false := by simpa using hf0
    have hq' : ((rbuildF l).2.2 != 0) = true := by simpa using hf0
    have HB := hid (fun (R : Array Value) => bnext (bnext b1 b2) ((Below.refl w2.heap.size w2).alloc (Nat.le_refl _) (.cells R 36)))
    clear hf0 hst hs hs1 b1 b2
    generalize (rbuildF l).2.2 = e9 at *
    generalize (rbuildF l).1 = s9 at *
    rw [show staV s9 (.slice va s9.ss.length vc) (.slice ua s9.jobs.length uc) (.slice ca s9.clocks.length cc) = .agg #[.slice va s9.ss.length vc, .int .i64 s9.lim, .int .i64 s9.status, .int .i64 s9.next, .int .i64 s9.began, .int .i64 s9.asked, .int .i64 s9.taken, .bool s9.fresh, .slice ua s9.jobs.length uc, .slice ca s9.clocks.length cc, .bool s9.cancel, .bool s9.overdue] from rfl]
    go_wp2_with fail
    go_ret
    exact ⟨rfl, HB.out _⟩
  obtain ⟨hH, hrb⟩ := rb_ok hf0
  have h500 := hH.short
  have h501 : (l.length : Int) ≤ 500 := by omega
  obtain ⟨s9, hs9⟩ : ∃ s9, s9 = stOf l := ⟨_, rfl⟩
  rw [hrb, ← hs9]
  simp only
  rw [show staV s9 (.slice va s9.ss.length vc) (.slice ua s9.jobs.length uc) (.slice ca s9.clocks.length cc) = .agg #[.slice va s9.ss.length vc, .int .i64 s9.lim, .int .i64 s9.status, .int .i64 s9.next, .int .i64 s9.began, .int .i64 s9.asked, .int .i64 s9.taken, .bool s9.fresh, .slice ua s9.jobs.length uc, .slice ca s9.clocks.length cc, .bool s9.cancel, .bool s9.overdue] from rfl]
  have b3 : Below w2.heap.size w2 ((w2.alloc (.cells #[.slice va s9.ss.length vc, .int .i64 s9.lim, .int .i64 s9.status, .int .i64 s9.next, .int .i64 s9.began, .int .i64 s9.asked, .int .i64 s9.taken, .bool s9.fresh, .slice ua s9.jobs.length uc, .slice ca s9.clocks.length cc, .bool s9.cancel, .bool s9.overdue] 36)).alloc (.map #[] 0)) := ((Below.refl _ _).alloc (Nat.le_refl _) _).alloc (by rw [World.size_alloc]; omega) _
  have hM0 := MapV.made (w2.alloc (.cells #[.slice va s9.ss.length vc, .int .i64 s9.lim, .int .i64 s9.status, .int .i64 s9.next, .int .i64 s9.began, .int .i64 s9.asked, .int .i64 s9.taken, .bool s9.fresh, .slice ua s9.jobs.length uc, .slice ca s9.clocks.length cc, .bool s9.cancel, .bool s9.overdue] 36)) Try.prog 40
  rw [World.size_alloc] at hM0
  have HM0 := hid hM0
  have b03 := hid (bnext (bnext b1 b2) b3)
  obtain ⟨Bm, hBm⟩ : ∃ B, B = w2.heap.size + 1 := ⟨_, rfl⟩
  have HBM : Hid (w.heap.size ≤ Bm) := hid (by have := (bnext b1 b2).size; omega)
  rw [← hBm] at hM0
  have HM0 := hid hM0
  have HBQ := hid hBm
  clear hf0 hst hs hs1 b1 b2 b3 hrb hs9 hM0 hBm
  go_wp2_with fail
  rw [← HBQ.out]
  go_loopw [28] (fun n0 wr => ∃ (k : Nat) (f : Ent), k ≤ l.length ∧ n0 = .int .i64 (k : Int) ∧ MapV Try.prog wr 40 Bm k f ∧ SeenOk l k f ∧ Below w.heap.size w wr) (fun n0 _ => l.length - (intOf n0).toNat)
  case atStart => exact ⟨0, Ent.none, Nat.zero_le _, rfl, HM0.out, seen_zero l, b03.out⟩
  case round =>
    obtain ⟨k, f, hk, rfl, hown, hsn, hb⟩ := hrel
    by_cases hlt : k < l.length
    case neg =>
      obtain rfl : k = l.length := by omega
      have HBF := hid hb
      clear hown hsn hb
      go_wp2_with fail
      go_ret
      exact ⟨rfl, HBF.out⟩
    have HBF15 : k + 1 < l.length → (l[k]'hlt).kd < 15 := fun q => hH.before q
    have hsr := HSI.out.below hb
    have hevp := hH.nth k _ (List.getElem?_eq_getElem hlt)
    obtain ⟨_, _, a', cap, hv, hc⟩ := hsr
    rw [Value.slice.injEq] at hv
    obtain ⟨rfl, -, rfl⟩ := hv
    obtain ⟨b, off, rfl, hblt, hc⟩ := hc.resolve_left (by omega)
    obtain ⟨L, hL⟩ : ∃ L, L = l := ⟨_, rfl⟩
    have c0 : wr.cell? ⟨b, off + k * 8, none⟩ = some (.int .i64 (l[k]).1) := ev_cell hc k 0 (by decide) hlt _ rfl
    have c1 : wr.cell? ⟨b, off + k * 8 + 1, none⟩ = some (.int .i64 (l[k]).2.1) := ev_cell hc k 1 (by decide) hlt _ rfl
    have c2 : wr.cell? ⟨b, off + k * 8 + 2, none⟩ = some (.int .i64 (l[k]).2.2.1) := ev_cell hc k 2 (by decide) hlt _ rfl
    have c3 : wr.cell? ⟨b, off + k * 8 + 3, none⟩ = some (.int .i64 (l[k]).2.2.2.1) := ev_cell hc k 3 (by decide) hlt _ rfl
    have c4 : wr.cell? ⟨b, off + k * 8 + 4, none⟩ = some (.int .i64 (l[k]).2.2.2.2.1) := ev_cell hc k 4 (by decide) hlt _ rfl
    have c5 : wr.cell? ⟨b, off + k * 8 + 5, none⟩ = some (.int .i64 (l[k]).2.2.2.2.2.1) := ev_cell hc k 5 (by decide) hlt _ rfl
    have c6 : wr.cell? ⟨b, off + k * 8 + 6, none⟩ = some (.bool (l[k]).2.2.2.2.2.2.1) := ev_cell hc k 6 (by decide) hlt _ rfl
    have c7 : wr.cell? ⟨b, off + k * 8 + 7, none⟩ = some (.string ⟨(l[k]).2.2.2.2.2.2.2.toArray⟩) := ev_cell hc k 7 (by decide) hlt _ rfl
    clear hc hL L
    obtain ⟨X, hX⟩ : ∃ X, X = l[k] := ⟨_, rfl⟩
    rw [← hX] at hevp HBF15 c0 c1 c2 c3 c4 c5 c6 c7
    have HX := hid hX
    clear hX
    obtain ⟨id, kd, tk, rf, sp, ty, ud, dt⟩ := X
    have HBF15 := hid HBF15
    have hrf := evp_rf hevp.1
    have hP := hevp.1
    obtain ⟨q1, q2, q3, q4, q5, q6, -⟩ := hP
    simp only [Ev.id, Ev.kd, Ev.rf, Ev.ty] at q1 q2 hrf q6
    have hty : 0 ≤ ty ∧ ty ≤ 5 := by split at q6 <;> omega
    have hrf1 : ¬ (id ≤ rf) := by omega
    simp only at c0 c1 c2 c3 c4 c5 c6 c7
    have hkI : (k : Int) < (l.length : Int) := by omega
    have hk5 : (k : Int) ≤ 500 := by omega
    have hkp : (0 : Int) ≤ (k : Int) := by omega
    clear hevp q3 q4 q5 q6
    by_cases hk4 : kd = 4
    · subst hk4
      have hge : ¬ ((15 : Int) ≤ 4) := by omega
      by_cases hl1 : k + 1 < l.length
      · have hl2 : (k : Int) + 1 < (l.length : Int) := by omega
        have hv : onceK l[k] = some (1, rf, 0) := by rw [← HX.out]; rfl
        have hkey := hid (key3 (a := 1) (b := rf) (c := 0) (by unfold i64B; omega) (by unfold i64B; omega) (by unfold i64B; omega))
        have hnot := hid (seen_not hsn hH hlt (a := 1) (b := rf) (c := 0) (by unfold i64B; omega) (by unfold i64B; omega) (by unfold i64B; omega) hv)
        have hput := hid (seen_put hsn hlt (a := 1) (b := rf) (c := 0) (by unfold i64B; omega) (by unfold i64B; omega) (by unfold i64B; omega) hv (.bool true))
        have hB := hid (fun (R : Array Value) (R' : Array Value) => (((Below.refl wr.heap.size wr).alloc (Nat.le_refl _) (.cells R 23)).alloc (by rw [World.size_alloc]; omega) (.cells R' 40)))
        clear hv
        go_wp2_with (first | (at_lookup; refine wpList_look _ rfl _ _ 39 rfl 40 4 keyed3 Try.underlying39 (zeroBool _) Bm k f rfl (hown.below (hB.out _ _)) _ (L3 (1) (rf) (0)) rfl hkey.out (.bool false) hnot.out ?_) | (at_mapUpdate; refine wpList_store _ rfl _ _ _ 39 rfl 40 4 keyed3 Try.underlying39 Bm k f rfl (hown.below (hB.out _ _)) (by unfold maxLen; omega) _ _ (L3 (1) (rf) (0)) rfl rfl hkey.out ?_; intro w7 hown7 hgrow7))
        have HF := hid (And.intro (And.intro hown7 hput.out) (hb.trans (((hB.out _ _).mono hb.size).grown hgrow7 (Nat.le_trans hb.size (hB.out _ _).size) (fun j hj => by cases hj; exact HBM.out))))
        go_roundw
        case rel => first
          | exact ⟨k + 1, _, by omega, by go_num, HF.out.1.1, HF.out.1.2, HF.out.2⟩
          | ((repeat apply Exists.intro); exact ⟨⟨k + 1, _, by omega, by go_num, HF.out.1.1, HF.out.1.2, HF.out.2⟩, rfl⟩)
        case measure => simp [intOf]; omega
      · have hl2 : ¬ ((k : Int) + 1 < (l.length : Int)) := by omega
        have hv : onceK l[k] = some (1, rf, 0) := by rw [← HX.out]; rfl
        have hkey := hid (key3 (a := 1) (b := rf) (c := 0) (by unfold i64B; omega) (by unfold i64B; omega) (by unfold i64B; omega))
        have hnot := hid (seen_not hsn hH hlt (a := 1) (b := rf) (c := 0) (by unfold i64B; omega) (by unfold i64B; omega) (by unfold i64B; omega) hv)
        have hput := hid (seen_put hsn hlt (a := 1) (b := rf) (c := 0) (by unfold i64B; omega) (by unfold i64B; omega) (by unfold i64B; omega) hv (.bool true))
        have hB := hid (fun (R : Array Value) (R' : Array Value) => (((Below.refl wr.heap.size wr).alloc (Nat.le_refl _) (.cells R 23)).alloc (by rw [World.size_alloc]; omega) (.cells R' 40)))
        clear hv
        go_wp2_with (first | (at_lookup; refine wpList_look _ rfl _ _ 39 rfl 40 4 keyed3 Try.underlying39 (zeroBool _) Bm k f rfl (hown.below (hB.out _ _)) _ (L3 (1) (rf) (0)) rfl hkey.out (.bool false) hnot.out ?_) | (at_mapUpdate; refine wpList_store _ rfl _ _ _ 39 rfl 40 4 keyed3 Try.underlying39 Bm k f rfl (hown.below (hB.out _ _)) (by unfold maxLen; omega) _ _ (L3 (1) (rf) (0)) rfl rfl hkey.out ?_; intro w7 hown7 hgrow7))
        have HF := hid (And.intro (And.intro hown7 hput.out) (hb.trans (((hB.out _ _).mono hb.size).grown hgrow7 (Nat.le_trans hb.size (hB.out _ _).size) (fun j hj => by cases hj; exact HBM.out))))
        go_roundw
        case rel => first
          | exact ⟨k + 1, _, by omega, by go_num, HF.out.1.1, HF.out.1.2, HF.out.2⟩
          | ((repeat apply Exists.intro); exact ⟨⟨k + 1, _, by omega, by go_num, HF.out.1.1, HF.out.1.2, HF.out.2⟩, rfl⟩)
        case measure => simp [intOf]; omega
    by_cases hk5 : kd = 5
    · subst hk5
      have hge : ¬ ((15 : Int) ≤ 5) := by omega
      by_cases hl1 : k + 1 < l.length
      · have hl2 : (k : Int) + 1 < (l.length : Int) := by omega
        have hv : onceK l[k] = some (1, rf, 0) := by rw [← HX.out]; rfl
        have hkey := hid (key3 (a := 1) (b := rf) (c := 0) (by unfold i64B; omega) (by unfold i64B; omega) (by unfold i64B; omega))
        have hnot := hid (seen_not hsn hH hlt (a := 1) (b := rf) (c := 0) (by unfold i64B; omega) (by unfold i64B; omega) (by unfold i64B; omega) hv)
        have hput := hid (seen_put hsn hlt (a := 1) (b := rf) (c := 0) (by unfold i64B; omega) (by unfold i64B; omega) (by unfold i64B; omega) hv (.bool true))
        have hB := hid (fun (R : Array Value) (R' : Array Value) => (((Below.refl wr.heap.size wr).alloc (Nat.le_refl _) (.cells R 23)).alloc (by rw [World.size_alloc]; omega) (.cells R' 40)))
        clear hv
        go_wp2_with (first | (at_lookup; refine wpList_look _ rfl _ _ 39 rfl 40 4 keyed3 Try.underlying39 (zeroBool _) Bm k f rfl (hown.below (hB.out _ _)) _ (L3 (1) (rf) (0)) rfl hkey.out (.bool false) hnot.out ?_) | (at_mapUpdate; refine wpList_store _ rfl _ _ _ 39 rfl 40 4 keyed3 Try.underlying39 Bm k f rfl (hown.below (hB.out _ _)) (by unfold maxLen; omega) _ _ (L3 (1) (rf) (0)) rfl rfl hkey.out ?_; intro w7 hown7 hgrow7))
        have HF := hid (And.intro (And.intro hown7 hput.out) (hb.trans (((hB.out _ _).mono hb.size).grown hgrow7 (Nat.le_trans hb.size (hB.out _ _).size) (fun j hj => by cases hj; exact HBM.out))))
        go_roundw
        case rel => first
          | exact ⟨k + 1, _, by omega, by go_num, HF.out.1.1, HF.out.1.2, HF.out.2⟩
          | ((repeat apply Exists.intro); exact ⟨⟨k + 1, _, by omega, by go_num, HF.out.1.1, HF.out.1.2, HF.out.2⟩, rfl⟩)
        case measure => simp [intOf]; omega
      · have hl2 : ¬ ((k : Int) + 1 < (l.length : Int)) := by omega
        have hv : onceK l[k] = some (1, rf, 0) := by rw [← HX.out]; rfl
        have hkey := hid (key3 (a := 1) (b := rf) (c := 0) (by unfold i64B; omega) (by unfold i64B; omega) (by unfold i64B; omega))
        have hnot := hid (seen_not hsn hH hlt (a := 1) (b := rf) (c := 0) (by unfold i64B; omega) (by unfold i64B; omega) (by unfold i64B; omega) hv)
        have hput := hid (seen_put hsn hlt (a := 1) (b := rf) (c := 0) (by unfold i64B; omega) (by unfold i64B; omega) (by unfold i64B; omega) hv (.bool true))
        have hB := hid (fun (R : Array Value) (R' : Array Value) => (((Below.refl wr.heap.size wr).alloc (Nat.le_refl _) (.cells R 23)).alloc (by rw [World.size_alloc]; omega) (.cells R' 40)))
        clear hv
        go_wp2_with (first | (at_lookup; refine wpList_look _ rfl _ _ 39 rfl 40 4 keyed3 Try.underlying39 (zeroBool _) Bm k f rfl (hown.below (hB.out _ _)) _ (L3 (1) (rf) (0)) rfl hkey.out (.bool false) hnot.out ?_) | (at_mapUpdate; refine wpList_store _ rfl _ _ _ 39 rfl 40 4 keyed3 Try.underlying39 Bm k f rfl (hown.below (hB.out _ _)) (by unfold maxLen; omega) _ _ (L3 (1) (rf) (0)) rfl rfl hkey.out ?_; intro w7 hown7 hgrow7))
        have HF := hid (And.intro (And.intro hown7 hput.out) (hb.trans (((hB.out _ _).mono hb.size).grown hgrow7 (Nat.le_trans hb.size (hB.out _ _).size) (fun j hj => by cases hj; exact HBM.out))))
        go_roundw
        case rel => first
          | exact ⟨k + 1, _, by omega, by go_num, HF.out.1.1, HF.out.1.2, HF.out.2⟩
          | ((repeat apply Exists.intro); exact ⟨⟨k + 1, _, by omega, by go_num, HF.out.1.1, HF.out.1.2, HF.out.2⟩, rfl⟩)
        case measure => simp [intOf]; omega
    by_cases hk7 : kd = 7
    · subst hk7
      have hge : ¬ ((15 : Int) ≤ 7) := by omega
      by_cases hl1 : k + 1 < l.length
      · have hl2 : (k : Int) + 1 < (l.length : Int) := by omega
        have hv : onceK l[k] = some (2, rf, ty) := by rw [← HX.out]; rfl
        have hkey := hid (key3 (a := 2) (b := rf) (c := ty) (by unfold i64B; omega) (by unfold i64B; omega) (by unfold i64B; omega))
        have hnot := hid (seen_not hsn hH hlt (a := 2) (b := rf) (c := ty) (by unfold i64B; omega) (by unfold i64B; omega) (by unfold i64B; omega) hv)
        have hput := hid (seen_put hsn hlt (a := 2) (b := rf) (c := ty) (by unfold i64B; omega) (by unfold i64B; omega) (by unfold i64B; omega) hv (.bool true))
        have hB := hid (fun (R : Array Value) (R' : Array Value) => (((Below.refl wr.heap.size wr).alloc (Nat.le_refl _) (.cells R 23)).alloc (by rw [World.size_alloc]; omega) (.cells R' 40)))
        clear hv
        go_wp2_with (first | (at_lookup; refine wpList_look _ rfl _ _ 39 rfl 40 4 keyed3 Try.underlying39 (zeroBool _) Bm k f rfl (hown.below (hB.out _ _)) _ (L3 (2) (rf) (ty)) rfl hkey.out (.bool false) hnot.out ?_) | (at_mapUpdate; refine wpList_store _ rfl _ _ _ 39 rfl 40 4 keyed3 Try.underlying39 Bm k f rfl (hown.below (hB.out _ _)) (by unfold maxLen; omega) _ _ (L3 (2) (rf) (ty)) rfl rfl hkey.out ?_; intro w7 hown7 hgrow7))
        have HF := hid (And.intro (And.intro hown7 hput.out) (hb.trans (((hB.out _ _).mono hb.size).grown hgrow7 (Nat.le_trans hb.size (hB.out _ _).size) (fun j hj => by cases hj; exact HBM.out))))
        go_roundw
        case rel => first
          | exact ⟨k + 1, _, by omega, by go_num, HF.out.1.1, HF.out.1.2, HF.out.2⟩
          | ((repeat apply Exists.intro); exact ⟨⟨k + 1, _, by omega, by go_num, HF.out.1.1, HF.out.1.2, HF.out.2⟩, rfl⟩)
        case measure => simp [intOf]; omega
      · have hl2 : ¬ ((k : Int) + 1 < (l.length : Int)) := by omega
        have hv : onceK l[k] = some (2, rf, ty) := by rw [← HX.out]; rfl
        have hkey := hid (key3 (a := 2) (b := rf) (c := ty) (by unfold i64B; omega) (by unfold i64B; omega) (by unfold i64B; omega))
        have hnot := hid (seen_not hsn hH hlt (a := 2) (b := rf) (c := ty) (by unfold i64B; omega) (by unfold i64B; omega) (by unfold i64B; omega) hv)
        have hput := hid (seen_put hsn hlt (a := 2) (b := rf) (c := ty) (by unfold i64B; omega) (by unfold i64B; omega) (by unfold i64B; omega) hv (.bool true))
        have hB := hid (fun (R : Array Value) (R' : Array Value) => (((Below.refl wr.heap.size wr).alloc (Nat.le_refl _) (.cells R 23)).alloc (by rw [World.size_alloc]; omega) (.cells R' 40)))
        clear hv
        go_wp2_with (first | (at_lookup; refine wpList_look _ rfl _ _ 39 rfl 40 4 keyed3 Try.underlying39 (zeroBool _) Bm k f rfl (hown.below (hB.out _ _)) _ (L3 (2) (rf) (ty)) rfl hkey.out (.bool false) hnot.out ?_) | (at_mapUpdate; refine wpList_store _ rfl _ _ _ 39 rfl 40 4 keyed3 Try.underlying39 Bm k f rfl (hown.below (hB.out _ _)) (by unfold maxLen; omega) _ _ (L3 (2) (rf) (ty)) rfl rfl hkey.out ?_; intro w7 hown7 hgrow7))
        have HF := hid (And.intro (And.intro hown7 hput.out) (hb.trans (((hB.out _ _).mono hb.size).grown hgrow7 (Nat.le_trans hb.size (hB.out _ _).size) (fun j hj => by cases hj; exact HBM.out))))
        go_roundw
        case rel => first
          | exact ⟨k + 1, _, by omega, by go_num, HF.out.1.1, HF.out.1.2, HF.out.2⟩
          | ((repeat apply Exists.intro); exact ⟨⟨k + 1, _, by omega, by go_num, HF.out.1.1, HF.out.1.2, HF.out.2⟩, rfl⟩)
        case measure => simp [intOf]; omega
    by_cases hk8 : kd = 8
    · subst hk8
      have hge : ¬ ((15 : Int) ≤ 8) := by omega
      by_cases hl1 : k + 1 < l.length
      · have hl2 : (k : Int) + 1 < (l.length : Int) := by omega
        have hv : onceK l[k] = some (2, rf, ty) := by rw [← HX.out]; rfl
        have hkey := hid (key3 (a := 2) (b := rf) (c := ty) (by unfold i64B; omega) (by unfold i64B; omega) (by unfold i64B; omega))
        have hnot := hid (seen_not hsn hH hlt (a := 2) (b := rf) (c := ty) (by unfold i64B; omega) (by unfold i64B; omega) (by unfold i64B; omega) hv)
        have hput := hid (seen_put hsn hlt (a := 2) (b := rf) (c := ty) (by unfold i64B; omega) (by unfold i64B; omega) (by unfold i64B; omega) hv (.bool true))
        have hB := hid (fun (R : Array Value) (R' : Array Value) => (((Below.refl wr.heap.size wr).alloc (Nat.le_refl _) (.cells R 23)).alloc (by rw [World.size_alloc]; omega) (.cells R' 40)))
        clear hv
        go_wp2_with (first | (at_lookup; refine wpList_look _ rfl _ _ 39 rfl 40 4 keyed3 Try.underlying39 (zeroBool _) Bm k f rfl (hown.below (hB.out _ _)) _ (L3 (2) (rf) (ty)) rfl hkey.out (.bool false) hnot.out ?_) | (at_mapUpdate; refine wpList_store _ rfl _ _ _ 39 rfl 40 4 keyed3 Try.underlying39 Bm k f rfl (hown.below (hB.out _ _)) (by unfold maxLen; omega) _ _ (L3 (2) (rf) (ty)) rfl rfl hkey.out ?_; intro w7 hown7 hgrow7))
        have HF := hid (And.intro (And.intro hown7 hput.out) (hb.trans (((hB.out _ _).mono hb.size).grown hgrow7 (Nat.le_trans hb.size (hB.out _ _).size) (fun j hj => by cases hj; exact HBM.out))))
        go_roundw
        case rel => first
          | exact ⟨k + 1, _, by omega, by go_num, HF.out.1.1, HF.out.1.2, HF.out.2⟩
          | ((repeat apply Exists.intro); exact ⟨⟨k + 1, _, by omega, by go_num, HF.out.1.1, HF.out.1.2, HF.out.2⟩, rfl⟩)
        case measure => simp [intOf]; omega
      · have hl2 : ¬ ((k : Int) + 1 < (l.length : Int)) := by omega
        have hv : onceK l[k] = some (2, rf, ty) := by rw [← HX.out]; rfl
        have hkey := hid (key3 (a := 2) (b := rf) (c := ty) (by unfold i64B; omega) (by unfold i64B; omega) (by unfold i64B; omega))
        have hnot := hid (seen_not hsn hH hlt (a := 2) (b := rf) (c := ty) (by unfold i64B; omega) (by unfold i64B; omega) (by unfold i64B; omega) hv)
        have hput := hid (seen_put hsn hlt (a := 2) (b := rf) (c := ty) (by unfold i64B; omega) (by unfold i64B; omega) (by unfold i64B; omega) hv (.bool true))
        have hB := hid (fun (R : Array Value) (R' : Array Value) => (((Below.refl wr.heap.size wr).alloc (Nat.le_refl _) (.cells R 23)).alloc (by rw [World.size_alloc]; omega) (.cells R' 40)))
        clear hv
        go_wp2_with (first | (at_lookup; refine wpList_look _ rfl _ _ 39 rfl 40 4 keyed3 Try.underlying39 (zeroBool _) Bm k f rfl (hown.below (hB.out _ _)) _ (L3 (2) (rf) (ty)) rfl hkey.out (.bool false) hnot.out ?_) | (at_mapUpdate; refine wpList_store _ rfl _ _ _ 39 rfl 40 4 keyed3 Try.underlying39 Bm k f rfl (hown.below (hB.out _ _)) (by unfold maxLen; omega) _ _ (L3 (2) (rf) (ty)) rfl rfl hkey.out ?_; intro w7 hown7 hgrow7))
        have HF := hid (And.intro (And.intro hown7 hput.out) (hb.trans (((hB.out _ _).mono hb.size).grown hgrow7 (Nat.le_trans hb.size (hB.out _ _).size) (fun j hj => by cases hj; exact HBM.out))))
        go_roundw
        case rel => first
          | exact ⟨k + 1, _, by omega, by go_num, HF.out.1.1, HF.out.1.2, HF.out.2⟩
          | ((repeat apply Exists.intro); exact ⟨⟨k + 1, _, by omega, by go_num, HF.out.1.1, HF.out.1.2, HF.out.2⟩, rfl⟩)
        case measure => simp [intOf]; omega
    by_cases hk9 : kd = 9
    · subst hk9
      have hge : ¬ ((15 : Int) ≤ 9) := by omega
      by_cases hl1 : k + 1 < l.length
      · have hl2 : (k : Int) + 1 < (l.length : Int) := by omega
        have hv : onceK l[k] = some (2, rf, ty) := by rw [← HX.out]; rfl
        have hkey := hid (key3 (a := 2) (b := rf) (c := ty) (by unfold i64B; omega) (by unfold i64B; omega) (by unfold i64B; omega))
        have hnot := hid (seen_not hsn hH hlt (a := 2) (b := rf) (c := ty) (by unfold i64B; omega) (by unfold i64B; omega) (by unfold i64B; omega) hv)
        have hput := hid (seen_put hsn hlt (a := 2) (b := rf) (c := ty) (by unfold i64B; omega) (by unfold i64B; omega) (by unfold i64B; omega) hv (.bool true))
        have hB := hid (fun (R : Array Value) (R' : Array Value) => (((Below.refl wr.heap.size wr).alloc (Nat.le_refl _) (.cells R 23)).alloc (by rw [World.size_alloc]; omega) (.cells R' 40)))
        clear hv
        go_wp2_with (first | (at_lookup; refine wpList_look _ rfl _ _ 39 rfl 40 4 keyed3 Try.underlying39 (zeroBool _) Bm k f rfl (hown.below (hB.out _ _)) _ (L3 (2) (rf) (ty)) rfl hkey.out (.bool false) hnot.out ?_) | (at_mapUpdate; refine wpList_store _ rfl _ _ _ 39 rfl 40 4 keyed3 Try.underlying39 Bm k f rfl (hown.below (hB.out _ _)) (by unfold maxLen; omega) _ _ (L3 (2) (rf) (ty)) rfl rfl hkey.out ?_; intro w7 hown7 hgrow7))
        have HF := hid (And.intro (And.intro hown7 hput.out) (hb.trans (((hB.out _ _).mono hb.size).grown hgrow7 (Nat.le_trans hb.size (hB.out _ _).size) (fun j hj => by cases hj; exact HBM.out))))
        go_roundw
        case rel => first
          | exact ⟨k + 1, _, by omega, by go_num, HF.out.1.1, HF.out.1.2, HF.out.2⟩
          | ((repeat apply Exists.intro); exact ⟨⟨k + 1, _, by omega, by go_num, HF.out.1.1, HF.out.1.2, HF.out.2⟩, rfl⟩)
        case measure => simp [intOf]; omega
      · have hl2 : ¬ ((k : Int) + 1 < (l.length : Int)) := by omega
        have hv : onceK l[k] = some (2, rf, ty) := by rw [← HX.out]; rfl
        have hkey := hid (key3 (a := 2) (b := rf) (c := ty) (by unfold i64B; omega) (by unfold i64B; omega) (by unfold i64B; omega))
        have hnot := hid (seen_not hsn hH hlt (a := 2) (b := rf) (c := ty) (by unfold i64B; omega) (by unfold i64B; omega) (by unfold i64B; omega) hv)
        have hput := hid (seen_put hsn hlt (a := 2) (b := rf) (c := ty) (by unfold i64B; omega) (by unfold i64B; omega) (by unfold i64B; omega) hv (.bool true))
        have hB := hid (fun (R : Array Value) (R' : Array Value) => (((Below.refl wr.heap.size wr).alloc (Nat.le_refl _) (.cells R 23)).alloc (by rw [World.size_alloc]; omega) (.cells R' 40)))
        clear hv
        go_wp2_with (first | (at_lookup; refine wpList_look _ rfl _ _ 39 rfl 40 4 keyed3 Try.underlying39 (zeroBool _) Bm k f rfl (hown.below (hB.out _ _)) _ (L3 (2) (rf) (ty)) rfl hkey.out (.bool false) hnot.out ?_) | (at_mapUpdate; refine wpList_store _ rfl _ _ _ 39 rfl 40 4 keyed3 Try.underlying39 Bm k f rfl (hown.below (hB.out _ _)) (by unfold maxLen; omega) _ _ (L3 (2) (rf) (ty)) rfl rfl hkey.out ?_; intro w7 hown7 hgrow7))
        have HF := hid (And.intro (And.intro hown7 hput.out) (hb.trans (((hB.out _ _).mono hb.size).grown hgrow7 (Nat.le_trans hb.size (hB.out _ _).size) (fun j hj => by cases hj; exact HBM.out))))
        go_roundw
        case rel => first
          | exact ⟨k + 1, _, by omega, by go_num, HF.out.1.1, HF.out.1.2, HF.out.2⟩
          | ((repeat apply Exists.intro); exact ⟨⟨k + 1, _, by omega, by go_num, HF.out.1.1, HF.out.1.2, HF.out.2⟩, rfl⟩)
        case measure => simp [intOf]; omega
    by_cases hk11 : kd = 11
    · subst hk11
      have hge : ¬ ((15 : Int) ≤ 11) := by omega
      by_cases hl1 : k + 1 < l.length
      · have hl2 : (k : Int) + 1 < (l.length : Int) := by omega
        have hv : onceK l[k] = some (21, rf, 0) := by rw [← HX.out]; rfl
        have hkey := hid (key3 (a := 21) (b := rf) (c := 0) (by unfold i64B; omega) (by unfold i64B; omega) (by unfold i64B; omega))
        have hnot := hid (seen_not hsn hH hlt (a := 21) (b := rf) (c := 0) (by unfold i64B; omega) (by unfold i64B; omega) (by unfold i64B; omega) hv)
        have hput := hid (seen_put hsn hlt (a := 21) (b := rf) (c := 0) (by unfold i64B; omega) (by unfold i64B; omega) (by unfold i64B; omega) hv (.bool true))
        have hB := hid (fun (R : Array Value) (R' : Array Value) => (((Below.refl wr.heap.size wr).alloc (Nat.le_refl _) (.cells R 23)).alloc (by rw [World.size_alloc]; omega) (.cells R' 40)))
        clear hv
        go_wp2_with (first | (at_lookup; refine wpList_look _ rfl _ _ 39 rfl 40 4 keyed3 Try.underlying39 (zeroBool _) Bm k f rfl (hown.below (hB.out _ _)) _ (L3 (21) (rf) (0)) rfl hkey.out (.bool false) hnot.out ?_) | (at_mapUpdate; refine wpList_store _ rfl _ _ _ 39 rfl 40 4 keyed3 Try.underlying39 Bm k f rfl (hown.below (hB.out _ _)) (by unfold maxLen; omega) _ _ (L3 (21) (rf) (0)) rfl rfl hkey.out ?_; intro w7 hown7 hgrow7))
        have HF := hid (And.intro (And.intro hown7 hput.out) (hb.trans (((hB.out _ _).mono hb.size).grown hgrow7 (Nat.le_trans hb.size (hB.out _ _).size) (fun j hj => by cases hj; exact HBM.out))))
        go_roundw
        case rel => first
          | exact ⟨k + 1, _, by omega, by go_num, HF.out.1.1, HF.out.1.2, HF.out.2⟩
          | ((repeat apply Exists.intro); exact ⟨⟨k + 1, _, by omega, by go_num, HF.out.1.1, HF.out.1.2, HF.out.2⟩, rfl⟩)
        case measure => simp [intOf]; omega
      · have hl2 : ¬ ((k : Int) + 1 < (l.length : Int)) := by omega
        have hv : onceK l[k] = some (21, rf, 0) := by rw [← HX.out]; rfl
        have hkey := hid (key3 (a := 21) (b := rf) (c := 0) (by unfold i64B; omega) (by unfold i64B; omega) (by unfold i64B; omega))
        have hnot := hid (seen_not hsn hH hlt (a := 21) (b := rf) (c := 0) (by unfold i64B; omega) (by unfold i64B; omega) (by unfold i64B; omega) hv)
        have hput := hid (seen_put hsn hlt (a := 21) (b := rf) (c := 0) (by unfold i64B; omega) (by unfold i64B; omega) (by unfold i64B; omega) hv (.bool true))
        have hB := hid (fun (R : Array Value) (R' : Array Value) => (((Below.refl wr.heap.size wr).alloc (Nat.le_refl _) (.cells R 23)).alloc (by rw [World.size_alloc]; omega) (.cells R' 40)))
        clear hv
        go_wp2_with (first | (at_lookup; refine wpList_look _ rfl _ _ 39 rfl 40 4 keyed3 Try.underlying39 (zeroBool _) Bm k f rfl (hown.below (hB.out _ _)) _ (L3 (21) (rf) (0)) rfl hkey.out (.bool false) hnot.out ?_) | (at_mapUpdate; refine wpList_store _ rfl _ _ _ 39 rfl 40 4 keyed3 Try.underlying39 Bm k f rfl (hown.below (hB.out _ _)) (by unfold maxLen; omega) _ _ (L3 (21) (rf) (0)) rfl rfl hkey.out ?_; intro w7 hown7 hgrow7))
        have HF := hid (And.intro (And.intro hown7 hput.out) (hb.trans (((hB.out _ _).mono hb.size).grown hgrow7 (Nat.le_trans hb.size (hB.out _ _).size) (fun j hj => by cases hj; exact HBM.out))))
        go_roundw
        case rel => first
          | exact ⟨k + 1, _, by omega, by go_num, HF.out.1.1, HF.out.1.2, HF.out.2⟩
          | ((repeat apply Exists.intro); exact ⟨⟨k + 1, _, by omega, by go_num, HF.out.1.1, HF.out.1.2, HF.out.2⟩, rfl⟩)
        case measure => simp [intOf]; omega
    by_cases hk3 : kd = 3
    · subst hk3
      have hge : ¬ ((15 : Int) ≤ 3) := by omega
      by_cases hl1 : k + 1 < l.length
      · have hl2 : (k : Int) + 1 < (l.length : Int) := by omega
        have hv : onceK l[k] = some (13, rf, 0) := by rw [← HX.out]; rfl
        have hkey := hid (key3 (a := 13) (b := rf) (c := 0) (by unfold i64B; omega) (by unfold i64B; omega) (by unfold i64B; omega))
        have hnot := hid (seen_not hsn hH hlt (a := 13) (b := rf) (c := 0) (by unfold i64B; omega) (by unfold i64B; omega) (by unfold i64B; omega) hv)
        have hput := hid (seen_put hsn hlt (a := 13) (b := rf) (c := 0) (by unfold i64B; omega) (by unfold i64B; omega) (by unfold i64B; omega) hv (.bool true))
        have hB := hid (fun (R : Array Value) (R' : Array Value) => (((Below.refl wr.heap.size wr).alloc (Nat.le_refl _) (.cells R 23)).alloc (by rw [World.size_alloc]; omega) (.cells R' 40)))
        clear hv
        go_wp2_with (first | (at_lookup; refine wpList_look _ rfl _ _ 39 rfl 40 4 keyed3 Try.underlying39 (zeroBool _) Bm k f rfl (hown.below (hB.out _ _)) _ (L3 (13) (rf) (0)) rfl hkey.out (.bool false) hnot.out ?_) | (at_mapUpdate; refine wpList_store _ rfl _ _ _ 39 rfl 40 4 keyed3 Try.underlying39 Bm k f rfl (hown.below (hB.out _ _)) (by unfold maxLen; omega) _ _ (L3 (13) (rf) (0)) rfl rfl hkey.out ?_; intro w7 hown7 hgrow7))
        have HF := hid (And.intro (And.intro hown7 hput.out) (hb.trans (((hB.out _ _).mono hb.size).grown hgrow7 (Nat.le_trans hb.size (hB.out _ _).size) (fun j hj => by cases hj; exact HBM.out))))
        go_roundw
        case rel => first
          | exact ⟨k + 1, _, by omega, by go_num, HF.out.1.1, HF.out.1.2, HF.out.2⟩
          | ((repeat apply Exists.intro); exact ⟨⟨k + 1, _, by omega, by go_num, HF.out.1.1, HF.out.1.2, HF.out.2⟩, rfl⟩)
        case measure => simp [intOf]; omega
      · have hl2 : ¬ ((k : Int) + 1 < (l.length : Int)) := by omega
        have hv : onceK l[k] = some (13, rf, 0) := by rw [← HX.out]; rfl
        have hkey := hid (key3 (a := 13) (b := rf) (c := 0) (by unfold i64B; omega) (by unfold i64B; omega) (by unfold i64B; omega))
        have hnot := hid (seen_not hsn hH hlt (a := 13) (b := rf) (c := 0) (by unfold i64B; omega) (by unfold i64B; omega) (by unfold i64B; omega) hv)
        have hput := hid (seen_put hsn hlt (a := 13) (b := rf) (c := 0) (by unfold i64B; omega) (by unfold i64B; omega) (by unfold i64B; omega) hv (.bool true))
        have hB := hid (fun (R : Array Value) (R' : Array Value) => (((Below.refl wr.heap.size wr).alloc (Nat.le_refl _) (.cells R 23)).alloc (by rw [World.size_alloc]; omega) (.cells R' 40)))
        clear hv
        go_wp2_with (first | (at_lookup; refine wpList_look _ rfl _ _ 39 rfl 40 4 keyed3 Try.underlying39 (zeroBool _) Bm k f rfl (hown.below (hB.out _ _)) _ (L3 (13) (rf) (0)) rfl hkey.out (.bool false) hnot.out ?_) | (at_mapUpdate; refine wpList_store _ rfl _ _ _ 39 rfl 40 4 keyed3 Try.underlying39 Bm k f rfl (hown.below (hB.out _ _)) (by unfold maxLen; omega) _ _ (L3 (13) (rf) (0)) rfl rfl hkey.out ?_; intro w7 hown7 hgrow7))
        have HF := hid (And.intro (And.intro hown7 hput.out) (hb.trans (((hB.out _ _).mono hb.size).grown hgrow7 (Nat.le_trans hb.size (hB.out _ _).size) (fun j hj => by cases hj; exact HBM.out))))
        go_roundw
        case rel => first
          | exact ⟨k + 1, _, by omega, by go_num, HF.out.1.1, HF.out.1.2, HF.out.2⟩
          | ((repeat apply Exists.intro); exact ⟨⟨k + 1, _, by omega, by go_num, HF.out.1.1, HF.out.1.2, HF.out.2⟩, rfl⟩)
        case measure => simp [intOf]; omega
    have e4 : (kd == 4) = false := by simpa using hk4
    have e5 : (kd == 5) = false := by simpa using hk5
    have e7 : (kd == 7) = false := by simpa using hk7
    have e8 : (kd == 8) = false := by simpa using hk8
    have e9 : (kd == 9) = false := by simpa using hk9
    have e11 : (kd == 11) = false := by simpa using hk11
    have e3 : (kd == 3) = false := by simpa using hk3
    by_cases hl1 : k + 1 < l.length
    · have hl2 : (k : Int) + 1 < (l.length : Int) := by omega
      have hge : ¬ ((15 : Int) ≤ kd) := by exact Int.not_le.2 (HBF15.out hl1)
      have HF := hid (hb.trans (((Below.refl wr.heap.size wr).alloc (Nat.le_refl _) (.cells #[.int .i64 id, .int .i64 kd, .int .i64 tk, .int .i64 rf, .int .i64 sp, .int .i64 ty, .bool ud, .string ⟨dt.toArray⟩] 23)).alloc (by rw [World.size_alloc]; omega) (.cells #[.int .i64 0, .int .i64 0, .int .i64 0] 40) |>.mono hb.size))
      have hM := hid ((hown.below (((Below.refl wr.heap.size wr).alloc (Nat.le_refl _) (.cells #[.int .i64 id, .int .i64 kd, .int .i64 tk, .int .i64 rf, .int .i64 sp, .int .i64 ty, .bool ud, .string ⟨dt.toArray⟩] 23)).alloc (by rw [World.size_alloc]; omega) (.cells #[.int .i64 0, .int .i64 0, .int .i64 0] 40))).mono (Nat.le_succ k))
      have hsk := hid (seen_skip hsn hlt)
      go_wp2_with fail
      go_roundw
      case rel => first
        | exact ⟨k + 1, f, by omega, by go_num, hM.out, hsk.out, HF.out⟩
        | ((repeat apply Exists.intro); exact ⟨⟨k + 1, f, by omega, by go_num, hM.out, hsk.out, HF.out⟩, rfl⟩)
      case measure => simp [intOf]; omega
    · have hl2 : ¬ ((k : Int) + 1 < (l.length : Int)) := by omega
      have HF := hid (hb.trans (((Below.refl wr.heap.size wr).alloc (Nat.le_refl _) (.cells #[.int .i64 id, .int .i64 kd, .int .i64 tk, .int .i64 rf, .int .i64 sp, .int .i64 ty, .bool ud, .string ⟨dt.toArray⟩] 23)).alloc (by rw [World.size_alloc]; omega) (.cells #[.int .i64 0, .int .i64 0, .int .i64 0] 40) |>.mono hb.size))
      have hM := hid ((hown.below (((Below.refl wr.heap.size wr).alloc (Nat.le_refl _) (.cells #[.int .i64 id, .int .i64 kd, .int .i64 tk, .int .i64 rf, .int .i64 sp, .int .i64 ty, .bool ud, .string ⟨dt.toArray⟩] 23)).alloc (by rw [World.size_alloc]; omega) (.cells #[.int .i64 0, .int .i64 0, .int .i64 0] 40))).mono (Nat.le_succ k))
      have hsk := hid (seen_skip hsn hlt)
      go_wp2_with fail
      go_roundw
      case rel => first
        | exact ⟨k + 1, f, by omega, by go_num, hM.out, hsk.out, HF.out⟩
        | ((repeat apply Exists.intro); exact ⟨⟨k + 1, f, by omega, by go_num, hM.out, hsk.out, HF.out⟩, rfl⟩)
      case measure => simp [intOf]; omega
theorem stateOnce_v (v : Value) (a : Option Addr) (c : Nat) (l : List Ev) (w : World) (hv : v = .slice a l.length c) (hs : Sl w v 8 l.length (l.flatMap evc)) (hcap : l.length ≤ c) (hfit : FitE l) : Calls Try.prog 4 #[v] w fun e w' => e = .returned (.bool true) ∧ Below w.heap.size w w' := by
  subst hv
  exact stateOnce_w a c l w hs hcap hfit
end Go.Proofs.Ytckpfcocbjfcbaa
