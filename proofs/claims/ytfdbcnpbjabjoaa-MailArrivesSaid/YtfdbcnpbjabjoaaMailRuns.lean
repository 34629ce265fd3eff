/- THE WALK of MailRuns. -/
import Derived.Test.YtfdbcnpbjabjoaaMailNone
import Derived.Test.YtfdbcnpbjabjoaaMailRefNo
import Derived.Test.YtfdbcnpbjabjoaaMailCalls
import Derived.Deep.RegionHeld3
import Derived.Deep.QuietTactic
import Derived.BigQuiet
namespace Go.Proofs.Ytfdbcnpbjabjoaa
open Go.RowKit
set_option linter.unusedVariables false

theorem Net.of_below {w w' : World} {B g : Nat} {L : List Letter} {nx : Int} (h : Net w B g L nx) (b : Below w.heap.size w w') : Net w' B g L nx := by
  obtain ⟨lv, ho, hr, hB⟩ := h
  exact ⟨lv, ho.keep b, (KeepT.of_below (B := B) (S := []) b).own hr (by simp), hB⟩
theorem RNet.of_below {w w' : World} {B g : Nat} {L : List Letter} {nx : Int} (h : RNet w B g L nx) (b : Below w.heap.size w w') : RNet w' B g L nx := by
  obtain ⟨lv, ho, hr, hB⟩ := h
  exact ⟨lv, ho.keep b, (KeepT.of_below (B := B) (S := []) b).own hr (by simp), hB⟩
theorem wrong_ok {L : List Letter} {i : Int} (h : wrongB L i = false) : ∃ j : Nat, i = j ∧ j < L.length := by
  unfold wrongB at h
  rw [Bool.or_eq_false_iff] at h
  have h1 := of_decide_eq_false h.1
  have h2 := of_decide_eq_false h.2
  exact ⟨i.toNat, by omega, by omega⟩
theorem KeepT.cellAt {B : Nat} {S : List TypeId} {w w' : World} (h : KeepT B S w w') {g j : Nat} {c : Array Value} {t : TypeId} (hg : w.heap[g]? = some (.cells c t (0, 0))) (ht : t ∉ S) {u : Value} (hu : c[j]? = some u) : w'.cell? ⟨g, j, none⟩ = some u := by
  rw [cell_of_row w' g j c t (0, 0) (h.at hg ht), hu]
theorem below_at {B : Nat} {w w' : World} (h : Below B w w') {g : Nat} {o : Obj} (hg : w.heap[g]? = some o) (hl : g < B) : w'.heap[g]? = some o := (h.block g hl).trans hg
theorem take_len (L : List Letter) (j : Nat) : (L.take j ++ L.drop (j + 1)).length ≤ L.length := by
  rw [List.length_append, List.length_take, List.length_drop]; omega

set_option maxHeartbeats 16000000 in
set_option maxRecDepth 100000 in
theorem mailRuns_walk (v0 : Value) (qs : List MCall) (w : World) (h1 : Sl w v0 4 qs.length (qs.flatMap callC)) (hq : ∀ a ∈ qs, I64 a.1 ∧ I64 a.2.1) :
    Calls Try.prog 3 #[v0] w fun e w' => e = .returned (.bool true) ∧ Below w.heap.size w w' := by
  have HQ := hid hq
  obtain ⟨_, _, a1, cap1, rfl, c1⟩ := h1
  have C1 := hid c1
  clear c1 hq
  go_enter Try.func3, Try.ntmps3
  go_wp2_with fail
  refine (awake_any w).mono ?_
  rintro _ w1 ⟨rfl, b1⟩
  go_wp2_with fail
  refine (new_any w1).mono ?_
  rintro _ w2 ⟨rfl, n2, b2⟩
  have s2 := b2.size
  have l2 := n2.elim fun _ h => h.1.lt
  go_wp2_with fail
  have hb3 : Below w1.heap.size w1 (w2.alloc (.cells #[.slice none 0 0, .int .i64 0] 29)) := b2.alloc b2.size _
  have hn3 : Net (w2.alloc (.cells #[.slice none 0 0, .int .i64 0] 29)) w1.heap.size w1.heap.size [] (0 + 1) := n2.of_below ((Below.refl _ _).alloc (Nat.le_refl _) _)
  have hm3 : RNet (w2.alloc (.cells #[.slice none 0 0, .int .i64 0] 29)) w1.heap.size w2.heap.size [] 0 := ⟨_, Obj2.new _ _ _ _, World.ownsRow_nil _ _ _ _, s2⟩
  have hne : w1.heap.size ≠ w2.heap.size := by omega
  clear n2 b2
  obtain ⟨g1, hg1⟩ : ∃ g1, g1 = w1.heap.size := ⟨_, rfl⟩
  obtain ⟨g2, hg2⟩ : ∃ g2, g2 = w2.heap.size := ⟨_, rfl⟩
  obtain ⟨w3, hw3⟩ : ∃ w3, w3 = w2.alloc (.cells #[.slice none 0 0, .int .i64 0] 29) := ⟨_, rfl⟩
  rw [← hw3] at hb3 hn3 hm3 ⊢
  rw [← hg1, ← hg2] at hne ⊢
  have hn3 : Net w3 g1 g1 [] (0 + 1) := by rw [hg1]; exact hn3
  have hm3 : RNet w3 g1 g2 [] 0 := by rw [hg1, hg2]; exact hm3
  have hbb : ∀ w9, Below w1.heap.size w1 w9 → Below w.heap.size w w9 := fun w9 h => bnext b1 h
  have hbk : ∀ w8 w9 S, Below w1.heap.size w1 w8 → KeepT g1 S w8 w9 → Below w1.heap.size w1 w9 := fun w8 w9 S h k => (hg1 ▸ k).below h h.size
  have hg1' : w1.heap.size = g1 := hg1.symm
  clear hw3 hg1 hg2 s2 l2
  go_loopw [26] (fun i wr => ∃ (k : Nat) (L : List Letter) (nx : Int), k ≤ qs.length ∧ i = .int .i64 k ∧ Net wr g1 g1 L (nx + 1) ∧ RNet wr g1 g2 L nx ∧ L.length ≤ 64 ∧ 0 ≤ nx ∧ nx ≤ k ∧ k ≤ 500 ∧ Below w1.heap.size w1 wr) (fun i _ => qs.length - (intOf i).toNat)
  case atStart => exact ⟨0, [], 0, by omega, rfl, hn3, hm3, by decide, by decide, by decide, by decide, hb3⟩
  case round =>
    clear hn3 hm3 hb3
    obtain ⟨k, L, nx, hk, rfl, hn, hm, hL, hx0, hxk, hk5, hb⟩ := hrel
    by_cases hlt : k < qs.length
    · obtain ⟨b, off, rfl, hblt, hc⟩ := C1.out.resolve_left (by omega)
      have hbw : ∀ (j : Nat) v, j < 4 → (callC qs[k])[j]? = some v → wr.cell? ⟨b, off + (k * 4 + j), none⟩ = some v := fun j v hj hv =>
        (hb.cell (p := ⟨b, off + (k * 4 + j), none⟩) (Nat.lt_of_lt_of_le hblt b1.size)).trans ((b1.cell (p := ⟨b, off + (k * 4 + j), none⟩) hblt).trans (Sl.cell (k := 4) (f := callC) (fun _ => rfl) hc k j hj hlt v hv))
      have hk0 : wr.cell? ⟨b, off + k * 4, none⟩ = some (.int .i64 qs[k].1) := hbw 0 _ (by decide) rfl
      have hk1 : wr.cell? ⟨b, off + k * 4 + 1, none⟩ = some (.int .i64 qs[k].2.1) := hbw 1 _ (by decide) rfl
      have hk2 : wr.cell? ⟨b, off + k * 4 + 2, none⟩ = some (.string ⟨qs[k].2.2.1.toArray⟩) := hbw 2 _ (by decide) rfl
      have hk3 : wr.cell? ⟨b, off + k * 4 + 3, none⟩ = some (.string ⟨qs[k].2.2.2.toArray⟩) := hbw 3 _ (by decide) rfl
      have hqk := HQ.out qs[k] (List.getElem_mem hlt)
      clear hbw hc
      generalize hkk : qs[k] = x at *
      clear hkk
      obtain ⟨K, I, to, text⟩ := x
      simp only at hk0 hk1 hk2 hk3 hqk
      obtain ⟨W, hW⟩ : ∃ W, W = wr.alloc (.cells #[.int .i64 K, .int .i64 I, .string ⟨to.toArray⟩, .string ⟨text.toArray⟩] 31) := ⟨_, rfl⟩
      have bW : Below wr.heap.size wr W := by rw [hW]; exact (Below.refl _ _).alloc (Nat.le_refl _) _
      have hC : W.heap[wr.heap.size]? = some (.cells #[.int .i64 K, .int .i64 I, .string ⟨to.toArray⟩, .string ⟨text.toArray⟩] 31 (0, 0)) := by rw [hW]; exact heap_alloc_new wr _
      have hnW := hn.of_below bW
      have hmW := hm.of_below bW
      have hbW := bnext hb bW
      have sW := hbW.size
      have x0 : W.cell? ⟨wr.heap.size, 0, none⟩ = some (.int .i64 K) := by rw [cell_of_row W _ 0 _ _ (0, 0) hC]; rfl
      have x1 : W.cell? ⟨wr.heap.size, 1, none⟩ = some (.int .i64 I) := by rw [cell_of_row W _ 1 _ _ (0, 0) hC]; rfl
      have x2 : W.cell? ⟨wr.heap.size, 2, none⟩ = some (.string ⟨to.toArray⟩) := by rw [cell_of_row W _ 2 _ _ (0, 0) hC]; rfl
      have x3 : W.cell? ⟨wr.heap.size, 3, none⟩ = some (.string ⟨text.toArray⟩) := by rw [cell_of_row W _ 3 _ _ (0, 0) hC]; rfl
      have hX : Hid (W = wr.alloc (.cells #[.int .i64 K, .int .i64 I, .string ⟨to.toArray⟩, .string ⟨text.toArray⟩] 31)) := hW
      clear hW
      by_cases h500 : (k : Int) = 500
      · have h5 : ((k : Int) == 500) = true := beq_iff_eq.2 h500
        clear h500
        go_wp2_with (rw [← hX.out])
        go_ret
        exact ⟨rfl, hbb _ hbW⟩
      · have h5 : ((k : Int) == 500) = false := by simpa using h500
        have hk6 : k + 1 ≤ 500 := by omega
        by_cases hK0 : K = 0
        · subst hK0
          by_cases hok : sendOk to text L
          · go_wp2_with (rw [← hX.out])
            refine (send_ok W _ _ _ _ to text hnW hok ⟨by omega, by omega⟩).mono ?_
            rintro _ w5 ⟨rfl, n5, k5⟩
            have m5 := hmW.keep k5
            have b5 := hbk _ _ _ hbW k5
            have y2 := k5.cellAt (j := 2) hC (by decide) rfl
            have y3 := k5.cellAt (j := 3) hC (by decide) rfl
            clear x0 x1 x2 x3 hk0 hk1 hk2 hk3
            go_wp2_with fail
            refine (rsend_ok w5 _ _ _ _ to text m5 hok ⟨by omega, by omega⟩).mono ?_
            rintro _ w6 ⟨rfl, m6, k6⟩
            have n6 := n5.keep k6
            have b6 := hbk _ _ _ b5 k6
            obtain ⟨a9, c9, ho9, hr9, hB9⟩ := (m6).shape
            have m0 := ho9.c0
            clear ho9 hr9
            go_wp2_with fail
            go_quiet ((go_at_call 20; exact Calls.quiet_of_same (len_any _ _ _ _ _ n6)))
            go_wp2_with fail
            go_roundw
            case rel => exact ⟨k + 1, _, nx + 1, by omega, by go_num, n6, m6, by rw [List.length_append]; have := hok.2.2.2; simp; omega, by omega, by omega, by omega, bnext b6 (below_drewN _ _ _)⟩
            case measure => simp [intOf]; omega
          · have c1 := send_no W _ _ _ _ to text hnW hok
            have c2 := rsend_no W _ _ _ _ to text hmW hok
            generalize sendErr to text L = er at c1 c2
            go_wp2_with (rw [← hX.out])
            refine c1.mono ?_
            rintro _ w5 ⟨rfl, hw5⟩
            rw [hw5]
            clear hw5 w5 c1
            go_wp2_with fail
            refine c2.mono ?_
            rintro _ w5 ⟨rfl, hw5⟩
            rw [hw5]
            clear hw5 w5 c2
            obtain ⟨a9, c9, ho9, hr9, hB9⟩ := (hmW).shape
            have m0 := ho9.c0
            clear ho9 hr9
            go_wp2_with fail
            go_quiet ((go_at_call 20; exact Calls.quiet_of_same (len_any _ _ _ _ _ hnW)))
            go_wp2_with fail
            go_roundw
            case rel => exact ⟨k + 1, _, nx, by omega, by go_num, hnW, hmW, hL, by omega, by omega, by omega, bnext hbW (below_drewN _ _ _)⟩
            case measure => simp [intOf]; omega
        · by_cases hK1 : K = 1
          · subst hK1
            by_cases hwr : wrongB L I = true
            · have c1 := take_no W _ _ _ _ I hnW hwr
              have c2 := rtake_no W _ _ _ _ I hmW hwr
              unfold strV at c1 c2
              go_wp2_with (rw [← hX.out])
              refine c1.mono ?_
              rintro _ w5 ⟨rfl, hw5⟩
              rw [hw5]
              clear hw5 w5 c1
              go_wp2_with fail
              refine c2.mono ?_
              rintro _ w6 ⟨rfl, m6, k6⟩
              have n6 := hnW.of_below k6
              have b6 := bnext hbW k6
              clear x0 x1 x2 x3 hk0 hk1 hk2 hk3
              obtain ⟨w7, hw7⟩ : ∃ w7, w7 = w6.alloc (.cells #[.int .i64 0, .string ⟨#[]⟩, .string ⟨#[]⟩] 40) := ⟨_, rfl⟩
              have a7 : Below w6.heap.size w6 w7 := by rw [hw7]; exact (Below.refl _ _).alloc (Nat.le_refl _) _
              have n7 := n6.of_below a7
              have m7 := m6.of_below a7
              have b7 := bnext b6 a7
              have hX7 : Hid (w7 = w6.alloc (.cells #[.int .i64 0, .string ⟨#[]⟩, .string ⟨#[]⟩] 40)) := hw7
              clear hw7
              go_wp2_with fail
              rw [← hX7.out]
              obtain ⟨a9, c9, ho9, hr9, hB9⟩ := (m7).shape
              have m0 := ho9.c0
              clear ho9 hr9
              go_wp2_with fail
              go_quiet ((go_at_call 20; exact Calls.quiet_of_same (len_any _ _ _ _ _ n7)))
              go_wp2_with fail
              go_roundw
              case rel => exact ⟨k + 1, _, nx, by omega, by go_num, n7, m7, hL, by omega, by omega, by omega, bnext b7 (below_drewN _ _ _)⟩
              case measure => simp [intOf]; omega
            · obtain ⟨j, rfl, hj⟩ := wrong_ok (by simpa using hwr)
              have c1 := take_ok W _ _ _ _ j hnW hj (by unfold maxLen; omega)
              unfold strV at c1
              have htl := take_len L j
              go_wp2_with (rw [← hX.out])
              refine c1.mono ?_
              rintro _ w5 ⟨rfl, n5, k5⟩
              have m5 := hmW.keep k5
              have b5 := hbk _ _ _ hbW k5
              have y1 := k5.cellAt (j := 1) hC (by decide) rfl
              have c2 := rtake_ok w5 _ _ _ _ j m5 hj hL
              unfold strV at c2
              clear x0 x1 x2 x3 hk0 hk1 hk2 hk3
              clear c1
              go_wp2_with fail
              refine c2.mono ?_
              rintro _ w6 ⟨rfl, m6, k6⟩
              have n6 := n5.keep k6
              have b6 := hbk _ _ _ b5 k6
              clear c2
              generalize L[j] = lj at *
              obtain ⟨w7, hw7⟩ : ∃ w7, w7 = w6.alloc (.cells #[.int .i64 lj.1, .string ⟨lj.2.1.toArray⟩, .string ⟨lj.2.2.toArray⟩] 40) := ⟨_, rfl⟩
              have a7 : Below w6.heap.size w6 w7 := by rw [hw7]; exact (Below.refl _ _).alloc (Nat.le_refl _) _
              have n7 := n6.of_below a7
              have m7 := m6.of_below a7
              have b7 := bnext b6 a7
              have hX7 : Hid (w7 = w6.alloc (.cells #[.int .i64 lj.1, .string ⟨lj.2.1.toArray⟩, .string ⟨lj.2.2.toArray⟩] 40)) := hw7
              clear hw7
              go_wp2_with fail
              rw [← hX7.out]
              obtain ⟨a9, c9, ho9, hr9, hB9⟩ := (m7).shape
              have m0 := ho9.c0
              clear ho9 hr9
              go_wp2_with fail
              go_quiet ((go_at_call 20; exact Calls.quiet_of_same (len_any _ _ _ _ _ n7)))
              go_wp2_with fail
              go_roundw
              case rel => exact ⟨k + 1, _, nx, by omega, by go_num, n7, m7, by omega, by omega, by omega, by omega, bnext b7 (below_drewN _ _ _)⟩
              case measure => simp [intOf]; omega
          · have e0 : (K == 0) = false := by simpa using hK0
            by_cases hK2 : K = 2
            · subst hK2
              by_cases hwr : wrongB L I = true
              · have c1 := double_no _ _ _ _ _ I hnW hwr
                have c2 := rdouble_no _ _ _ _ _ I hmW hwr
                go_wp2_with (rw [← hX.out])
                go_quiet ((first | (go_at_call 17; exact Calls.quiet_of_same (double_no _ _ _ _ _ I hnW hwr)) | (go_at_call 18; exact Calls.quiet_of_same (rdouble_no _ _ _ _ _ I hmW hwr))))
                obtain ⟨w7, hw7⟩ : ∃ w7, w7 = World.drewN W nq := ⟨_, rfl⟩
                have n7 : Net w7 g1 g1 L (nx + 1) := by rw [hw7]; exact hnW
                have m7 : RNet w7 g1 g2 L nx := by rw [hw7]; exact hmW
                have b7 : Below w1.heap.size w1 w7 := by rw [hw7]; exact bnext hbW (below_drewN _ _ _)
                rw [← hw7]
                clear hw7 nq
                obtain ⟨a9, c9, ho9, hr9, hB9⟩ := (m7).shape
                have m0 := ho9.c0
                clear ho9 hr9
                go_wp2_with fail
                go_quiet ((go_at_call 20; exact Calls.quiet_of_same (len_any _ _ _ _ _ n7)))
                go_wp2_with fail
                go_roundw
                case rel => exact ⟨k + 1, _, nx, by omega, by go_num, n7, m7, hL, by omega, by omega, by omega, bnext b7 (below_drewN _ _ _)⟩
                case measure => simp [intOf]; omega
              · have hwr : wrongB L I = false := by simpa using hwr
                by_cases hf : 64 ≤ L.length
                · have c1 := double_full _ _ _ _ _ I hnW hwr hf
                  have c2 := rdouble_full _ _ _ _ _ I hmW hwr hf
                  go_wp2_with (rw [← hX.out])
                  go_quiet ((first | (go_at_call 17; exact Calls.quiet_of_same (double_full _ _ _ _ _ I hnW hwr hf)) | (go_at_call 18; exact Calls.quiet_of_same (rdouble_full _ _ _ _ _ I hmW hwr hf))))
                  obtain ⟨w7, hw7⟩ : ∃ w7, w7 = World.drewN W nq := ⟨_, rfl⟩
                  have n7 : Net w7 g1 g1 L (nx + 1) := by rw [hw7]; exact hnW
                  have m7 : RNet w7 g1 g2 L nx := by rw [hw7]; exact hmW
                  have b7 : Below w1.heap.size w1 w7 := by rw [hw7]; exact bnext hbW (below_drewN _ _ _)
                  rw [← hw7]
                  clear hw7 nq
                  obtain ⟨a9, c9, ho9, hr9, hB9⟩ := (m7).shape
                  have m0 := ho9.c0
                  clear ho9 hr9
                  go_wp2_with fail
                  go_quiet ((go_at_call 20; exact Calls.quiet_of_same (len_any _ _ _ _ _ n7)))
                  go_wp2_with fail
                  go_roundw
                  case rel => exact ⟨k + 1, _, nx, by omega, by go_num, n7, m7, hL, by omega, by omega, by omega, bnext b7 (below_drewN _ _ _)⟩
                  case measure => simp [intOf]; omega
                · obtain ⟨j, rfl, hj⟩ := wrong_ok (by simpa using hwr)
                  go_wp2_with (rw [← hX.out])
                  go_region_held3 (fun w' => w'.cell? ⟨wr.heap.size, 1, none⟩ = some (.int .i64 (j : Int))) (first | exact y1 | exact x1 | go_keep)
                    (first | (go_at_call 17; refine (double_ok _ _ _ _ _ j (by exact hnW) hj (by omega)).mono ?_; rintro _ w5 ⟨rfl, n5, k5'⟩; have k5 := k5'.of_drew; have y1 := k5.cellAt (j := 1) hC (by decide) rfl) | (go_at_call 18; refine (rdouble_ok _ _ _ _ _ j (by exact hmW.keep k5) hj (by omega)).mono ?_; rintro _ w6 ⟨rfl, m6, k6⟩; have y1 := k6.cellAt (j := 1) (k5.at hC (by decide)) (by decide) rfl))
                  have b5 := hbk _ _ _ hbW k5
                  have n6 := n5.keep k6
                  have b6 := hbk _ _ _ b5 k6
                  clear y1 x0 x1 x2 x3 hk0 hk1 hk2 hk3
                  generalize L[j] = lj at *
                  obtain ⟨a9, c9, ho9, hr9, hB9⟩ := (m6).shape
                  have m0 := ho9.c0
                  clear ho9 hr9
                  go_wp2_with fail
                  go_quiet ((go_at_call 20; exact Calls.quiet_of_same (len_any _ _ _ _ _ n6)))
                  go_wp2_with fail
                  go_roundw
                  case rel => exact ⟨k + 1, _, nx, by omega, by go_num, n6, m6, by rw [List.length_append]; simp; omega, by omega, by omega, by omega, bnext b6 (below_drewN _ _ _)⟩
                  case measure => simp [intOf]; omega
            · have e1 : (K == 1) = false := by simpa using hK1
              have e2 : (K == 2) = false := by simpa using hK2
              by_cases hwr : wrongB L I = true
              · have c2 := rtake_no W _ _ _ _ I hmW hwr
                unfold strV at c2
                go_wp2_with (rw [← hX.out])
                refine c2.mono ?_
                rintro _ w6 ⟨rfl, m6, k6⟩
                have n6 := hnW.of_below k6
                have b6 := bnext hbW k6
                have hlw : wr.heap.size < W.heap.size := (Array.getElem?_eq_some_iff.1 hC).1
                have C6 := below_at k6 hC hlw
                have y1 : w6.cell? ⟨wr.heap.size, 1, none⟩ = some (.int .i64 I) := by rw [cell_of_row w6 _ 1 _ _ (0, 0) C6]; rfl
                have y1 := Lib.cell?_alloc_some (.cells #[.int .i64 0, .string ⟨#[]⟩, .string ⟨#[]⟩] 40) y1
                clear x0 x1 x2 x3 hk0 hk1 hk2 hk3
                obtain ⟨w7, hw7⟩ : ∃ w7, w7 = w6.alloc (.cells #[.int .i64 0, .string ⟨#[]⟩, .string ⟨#[]⟩] 40) := ⟨_, rfl⟩
                have a7 : Below w6.heap.size w6 w7 := by rw [hw7]; exact (Below.refl _ _).alloc (Nat.le_refl _) _
                have n7 := n6.of_below a7
                have m7 := m6.of_below a7
                have b7 := bnext b6 a7
                have hX7 : Hid (w7 = w6.alloc (.cells #[.int .i64 0, .string ⟨#[]⟩, .string ⟨#[]⟩] 40)) := hw7
                clear hw7
                go_wp2_with fail
                rw [← hX7.out]
                refine (lose_no w7 _ _ _ _ I n7 hwr).mono ?_
                rintro _ w8 ⟨rfl, hw8⟩
                rw [hw8]
                clear hw8 w8
                obtain ⟨a9, c9, ho9, hr9, hB9⟩ := (m7).shape
                have m0 := ho9.c0
                clear ho9 hr9
                go_wp2_with fail
                go_quiet ((go_at_call 20; exact Calls.quiet_of_same (len_any _ _ _ _ _ n7)))
                go_wp2_with fail
                go_roundw
                case rel => exact ⟨k + 1, _, nx, by omega, by go_num, n7, m7, hL, by omega, by omega, by omega, bnext b7 (below_drewN _ _ _)⟩
                case measure => simp [intOf]; omega
              · obtain ⟨j, rfl, hj⟩ := wrong_ok (by simpa using hwr)
                have c2 := rtake_ok W _ _ _ _ j hmW hj hL
                unfold strV at c2
                have htl := take_len L j
                go_wp2_with (rw [← hX.out])
                refine c2.mono ?_
                rintro _ w6 ⟨rfl, m6, k6⟩
                have n6 := hnW.keep k6
                have b6 := hbk _ _ _ hbW k6
                have y1 : w6.cell? ⟨wr.heap.size, 1, none⟩ = some (.int .i64 (j : Int)) := k6.cellAt (j := 1) hC (by decide) rfl
                have hlw : wr.heap.size < W.heap.size := (Array.getElem?_eq_some_iff.1 hC).1
                clear c2
                clear x0 x1 x2 x3 hk0 hk1 hk2 hk3
                obtain ⟨lj, hlj⟩ : ∃ lj, lj = L[j] := ⟨_, rfl⟩
                rw [← hlj]
                clear hlj
                have y1 := Lib.cell?_alloc_some (.cells #[.int .i64 lj.1, .string ⟨lj.2.1.toArray⟩, .string ⟨lj.2.2.toArray⟩] 40) y1
                obtain ⟨w7, hw7⟩ : ∃ w7, w7 = w6.alloc (.cells #[.int .i64 lj.1, .string ⟨lj.2.1.toArray⟩, .string ⟨lj.2.2.toArray⟩] 40) := ⟨_, rfl⟩
                have a7 : Below w6.heap.size w6 w7 := by rw [hw7]; exact (Below.refl _ _).alloc (Nat.le_refl _) _
                have n7 := n6.of_below a7
                have m7 := m6.of_below a7
                have b7 := bnext b6 a7
                have hX7 : Hid (w7 = w6.alloc (.cells #[.int .i64 lj.1, .string ⟨lj.2.1.toArray⟩, .string ⟨lj.2.2.toArray⟩] 40)) := hw7
                clear hw7
                go_wp2_with fail
                rw [← hX7.out]
                refine (lose_ok w7 _ _ _ _ j n7 hj (by unfold maxLen; omega)).mono ?_
                rintro _ w8 ⟨rfl, n8, k8⟩
                have m8 := m7.keep k8
                have b8 := hbk _ _ _ b7 k8
                obtain ⟨a9, c9, ho9, hr9, hB9⟩ := (m8).shape
                have m0 := ho9.c0
                clear ho9 hr9
                go_wp2_with fail
                go_quiet ((go_at_call 20; exact Calls.quiet_of_same (len_any _ _ _ _ _ n8)))
                go_wp2_with fail
                go_roundw
                case rel => exact ⟨k + 1, _, nx, by omega, by go_num, n8, m8, by omega, by omega, by omega, by omega, bnext b8 (below_drewN _ _ _)⟩
                case measure => simp [intOf]; omega
    · go_wp2_with fail
      go_ret
      exact ⟨rfl, hbb _ hb⟩
end Go.Proofs.Ytfdbcnpbjabjoaa
