/- CONTRACT: wherryref02.Next. -/
import Derived.Test.YtfdbcnpbjabjoaaFrameNext
import Derived.Test.YtfdbcnpbjabjoaaVaryRGet
namespace Go.Proofs.Ytfdbcnpbjabjoaa
open Go.RowKit

/-- what the first loop has told behind k bytes -/
def shortB (l : List UInt8) (k : Nat) : Bool := decide (l.length < 10) && hiL (l.take k)
theorem shortB_succ {l : List UInt8} {k : Nat} (h : k < l.length) : shortB l (k + 1) = (shortB l k && decide (128 ≤ l[k].toNat)) := by
  unfold shortB hiL
  rw [List.take_add_one, List.getElem?_eq_getElem h, List.all_append, Bool.and_assoc]; simp
theorem shortB_end {l : List UInt8} {k : Nat} (h : k = l.length ∨ k = 10) (hk : k ≤ l.length) : shortB l k = (decide (l.length < 10) && hiL l) := by
  unfold shortB
  by_cases h1 : l.length < 10
  · have : k = l.length := by omega
    rw [this, List.take_of_length_le (Nat.le_refl _)]
  · simp [h1]

set_option maxHeartbeats 6400000 in
set_option maxRecDepth 100000 in
theorem rnext_any (l : List UInt8) (hl : l.length ≤ maxLen) (w : World) :
    Calls Try.prog 79 #[.string ⟨l.toArray⟩] w fun e w' => e = .returned (.tuple #[.string ⟨(nextF l).1.toArray⟩, .string ⟨(nextF l).2.1.toArray⟩, .int .i64 (nextF l).2.2]) ∧ Below w.heap.size w w' := by
  have hl' := hl
  unfold maxLen at hl'
  obtain ⟨R, hR⟩ : ∃ R, R = nextF l := ⟨_, rfl⟩
  rw [← hR]
  have HR := hid hR
  clear hR
  have hb0 : Value.bool (decide ((l.length : Int) < 10)) = .bool (shortB l 0) := by
    congr 1
    simp [shortB, hiL]
    omega
  have HB0 := hid hb0
  clear hb0
  go_enter Try.func79, Try.ntmps79
  go_wp2_with fail
  go_loop [5, 6] (fun s i => ∃ k : Nat, k ≤ l.length ∧ k ≤ 10 ∧ i = .int .i64 k ∧ s = .bool (shortB l k)) (fun _ i => 10 - (intOf i).toNat)
  case atStart => exact ⟨0, by omega, by omega, rfl, HB0.out⟩
  case round =>
    obtain ⟨k, hk, hk10, rfl, rfl⟩ := hrel
    by_cases hlt : k < l.length ∧ k < 10
    · obtain ⟨h1, h2⟩ := hlt
      have hs := shortB_succ h1
      have hd : decide ((128 : Int) ≤ (((⟨l.toArray⟩ : ByteArray)[k]'h1).toNat : Int)) = decide (128 ≤ (l[k]'h1).toNat) := by
        show decide ((128 : Int) ≤ (((l[k]'h1).toNat : Nat) : Int)) = _
        rw [decide_eq_decide]; omega
      have HS := hid hs
      have HD := hid hd
      clear hs hd
      cases hB : shortB l k
      · have HB := hid hB
        clear hB
        go_wp2_with fail
        go_round
        case rel => exact ⟨k + 1, by omega, by omega, by go_num, by rw [HS.out, HB.out]; rfl⟩
        case measure => simp [intOf]; omega
      · have HB := hid hB
        clear hB
        go_wp2_with fail
        go_round
        case rel => exact ⟨k + 1, by omega, by omega, by go_num, by rw [HS.out, HB.out, Bool.true_and, ← HD.out]⟩
        case measure => simp [intOf]; omega
    · have hend : k = l.length ∨ k = 10 := by omega
      have hse := shortB_end hend hk
      have HE := hid hse
      clear hend hse
      by_cases hA : l.length < 10 ∧ hiL l = true
      · have hg : getFrom 0 l = none := by
          cases hg : getFrom 0 l with
          | none => rfl
          | some x =>
            obtain ⟨_, hl9⟩ := (get_iff l x.1 x.2).1 hg
            have h1 := split7_putL x.1 x.2
            have h2 : split7 l = none := by
              have : ∀ {l : List UInt8}, hiL l = true → split7 l = none := by
                intro l
                induction l with
                | nil => intro _; rfl
                | cons c r ih =>
                  intro h
                  simp only [hiL, List.all_cons, Bool.and_eq_true, decide_eq_true_eq] at h
                  rw [split7, if_neg (by omega), ih h.2]; rfl
              exact this hA.2
            rw [← hl9, h2] at h1
            cases h1
        have hv : shortB l k = true := by rw [HE.out, hA.2]; simp [hA.1]
        have HRR := hid (HR.out.trans (next_short hg hA.1 hA.2))
        clear hg hA
        rw [hv]
        clear hv
        by_cases h1 : k < l.length
        all_goals
          go_wp2_with fail
          go_ret3
          rw [HRR.out]
          exact ⟨rfl, Below.refl _ _⟩
      · have hv : shortB l k = false := by
          rw [HE.out]
          by_cases h : l.length < 10
          · have : hiL l ≠ true := fun h' => hA ⟨h, h'⟩
            simpa [h] using this
          · simp [h]
        rw [hv]
        clear hv
        have HA := hid hA
        clear hA
        cases hg : getFrom 0 l with
        | none =>
          obtain ⟨e1, e4⟩ := getK_none hg
          have HRR := hid (HR.out.trans (next_none hg HA.out))
          clear hg
          by_cases h1 : k < l.length
          all_goals
            go_wp2_with fail
            refine (rget_any l hl _).mono ?_
            rintro e w1 ⟨rfl, hb1⟩
            rw [e1, e4]
            go_wp2_with fail
            go_ret3
            rw [HRR.out]
            exact ⟨rfl, hb1⟩
        | some x =>
          obtain ⟨n, r⟩ := x
          obtain ⟨e1, e2, e3⟩ := get_some hg
          obtain ⟨hu, hr⟩ := (get_iff l n r).1 hg
          have hp := putL_pos n
          have hlen : l.length = (putL n).length + r.length := by rw [hr]; simp
          have hK : getK l = (putL n).length := by unfold getK; rw [e3, e2]; simp; omega
          obtain ⟨q, hq⟩ : ∃ q, q = (putL n).length := ⟨_, rfl⟩
          rw [← hq] at hK hp hlen
          have hrd : l.drop q = r := by rw [hr, hq]; simp
          have hex0 : (⟨l.toArray⟩ : ByteArray).extract q l.length = ⟨r.toArray⟩ := by rw [ext_drop, hrd]
          have hq0 : ((q : Int) == 0) = false := by rw [beq_eq_false_iff_ne]; omega
          have hql : (q : Int) ≤ (l.length : Int) := by omega
          have hrl : r.length ≤ l.length := by omega
          clear hr hq hrd hlen e2 e3
          by_cases hn : 1048576 < n
          · have HRR := hid (HR.out.trans (next_long hg hn))
            clear hg
            by_cases h1 : k < l.length
            all_goals
              go_wp2_with fail
              refine (rget_any l hl _).mono ?_
              rintro e w1 ⟨rfl, hb1⟩
              rw [e1, hK]
              go_wp2_with fail
              go_ret3
              rw [HRR.out]
              exact ⟨rfl, hb1⟩
          · have hwn : IntKind.i64.wrap (n : Int) = (n : Int) := IntWalk.i64_in _ (by omega)
            by_cases h4 : r.length < 4
            · have HRR := hid (HR.out.trans (next_cut hg hn (.inl h4)))
              clear hg
              by_cases h1 : k < l.length
              all_goals
                go_wp2_with fail
                refine (rget_any l hl _).mono ?_
                rintro e w1 ⟨rfl, hb1⟩
                rw [e1, hK]
                go_wp2_with fail
                go_ret3
                rw [HRR.out]
                exact ⟨rfl, hb1⟩
            · by_cases h5 : r.length - 4 < n
              · have HRR := hid (HR.out.trans (next_cut hg hn (.inr h5)))
                clear hg
                have h5' : (r.length : Int) - 4 < (n : Int) := by omega
                by_cases h1 : k < l.length
                all_goals
                  go_wp2_with fail
                  refine (rget_any l hl _).mono ?_
                  rintro e w1 ⟨rfl, hb1⟩
                  rw [e1, hK]
                  go_wp2_with fail
                  go_ret3
                  rw [HRR.out]
                  exact ⟨rfl, hb1⟩
              · have h5' : ¬ (r.length : Int) - 4 < (n : Int) := by omega
                have hex : (⟨r.toArray⟩ : ByteArray).extract 4 (4 + n) = ⟨((r.drop 4).take n).toArray⟩ := by rw [ext_mid]; congr 3; omega
                have hbl : ((r.drop 4).take n).length ≤ maxLen := by simp only [List.length_take, List.length_drop]; unfold maxLen; omega
                have hdr := ext_drop r (4 + n)
                have ht4 := ext_take r 4
                have i1 : (4 : Int) ≤ (r.length : Int) := by omega
                have i2 : 4 + (n : Int) ≤ (r.length : Int) := by omega
                have i3 : IntKind.i64.wrap (4 + (n : Int)) = 4 + (n : Int) := IntWalk.i64_in _ (by omega)
                have i4 : (0 : Int) ≤ 4 + (n : Int) := by omega
                have i5 : (4 + (n : Int)).toNat = 4 + n := by omega
                by_cases he : r.take 4 = fourL ((r.drop 4).take n)
                · have HRR := hid (HR.out.trans (next_ok hg hn (fun h => by rcases h with h | h <;> omega) he))
                  obtain ⟨body, hbody⟩ : ∃ body, body = (r.drop 4).take n := ⟨_, rfl⟩
                  rw [← hbody] at hex hbl he HRR
                  clear hg hbody
                  have hB : (fourL body == (((⟨r.toArray⟩ : ByteArray).extract 0 4).toList)) = true := by rw [ht4, he]; simp
                  clear ht4 he
                  by_cases h1 : k < l.length
                  all_goals
                    go_wp2_with fail
                    refine (rget_any l hl _).mono ?_
                    rintro e w1 ⟨rfl, hb1⟩
                    rw [e1, hK]
                    go_wp2_with fail
                    go_region_held3 (fun _ => True) (trivial) (first | (go_at_call 72; refine (four_any body hbl _).mono ?_; rintro e w3 ⟨rfl, hb3⟩))
                    go_wp2_with fail
                    go_quiet (fail)
                    go_wp2_with fail
                    go_ret3
                    rw [HRR.out]
                    exact ⟨by (try rw [hdr]); rfl, bnext (bnext hb1 (below_of_drew hb3)) (below_drewN _ _ _)⟩
                · have HRR := hid (HR.out.trans (next_sum hg hn (fun h => by rcases h with h | h <;> omega) he))
                  obtain ⟨body, hbody⟩ : ∃ body, body = (r.drop 4).take n := ⟨_, rfl⟩
                  rw [← hbody] at hex hbl he
                  clear hg hbody
                  have hB : (fourL body == (((⟨r.toArray⟩ : ByteArray).extract 0 4).toList)) = false := by rw [ht4]; exact beq_eq_false_iff_ne.2 (Ne.symm he)
                  clear ht4 he
                  by_cases h1 : k < l.length
                  all_goals
                    go_wp2_with fail
                    refine (rget_any l hl _).mono ?_
                    rintro e w1 ⟨rfl, hb1⟩
                    rw [e1, hK]
                    go_wp2_with fail
                    go_region_held3 (fun _ => True) (trivial) (first | (go_at_call 72; refine (four_any body hbl _).mono ?_; rintro e w3 ⟨rfl, hb3⟩))
                    go_wp2_with fail
                    go_ret3
                    rw [HRR.out]
                    exact ⟨rfl, bnext hb1 (below_of_drew hb3)⟩
end Go.Proofs.Ytfdbcnpbjabjoaa
