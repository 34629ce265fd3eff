/- CONTRACT: frame.Next. -/
import Derived.Test.YtfdbcnpbjabjoaaFrameWrap
import Derived.Test.YtfdbcnpbjabjoaaVaryGet
import Derived.Deep.QuietTactic
import Derived.BigQuiet
import Derived.Deep.RegionHeld3
import Derived.Outline
namespace Go.Proofs.Ytfdbcnpbjabjoaa
open Go.RowKit

/-- no byte below 128 -/
def hiL (l : List UInt8) : Bool := l.all fun c => decide (128 ≤ c.toNat)
/-- the frame at the head: its text, what stands behind it, and what is wrong -/
def nextF (l : List UInt8) : List UInt8 × List UInt8 × Int :=
  match getFrom 0 l with
  | none => if l.length < 10 ∧ hiL l = true then ([], [], 20) else ([], [], 21)
  | some (n, r) => if 1048576 < n then ([], [], 21) else if r.length < 4 ∨ r.length - 4 < n then ([], [], 20) else if r.take 4 ≠ fourL ((r.drop 4).take n) then ([], [], 21) else ((r.drop 4).take n, r.drop (4 + n), 0)
theorem next_short {l : List UInt8} (h : getFrom 0 l = none) (h1 : l.length < 10) (h2 : hiL l = true) : nextF l = ([], [], 20) := by simp [nextF, h, h1, h2]
theorem next_none {l : List UInt8} (h : getFrom 0 l = none) (h1 : ¬ (l.length < 10 ∧ hiL l = true)) : nextF l = ([], [], 21) := by simp only [nextF, h]; rw [if_neg h1]
theorem next_long {l r : List UInt8} {n : Nat} (h : getFrom 0 l = some (n, r)) (h1 : 1048576 < n) : nextF l = ([], [], 21) := by simp [nextF, h, h1]
theorem next_cut {l r : List UInt8} {n : Nat} (h : getFrom 0 l = some (n, r)) (h1 : ¬ 1048576 < n) (h2 : r.length < 4 ∨ r.length - 4 < n) : nextF l = ([], [], 20) := by simp only [nextF, h]; rw [if_neg h1, if_pos h2]
theorem next_sum {l r : List UInt8} {n : Nat} (h : getFrom 0 l = some (n, r)) (h1 : ¬ 1048576 < n) (h2 : ¬ (r.length < 4 ∨ r.length - 4 < n)) (h3 : r.take 4 ≠ fourL ((r.drop 4).take n)) : nextF l = ([], [], 21) := by
  simp only [nextF, h]; rw [if_neg h1, if_neg h2, if_pos h3]
theorem next_ok {l r : List UInt8} {n : Nat} (h : getFrom 0 l = some (n, r)) (h1 : ¬ 1048576 < n) (h2 : ¬ (r.length < 4 ∨ r.length - 4 < n)) (h3 : r.take 4 = fourL ((r.drop 4).take n)) : nextF l = ((r.drop 4).take n, r.drop (4 + n), 0) := by
  simp only [nextF, h]; rw [if_neg h1, if_neg h2, if_neg (by simpa using h3)]
theorem hiL_at {l : List UInt8} (h : hiL l = true) (k : Nat) (hk : k < l.length) : 128 ≤ l[k].toNat := by
  have := List.all_eq_true.1 h l[k] (List.getElem_mem hk)
  simpa using this
theorem hiL_of {l : List UInt8} (h : ∀ j (hj : j < l.length), 128 ≤ l[j].toNat) : hiL l = true := by
  refine List.all_eq_true.2 (fun c hc => ?_)
  obtain ⟨j, hj, rfl⟩ := List.getElem_of_mem hc
  simpa using h j hj

set_option maxHeartbeats 3200000 in
set_option maxRecDepth 100000 in
theorem next_any (l : List UInt8) (hl : l.length ≤ maxLen) (w : World) :
    Calls Try.prog 75 #[.string ⟨l.toArray⟩] w fun e w' => e = .returned (.tuple #[.string ⟨(nextF l).1.toArray⟩, .string ⟨(nextF l).2.1.toArray⟩, .int .i64 (nextF l).2.2]) ∧ Below w.heap.size w w' := by
  have hl' := hl
  unfold maxLen at hl'
  cases hg : getFrom 0 l with
  | none =>
    obtain ⟨e1, e2, e3⟩ := get_none hg
    by_cases h10 : l.length < 10
    · by_cases hall : hiL l = true
      · rw [next_short hg h10 hall]
        clear hg
        have HALL := hid hall
        clear hall
        go_enter Try.func75, Try.ntmps75
        go_wp2_with fail
        refine (get_any l hl _).mono ?_
        rintro e w2 ⟨rfl, n, rfl⟩
        rw [e1, e2, e3]
        go_wp2_with fail
        go_loop [8, 26] (fun _ i => ∃ k : Nat, k ≤ l.length ∧ i = .int .i64 k) (fun _ i => l.length - (intOf i).toNat)
        case atStart => exact ⟨0, by omega, rfl⟩
        case round =>
          obtain ⟨k, hk, rfl⟩ := hrel
          by_cases hlt : k < l.length
          · have hb := hiL_at HALL.out k hlt
            have hb' : ¬ ((((⟨l.toArray⟩ : ByteArray)[k]'hlt).toNat : Int) < 128) := by
              show ¬ ((((l[k]'hlt).toNat : Nat) : Int) < 128)
              omega
            clear hb
            go_wp2_with fail
            go_round
            case rel => exact ⟨k + 1, by omega, by go_num⟩
            case measure => simp [intOf]; omega
          · go_wp2_with fail
            go_ret3
            exact ⟨rfl, below_drewN _ _ _⟩
      · rw [next_none hg (fun h => hall h.2)]
        clear hg
        have HALL := hid hall
        clear hall
        go_enter Try.func75, Try.ntmps75
        go_wp2_with fail
        refine (get_any l hl _).mono ?_
        rintro e w2 ⟨rfl, n, rfl⟩
        rw [e1, e2, e3]
        go_wp2_with fail
        go_loop [8, 26] (fun _ i => ∃ k : Nat, k ≤ l.length ∧ i = .int .i64 k ∧ Hid (∀ j (hj : j < l.length), j < k → 128 ≤ l[j].toNat)) (fun _ i => l.length - (intOf i).toNat)
        case atStart => exact ⟨0, by omega, rfl, fun _ _ h => by omega⟩
        case round =>
          obtain ⟨k, hk, rfl, hso⟩ := hrel
          by_cases hlt : k < l.length
          · by_cases hb' : ((((⟨l.toArray⟩ : ByteArray)[k]'hlt).toNat : Int) < 128)
            · go_wp2_with fail
              go_ret3
              exact ⟨rfl, below_drewN _ _ _⟩
            · go_wp2_with fail
              go_round
              case rel => exact ⟨k + 1, by omega, by go_num, fun j hj hjk => by
                by_cases e : j = k
                · subst e
                  have h9 : ¬ ((((l[j]'hlt).toNat : Nat) : Int) < 128) := hb'
                  omega
                · exact hso.out j hj (by omega)⟩
              case measure => simp [intOf]; omega
          · exact absurd (hiL_of (fun j hj => hso.out j hj (by omega))) HALL.out
    · rw [next_none hg (fun h => h10 h.1)]
      clear hg
      go_enter Try.func75, Try.ntmps75
      go_wp2_with fail
      refine (get_any l hl _).mono ?_
      rintro e w2 ⟨rfl, n, rfl⟩
      rw [e1, e2, e3]
      go_wp2_with fail
      go_ret3
      exact ⟨rfl, below_drewN _ _ _⟩
  | some x =>
    obtain ⟨n, r⟩ := x
    obtain ⟨e1, e2, e3⟩ := get_some hg
    obtain ⟨hu, hr⟩ := (get_iff l n r).1 hg
    have hrl : r.length ≤ l.length := by rw [hr]; simp
    clear hr
    by_cases hn : 1048576 < n
    · rw [next_long hg hn]
      clear hg
      go_enter Try.func75, Try.ntmps75
      go_wp2_with fail
      refine (get_any l hl _).mono ?_
      rintro e w2 ⟨rfl, k, rfl⟩
      rw [e1, e2, e3]
      go_wp2_with fail
      go_ret3
      exact ⟨rfl, below_drewN _ _ _⟩
    · by_cases h4 : r.length < 4
      · rw [next_cut hg hn (.inl h4)]
        clear hg
        go_enter Try.func75, Try.ntmps75
        go_wp2_with fail
        refine (get_any l hl _).mono ?_
        rintro e w2 ⟨rfl, k, rfl⟩
        rw [e1, e2, e3]
        go_wp2_with fail
        go_ret3
        exact ⟨rfl, below_drewN _ _ _⟩
      · have hw4 : IntKind.u64.wrap ((r.length : Int) - 4) = (r.length : Int) - 4 := wrap_u64 (by omega) (by omega)
        by_cases h5 : r.length - 4 < n
        · rw [next_cut hg hn (.inr h5)]
          clear hg
          have h5' : (r.length : Int) - 4 < (n : Int) := by omega
          go_enter Try.func75, Try.ntmps75
          go_wp2_with fail
          refine (get_any l hl _).mono ?_
          rintro e w2 ⟨rfl, k, rfl⟩
          rw [e1, e2, e3]
          go_wp2_with fail
          go_ret3
          exact ⟨rfl, below_drewN _ _ _⟩
        · have h5' : ¬ (r.length : Int) - 4 < (n : Int) := by omega
          have hwn : IntKind.u64.wrap (4 + (n : Int)) = 4 + (n : Int) := wrap_u64 (by omega) (by omega)
          have hex : (⟨r.toArray⟩ : ByteArray).extract 4 (4 + n) = ⟨((r.drop 4).take n).toArray⟩ := by rw [ext_mid]; congr 3; omega
          have hbl : ((r.drop 4).take n).length ≤ maxLen := by simp only [List.length_take, List.length_drop]; unfold maxLen; omega
          have hdr := ext_drop r (4 + n)
          have ht4 := ext_take r 4
          have i1 : (4 : Int) ≤ (r.length : Int) := by omega
          have i2 : 4 + (n : Int) ≤ (r.length : Int) := by omega
          by_cases he : r.take 4 = fourL ((r.drop 4).take n)
          · rw [next_ok hg hn (fun h => by rcases h with h | h <;> omega) he]
            obtain ⟨body, hbody⟩ : ∃ body, body = (r.drop 4).take n := ⟨_, rfl⟩
            rw [← hbody] at hex hbl he ⊢
            clear hg hbody
            have hB : ((((⟨r.toArray⟩ : ByteArray).extract 0 4).toList == markL (sumL body))) = true := by rw [ht4, he]; simp [fourL]
            clear ht4 he
            go_enter Try.func75, Try.ntmps75
            go_wp2_with fail
            refine (get_any l hl _).mono ?_
            rintro e w2 ⟨rfl, k, rfl⟩
            rw [e1, e2, e3]
            go_wp2_with fail
            go_region_held3 (fun _ => True) (trivial) (first | (go_at_call 69; refine (sum_any body hbl _).mono ?_; rintro e w3 ⟨rfl, rfl⟩) | (go_at_call 68; refine (mark_any _ (sumL_lt body) _).mono ?_; rintro e w3 ⟨rfl, hb3⟩))
            go_wp2_with fail
            have i3 : IntKind.u64.wrap (4 + (n : Int)) = 4 + (n : Int) := hwn
            go_quiet (fail)
            go_wp2_with fail
            go_ret3
            rw [hdr]; exact ⟨rfl, bnext (bnext (below_drewN _ _ (k + 1)) hb3) (below_drewN _ _ _)⟩
          · rw [next_sum hg hn (fun h => by rcases h with h | h <;> omega) he]
            obtain ⟨body, hbody⟩ : ∃ body, body = (r.drop 4).take n := ⟨_, rfl⟩
            rw [← hbody] at hex hbl he
            clear hg hbody
            have hB : ((((⟨r.toArray⟩ : ByteArray).extract 0 4).toList == markL (sumL body))) = false := by rw [ht4]; exact beq_eq_false_iff_ne.2 he
            clear ht4 he
            go_enter Try.func75, Try.ntmps75
            go_wp2_with fail
            refine (get_any l hl _).mono ?_
            rintro e w2 ⟨rfl, k, rfl⟩
            rw [e1, e2, e3]
            go_wp2_with fail
            go_region_held3 (fun _ => True) (trivial) (first | (go_at_call 69; refine (sum_any body hbl _).mono ?_; rintro e w3 ⟨rfl, rfl⟩) | (go_at_call 68; refine (mark_any _ (sumL_lt body) _).mono ?_; rintro e w3 ⟨rfl, hb3⟩))
            go_wp2_with fail
            go_ret3
            exact ⟨rfl, bnext (below_drewN _ _ (k + 1)) hb3⟩
end Go.Proofs.Ytfdbcnpbjabjoaa
