/- CONTRACTS: vary.Read and the methods of vary.Reader, over a reader of the call's own (block g). -/
import Derived.Test.YtfdbcnpbjabjoaaVaryGet
import Derived.Test.YtfdbcnpbjabjoaaObj
import Derived.Lib.MinMax
import Derived.WalkLawsBesides
namespace Go.Proofs.Ytfdbcnpbjabjoaa
open Go.RowKit
set_option linter.unusedVariables false

/-- the reader in block g: what is left, and whether something was missing -/
def Rdr (w : World) (g : Nat) (r : List UInt8) (b : Bool) : Prop := Obj2 w g 140 (.string ⟨r.toArray⟩) (.bool b)

def numF (r : List UInt8) (b : Bool) : Nat × List UInt8 × Bool := if b then (0, r, true) else (getN r, getR r, !getB r)
def intF (r : List UInt8) (b : Bool) (most : Int) : Nat × List UInt8 × Bool :=
  if (numF r b).2.2 then (0, (numF r b).2.1, true) else if most < 0 ∨ most < ((numF r b).1 : Int) then (0, [], true) else ((numF r b).1, (numF r b).2.1, false)
def takeF (r : List UInt8) (b : Bool) (n : Int) : List UInt8 × List UInt8 × Bool :=
  if b then ([], r, true) else if n < 0 ∨ (r.length : Int) < n then ([], [], true) else (r.take n.toNat, r.drop n.toNat, false)
def textF (r : List UInt8) (b : Bool) : List UInt8 × List UInt8 × Bool := takeF (numF r b).2.1 (numF r b).2.2 (min ((numF r b).1 : Int) 1099511627776)

theorem getR_len (r : List UInt8) : (getR r).length ≤ r.length := by
  cases hg : getFrom 0 r with
  | none => rw [(get_none hg).2.1]; simp
  | some x => obtain ⟨n, s⟩ := x; rw [(get_some hg).2.1, ((get_iff r n s).1 hg).2]; simp
theorem getN_u64 (r : List UInt8) : U64 (getN r) := by
  cases hg : getFrom 0 r with
  | none => rw [(get_none hg).1]; simp [U64]
  | some x => obtain ⟨n, s⟩ := x; rw [(get_some hg).1]; exact ((get_iff r n s).1 hg).1
theorem numF_len (r : List UInt8) (b : Bool) : (numF r b).2.1.length ≤ r.length := by
  cases b
  · exact getR_len r
  · exact Nat.le_refl _
theorem numF_u64 (r : List UInt8) (b : Bool) : U64 (numF r b).1 := by
  cases b
  · exact getN_u64 r
  · simp [numF, U64]

theorem intF_bad {r r1 : List UInt8} {b : Bool} {most : Int} {N : Nat} (h : numF r b = (N, r1, true)) : intF r b most = (0, r1, true) := by simp [intF, h]
theorem intF_no {r r1 : List UInt8} {b : Bool} {most : Int} {N : Nat} (h : numF r b = (N, r1, false)) (hn : most < 0 ∨ most < (N : Int)) : intF r b most = (0, [], true) := by simp [intF, h, hn]
theorem intF_ok {r r1 : List UInt8} {b : Bool} {most : Int} {N : Nat} (h : numF r b = (N, r1, false)) (hn : ¬ (most < 0 ∨ most < (N : Int))) : intF r b most = (N, r1, false) := by simp [intF, h, hn]
theorem takeF_no {r : List UInt8} {n : Int} (hn : n < 0 ∨ (r.length : Int) < n) : takeF r false n = ([], [], true) := by simp [takeF, hn]
theorem takeF_ok {r : List UInt8} {m : Nat} (hn : m ≤ r.length) : takeF r false (m : Int) = (r.take m, r.drop m, false) := by
  unfold takeF; rw [if_neg (by simp), if_neg (by omega), Int.toNat_natCast]
theorem textF_bad {r r1 : List UInt8} {b : Bool} {N : Nat} (h : numF r b = (N, r1, true)) : textF r b = ([], r1, true) := by simp [textF, h, takeF]
theorem textF_go {r r1 : List UInt8} {b : Bool} {N : Nat} (h : numF r b = (N, r1, false)) : textF r b = takeF r1 false (min (N : Int) 1099511627776) := by simp [textF, h]

theorem read_any (l : List UInt8) (w : World) :
    Calls Try.prog 50 #[.string ⟨l.toArray⟩] w fun e w' => e = .returned (.pointer (some ⟨w.heap.size, 0, none⟩)) ∧ w' = w.alloc (.cells #[.string ⟨l.toArray⟩, .bool false] 140) := by
  go_enter Try.func50, Try.ntmps50
  go_wp2
  go_ret
  exact ⟨rfl, rfl⟩
theorem read_rdr (l : List UInt8) (w : World) : Rdr (w.alloc (.cells #[.string ⟨l.toArray⟩, .bool false] 140)) w.heap.size l false := Obj2.new _ _ _ _

set_option maxHeartbeats 800000 in
theorem num_any (g : Nat) (r : List UInt8) (b : Bool) (w : World) (h : Rdr w g r b) (hl : r.length ≤ maxLen) :
    Calls Try.prog 76 #[.pointer (some ⟨g, 0, none⟩)] w fun e w' =>
      e = .returned (.int .u64 (numF r b).1) ∧ Rdr w' g (numF r b).2.1 (numF r b).2.2 ∧ At g w w' := by
  have c0 := h.c0; have c1 := h.c1; have f0 := h.fz 0; have f1 := h.fz 1
  cases b with
  | true =>
    go_enter Try.func76, Try.ntmps76
    go_wp2_with fail
    go_ret
    exact ⟨rfl, h, At.refl _ _⟩
  | false =>
    go_enter Try.func76, Try.ntmps76
    go_wp2_with fail
    refine (get_any r hl _).mono ?_
    rintro e w1 ⟨rfl, n, rfl⟩
    go_wp2_with fail
    go_ret
    exact ⟨rfl, ((h.keep (below_drewN _ _ n)).set0 _).set1 _, ((At.of_below (below_drewN _ _ n)).set 0 _).set 1 _⟩

set_option maxHeartbeats 1600000 in
theorem int_any (g : Nat) (r : List UInt8) (b : Bool) (most : Int) (w : World) (h : Rdr w g r b) (hl : r.length ≤ maxLen) (hm0 : -9223372036854775808 ≤ most) (hm1 : most ≤ 9223372036854775807) :
    Calls Try.prog 51 #[.pointer (some ⟨g, 0, none⟩), .int .i64 most] w fun e w' =>
      e = .returned (.int .i64 (intF r b most).1) ∧ Rdr w' g (intF r b most).2.1 (intF r b most).2.2 ∧ At g w w' := by
  have hu := numF_u64 r b
  obtain ⟨⟨N, r1, b1⟩, hx⟩ : ∃ x, numF r b = x := ⟨_, rfl⟩
  have HX := hid hx
  rw [hx] at hu
  clear hx
  simp only at hu
  cases b1 with
  | true =>
    rw [intF_bad HX.out]
    go_enter Try.func51, Try.ntmps51
    go_wp2_with fail
    refine (num_any g r b _ h hl).mono ?_
    rw [HX.out]
    rintro e w1 ⟨rfl, h1, hg1⟩
    have c0 := h1.c0; have c1 := h1.c1; have f0 := h1.fz 0; have f1 := h1.fz 1
    go_wp2_with fail
    go_ret
    exact ⟨rfl, h1, hg1⟩
  | false =>
    by_cases hn : most < 0
    · rw [intF_no HX.out (.inl hn)]
      go_enter Try.func51, Try.ntmps51
      go_wp2_with fail
      refine (num_any g r b _ h hl).mono ?_
      rw [HX.out]
      rintro e w1 ⟨rfl, h1, hg1⟩
      have c0 := h1.c0; have c1 := h1.c1; have f0 := h1.fz 0; have f1 := h1.fz 1
      go_wp2_with fail
      go_ret
      exact ⟨rfl, (h1.set0 _).set1 _, (hg1.set 0 _).set 1 _⟩
    · obtain ⟨m, rfl⟩ := Int.eq_ofNat_of_zero_le (Int.not_lt.1 hn)
      have hw : IntKind.u64.wrap (m : Int) = (m : Int) := wrap_u64 (by omega) (by omega)
      by_cases hgt : m < N
      · rw [intF_no HX.out (.inr (by omega))]
        go_enter Try.func51, Try.ntmps51
        go_wp2_with fail
        refine (num_any g r b _ h hl).mono ?_
        rw [HX.out]
        rintro e w1 ⟨rfl, h1, hg1⟩
        have c0 := h1.c0; have c1 := h1.c1; have f0 := h1.fz 0; have f1 := h1.fz 1
        go_wp2_with fail
        go_ret
        exact ⟨rfl, (h1.set0 _).set1 _, (hg1.set 0 _).set 1 _⟩
      · have hw2 : IntKind.i64.wrap (N : Int) = (N : Int) := IntWalk.i64_in _ (by omega)
        rw [intF_ok HX.out (by omega)]
        go_enter Try.func51, Try.ntmps51
        go_wp2_with fail
        refine (num_any g r b _ h hl).mono ?_
        rw [HX.out]
        rintro e w1 ⟨rfl, h1, hg1⟩
        have c0 := h1.c0; have c1 := h1.c1; have f0 := h1.fz 0; have f1 := h1.fz 1
        go_wp2_with fail
        go_ret
        exact ⟨rfl, h1, hg1⟩

set_option maxHeartbeats 1600000 in
theorem take_any (g : Nat) (r : List UInt8) (b : Bool) (n : Int) (w : World) (h : Rdr w g r b) (hl : r.length ≤ maxLen) :
    Calls Try.prog 77 #[.pointer (some ⟨g, 0, none⟩), .int .i64 n] w fun e w' =>
      e = .returned (.string ⟨(takeF r b n).1.toArray⟩) ∧ Rdr w' g (takeF r b n).2.1 (takeF r b n).2.2 ∧ At g w w' := by
  unfold maxLen at hl
  have c0 := h.c0; have c1 := h.c1; have f0 := h.fz 0; have f1 := h.fz 1
  cases b with
  | true =>
    go_enter Try.func77, Try.ntmps77
    go_wp2_with fail
    go_ret
    exact ⟨rfl, h, At.refl _ _⟩
  | false =>
    by_cases hn : n < 0
    · rw [takeF_no (.inl hn)]
      go_enter Try.func77, Try.ntmps77
      go_wp2_with fail
      go_ret
      exact ⟨rfl, (h.set0 _).set1 _, ((At.refl _ _).set 0 _).set 1 _⟩
    · obtain ⟨m, rfl⟩ := Int.eq_ofNat_of_zero_le (Int.not_lt.1 hn)
      by_cases hgt : r.length < m
      · rw [takeF_no (.inr (by omega))]
        go_enter Try.func77, Try.ntmps77
        go_wp2_with fail
        go_ret
        exact ⟨rfl, (h.set0 _).set1 _, ((At.refl _ _).set 0 _).set 1 _⟩
      · have hd := ext_drop r m
        have ht : (⟨r.toArray⟩ : ByteArray).extract 0 m = ⟨(r.take m).toArray⟩ := by rw [ext_mid]; simp
        rw [takeF_ok (by omega)]
        go_enter Try.func77, Try.ntmps77
        go_wp2_with fail
        go_ret
        exact ⟨rfl, h.set0 _, (At.refl _ _).set 0 _⟩

set_option maxHeartbeats 800000 in
theorem text_any_r (g : Nat) (r : List UInt8) (b : Bool) (w : World) (h : Rdr w g r b) (hl : r.length ≤ maxLen) :
    Calls Try.prog 52 #[.pointer (some ⟨g, 0, none⟩)] w fun e w' =>
      e = .returned (.string ⟨(textF r b).1.toArray⟩) ∧ Rdr w' g (textF r b).2.1 (textF r b).2.2 ∧ At g w w' := by
  have hu := numF_u64 r b
  have hln := numF_len r b
  obtain ⟨⟨N, r1, b1⟩, hx⟩ : ∃ x, numF r b = x := ⟨_, rfl⟩
  have HX := hid hx
  rw [hx] at hu hln
  clear hx
  simp only at hu hln
  cases b1 with
  | true =>
    rw [textF_bad HX.out]
    go_enter Try.func52, Try.ntmps52
    go_wp2_with fail
    refine (num_any g r b _ h hl).mono ?_
    rw [HX.out]
    rintro e w1 ⟨rfl, h1, hg1⟩
    have c0 := h1.c0; have c1 := h1.c1; have f0 := h1.fz 0; have f1 := h1.fz 1
    go_wp2_with fail
    go_ret
    exact ⟨rfl, h1, hg1⟩
  | false =>
    have hw2 : IntKind.i64.wrap (min (N : Int) 1099511627776) = min (N : Int) 1099511627776 := IntWalk.i64_in _ (by omega)
    rw [textF_go HX.out]
    go_enter Try.func52, Try.ntmps52
    go_wp2_with fail
    refine (num_any g r b _ h hl).mono ?_
    rw [HX.out]
    rintro e w1 ⟨rfl, h1, hg1⟩
    have c0 := h1.c0; have c1 := h1.c1; have f0 := h1.fz 0; have f1 := h1.fz 1
    go_wp2_with fail
    refine (take_any g r1 false _ _ h1 (by omega)).mono ?_
    rintro e w2 ⟨rfl, h2, hg2⟩
    go_wp2_with fail
    go_ret
    exact ⟨rfl, h2, hg1.trans hg2⟩

def endF (r : List UInt8) (b : Bool) : Bool := !b && r.isEmpty
set_option maxHeartbeats 800000 in
theorem end_any (g : Nat) (r : List UInt8) (b : Bool) (w : World) (h : Rdr w g r b) :
    Calls Try.prog 53 #[.pointer (some ⟨g, 0, none⟩)] w fun e w' => e = .returned (.bool (endF r b)) ∧ w' = w := by
  have c0 := h.c0; have c1 := h.c1
  cases b <;> cases r
  all_goals
    go_enter Try.func53, Try.ntmps53
    go_wp2_with fail
    go_ret
    exact ⟨rfl, rfl⟩
end Go.Proofs.Ytfdbcnpbjabjoaa
