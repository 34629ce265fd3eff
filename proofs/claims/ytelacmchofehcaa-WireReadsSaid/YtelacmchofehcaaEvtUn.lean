/- CONTRACT: event.Unpack. -/
import Derived.Test.YtelacmchofehcaaEvtPack
import Derived.Test.YtelacmchofehcaaEvtDec
import Derived.Test.YtelacmchofehcaaRowAppend
namespace Go.Proofs.Ytelacmchofehcaa
open Go.RowKit
set_option linter.unusedVariables false

theorem evc_one (x : Ev) : ∀ u ∈ evc x, u.oneCell' = true := by
  intro u hu
  simp only [evc, List.mem_cons, List.not_mem_nil, or_false] at hu
  rcases hu with rfl | rfl | rfl | rfl | rfl | rfl | rfl | rfl <;> rfl
theorem unG_none {tx : RS → List UInt8 × RS} {d : List UInt8 → Option Ev} {m : Nat} {s : RS} (h : d (tx s).1 = none) : unG tx d (m + 1) s = none := by rw [unG, h]; rfl
theorem unG_some {tx : RS → List UInt8 × RS} {d : List UInt8 → Option Ev} {m : Nat} {s : RS} {x : Ev} (h : d (tx s).1 = some x) : unG tx d (m + 1) s = (unG tx d m (tx s).2).map fun y => (x :: y.1, y.2) := by rw [unG, h]; rfl
set_option maxHeartbeats 3200000 in
set_option maxRecDepth 100000 in
theorem eunpack_any (l : List UInt8) (hl : l.length ≤ 140737488355328) (w : World) :
    Calls Try.prog 35 #[.string ⟨l.toArray⟩] w fun e w' => ∃ (v : Value) (xs : List Ev) (er : Int), e = .returned (.tuple #[v, .int .i64 er]) ∧ Sl w' v 8 xs.length (xs.flatMap evc) ∧ FitE xs ∧ Below w.heap.size w w' ∧ ((unF l = some xs ∧ er = 0) ∨ (unF l = none ∧ er = 60 ∧ xs = [])) := by
  have hinfo : (Try.prog.info? 82).map (fun i => (i.zero, i.size, i.bytes)) = some (some (.agg #[.int .i64 0, .int .i64 0, .int .i64 0, .int .i64 0, .int .i64 0, .int .i64 0, .bool false, .string .empty]), 8, 72) := by kernel_rfl
  have hmx : maxLen = 9223372036854775807 := rfl
  go_enter Try.func35, Try.ntmps35
  go_wp2_with fail
  refine (read_any l w).mono ?_
  rintro _ w1 ⟨rfl, hw1⟩
  have hr1 : Rdr w1 w.heap.size l false := by rw [hw1]; exact read_rdr l w
  have b1 : Below w.heap.size w w1 := by rw [hw1]; exact (Below.refl _ _).alloc (Nat.le_refl _) _
  clear hw1
  obtain ⟨g, hg⟩ : ∃ g, g = w.heap.size := ⟨_, rfl⟩
  rw [← hg] at hr1 ⊢
  have n2 : w.heap.size ≤ g := by omega
  clear hg
  go_wp2_with fail
  refine (int_any g l false 500 w1 hr1 (by omega) (by omega) (by omega)).mono ?_
  rintro _ w2 ⟨rfl, hr2, a2⟩
  have b2 := At.below b1 a2 n2
  have hN := intF_le (r := l) (b := false) (m := 500) (by decide)
  have hll := intF_len l false 500
  have hU : unF l = (unG tx1 evF (intF l false 500).1 (intF l false 500).2).bind fun y => if endF y.2.1 y.2.2 = true then some y.1 else none := rfl
  obtain ⟨⟨N, r2, e2⟩, hx1⟩ : ∃ x, intF l false 500 = x := ⟨_, rfl⟩
  rw [hx1] at hr2 hN hll hU ⊢
  simp only at hr2 hN hll hU ⊢
  clear hr1 b1 a2 hx1
  go_wp2_with fail
  obtain ⟨S0, hS0⟩ : ∃ S0 : RS, S0 = (r2, e2) := ⟨_, rfl⟩
  rw [← hS0] at hU
  have HU := hid hU
  clear hU
  go_loopw [5, 6] (fun v0 n0 wr => ∃ (k : Nat) (xs : List Ev) (r : List UInt8) (b : Bool), k ≤ N ∧ n0 = .int .i64 ((N - k : Nat) : Int) ∧ Rdr wr g r b ∧ r.length ≤ l.length ∧ wr.ownsRow w.heap.size 82 8 v0 k (xs.flatMap evc) ∧ FitE xs ∧ xs.length = k ∧ unG tx1 evF N S0 = (unG tx1 evF (N - k) (r, b)).map (fun y => (xs ++ y.1, y.2)) ∧ Below w.heap.size w wr) (fun _ n0 _ => (intOf n0).toNat)
  case atStart => exact ⟨0, [], r2, e2, by omega, rfl, hr2, hll, World.ownsRow_nil _ _ _ _, (by intro x hx; cases hx), rfl, by rw [hS0]; simp, b2⟩
  case round =>
    clear hr2 b2 hll
    obtain ⟨k, xs, r, b, hk, rfl, hr, hrl, ho, hfit, hxl, hun, hb⟩ := hrel
    obtain ⟨a0, cc0, rfl⟩ := ownsRow_slice ho
    by_cases hlt : k < N
    · have hpos : (0 : Int) < ((N - k : Nat) : Int) := by omega
      have hwr : ((N - k : Nat) : Int) - 1 = ((N - (k + 1) : Nat) : Int) := by omega
      have HSK := hid (show N - k = (N - (k + 1)) + 1 by omega)
      have HN := hid hun
      clear hun
      go_wp2_with fail
      refine (text_any_r g r b wr hr (by omega)).mono ?_
      rintro _ w5 ⟨rfl, hr5, a5⟩
      have ho5 := own_at_other ho hr (by decide) a5
      have hb5 := At.below hb a5 n2
      have hl5 := textF_len r b
      have ht5 : (textF r b).1.length ≤ r.length := Nat.le_trans (takeF_fst' _ _ _) (numF_len r b)
      have htx : tx1 (r, b) = textF r b := rfl
      obtain ⟨⟨t, r', b'⟩, hx⟩ : ∃ x, textF r b = x := ⟨_, rfl⟩
      rw [hx] at hr5 hl5 ht5 htx ⊢
      simp only at hr5 hl5 ht5 ⊢
      clear hr ho hb a5 hx
      go_wp2_with fail
      refine (edecode_any t (by omega) w5).mono ?_
      rintro _ w6 ⟨x, er, rfl, b6, hres⟩
      have hr6 := hr5.keep b6
      have ho6 := own_new ho5 b6
      have hb6 := bnext hb5 b6
      clear hr5 ho5 hb5 b6
      obtain ⟨id, kd, tk, rf, sp, ty, ud, dt⟩ := x
      rw [show evV' (id, kd, tk, rf, sp, ty, ud, dt) = .agg #[.int .i64 id, .int .i64 kd, .int .i64 tk, .int .i64 rf, .int .i64 sp, .int .i64 ty, .bool ud, .string ⟨dt.toArray⟩] from rfl]
      rcases hres with ⟨g1, rfl⟩ | ⟨g1, rfl, _⟩
      · have hun' := HN.out
        rw [HSK.out, unG_some (s := (r, b)) (x := (id, kd, tk, rf, sp, ty, ud, dt)) (by rw [htx]; exact g1), htx] at hun'
        have HM := hid hun'
        have hdl := dataP_len (evF_iff.1 g1).1.2.2.2.2.2.2.2
        simp only [Ev.dt] at hdl
        clear hun' g1 HN htx
        have bW : Below w6.heap.size w6 (w6.alloc (.cells #[.int .i64 id, .int .i64 kd, .int .i64 tk, .int .i64 rf, .int .i64 sp, .int .i64 ty, .bool ud, .string ⟨dt.toArray⟩] 82)) := (Below.refl _ _).alloc (Nat.le_refl _) _
        have bZ : Below (w6.alloc (.cells #[.int .i64 id, .int .i64 kd, .int .i64 tk, .int .i64 rf, .int .i64 sp, .int .i64 ty, .bool ud, .string ⟨dt.toArray⟩] 82)).heap.size (w6.alloc (.cells #[.int .i64 id, .int .i64 kd, .int .i64 tk, .int .i64 rf, .int .i64 sp, .int .i64 ty, .bool ud, .string ⟨dt.toArray⟩] 82)) ((w6.alloc (.cells #[.int .i64 id, .int .i64 kd, .int .i64 tk, .int .i64 rf, .int .i64 sp, .int .i64 ty, .bool ud, .string ⟨dt.toArray⟩] 82)).alloc (.cells #[.int .i64 id, .int .i64 kd, .int .i64 tk, .int .i64 rf, .int .i64 sp, .int .i64 ty, .bool ud, .string ⟨dt.toArray⟩] 82)) := (Below.refl _ _).alloc (Nat.le_refl _) _
        have oZ := own_new (own_new ho6 bW) bZ
        have rZ := (hr6.keep bW).keep bZ
        have bb := bnext (bnext hb6 bW) bZ
        have sW : (w6.alloc (.cells #[.int .i64 id, .int .i64 kd, .int .i64 tk, .int .i64 rf, .int .i64 sp, .int .i64 ty, .bool ud, .string ⟨dt.toArray⟩] 82)).heap.size = w6.heap.size + 1 := Array.size_push ..
        have hy : ∀ (j : Nat) (q9 : Value), (evc (id, kd, tk, rf, sp, ty, ud, dt))[j]? = some q9 → ((w6.alloc (.cells #[.int .i64 id, .int .i64 kd, .int .i64 tk, .int .i64 rf, .int .i64 sp, .int .i64 ty, .bool ud, .string ⟨dt.toArray⟩] 82)).alloc (.cells #[.int .i64 id, .int .i64 kd, .int .i64 tk, .int .i64 rf, .int .i64 sp, .int .i64 ty, .bool ud, .string ⟨dt.toArray⟩] 82)).cell? ⟨(w6.heap.size + 1), j, none⟩ = some q9 := by
          intro j u hu
          refine (World.cell?_alloc_at _ _ _ _ sW.symm).trans ?_
          rw [← hu]
          exact List.getElem?_toArray
        have hB9 : w.heap.size ≤ ((w6.alloc (.cells #[.int .i64 id, .int .i64 kd, .int .i64 tk, .int .i64 rf, .int .i64 sp, .int .i64 ty, .bool ud, .string ⟨dt.toArray⟩] 82)).alloc (.cells #[.int .i64 id, .int .i64 kd, .int .i64 tk, .int .i64 rf, .int .i64 sp, .int .i64 ty, .bool ud, .string ⟨dt.toArray⟩] 82)).heap.size := bb.size
        clear sW hr6 ho6
        go_wp2_with ((at_builtin; go_must (refine wpList_append_row _ rfl _ _ 31 rfl evc 8 (by decide) evc_len evc_one w.heap.size 82 (.agg #[.int .i64 0, .int .i64 0, .int .i64 0, .int .i64 0, .int .i64 0, .int .i64 0, .bool false, .string .empty]) 72 Try.underlying31 hinfo rfl _ k xs rfl oZ (w6.heap.size + 1) 1 rfl ((id, kd, tk, rf, sp, ty, ud, dt) : Ev) hy (by omega) (by omega) hB9 ?_)))
        intro a' c' w' hown hgrow
        have rZ' := obj_grown oZ hgrow rZ (by decide)
        have bZ' := below_grown bb oZ hgrow (Nat.le_refl _)
        clear hy bW bZ oZ rZ bb hB9
        go_wp2_with fail
        go_roundw
        case rel =>
          refine ⟨k + 1, xs ++ [(id, kd, tk, rf, sp, ty, ud, dt)], r', b', by omega, by go_num, rZ', by omega, (by simpa using hown), ?_, by simp [hxl], ?_, bZ'⟩
          · intro x hx
            rcases List.mem_append.1 hx with h | h
            · exact hfit x h
            · simp at h; rw [h]; simp only [Ev.dt]; omega
          · rw [HM.out, Option.map_map]
            congr 1
            funext y
            simp
        case measure => simp [intOf]; omega
      · have hun' := HN.out
        rw [HSK.out, unG_none (s := (r, b)) (by rw [htx]; exact g1)] at hun'
        have HF : Hid (unF l = none) := hid (by rw [HU.out, hun']; rfl)
        clear hun' g1 HN htx hr6 ho6 hwr
        go_wp2_with fail
        go_ret2
        exact ⟨_, [], 60, rfl, Sl.none _ _, (by intro x hx; cases hx), hb6.alloc hb6.size _, .inr ⟨HF.out, rfl, rfl⟩⟩
    · obtain rfl : k = N := by omega
      have hun' := hun
      rw [Nat.sub_self] at hun'
      have hfin : unF l = if endF r b = true then some xs else none := by
        rw [HU.out, hun']
        simp [unG]
      have HF := hid hfin
      have hsl := Sl.of_own ho (by omega)
      rw [← hxl] at hsl
      clear hun hun' hfin
      go_wp2_with fail
      refine (end_any g r b wr hr).mono ?_
      rintro _ w9 ⟨rfl, hw9⟩
      rw [hw9]
      clear hw9 w9
      cases he : endF r b
      · have HE := hid he
        clear he
        go_wp2_with fail
        go_ret2
        exact ⟨_, [], 60, rfl, Sl.none _ _, (by intro x hx; cases hx), hb, .inr ⟨by rw [HF.out, HE.out]; rfl, rfl, rfl⟩⟩
      · have HE := hid he
        clear he
        go_wp2_with fail
        go_ret2
        exact ⟨_, xs, 0, rfl, by rw [← hxl]; exact hsl, hfit, hb, .inl ⟨by rw [HF.out, HE.out]; rfl, rfl⟩⟩
end Go.Proofs.Ytelacmchofehcaa
