/- WALK of StateBuilds. -/
import Derived.Test.YtckpfcocbjfcbaaSmD
import Derived.Test.YtckpfcocbjfcbaaSmS
namespace Go.Proofs.Ytckpfcocbjfcbaa
open Go.RowKit
set_option linter.unusedVariables false
set_option linter.unusedSimpArgs false

set_option maxHeartbeats 32000000 in
set_option maxRecDepth 100000 in
theorem stateBuilds_w (a : Option Addr) (c : Nat) (l : List Ev) (w : World) (hs : Sl w (.slice a l.length c) 8 l.length (l.flatMap evc)) (hcap : l.length ≤ c) (hfit : FitE l) :
    Calls Try.prog 6 #[.slice a l.length c] w fun e w' => e = .returned (.bool true) ∧ Below w.heap.size w w' := by
  have hm : l.length ≤ 9223372036854775807 := hs.2.1.1
  by_cases h60 : l.length ≤ 60
  case neg =>
    have h60' : (60 : Int) < (l.length : Int) := by omega
    go_enter Try.func6, Try.ntmps6
    go_wp2_with fail
    refine (awake_any w).mono ?_
    rintro _ w1 ⟨rfl, b1⟩
    go_wp2_with fail
    go_ret
    exact ⟨rfl, b1⟩
  have h60' : (l.length : Int) ≤ 60 := by omega
  go_enter Try.func6, Try.ntmps6
  go_wp2_with fail
  refine (awake_any w).mono ?_
  rintro _ w1 ⟨rfl, b1⟩
  have hs1 := hs.below b1
  go_wp2_with fail
  refine (build_any a c l w1 hs1 hfit).mono ?_
  rintro _ w2 ⟨va, ua, ca, vc, uc, cc, rfl, hst, b2⟩
  have hs2 := hs1.below b2
  obtain ⟨⟨s, i, e⟩, hr⟩ : ∃ x, rbuildF l = x := ⟨_, rfl⟩
  have HRB := hid hr
  rw [hr] at hst ⊢
  simp only at hst ⊢
  obtain ⟨ss, lim, st, nx, bg, ak, tn, fr, js, cs, cn, ov⟩ := s
  rw [show staV ⟨ss, lim, st, nx, bg, ak, tn, fr, js, cs, cn, ov⟩ (.slice va (⟨ss, lim, st, nx, bg, ak, tn, fr, js, cs, cn, ov⟩ : Sta).ss.length vc) (.slice ua (⟨ss, lim, st, nx, bg, ak, tn, fr, js, cs, cn, ov⟩ : Sta).jobs.length uc) (.slice ca (⟨ss, lim, st, nx, bg, ak, tn, fr, js, cs, cn, ov⟩ : Sta).clocks.length cc) = .agg #[.slice va ss.length vc, .int .i64 lim, .int .i64 st, .int .i64 nx, .int .i64 bg, .int .i64 ak, .int .i64 tn, .bool fr, .slice ua js.length uc, .slice ca cs.length cc, .bool cn, .bool ov] from rfl]
  have b3 : Below w2.heap.size w2 (w2.alloc (.cells #[.slice va ss.length vc, .int .i64 lim, .int .i64 st, .int .i64 nx, .int .i64 bg, .int .i64 ak, .int .i64 tn, .bool fr, .slice ua js.length uc, .slice ca cs.length cc, .bool cn, .bool ov] 36)) := (Below.refl _ _).alloc (Nat.le_refl _) _
  have hx : (w2.alloc (.cells #[.slice va ss.length vc, .int .i64 lim, .int .i64 st, .int .i64 nx, .int .i64 bg, .int .i64 ak, .int .i64 tn, .bool fr, .slice ua js.length uc, .slice ca cs.length cc, .bool cn, .bool ov] 36)).heap[w2.heap.size]? = some (.cells #[.slice va ss.length vc, .int .i64 lim, .int .i64 st, .int .i64 nx, .int .i64 bg, .int .i64 ak, .int .i64 tn, .bool fr, .slice ua js.length uc, .slice ca cs.length cc, .bool cn, .bool ov] 36 (0, 0)) := heap_alloc_new w2 _
  have hs3 := hs2.below b3
  have hst3 := hst.new b3
  have b123 := bnext (bnext b1 b2) b3
  clear hr hs hs1 hs2 b1 b2 b3 hst
  go_wp2_with fail
  refine (rbuild_any a c l _ hs3 hcap hfit).mono ?_
  rintro _ w3 ⟨va', ua', ca', vc', uc', cc', rfl, hrt, b4⟩
  rw [HRB.out] at hrt ⊢
  simp only at hrt ⊢
  rw [show staV ⟨ss, lim, st, nx, bg, ak, tn, fr, js, cs, cn, ov⟩ (.slice va' (⟨ss, lim, st, nx, bg, ak, tn, fr, js, cs, cn, ov⟩ : Sta).ss.length vc') (.slice ua' (⟨ss, lim, st, nx, bg, ak, tn, fr, js, cs, cn, ov⟩ : Sta).jobs.length uc') (.slice ca' (⟨ss, lim, st, nx, bg, ak, tn, fr, js, cs, cn, ov⟩ : Sta).clocks.length cc') = .agg #[.slice va' ss.length vc', .int .i64 lim, .int .i64 st, .int .i64 nx, .int .i64 bg, .int .i64 ak, .int .i64 tn, .bool fr, .slice ua' js.length uc', .slice ca' cs.length cc', .bool cn, .bool ov] from rfl]
  have b5 : Below w3.heap.size w3 (w3.alloc (.cells #[.slice va' ss.length vc', .int .i64 lim, .int .i64 st, .int .i64 nx, .int .i64 bg, .int .i64 ak, .int .i64 tn, .bool fr, .slice ua' js.length uc', .slice ca' cs.length cc', .bool cn, .bool ov] 36)) := (Below.refl _ _).alloc (Nat.le_refl _) _
  have hx5 := (b5.block _ (Array.getElem?_eq_some_iff.1 ((b4.block _ (Array.getElem?_eq_some_iff.1 hx).1).trans hx)).1).trans ((b4.block _ (Array.getElem?_eq_some_iff.1 hx).1).trans hx)
  have hr1 := ((hst3.new b4).new b5).read
  have hr2 := hrt.below b5
  have b15 := bnext (bnext b123 b4) b5
  have x0 : (w3.alloc (.cells #[.slice va' ss.length vc', .int .i64 lim, .int .i64 st, .int .i64 nx, .int .i64 bg, .int .i64 ak, .int .i64 tn, .bool fr, .slice ua' js.length uc', .slice ca' cs.length cc', .bool cn, .bool ov] 36)).cell? ⟨w2.heap.size, 0, none⟩ = some (.slice va ss.length vc) := by rw [cell_of_row _ _ 0 _ _ (0, 0) hx5]; rfl
  have x1 : (w3.alloc (.cells #[.slice va' ss.length vc', .int .i64 lim, .int .i64 st, .int .i64 nx, .int .i64 bg, .int .i64 ak, .int .i64 tn, .bool fr, .slice ua' js.length uc', .slice ca' cs.length cc', .bool cn, .bool ov] 36)).cell? ⟨w2.heap.size, 1, none⟩ = some (.int .i64 lim) := by rw [cell_of_row _ _ 1 _ _ (0, 0) hx5]; rfl
  have x2 : (w3.alloc (.cells #[.slice va' ss.length vc', .int .i64 lim, .int .i64 st, .int .i64 nx, .int .i64 bg, .int .i64 ak, .int .i64 tn, .bool fr, .slice ua' js.length uc', .slice ca' cs.length cc', .bool cn, .bool ov] 36)).cell? ⟨w2.heap.size, 2, none⟩ = some (.int .i64 st) := by rw [cell_of_row _ _ 2 _ _ (0, 0) hx5]; rfl
  have x3 : (w3.alloc (.cells #[.slice va' ss.length vc', .int .i64 lim, .int .i64 st, .int .i64 nx, .int .i64 bg, .int .i64 ak, .int .i64 tn, .bool fr, .slice ua' js.length uc', .slice ca' cs.length cc', .bool cn, .bool ov] 36)).cell? ⟨w2.heap.size, 3, none⟩ = some (.int .i64 nx) := by rw [cell_of_row _ _ 3 _ _ (0, 0) hx5]; rfl
  have x4 : (w3.alloc (.cells #[.slice va' ss.length vc', .int .i64 lim, .int .i64 st, .int .i64 nx, .int .i64 bg, .int .i64 ak, .int .i64 tn, .bool fr, .slice ua' js.length uc', .slice ca' cs.length cc', .bool cn, .bool ov] 36)).cell? ⟨w2.heap.size, 4, none⟩ = some (.int .i64 bg) := by rw [cell_of_row _ _ 4 _ _ (0, 0) hx5]; rfl
  have x5 : (w3.alloc (.cells #[.slice va' ss.length vc', .int .i64 lim, .int .i64 st, .int .i64 nx, .int .i64 bg, .int .i64 ak, .int .i64 tn, .bool fr, .slice ua' js.length uc', .slice ca' cs.length cc', .bool cn, .bool ov] 36)).cell? ⟨w2.heap.size, 5, none⟩ = some (.int .i64 ak) := by rw [cell_of_row _ _ 5 _ _ (0, 0) hx5]; rfl
  have x6 : (w3.alloc (.cells #[.slice va' ss.length vc', .int .i64 lim, .int .i64 st, .int .i64 nx, .int .i64 bg, .int .i64 ak, .int .i64 tn, .bool fr, .slice ua' js.length uc', .slice ca' cs.length cc', .bool cn, .bool ov] 36)).cell? ⟨w2.heap.size, 6, none⟩ = some (.int .i64 tn) := by rw [cell_of_row _ _ 6 _ _ (0, 0) hx5]; rfl
  have x7 : (w3.alloc (.cells #[.slice va' ss.length vc', .int .i64 lim, .int .i64 st, .int .i64 nx, .int .i64 bg, .int .i64 ak, .int .i64 tn, .bool fr, .slice ua' js.length uc', .slice ca' cs.length cc', .bool cn, .bool ov] 36)).cell? ⟨w2.heap.size, 7, none⟩ = some (.bool fr) := by rw [cell_of_row _ _ 7 _ _ (0, 0) hx5]; rfl
  have x8 : (w3.alloc (.cells #[.slice va' ss.length vc', .int .i64 lim, .int .i64 st, .int .i64 nx, .int .i64 bg, .int .i64 ak, .int .i64 tn, .bool fr, .slice ua' js.length uc', .slice ca' cs.length cc', .bool cn, .bool ov] 36)).cell? ⟨w2.heap.size, 8, none⟩ = some (.slice ua js.length uc) := by rw [cell_of_row _ _ 8 _ _ (0, 0) hx5]; rfl
  have x9 : (w3.alloc (.cells #[.slice va' ss.length vc', .int .i64 lim, .int .i64 st, .int .i64 nx, .int .i64 bg, .int .i64 ak, .int .i64 tn, .bool fr, .slice ua' js.length uc', .slice ca' cs.length cc', .bool cn, .bool ov] 36)).cell? ⟨w2.heap.size, 9, none⟩ = some (.slice ca cs.length cc) := by rw [cell_of_row _ _ 9 _ _ (0, 0) hx5]; rfl
  have x10 : (w3.alloc (.cells #[.slice va' ss.length vc', .int .i64 lim, .int .i64 st, .int .i64 nx, .int .i64 bg, .int .i64 ak, .int .i64 tn, .bool fr, .slice ua' js.length uc', .slice ca' cs.length cc', .bool cn, .bool ov] 36)).cell? ⟨w2.heap.size, 10, none⟩ = some (.bool cn) := by rw [cell_of_row _ _ 10 _ _ (0, 0) hx5]; rfl
  have x11 : (w3.alloc (.cells #[.slice va' ss.length vc', .int .i64 lim, .int .i64 st, .int .i64 nx, .int .i64 bg, .int .i64 ak, .int .i64 tn, .bool fr, .slice ua' js.length uc', .slice ca' cs.length cc', .bool cn, .bool ov] 36)).cell? ⟨w2.heap.size, 11, none⟩ = some (.bool ov) := by rw [cell_of_row _ _ 11 _ _ (0, 0) hx5]; rfl
  clear hx hs3 hst3 b123 hrt b4 b5 hx5
  go_wp2_with fail
  refine (rsame_yes ss lim st nx bg ak tn fr js cs cn ov va ua ca va' ua' ca' vc uc cc vc' uc' cc' _ hr1 hr2).mono ?_
  rintro _ w6 ⟨rfl, b6⟩
  have HB := hid (bnext b15 b6)
  have q1 : (i == i) = true := by simp
  have q2 : (e == e) = true := by simp
  clear hr1 hr2 b15 b6
  go_wp2_with fail
  go_ret
  exact ⟨by first | rfl | simp, HB.out⟩
theorem stateBuilds_v (v : Value) (a : Option Addr) (c : Nat) (l : List Ev) (w : World) (hv : v = .slice a l.length c) (hs : Sl w v 8 l.length (l.flatMap evc)) (hcap : l.length ≤ c) (hfit : FitE l) : Calls Try.prog 6 #[v] w fun e w' => e = .returned (.bool true) ∧ Below w.heap.size w w' := by
  subst hv
  exact stateBuilds_w a c l w hs hcap hfit
end Go.Proofs.Ytckpfcocbjfcbaa
