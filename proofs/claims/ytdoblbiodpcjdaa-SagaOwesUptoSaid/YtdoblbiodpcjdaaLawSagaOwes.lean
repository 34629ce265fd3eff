/- SagaOwes: for every input of bulk at most 1048576 the call returns true, and what came in reads as it did. No other condition. -/
import Derived.Test.YtdoblbiodpcjdaaRows
import Derived.Test.YtdoblbiodpcjdaaFrames
import Derived.Test.YtdoblbiodpcjdaaSnLaw4
import Derived.ProofKit
import Derived.OpenShut
import Derived.ShutString
import Derived.SizedLaws
import Derived.Deep.CondSized
import Derived.JoinedCond
namespace Go.Proofs.Ytdoblbiodpcjdaa.lawSagaOwes
open Go.ChangeShapes Go.WideShapes Go.ChangeAt Go.RowKit
open Go.ChangeMaps (open_string shut_string)
set_option linter.unusedVariables false
theorem own : ownKnob Try.prog.godebug = none := by kernel_rfl
theorem laidOutP : laidOutB Try.prog = true := by kernel_rfl
set_option maxRecDepth 100000 in
theorem contract (H : Type) (enc : TypeId × Value → H) (W : World) (base : Nat) (args : Array Value) (ds gs : List (DataW H)) (before : List MemPlace)
   (hval0 : ∀ (j : Nat) t v, Try.f11.params[j]? = some t → args[j]? = some v → Value.okWide Try.prog W .any base t v)
   (hW : DataW.Whole enc Try.prog Try.f11.params.toList Rows.sagaOwesSpec.vars false W args.toList ds gs before) (hk : Rows.uptoSmall H (ds ++ gs) = true)
   (hsz0 : (DataW.weightsEach Try.prog (Try.f11.params.toList ++ []) (ds ++ gs)).all (· ≤ reachBytes) = true) :
   Calls Try.prog 11 args W fun e W' => ∃ v, e = .returned v ∧ Rows.sagaOwesSpec.post enc Try.prog Try.f11 false true false false W args v W' := by
 have hval : ∀ (j : Nat) t v, Try.f11.params[j]? = some t → args[j]? = some v → Value.okWide Try.prog W .any base t v := hval0
 have hsz : (DataW.weightsEach Try.prog (Try.f11.params.toList ++ []) (ds ++ gs)).all (· ≤ reachBytes) = true := hsz0
 have hW' := hW
 obtain ⟨p, q, hA0, hV, rfl, hfz, hnd⟩ := hW
 have hA : DataW.TrodAll enc Try.prog W 0 (fun _ => true) true Try.f11.params.toList args.toList ds p := hA0
 rw [Try.params11] at hA hval hsz
 obtain ⟨v0, vs0, d0, ds0, p0, q0, hargs, rfl, rfl, h0, r0'⟩ := trodAll_cons hA
 obtain ⟨v1, vs1, d1, ds1, p1, q1, rfl, rfl, rfl, h1, r1'⟩ := trodAll_cons r0'
 obtain ⟨v2, vs2, d2, ds2, p2, q2, rfl, rfl, rfl, h2, r2'⟩ := trodAll_cons r1'
 obtain ⟨rfl, rfl, rfl⟩ := trodAll_nil r2'
 obtain rfl : args = #[v0, v1, v2] := by cases args; simp_all
 obtain ⟨rfl, rfl⟩ := trodVars_none hV
 have k0 := h0
 have lt0 : ∀ x ∈ p0, x.block < W.heap.size := by obtain ⟨m, hm⟩ := k0; exact DataW.trod_lt m _ _ _ hm
 obtain ⟨va0, vc0, lm0, ss0, hv0, g0s⟩ := open_progT (hval 0 32 v0 rfl rfl) h0
 have k1 := h1
 have lt1 : ∀ x ∈ p1, x.block < W.heap.size := by obtain ⟨m, hm⟩ := k1; exact DataW.trod_lt m _ _ _ hm
 obtain ⟨z1, aa1, cc1, hv1, g1s, sz1, bk1⟩ := open_ints hsz (j := 1) rfl rfl (hval 1 54 v1 rfl rfl) h1
 have k2 := h2
 have lt2 : ∀ x ∈ p2, x.block < W.heap.size := by obtain ⟨m, hm⟩ := k2; exact DataW.trod_lt m _ _ _ hm
 obtain ⟨z2, aa2, cc2, hv2, g2s, sz2, bk2⟩ := open_ints hsz (j := 2) rfl rfl (hval 2 54 v2 rfl rfl) h2
 clear hA0 hval0 hsz0
 have hk' : Rows.uptoBulkAll [d0, d1, d2] ≤ 1048576 := of_decide_eq_true hk
 simp only [Rows.uptoBulkAll] at hk'
 have hwalk := sagaOwes_v v0 va0 vc0 lm0 ss0 v1 z1 aa1 cc1 v2 z2 aa2 cc2 W hv0 g0s hv1 g1s hv2 g2s (by omega) (by omega)
 refine hwalk.mono fun e W' ⟨he, bel⟩ => ?_
 subst he
 exact ⟨_, rfl, _, _, _, [], _, [], hW', trodAll_mk1 (shut_bool Try.underlying4 _), (trodAll_cons_mk (Below.trod laidOutP (by kernel_rfl) (of_decide_eq_true (by kernel_rfl)) k0 bel lt0) (trodAll_cons_mk (Below.trod laidOutP (by kernel_rfl) (of_decide_eq_true (by kernel_rfl)) k1 bel lt1) (trodAll_cons_mk (Below.trod laidOutP (by kernel_rfl) (of_decide_eq_true (by kernel_rfl)) k2 bel lt2) trodAll_mk0))), rfl, bel.frame _, fun h => by cases h⟩
set_option maxRecDepth 100000 in
theorem lifted (os : Os) (started : os.Started) (H : Type) (enc : TypeId × Value → H) (F : Stop.Interp) :
   ReturnsInHanded {} Try.checked os 11 .any ((Rows.OpenSpec.upto Rows.sagaOwesSpec).pre6 enc Try.prog Try.f11 Rows.sagaOwesUptoRow.domain false) (((Rows.OpenSpec.upto Rows.sagaOwesSpec).at F).post enc Try.prog Try.f11 false true false false) := by
 refine returnsInHanded_of_cond_sized (C := Try.checked) (s := Rows.OpenSpec.upto Rows.sagaOwesSpec) (k := Rows.uptoSmall) rfl own started (by kernel_rfl) Try.func11
   (OpenSpec.witness (enc := enc) (C := Try.checked) (s := Rows.OpenSpec.upto Rows.sagaOwesSpec) (k := Rows.uptoSmall) rfl false ⟨#[], #[.agg #[.slice none 0 0, .int .i64 0], .slice none 0 0, .slice none 0 0], []⟩ 8 (by kernel_rfl) (by kernel_rfl) (by kernel_rfl)
     (x := ([.agg [.nil, .lit (.int .i64 0)], .nil, .nil], [], [])) (by kernel_rfl) rfl (by kernel_rfl)) ?_
 intro W base args ds gs before hval hW _ hk hsz _
 exact contract H enc W base args ds gs before hval hW hk hsz
theorem proved : Rows.SagaOwesUptoSaid :=
 OpenClaim.holds_of_cond 11 Try.f11 rfl rfl rfl rfl rfl rfl rfl ⟨rfl, rfl, rfl, rfl, rfl⟩ rfl rfl rfl rfl rfl (by kernel_rfl) Try.func11 (by kernel_rfl)
   (of_decide_eq_true (by kernel_rfl)) (by unfold Func.isWrapper; first | (rw [if_pos (by decide +kernel)]; kernel_rfl) | (rw [if_neg (by decide +kernel)]; exact ⟨rfl, rfl⟩))
   (fun os started H enc _ F => lifted os started H enc F)
#print axioms proved
end Go.Proofs.Ytdoblbiodpcjdaa.lawSagaOwes
