/- CONTRACT of the reference: can. CONTRACT of the reference: Comes. CONTRACT of the reference: State. CONTRACT of the reference: Build. CONTRACT of the reference: Same, at two states that are the same. -/
import Derived.Test.YtdoblbiodpcjdaaSmR
import Derived.Deep.RegionHeld3
import Derived.Deep.DeepCutAuto
import Derived.Deep.QuietTactic
import Derived.BigQuiet
import Derived.IntWalk
import Derived.Test.YtdoblbiodpcjdaaEvtRight
import Derived.Test.YtdoblbiodpcjdaaSmT
import Derived.Test.YtdoblbiodpcjdaaPgmSame
namespace Go.Proofs.Ytdoblbiodpcjdaa
open Go.RowKit
set_option linter.unusedVariables false
set_option linter.unusedSimpArgs false
theorem Hs.beg {l : List Ev} (h : Hs l) (hne : l ≠ []) : (0 ≤ beganL l ∧ beganL l ≤ 1099511627776) ∧ 0 ≤ (prgL l).1 ∧ (prgL l).1 ≤ 16000 := by
 refine ⟨?_, (h.prog hne).2.1⟩
 cases l with
 | nil => exact absurd rfl hne
 | cons x r => exact h.tick (List.mem_cons_self ..)
theorem cell_lt {w : World} {g j : Nat} {v : Value} (h : w.cell? ⟨g, j, none⟩ = some v) : g < w.heap.size := by
 apply Classical.byContradiction
 intro hn
 have : w.heap[g]? = none := Array.getElem?_eq_none (by omega)
 simp [World.cell?, this] at h
theorem Sl.take {w : World} {a : Option Addr} {c k : Nat} {l : List Ev} (h : Sl w (.slice a l.length c) 8 l.length (l.flatMap evc)) (hk : k ≤ l.length) : Sl w (.slice a k c) 8 k ((l.take k).flatMap evc) := by
 obtain ⟨h1, ⟨h2, h3⟩, a', cap, hv, hc⟩ := h
 rw [Value.slice.injEq] at hv
 obtain ⟨rfl, -, rfl⟩ := hv
 have hl : ∀ m : List Ev, (m.flatMap evc).length = m.length * 8 := fun m => length_flatMap_const evc_len m
 refine ⟨by rw [hl, List.length_take, Nat.min_eq_left hk], ⟨Nat.le_trans hk h2, fun n c e => by rw [Value.slice.injEq] at e; obtain ⟨rfl, -, rfl⟩ := e; exact h3 _ _ rfl⟩, a, c, rfl, ?_⟩
 by_cases hz : k = 0
 · exact .inl hz
 · obtain ⟨b, off, rfl, hb, hcc⟩ := hc.resolve_left (by omega)
   refine .inr ⟨b, off, rfl, hb, fun j hj => ?_⟩
   have hj2 : j < (l.flatMap evc).length := by rw [hl] at hj ⊢; rw [List.length_take] at hj; omega
   rw [hcc j hj2]
   congr 1
   have e : l.flatMap evc = (l.take k).flatMap evc ++ (l.drop k).flatMap evc := by rw [← List.flatMap_append, List.take_append_drop]
   simp only [e]
   rw [List.getElem_append_left hj]
theorem rbuild_go {l : List Ev} {k : Nat} (hlt : k < l.length) : firstBad (l.take k) (l.drop k) = if comesF (l.take k) l[k] ≠ 0 then some (k, comesF (l.take k) l[k]) else firstBad (l.take (k + 1)) (l.drop (k + 1)) := by
 rw [List.drop_eq_getElem_cons hlt, take_snoc hlt]
 simp only [firstBad]
 rw [List.length_take, Nat.min_eq_left (by omega)]
theorem results_ctt {fn : Func} {p t u : Tmp} {ty : TypeId} (h : fn.results = #[.cell p ty, .tmp t, .tmp u]) (tmps : Array Value) (P : Program) (w : World) :
   (results fn tmps).run P w = ((asAddr (tmps.getD p undef)).run P w).andThen fun a w₁ => ((loadVar ty a).run P w₁).andThen fun v w₂ => .ok (.tuple #[v, tmps.getD t undef, tmps.getD u undef]) w₂ := by
 simp only [results, h]
 simp [Sem.run_bind, Result.andThen]
end Go.Proofs.Ytdoblbiodpcjdaa
