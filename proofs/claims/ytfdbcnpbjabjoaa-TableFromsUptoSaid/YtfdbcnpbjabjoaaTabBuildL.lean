/- CONTRACT: table.Build at whatever list. -/
import Derived.Test.YtfdbcnpbjabjoaaTabBuild
namespace Go.Proofs.Ytfdbcnpbjabjoaa
open Go.RowKit Go.Shelf
set_option linter.unusedVariables false
set_option linter.unusedSimpArgs false

set_option maxHeartbeats 1600000 in
set_option maxRecDepth 100000 in
theorem tbuild_nil (a : Option Addr) (c : Nat) (w : World) : Calls Try.prog 22 #[.slice a 0 c] w fun e w' => e = .returned (.tuple #[.string ⟨#[]⟩, .int .i64 1]) ∧ Below w.heap.size w w' := by
  go_enter Try.func22, Try.ntmps22
  go_wp2_with fail
  go_ret2
  exact ⟨rfl, Below.refl _ _⟩
theorem tbuild_any (l : List Pr) (v0 : Value) (hl : l.length ≤ 1048576) (hbk : ∀ p ∈ l, p.1.length ≤ 1048576 ∧ p.2.1.length ≤ 1048576) (w : World) (h0 : Sl w v0 3 l.length (l.flatMap prC)) (hcap : ∀ a n c, v0 = .slice a n c → n ≤ c) :
    Calls Try.prog 22 #[v0] w fun e w' => e = .returned (.tuple #[.string ⟨(buildF l).1.toArray⟩, .int .i64 (buildF l).2]) ∧ Below w.heap.size w w' := by
  by_cases h : l = []
  · subst h
    obtain ⟨-, -, a', cap, rfl, -⟩ := h0
    have hb : buildF [] = ([], 1) := by unfold buildF; rw [if_pos rfl]
    rw [hb]
    exact tbuild_nil a' cap w
  · exact callsIn_wide.1 (tbuild_in l v0 hl hbk w h0 hcap h)
end Go.Proofs.Ytfdbcnpbjabjoaa
