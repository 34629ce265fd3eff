/- CONTRACT: wherrylaw12.awake. -/
import Derived.Test.YtfkahaclaphflaaPgmDec
namespace Go.Proofs.Ytfkahaclaphflaa
open Go.RowKit
set_option linter.unusedVariables false

def awSt : St := (1, [97], [], 1, 0, 0)
theorem aw_right : RightP awSt := .inl ⟨rfl, .inl ⟨rfl, rfl⟩, ⟨by decide, by decide, by decide⟩, by decide, rfl⟩
theorem aw_prog : ProgP 0 [awSt] := ⟨by decide, by decide, fun x hx => by
  simp only [List.mem_cons, List.not_mem_nil, or_false] at hx
  rw [hx]; exact aw_right⟩
theorem putL_0 : putL 0 = [0] := by rw [putL_lt (by decide)]; rfl
theorem putL_1 : putL 1 = [1] := by rw [putL_lt (by decide)]; rfl
theorem aw_enc : encP 0 [awSt] = [0, 1, 1, 1, 97, 1, 0, 0] := by
  unfold encP awSt
  simp only [List.flatMap_cons, List.flatMap_nil, List.length_cons, List.length_nil, List.append_nil]
  unfold encS textL
  simp only [St.kd, St.nm, St.un, St.tr, St.ut, List.length_cons, List.length_nil, if_true]
  rw [show (0 : Int).toNat = 0 from rfl, show (1 : Int).toNat = 1 from rfl, putL_0, show 0 + 1 = 1 from rfl, putL_1]
  rfl
set_option maxHeartbeats 1600000 in
set_option maxRecDepth 100000 in
theorem pawake_any (w : World) : Calls Try.prog 14 #[] w fun e w' => e = .returned (.bool true) ∧ Below w.heap.size w w' := by
  go_enter Try.func14, Try.ntmps14
  go_wp2_with fail
  obtain ⟨W, hW⟩ : ∃ W, W = w.alloc (.cells #[.int .i64 1, .string ⟨#[97]⟩, .string ⟨#[]⟩, .int .i64 1, .int .i64 0, .int .i64 0] 40) := ⟨_, rfl⟩
  rw [← hW]
  have b0 : Below w.heap.size w W := by rw [hW]; exact (Below.refl _ _).alloc (Nat.le_refl _) _
  have hC : W.heap[w.heap.size]? = some (.cells #[.int .i64 1, .string ⟨#[97]⟩, .string ⟨#[]⟩, .int .i64 1, .int .i64 0, .int .i64 0] 40 (0, 0)) := by rw [hW]; exact heap_alloc_new w _
  have hsl : Sl W (.slice (some ⟨w.heap.size, 0, none⟩) 1 1) 6 [awSt].length ([awSt].flatMap stC) := by
    refine ⟨rfl, ⟨by decide, fun _ _ h => by simp at h⟩, _, _, rfl, .inr ⟨w.heap.size, 0, rfl, (Array.getElem?_eq_some_iff.1 hC).1, fun j hj => ?_⟩⟩
    rw [Nat.zero_add, cell_of_row W _ j _ _ (0, 0) hC]
    have : #[Value.int .i64 1, .string ⟨#[97]⟩, .string ⟨#[]⟩, .int .i64 1, .int .i64 0, .int .i64 0] = ([awSt].flatMap stC).toArray := rfl
    rw [this, List.getElem?_toArray, List.getElem?_eq_getElem hj]
  have hfit : Fit [awSt] := fun x hx => by
    simp only [List.mem_cons, List.not_mem_nil, or_false] at hx
    rw [hx]; exact ⟨by decide, by decide⟩
  have c1 := encode_any _ 0 [awSt] W hsl hfit
  rw [show encV 0 [awSt] = [0, 1, 1, 1, 97, 1, 0, 0] by unfold encV; rw [if_pos aw_prog, aw_enc], show chkV 0 [awSt] = 0 by unfold chkV; rw [if_pos aw_prog]] at c1
  clear hW hC hsl hfit
  refine c1.mono ?_
  rintro _ w1 ⟨rfl, b1⟩
  have b1' := bnext b0 b1
  have hd := decode_any [0, 1, 1, 1, 97, 1, 0, 0] (by decide) w1
  have hpf : progF [0, 1, 1, 1, 97, 1, 0, 0] = some (0, [awSt]) := progF_iff.2 ⟨aw_prog, aw_enc.symm⟩
  have HPF := hid hpf
  clear hpf c1 b0 b1
  go_wp2_with fail
  refine hd.mono ?_
  rintro _ w2 ⟨v, lim, ss, er, rfl, hsl, b2, hres⟩
  rw [HPF.out] at hres
  rcases hres with ⟨h1, rfl⟩ | ⟨h1, _⟩
  · cases h1
    obtain ⟨_, _, a, cap, rfl, _⟩ := hsl
    have hc := check_any (.slice none 0 0) (-1) []
    have b2' := bnext b1' b2
    clear hd b2 b1'
    go_wp2_with fail
    refine (hc _ (Sl.none _ _) (fun x hx => by cases hx)).mono ?_
    rintro _ w3 ⟨rfl, b3⟩
    rw [show chkV (-1) [] = 130 by unfold chkV; rw [if_neg (fun h => absurd h.2.1.1 (by decide))]]
    have b3' := bnext (b2'.alloc b2'.size _) b3
    go_wp2_with fail
    go_ret
    exact ⟨rfl, b3'⟩
  · cases h1
end Go.Proofs.Ytfkahaclaphflaa
