/- CONTRACT: a block's pairs, of the reference. PLAIN: the reference's Open, block by block. -/
import Derived.Test.YtfdbcnpbjabjoaaTabPairs
import Derived.Deep.RegionHeld3
import Derived.Test.YtfdbcnpbjabjoaaTabR
namespace Go.Proofs.Ytfdbcnpbjabjoaa
open Go.RowKit
set_option linter.unusedVariables false
set_option linter.unusedSimpArgs false

theorem takeF_zero (r : List UInt8) (b : Bool) : takeF r b 0 = ([], r, b) := by
  cases b with
  | true => rfl
  | false => exact takeF_ok (m := 0) (Nat.zero_le _)
/-- the pairs of a block that may be -/
def okP (s : List UInt8) : Option (List Pr) :=
  match pairsL s with
  | some l => if l ≠ [] ∧ l.length ≤ 8 then some l else none
  | none => none
def RPairsPost (o : Option (List Pr)) (B : Nat) (e : Ending) (w' : World) : Prop :=
  match o with
  | some l => ∃ v, e = .returned (.tuple #[v, .bool true]) ∧ w'.ownsRow B 70 3 v l.length (l.flatMap prC)
  | none => ∃ v, e = .returned (.tuple #[v, .bool false])
theorem okP_none {s : List UInt8} (h : pairsL s = none) : okP s = none := by unfold okP; rw [h]
theorem okP_long {s r : List UInt8} {acc : List Pr} (h : pairsL s = (pairsL r).map (acc ++ ·)) (h8 : 8 < acc.length) : okP s = none := by
  unfold okP
  rw [h]
  cases pairsL r with
  | none => rfl
  | some l => simp only [Option.map_some]; rw [if_neg]; rintro ⟨-, q⟩; rw [List.length_append] at q; omega
set_option maxHeartbeats 6400000 in
set_option maxRecDepth 100000 in
theorem rpairs_any (s : List UInt8) (hs : s.length ≤ 1048576) (w : World) : Calls Try.prog 58 #[.string ⟨s.toArray⟩] w fun e w' => RPairsPost (okP s) w.heap.size e w' ∧ Below w.heap.size w w' := by
  obtain ⟨w1, hw1⟩ : ∃ x, x = w.alloc (.cells #[.string ⟨s.toArray⟩, .bool false] 121) := ⟨_, rfl⟩
  have hr1 : RRdr w1 w.heap.size s false := by rw [hw1]; exact Obj2.new _ _ _ _
  have hb1 : Below w.heap.size w w1 := by rw [hw1]; exact (Below.refl _ _).alloc (Nat.le_refl _) _
  have HW1 := hid hw1
  clear hw1
  go_enter Try.func58, Try.ntmps58
  go_wp2_with (rw [← HW1.out])
  go_loopg [5] s.length (fun kx v wr => ∃ (r : List UInt8) (acc : List Pr), RRdr wr w.heap.size r false ∧ pairsL s = (pairsL r).map (acc ++ ·) ∧ wr.ownsRow w.heap.size 70 3 v acc.length (acc.flatMap prC) ∧ Below w.heap.size w wr ∧ acc.length + r.length ≤ s.length ∧ r.length ≤ kx ∧ acc.length ≤ 8)
  case atStart => exact ⟨s, [], hr1, by simp, World.ownsRow_nil _ _ _ _, hb1, by simp, Nat.le_refl _, by simp⟩
  case round =>
    clear hr1 hb1
    obtain ⟨r, acc, hr, hps, ho, hb, hlen, hkx, ha8⟩ := hrel
    have c0 := hr.c0
    have c1 := hr.c1
    obtain ⟨va, vc, rfl⟩ := ownsRow_slice ho
    by_cases h0 : r = []
    · subst h0
      have hpo : pairsL s = some acc := by rw [hps, pairsL_nil]; simp
      by_cases hacc : acc = []
      · subst hacc
        have HP := hid (show okP s = none by unfold okP; rw [hpo]; rfl)
        have HB := hid hb
        clear hps hpo hb hr ho
        go_wp2_with fail
        refine wp_region_noPanic ?_
        refine wp_region_held_drew (S := (fun _ => True)) (by kernel_rfl) ?_ (fun hHeld => ?_)
        · trivial
        refine wpAnyH_take (i := 0) (oi := ?fo0) (v := ?fv0) ?fe0 (by kernel_rfl) (by kernel_rfl) (by kernel_rfl) (fun _ _ _ h => h) (Or.inl ⟨?fw0, ?fy0⟩) (by assumption) ?fr0
        case fe0 => ((simp only [List.getElem?_toArray, List.getElem?_cons_succ, List.getElem?_cons_zero]) <;> rfl)
        case fw0 => rfl
        case fy0 => (intro w hSw; (try dsimp only at hSw); go_simp; (try with_reducible rfl))
        try simp only [Act.put, List.setIfInBounds_toArray, List.set_cons_zero, List.set_cons_succ]
        refine wpAnyH_take (i := 1) (oi := ?fo1) (v := ?fv1) ?fe1 (by kernel_rfl) (by kernel_rfl) (by kernel_rfl) (fun _ _ _ h => h) (Or.inl ⟨?fw1, ?fy1⟩) (by assumption) ?fr1
        case fe1 => ((simp only [List.getElem?_toArray, List.getElem?_cons_succ, List.getElem?_cons_zero]) <;> rfl)
        case fw1 => rfl
        case fy1 => (intro w hSw; (try dsimp only at hSw); go_simp; (try with_reducible rfl))
        try simp only [Act.put, List.setIfInBounds_toArray, List.set_cons_zero, List.set_cons_succ]
        refine wpAnyH_take (i := 2) (oi := ?fo2) (v := ?fv2) ?fe2 (by kernel_rfl) (by kernel_rfl) (by kernel_rfl) (fun _ _ _ h => h) (Or.inl ⟨?fw2, ?fy2⟩) (by assumption) ?fr2
        case fe2 => ((simp only [List.getElem?_toArray, List.getElem?_cons_succ, List.getElem?_cons_zero]) <;> rfl)
        case fw2 => rfl
        case fy2 => (intro w hSw; (try dsimp only at hSw); go_simp; (try with_reducible rfl))
        try simp only [Act.put, List.setIfInBounds_toArray, List.set_cons_zero, List.set_cons_succ]
        refine wpAnyH_take (i := 3) (oi := ?fo3) (v := ?fv3) ?fe3 (by kernel_rfl) (by kernel_rfl) (by kernel_rfl) (fun _ _ _ h => h) (Or.inl ⟨?fw3, ?fy3⟩) (by assumption) ?fr3
        case fe3 => ((simp only [List.getElem?_toArray, List.getElem?_cons_succ, List.getElem?_cons_zero]) <;> rfl)
        case fw3 => rfl
        case fy3 => (intro w hSw; (try dsimp only at hSw); go_simp; (try with_reducible rfl))
        try simp only [Act.put, List.setIfInBounds_toArray, List.set_cons_zero, List.set_cons_succ]
        refine wpAnyH_take (i := 4) (oi := ?fo4) (v := ?fv4) ?fe4 (by kernel_rfl) (by kernel_rfl) (by kernel_rfl) (fun _ _ _ h => h) (Or.inl ⟨?fw4, ?fy4⟩) (by assumption) ?fr4
        case fe4 => ((simp only [List.getElem?_toArray, List.getElem?_cons_succ, List.getElem?_cons_zero]) <;> rfl)
        case fw4 => rfl
        case fy4 => (intro w hSw; (try dsimp only at hSw); go_simp; (try with_reducible rfl))
        try simp only [Act.put, List.setIfInBounds_toArray, List.set_cons_zero, List.set_cons_succ]
        refine wpAnyH_take (i := 5) (oi := ?fo5) (v := undef) ?fe5 (by kernel_rfl) (by kernel_rfl) (by kernel_rfl) (fun _ _ _ h => h) (Or.inr ⟨?fw5, rfl⟩) (by assumption) ?fr5
        case fe5 => ((simp only [List.getElem?_toArray, List.getElem?_cons_succ, List.getElem?_cons_zero]) <;> rfl)
        case fw5 => rfl
        try simp only [Act.put, List.setIfInBounds_toArray, List.set_cons_zero, List.set_cons_succ]
        refine wpAnyH_take (i := 6) (oi := ?fo6) (v := undef) ?fe6 (by kernel_rfl) (by kernel_rfl) (by kernel_rfl) (fun _ _ _ h => h) (Or.inr ⟨?fw6, rfl⟩) (by assumption) ?fr6
        case fe6 => ((simp only [List.getElem?_toArray, List.getElem?_cons_succ, List.getElem?_cons_zero]) <;> rfl)
        case fw6 => rfl
        try simp only [Act.put, List.setIfInBounds_toArray, List.set_cons_zero, List.set_cons_succ]
        refine wpAnyH_take (i := 7) (oi := ?fo7) (v := undef) ?fe7 (by kernel_rfl) (by kernel_rfl) (by kernel_rfl) (fun _ _ _ h => h) (Or.inr ⟨?fw7, rfl⟩) (by assumption) ?fr7
        case fe7 => ((simp only [List.getElem?_toArray, List.getElem?_cons_succ, List.getElem?_cons_zero]) <;> rfl)
        case fw7 => rfl
        try simp only [Act.put, List.setIfInBounds_toArray, List.set_cons_zero, List.set_cons_succ]
        refine wpAnyH_take (i := 8) (oi := ?fo8) (v := undef) ?fe8 (by kernel_rfl) (by kernel_rfl) (by kernel_rfl) (fun _ _ _ h => h) (Or.inr ⟨?fw8, rfl⟩) (by assumption) ?fr8
        case fe8 => ((simp only [List.getElem?_toArray, List.getElem?_cons_succ, List.getElem?_cons_zero]) <;> rfl)
        case fw8 => rfl
        try simp only [Act.put, List.setIfInBounds_toArray, List.set_cons_zero, List.set_cons_succ]
        refine wpAnyH_take (i := 9) (oi := ?fo9) (v := undef) ?fe9 (by kernel_rfl) (by kernel_rfl) (by kernel_rfl) (fun _ _ _ h => h) (Or.inr ⟨?fw9, rfl⟩) (by assumption) ?fr9
        case fe9 => ((simp only [List.getElem?_toArray, List.getElem?_cons_succ, List.getElem?_cons_zero]) <;> rfl)
        case fw9 => rfl
        try simp only [Act.put, List.setIfInBounds_toArray, List.set_cons_zero, List.set_cons_succ]
        refine wpAnyH_take (i := 10) (oi := ?fo10) (v := ?fv10) ?fe10 (by kernel_rfl) (by kernel_rfl) (by kernel_rfl) (fun _ _ _ h => h) (Or.inl ⟨?fw10, ?fy10⟩) (by assumption) ?fr10
        case fe10 => ((simp only [List.getElem?_toArray, List.getElem?_cons_succ, List.getElem?_cons_zero]) <;> rfl)
        case fw10 => rfl
        case fy10 => (intro w hSw; (try dsimp only at hSw); go_simp; (try with_reducible rfl))
        try simp only [Act.put, List.setIfInBounds_toArray, List.set_cons_zero, List.set_cons_succ]
        refine wpAnyH_take (i := 11) (oi := ?fo11) (v := ?fv11) ?fe11 (by kernel_rfl) (by kernel_rfl) (by kernel_rfl) (fun _ _ _ h => h) (Or.inl ⟨?fw11, ?fy11⟩) (by assumption) ?fr11
        case fe11 => ((simp only [List.getElem?_toArray, List.getElem?_cons_succ, List.getElem?_cons_zero]) <;> rfl)
        case fw11 => rfl
        case fy11 => (intro w hSw; (try dsimp only at hSw); go_simp; (try with_reducible rfl))
        try simp only [Act.put, List.setIfInBounds_toArray, List.set_cons_zero, List.set_cons_succ]
        refine wpAnyH_take (i := 12) (oi := ?fo12) (v := ?fv12) ?fe12 (by kernel_rfl) (by kernel_rfl) (by kernel_rfl) (fun _ _ _ h => h) (Or.inl ⟨?fw12, ?fy12⟩) (by assumption) ?fr12
        case fe12 => ((simp only [List.getElem?_toArray, List.getElem?_cons_succ, List.getElem?_cons_zero]) <;> rfl)
        case fw12 => rfl
        case fy12 => (intro w hSw; (try dsimp only at hSw); go_simp; (try with_reducible rfl))
        try simp only [Act.put, List.setIfInBounds_toArray, List.set_cons_zero, List.set_cons_succ]
        refine wpAnyH_done (by kernel_rfl) ?_ _
        refine NoPanic.normal ?_
        go_wp2_with fail
        go_ret2
        exact ⟨by rw [HP.out]; exact ⟨_, rfl⟩, HB.out.drew⟩
      · have hpos : decide ((0 : Int) < (acc.length : Int)) = true := decide_eq_true (by have := List.length_pos_iff.2 hacc; omega)
        have HP := hid (show okP s = some acc by unfold okP; rw [hpo]; simp only; rw [if_pos ⟨hacc, ha8⟩])
        have HB := hid hb
        have HO := hid ho
        clear hps hpo hb hr ho
        go_wp2_with fail
        refine wp_region_noPanic ?_
        refine wp_region_held_drew (S := (fun w' => w'.cell? ⟨w.heap.size, 1, none⟩ = some (.bool false))) (by kernel_rfl) ?_ (fun hHeld => ?_)
        · exact c1
        refine wpAnyH_take (i := 0) (oi := ?fo0b) (v := ?fv0b) ?fe0b (by kernel_rfl) (by kernel_rfl) (by kernel_rfl) (fun _ _ _ h => h) (Or.inl ⟨?fw0b, ?fy0b⟩) (by assumption) ?fr0b
        case fe0b => ((simp only [List.getElem?_toArray, List.getElem?_cons_succ, List.getElem?_cons_zero]) <;> rfl)
        case fw0b => rfl
        case fy0b => (intro w hSw; (try dsimp only at hSw); go_simp; (try with_reducible rfl))
        try simp only [Act.put, List.setIfInBounds_toArray, List.set_cons_zero, List.set_cons_succ]
        refine wpAnyH_take (i := 1) (oi := ?fo1b) (v := ?fv1b) ?fe1b (by kernel_rfl) (by kernel_rfl) (by kernel_rfl) (fun _ _ _ h => h) (Or.inl ⟨?fw1b, ?fy1b⟩) (by assumption) ?fr1b
        case fe1b => ((simp only [List.getElem?_toArray, List.getElem?_cons_succ, List.getElem?_cons_zero]) <;> rfl)
        case fw1b => rfl
        case fy1b => (intro w hSw; (try dsimp only at hSw); go_simp; (try with_reducible rfl))
        try simp only [Act.put, List.setIfInBounds_toArray, List.set_cons_zero, List.set_cons_succ]
        refine wpAnyH_take (i := 2) (oi := ?fo2b) (v := ?fv2b) ?fe2b (by kernel_rfl) (by kernel_rfl) (by kernel_rfl) (fun _ _ _ h => h) (Or.inl ⟨?fw2b, ?fy2b⟩) (by assumption) ?fr2b
        case fe2b => ((simp only [List.getElem?_toArray, List.getElem?_cons_succ, List.getElem?_cons_zero]) <;> rfl)
        case fw2b => rfl
        case fy2b => (intro w hSw; (try dsimp only at hSw); go_simp; (try with_reducible rfl))
        try simp only [Act.put, List.setIfInBounds_toArray, List.set_cons_zero, List.set_cons_succ]
        refine wpAnyH_take (i := 3) (oi := ?fo3b) (v := .bool true) ?fe3b (by kernel_rfl) (by kernel_rfl) (by kernel_rfl) (fun _ _ _ h => h) (Or.inl ⟨?fw3b, ?fy3b⟩) (by assumption) ?fr3b
        case fe3b => ((simp only [List.getElem?_toArray, List.getElem?_cons_succ, List.getElem?_cons_zero]) <;> rfl)
        case fw3b => rfl
        case fy3b => (intro w hSw; (try dsimp only at hSw); go_simp; (try (exact List.length_pos_iff.2 hacc)))
        try simp only [Act.put, List.setIfInBounds_toArray, List.set_cons_zero, List.set_cons_succ]
        refine wpAnyH_take (i := 4) (oi := ?fo4b) (v := ?fv4b) ?fe4b (by kernel_rfl) (by kernel_rfl) (by kernel_rfl) (fun _ _ _ h => h) (Or.inl ⟨?fw4b, ?fy4b⟩) (by assumption) ?fr4b
        case fe4b => ((simp only [List.getElem?_toArray, List.getElem?_cons_succ, List.getElem?_cons_zero]) <;> rfl)
        case fw4b => rfl
        case fy4b => (intro w hSw; (try dsimp only at hSw); go_simp; (try with_reducible rfl))
        try simp only [Act.put, List.setIfInBounds_toArray, List.set_cons_zero, List.set_cons_succ]
        refine wpAnyH_take (i := 5) (oi := ?fo5b) (v := ?fv5b) ?fe5b (by kernel_rfl) (by kernel_rfl) (by kernel_rfl) (fun _ _ _ h => h) (Or.inl ⟨?fw5b, ?fy5b⟩) (by assumption) ?fr5b
        case fe5b => ((simp only [List.getElem?_toArray, List.getElem?_cons_succ, List.getElem?_cons_zero]) <;> rfl)
        case fw5b => rfl
        case fy5b => (intro w hSw; (try dsimp only at hSw); go_simp; (try with_reducible rfl))
        try simp only [Act.put, List.setIfInBounds_toArray, List.set_cons_zero, List.set_cons_succ]
        refine wpAnyH_take (i := 6) (oi := ?fo6b) (v := ?fv6b) ?fe6b (by kernel_rfl) (by kernel_rfl) (by kernel_rfl) (fun _ _ _ h => h) (Or.inl ⟨?fw6b, ?fy6b⟩) (by assumption) ?fr6b
        case fe6b => ((simp only [List.getElem?_toArray, List.getElem?_cons_succ, List.getElem?_cons_zero]) <;> rfl)
        case fw6b => rfl
        case fy6b => (intro w hSw; (try dsimp only at hSw); go_simp; (try with_reducible rfl))
        try simp only [Act.put, List.setIfInBounds_toArray, List.set_cons_zero, List.set_cons_succ]
        refine wpAnyH_take (i := 7) (oi := ?fo7b) (v := ?fv7b) ?fe7b (by kernel_rfl) (by kernel_rfl) (by kernel_rfl) (fun _ _ _ h => h) (Or.inl ⟨?fw7b, ?fy7b⟩) (by assumption) ?fr7b
        case fe7b => ((simp only [List.getElem?_toArray, List.getElem?_cons_succ, List.getElem?_cons_zero]) <;> rfl)
        case fw7b => rfl
        case fy7b => (intro w hSw; (try dsimp only at hSw); go_simp; (try with_reducible rfl))
        try simp only [Act.put, List.setIfInBounds_toArray, List.set_cons_zero, List.set_cons_succ]
        refine wpAnyH_take (i := 8) (oi := ?fo8b) (v := ?fv8b) ?fe8b (by kernel_rfl) (by kernel_rfl) (by kernel_rfl) (fun _ _ _ h => h) (Or.inl ⟨?fw8b, ?fy8b⟩) (by assumption) ?fr8b
        case fe8b => ((simp only [List.getElem?_toArray, List.getElem?_cons_succ, List.getElem?_cons_zero]) <;> rfl)
        case fw8b => rfl
        case fy8b => (intro w hSw; (try dsimp only at hSw); go_simp; (try with_reducible rfl))
        try simp only [Act.put, List.setIfInBounds_toArray, List.set_cons_zero, List.set_cons_succ]
        refine wpAnyH_take (i := 9) (oi := ?fo9b) (v := ?fv9b) ?fe9b (by kernel_rfl) (by kernel_rfl) (by kernel_rfl) (fun _ _ _ h => h) (Or.inl ⟨?fw9b, ?fy9b⟩) (by assumption) ?fr9b
        case fe9b => ((simp only [List.getElem?_toArray, List.getElem?_cons_succ, List.getElem?_cons_zero]) <;> rfl)
        case fw9b => rfl
        case fy9b => (intro w hSw; (try dsimp only at hSw); go_simp; (try with_reducible rfl))
        try simp only [Act.put, List.setIfInBounds_toArray, List.set_cons_zero, List.set_cons_succ]
        refine wpAnyH_take (i := 10) (oi := ?fo10b) (v := ?fv10b) ?fe10b (by kernel_rfl) (by kernel_rfl) (by kernel_rfl) (fun _ _ _ h => h) (Or.inl ⟨?fw10b, ?fy10b⟩) (by assumption) ?fr10b
        case fe10b => ((simp only [List.getElem?_toArray, List.getElem?_cons_succ, List.getElem?_cons_zero]) <;> rfl)
        case fw10b => rfl
        case fy10b => (intro w hSw; (try dsimp only at hSw); go_simp; (try with_reducible rfl))
        try simp only [Act.put, List.setIfInBounds_toArray, List.set_cons_zero, List.set_cons_succ]
        refine wpAnyH_take (i := 11) (oi := ?fo11b) (v := ?fv11b) ?fe11b (by kernel_rfl) (by kernel_rfl) (by kernel_rfl) (fun _ _ _ h => h) (Or.inl ⟨?fw11b, ?fy11b⟩) (by assumption) ?fr11b
        case fe11b => ((simp only [List.getElem?_toArray, List.getElem?_cons_succ, List.getElem?_cons_zero]) <;> rfl)
        case fw11b => rfl
        case fy11b => (intro w hSw; (try dsimp only at hSw); go_simp; (try with_reducible rfl))
        try simp only [Act.put, List.setIfInBounds_toArray, List.set_cons_zero, List.set_cons_succ]
        refine wpAnyH_take (i := 12) (oi := ?fo12b) (v := ?fv12b) ?fe12b (by kernel_rfl) (by kernel_rfl) (by kernel_rfl) (fun _ _ _ h => h) (Or.inl ⟨?fw12b, ?fy12b⟩) (by assumption) ?fr12b
        case fe12b => ((simp only [List.getElem?_toArray, List.getElem?_cons_succ, List.getElem?_cons_zero]) <;> rfl)
        case fw12b => rfl
        case fy12b => (intro w hSw; (try dsimp only at hSw); go_simp; (try with_reducible rfl))
        try simp only [Act.put, List.setIfInBounds_toArray, List.set_cons_zero, List.set_cons_succ]
        refine wpAnyH_done (by kernel_rfl) ?_ _
        refine NoPanic.normal ?_
        go_wp2_with fail
        go_ret2
        exact ⟨by rw [HP.out]; exact ⟨_, rfl, HO.out⟩, HB.out.drew⟩
    · have he : (r == []) = false := by simpa using h0
      obtain ⟨k, r1, b1, h1⟩ : ∃ k r1 b1, textF r false = (k, r1, b1) := ⟨_, _, _, rfl⟩
      obtain ⟨n, r2, b2, h2⟩ : ∃ n r2 b2, intF r1 b1 8193 = (n, r2, b2) := ⟨_, _, _, rfl⟩
      obtain ⟨v, r3, b3, h3⟩ : ∃ v r3 b3, takeF r2 b2 (max 0 ((n : Int) - 1)) = (v, r3, b3) := ⟨_, _, _, rfl⟩
      have hst := hid (stepF_of h1 h2 h3)
      have l1 := textF_len r false
      have s1 := sane_textF (r := r) (b := false) (fun q => by cases q)
      rw [h1] at l1 s1
      have l2 := intF_len r1 b1 8193
      have s2 := sane_intF 8193 s1
      simp only at s2
      rw [h2] at l2 s2
      have l3 := takeF_len r2 b2 (max 0 ((n : Int) - 1))
      rw [h3] at l3
      simp only at l1 l2 l3 s1 s2
      have hn8 := intF_le (r := r1) (b := b1) (m := 8193) (by omega)
      rw [h2] at hn8
      simp only at hn8
      have ht := rtext_any_r w.heap.size r false wr hr (fun q => by cases q) (by omega)
      rw [h1] at ht
      simp only at ht
      have HPS := hid hps
      have HLEN := hid hlen
      have hRM : r.length ≤ 1048576 := by omega
      have H0 := hid h0
      clear hps h1 hlen h0
      go_wp2_with fail
      refine ht.mono ?_
      rintro _ w3 ⟨rfl, hr3, a3⟩
      clear ht c0 c1
      have ho3 := own_at_other ho hr (by decide) a3
      have hb3 : Below w.heap.size w w3 := At.below hb a3 (Nat.le_refl _)
      have hi := rint_any_r w.heap.size r1 b1 8193 w3 hr3 s1 (by unfold maxLen; omega) (by decide) (by decide)
      rw [h2] at hi
      simp only at hi
      clear hr ho hb a3
      go_wp2_with fail
      refine hi.mono ?_
      rintro _ w5 ⟨rfl, hr5, a5⟩
      clear hi
      have ho5 := own_at_other ho3 hr3 (by decide) a5
      have hb5 := At.below hb3 a5 (Nat.le_refl _)
      clear hr3 a5 ho3 hb3 h2
      have hn64 : (n : Int) ≤ 8193 := by omega
      have hnn : (0 : Int) ≤ (n : Int) := by omega
      by_cases hn0 : n = 0
      · subst hn0
        rw [show max 0 (((0 : Nat) : Int) - 1) = 0 from rfl, takeF_zero] at h3
        simp only [Prod.mk.injEq] at h3
        obtain ⟨rfl, rfl, rfl⟩ := h3
        have HB7 := hid hb5
        have ho7 := ho5
        have hr7 := hr5
        clear ho5 hr5 hb5
        have q1 := hr7.c1
        cases b2 with
        | true =>
          have HQ := hid (show okP s = none from okP_none (by rw [HPS.out, pairsL_no H0.out (by rw [hst.out, if_pos (.inl rfl)])]; rfl))
          clear ho7 hr7
          go_wp2_with fail
          go_ret2
          exact ⟨by rw [HQ.out]; exact ⟨_, rfl⟩, HB7.out⟩
        | false =>
        by_cases hk0 : k = []
        · subst hk0
          have HQ := hid (show okP s = none from okP_none (by rw [HPS.out, pairsL_no H0.out (by rw [hst.out, if_pos (.inr (.inl rfl))])]; rfl))
          clear ho7 hr7
          go_wp2_with fail
          go_ret2
          exact ⟨by rw [HQ.out]; exact ⟨_, rfl⟩, HB7.out⟩
        have hke : (k == []) = false := by simpa using hk0
        by_cases hk6 : 64 < k.length
        · have HQ := hid (show okP s = none from okP_none (by rw [HPS.out, pairsL_no H0.out (by rw [hst.out, if_pos (.inr (.inr hk6))])]; rfl))
          have hk6' : (64 : Int) < (k.length : Int) := by omega
          clear ho7 hr7 hk0
          go_wp2_with fail
          go_ret2
          exact ⟨by rw [HQ.out]; exact ⟨_, rfl⟩, HB7.out⟩
        have hst2 : stepF r = some ((k, [], true), r2) := by rw [hst.out, if_neg (by simp only [Bool.false_eq_true, false_or, not_or]; exact ⟨hk0, hk6⟩)]; rfl
        have hless := step_less hst2
        have HQ := hid (show pairsL s = (pairsL r2).map ((acc ++ [(k, [], true)]) ++ ·) by rw [HPS.out, pairsL_go H0.out hst2, Option.map_map]; congr 1; funext y; simp)
        have hk6' : (k.length : Int) ≤ 64 := by omega
        by_cases hac : acc.length = 8
        · have HQ2 := hid (okP_long HQ.out (by simp; omega))
          have hac' : ((acc.length : Int) == 8) = true := by rw [hac]; rfl
          clear ho7 hr7 hk0 hst2
          go_wp2_with fail
          go_ret2
          exact ⟨by rw [HQ2.out]; exact ⟨_, rfl⟩, HB7.out⟩
        have hac' : ((acc.length : Int) == 8) = false := by simp; omega
        obtain ⟨wb, hwb⟩ : ∃ x, x = w5.alloc (.cells #[.string ⟨k.toArray⟩, .string ⟨([] : List UInt8).toArray⟩, .bool true] 70) := ⟨_, rfl⟩
        have bb : Below w5.heap.size w5 wb := by rw [hwb]; exact (Below.refl _ _).alloc (Nat.le_refl _) _
        have hob := own_new ho7 bb
        have hrb := hr7.keep bb
        have HBb := hid (HB7.out.trans (bb.mono HB7.out.size))
        have hpb : wb.heap[w5.heap.size]? = some (.cells #[.string ⟨k.toArray⟩, .string ⟨([] : List UInt8).toArray⟩, .bool true] 70 (0, 0)) := by rw [hwb]; exact heap_alloc_new w5 _
        have HYb := hid (show ∀ j u, (prC (k, [], true))[j]? = some u → wb.cell? ⟨w5.heap.size, j, none⟩ = some u from fun j u hj => by rw [cell_of_row _ _ j _ _ (0, 0) hpb]; simpa [prC, strV] using hj)
        have HWb := hid hwb
        have HLE := hid (show acc.length + 1 ≤ maxLen by have := HLEN.out; unfold maxLen; omega)
        have HLF := hid (show (acc.length + 1) * 40 ≤ 140737488355328 by have := HLEN.out; omega)
        have HSZ := hid HBb.out.size
        have HK0 := hid hk0
        have HA8 := hid (show acc.length + 1 ≤ 8 by omega)
        clear ho7 hr7 hwb bb hpb hk0 hst2 hac ha8
        go_wp2_with (at_builtin; rw [← HWb.out]; refine wpList_append_row _ rfl _ _ 55 rfl prC 3 (by decide) prC_len prC_one w.heap.size 70 (.agg #[.string .empty, .string .empty, .bool false]) 40 Try.underlying55 infoPr rfl (.slice va acc.length vc) acc.length acc rfl hob w5.heap.size 1 rfl (k, [], true) HYb.out HLE.out HLF.out HSZ.out ?_)
        intro a' c' wz hoz hgz
        have hrz := obj_grown hob hgz hrb (by decide)
        have hbz := below_grown HBb.out hob hgz (Nat.le_refl _)
        clear hob hrb hgz q1
        go_wp2_with fail
        go_roundg (r2.length)
        case measure => omega
        case rel => exact ⟨r2, acc ++ [(k, [], true)], hrz, HQ.out, by rw [List.length_append, List.flatMap_append]; simpa using hoz, hbz, by rw [List.length_append]; have := HLEN.out; simp only [List.length_cons, List.length_nil]; omega, Nat.le_refl _, by rw [List.length_append]; exact HA8.out⟩
      · have hne : ((n : Int) == 0) = false := by simp; omega
        have hnp : (0 : Int) < (n : Int) := by omega
        have ht := rtake_any w.heap.size r2 b2 (max 0 ((n : Int) - 1)) w5 hr5 s2 (by unfold maxLen; omega)
        rw [h3, show max 0 ((n : Int) - 1) = (n : Int) - 1 by omega] at ht
        simp only at ht
        have HN0 := hid hn0
        clear h3 hn0
        go_wp2_with fail
        refine ht.mono ?_
        rintro _ w7 ⟨rfl, hr7, a7⟩
        have ho7 := own_at_other ho5 hr5 (by decide) a7
        have HB7 := hid (At.below hb5 a7 (Nat.le_refl _))
        clear ht hr5 ho5 hb5 a7
        have q1 := hr7.c1
        cases b3 with
        | true =>
          have HQ := hid (show okP s = none from okP_none (by rw [HPS.out, pairsL_no H0.out (by rw [hst.out, if_pos (.inl rfl)])]; rfl))
          clear ho7 hr7
          go_wp2_with fail
          go_ret2
          exact ⟨by rw [HQ.out]; exact ⟨_, rfl⟩, HB7.out⟩
        | false =>
        by_cases hk0 : k = []
        · subst hk0
          have HQ := hid (show okP s = none from okP_none (by rw [HPS.out, pairsL_no H0.out (by rw [hst.out, if_pos (.inr (.inl rfl))])]; rfl))
          clear ho7 hr7
          go_wp2_with fail
          go_ret2
          exact ⟨by rw [HQ.out]; exact ⟨_, rfl⟩, HB7.out⟩
        have hke : (k == []) = false := by simpa using hk0
        by_cases hk6 : 64 < k.length
        · have HQ := hid (show okP s = none from okP_none (by rw [HPS.out, pairsL_no H0.out (by rw [hst.out, if_pos (.inr (.inr hk6))])]; rfl))
          have hk6' : (64 : Int) < (k.length : Int) := by omega
          clear ho7 hr7 hk0
          go_wp2_with fail
          go_ret2
          exact ⟨by rw [HQ.out]; exact ⟨_, rfl⟩, HB7.out⟩
        have hst2 : stepF r = some ((k, v, false), r3) := by rw [hst.out, if_neg (by simp only [Bool.false_eq_true, false_or, not_or]; exact ⟨hk0, hk6⟩)]; simp [HN0.out]
        have hless := step_less hst2
        have HQ := hid (show pairsL s = (pairsL r3).map ((acc ++ [(k, v, false)]) ++ ·) by rw [HPS.out, pairsL_go H0.out hst2, Option.map_map]; congr 1; funext y; simp)
        have hk6' : (k.length : Int) ≤ 64 := by omega
        by_cases hac : acc.length = 8
        · have HQ2 := hid (okP_long HQ.out (by simp; omega))
          have hac' : ((acc.length : Int) == 8) = true := by rw [hac]; rfl
          clear ho7 hr7 hk0 hst2
          go_wp2_with fail
          go_ret2
          exact ⟨by rw [HQ2.out]; exact ⟨_, rfl⟩, HB7.out⟩
        have hac' : ((acc.length : Int) == 8) = false := by simp; omega
        obtain ⟨wb, hwb⟩ : ∃ x, x = w7.alloc (.cells #[.string ⟨k.toArray⟩, .string ⟨(v : List UInt8).toArray⟩, .bool false] 70) := ⟨_, rfl⟩
        have bb : Below w7.heap.size w7 wb := by rw [hwb]; exact (Below.refl _ _).alloc (Nat.le_refl _) _
        have hob := own_new ho7 bb
        have hrb := hr7.keep bb
        have HBb := hid (HB7.out.trans (bb.mono HB7.out.size))
        have hpb : wb.heap[w7.heap.size]? = some (.cells #[.string ⟨k.toArray⟩, .string ⟨(v : List UInt8).toArray⟩, .bool false] 70 (0, 0)) := by rw [hwb]; exact heap_alloc_new w7 _
        have HYb := hid (show ∀ j u, (prC (k, v, false))[j]? = some u → wb.cell? ⟨w7.heap.size, j, none⟩ = some u from fun j u hj => by rw [cell_of_row _ _ j _ _ (0, 0) hpb]; simpa [prC, strV] using hj)
        have HWb := hid hwb
        have HLE := hid (show acc.length + 1 ≤ maxLen by have := HLEN.out; unfold maxLen; omega)
        have HLF := hid (show (acc.length + 1) * 40 ≤ 140737488355328 by have := HLEN.out; omega)
        have HSZ := hid HBb.out.size
        have HK0 := hid hk0
        have HA8 := hid (show acc.length + 1 ≤ 8 by omega)
        clear ho7 hr7 hwb bb hpb hk0 hst2 hac ha8
        go_wp2_with (at_builtin; rw [← HWb.out]; refine wpList_append_row _ rfl _ _ 55 rfl prC 3 (by decide) prC_len prC_one w.heap.size 70 (.agg #[.string .empty, .string .empty, .bool false]) 40 Try.underlying55 infoPr rfl (.slice va acc.length vc) acc.length acc rfl hob w7.heap.size 1 rfl (k, v, false) HYb.out HLE.out HLF.out HSZ.out ?_)
        intro a' c' wz hoz hgz
        have hrz := obj_grown hob hgz hrb (by decide)
        have hbz := below_grown HBb.out hob hgz (Nat.le_refl _)
        clear hob hrb hgz q1
        go_wp2_with fail
        go_roundg (r3.length)
        case measure => omega
        case rel => exact ⟨r3, acc ++ [(k, v, false)], hrz, HQ.out, by rw [List.length_append, List.flatMap_append]; simpa using hoz, hbz, by rw [List.length_append]; have := HLEN.out; simp only [List.length_cons, List.length_nil]; omega, Nat.le_refl _, by rw [List.length_append]; exact HA8.out⟩
end Go.Proofs.Ytfdbcnpbjabjoaa
namespace Go.Proofs.Ytfdbcnpbjabjoaa
open Go.RowKit
set_option linter.unusedVariables false
set_option linter.unusedSimpArgs false

structure RkAt (r0 : List UInt8) (b0 : Bool) (bs : List (List UInt8)) (j : Nat) (last r : List UInt8) (b : Bool) (acc : List Pr) : Prop where
  eq : rloopF [] r0 b0 bs = (rloopF last r b (bs.drop j)).map fun y => (acc ++ y.1, y.2)
  len : acc.length ≤ 8 * j
theorem RkAt.start (r0 : List UInt8) (b0 : Bool) (bs : List (List UInt8)) : RkAt r0 b0 bs 0 [] r0 b0 [] := ⟨by simp, by simp⟩
section
variable {r0 last r : List UInt8} {b0 b : Bool} {bs : List (List UInt8)} {j : Nat} {acc x : List Pr}
theorem RkAt.stop (h : RkAt r0 b0 bs bs.length last r b acc) : rloopF [] r0 b0 bs = some (acc, r, b) := by
  rw [h.eq, List.drop_length, rloopF]; simp
theorem more_atR (hj : j < bs.length) : (!(bs.drop (j + 1)).isEmpty) = decide (j + 1 < bs.length) := by
  by_cases h : j + 1 < bs.length
  · rw [decide_eq_true h]
    cases hq : bs.drop (j + 1) with
    | nil => have := congrArg List.length hq; simp at this; omega
    | cons a b => rfl
  · rw [decide_eq_false h, List.drop_eq_nil_of_le (by omega)]; rfl
theorem RkAt.no (h : RkAt r0 b0 bs j last r b acc) (hj : j < bs.length) (hp : okP bs[j] = none) : rloopF [] r0 b0 bs = none := by
  rw [h.eq, List.drop_eq_getElem_cons hj, rloopF]
  unfold okP at hp
  cases hq : pairsL bs[j] with
  | none => rfl
  | some x =>
    rw [hq] at hp
    simp only at hp ⊢
    split at hp
    · cases hp
    · rename_i hn
      rw [if_neg (fun q => hn ⟨q.1.1, q.1.2.1⟩)]; rfl
theorem okP_some {s : List UInt8} (h : okP s = some x) : pairsL s = some x ∧ x ≠ [] ∧ x.length ≤ 8 := by
  unfold okP at h
  cases hq : pairsL s with
  | none => rw [hq] at h; cases h
  | some y =>
    rw [hq] at h
    simp only at h
    split at h
    · rename_i hn
      cases h
      exact ⟨rfl, hn⟩
    · cases h
theorem RkAt.bad (h : RkAt r0 b0 bs j last r b acc) (hj : j < bs.length) (hp : okP bs[j] = some x) (hb : ¬ (BlkOk last (textF r b).1 (decide (j + 1 < bs.length)) x ∧ (textF r b).2.2 = false)) : rloopF [] r0 b0 bs = none := by
  rw [h.eq, List.drop_eq_getElem_cons hj, rloopF, (okP_some hp).1]
  simp only
  rw [if_neg (by rw [more_atR hj]; exact hb)]; rfl
theorem RkAt.next (h : RkAt r0 b0 bs j last r b acc) (hj : j < bs.length) (hp : okP bs[j] = some x) (hb : BlkOk last (textF r b).1 (decide (j + 1 < bs.length)) x ∧ (textF r b).2.2 = false) : RkAt r0 b0 bs (j + 1) (lastK last x) (textF r b).2.1 (textF r b).2.2 (acc ++ x) := by
  refine ⟨?_, ?_⟩
  · rw [h.eq, List.drop_eq_getElem_cons hj, rloopF, (okP_some hp).1]
    simp only
    rw [if_pos (by rw [more_atR hj]; exact hb), Option.map_map]
    congr 1; funext y; simp
  · have := h.len; have := (okP_some hp).2.2; rw [List.length_append]; omega
theorem lastK_succ (last : List UInt8) {x : List Pr} {k : Nat} (h : k < x.length) : lastK last (x.take (k + 1)) = x[k].1 := by
  unfold lastK
  rw [List.take_succ_eq_append_getElem h, List.getLast?_append]
  rfl
theorem lastK_zero (last : List UInt8) (x : List Pr) : lastK last (x.take 0) = last := rfl
theorem asc_bad {last : List UInt8} {x : List Pr} {k : Nat} (h : k < x.length) (hl : ltB (lastK last (x.take k)) x[k].1 = false) : ¬ ascB last x := fun ha => by
  have e : x = x.take k ++ (x[k] :: x.drop (k + 1)) := by rw [← List.drop_eq_getElem_cons h, List.take_append_drop]
  rw [e, ascB_app] at ha
  have := ha.2.1
  rw [hl] at this; cases this
theorem asc_next {last : List UInt8} {x : List Pr} {k : Nat} (h : k < x.length) (ha : ascB last (x.take k)) (hl : ltB (lastK last (x.take k)) x[k].1 = true) : ascB last (x.take (k + 1)) := by
  rw [List.take_succ_eq_append_getElem h, ascB_app]
  exact ⟨ha, hl, trivial⟩
end
theorem openR_none {s : List UInt8} (h : (scanL s).2 ≠ [] ∨ (scanL s).1.length < 2) : openR s = none := by unfold openR; rw [if_pos h]
/-- what follows the loop -/
def endR (o : Option (List Pr × List UInt8 × Bool)) : Option (List Pr) :=
  match o with
  | none => none
  | some (l, r, b) =>
    let c := intF r b 1073741824
    let f := textF c.2.1 c.2.2
    if endF f.2.1 f.2.2 = false ∨ c.1 ≠ l.length ∨ f.1 = [] ∨ 8192 < f.1.length ∨ ¬ (∀ p ∈ l, hasL f.1 p.1 = true) then none else some l
theorem openR_go {s ft : List UInt8} {bs : List (List UInt8)} (h : scanL s = (bs ++ [ft], [])) (h0 : bs ≠ []) : openR s = if (intF ft false (s.length : Int)).1 ≠ bs.length then none else endR (rloopF [] (intF ft false (s.length : Int)).2.1 (intF ft false (s.length : Int)).2.2 bs) := by
  unfold openR
  have := List.length_pos_iff.2 h0
  rw [h]
  simp only [List.dropLast_concat, List.getLast?_concat, Option.getD_some]
  rw [if_neg (by simp; omega)]
  rfl
theorem endR_bad {l : List Pr} {r : List UInt8} {b : Bool} (h : endF (textF (intF r b 1073741824).2.1 (intF r b 1073741824).2.2).2.1 (textF (intF r b 1073741824).2.1 (intF r b 1073741824).2.2).2.2 = false ∨ (intF r b 1073741824).1 ≠ l.length ∨ (textF (intF r b 1073741824).2.1 (intF r b 1073741824).2.2).1 = [] ∨ 8192 < (textF (intF r b 1073741824).2.1 (intF r b 1073741824).2.2).1.length ∨ ¬ (∀ p ∈ l, hasL (textF (intF r b 1073741824).2.1 (intF r b 1073741824).2.2).1 p.1 = true)) : endR (some (l, r, b)) = none := if_pos h
theorem endR_ok {l : List Pr} {r : List UInt8} {b : Bool} (h : ¬ (endF (textF (intF r b 1073741824).2.1 (intF r b 1073741824).2.2).2.1 (textF (intF r b 1073741824).2.1 (intF r b 1073741824).2.2).2.2 = false ∨ (intF r b 1073741824).1 ≠ l.length ∨ (textF (intF r b 1073741824).2.1 (intF r b 1073741824).2.2).1 = [] ∨ 8192 < (textF (intF r b 1073741824).2.1 (intF r b 1073741824).2.2).1.length ∨ ¬ (∀ p ∈ l, hasL (textF (intF r b 1073741824).2.1 (intF r b 1073741824).2.2).1 p.1 = true))) : endR (some (l, r, b)) = some l := if_neg h
end Go.Proofs.Ytfdbcnpbjabjoaa
