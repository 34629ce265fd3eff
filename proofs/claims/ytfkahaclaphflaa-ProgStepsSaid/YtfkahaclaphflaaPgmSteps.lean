/- THE WALK of ProgSteps. -/
import Derived.Test.YtfkahaclaphflaaPgmLaws
import Derived.Test.YtfkahaclaphflaaRowAppend
import Derived.SizedLaws
import Derived.Laws.OwnMore
namespace Go.Proofs.Ytfkahaclaphflaa
open Go.ChangeShapes Go.WideShapes Go.ChangeAt Go.RowKit Go.Deep
set_option linter.unusedVariables false

theorem sumBy_ones {α : Type} (l : List α) : sumBy (fun _ => 1) l = l.length := by
  induction l with
  | nil => rfl
  | cons a r ih => simp only [sumBy, ih, List.length_cons]; omega
theorem sum_ones {α : Type} (l : List α) : (l.map (fun _ => 1)).sum = l.length := by
  induction l with
  | nil => rfl
  | cons a r ih => simp only [List.map_cons, List.sum_cons, ih, List.length_cons]; omega
/-- a program that came in, and how many steps it may have -/
theorem open_prog_sz {H : Type} {enc : TypeId × Value → H} {W : World} {base : Nat} {ts : List TypeId} {ds : List (DataW H)} {j : Nat} {v : Value} {d : DataW H} {p : List MemPlace}
    (hsz : (DataW.weightsEach Try.prog ts ds).all (· ≤ reachBytes) = true) (ht : ts[j]? = some 24) (hd : ds[j]? = some d) (hv : Value.okWide Try.prog W .any base 24 v)
    (h : DataW.Trod enc Try.prog W 0 (fun _ => true) true 24 v d p) : ∃ (v0 : Value) (lim : Int) (ss : List St), v = .agg #[v0, .int .i64 lim] ∧ Sl W v0 6 ss.length (ss.flatMap stC) ∧ Fit ss ∧ ss.length * 64 ≤ 140737488351232 := by
  obtain ⟨v0, lim, ss, e0, h1, h2, _⟩ := open_prog hv h
  refine ⟨v0, lim, ss, e0, h1, h2, ?_⟩
  subst e0
  obtain ⟨fuel, hf⟩ := h
  obtain ⟨ys, n, hx, _, hcl, hg⟩ := trod_fields Try.underlying24 (by kernel_rfl) (by kernel_rfl) hf
  obtain ⟨c0, y0, e0, hy0, t0⟩ := hg 0 _ rfl
  obtain ⟨aa, g1, _, g3⟩ := trod_sl (P := Try.prog) Try.underlying22 6 (by kernel_rfl) (by omega) (fun cs : List Value => if cs.length = 6 then cs else List.replicate 6 (.int .i64 0)) (fun cs => by split <;> simp_all) (fun _ => True) (fun _ => 1) (fun _ => 1) (fun n cs x hx => by
    obtain ⟨_, _, _, _, hcl, _⟩ := trod_fields Try.underlying40 (by kernel_rfl) (by kernel_rfl) hx
    exact ⟨cs, (if_pos (show cs.length = 6 from hcl)).symm, trivial, Nat.le_refl _⟩) t0
  simp only [Value.cells] at e0
  simp at e0
  subst e0
  have hlen : aa.length = ss.length := by
    obtain ⟨_, _, a, c, e1, _⟩ := g1
    obtain ⟨_, _, a', c', e2, _⟩ := h1
    rw [e1] at e2
    injection e2
  rcases g3 with ⟨_, ha⟩ | ⟨es, rest, he, hs⟩
  · rw [ha] at hlen
    simp at hlen
    rw [← hlen]; simp
  · rw [sumBy_ones, sum_ones] at hs
    have hw : (es.length + rest.length) * 64 ∈ d.weights Try.prog 24 := by
      rw [show d = .agg (ys.map (·.1)) from hx, DataW.weights, Try.underlying24]
      refine DataW.weights_mem_each (j := 0) (t := 22) (d := y0.1) rfl (by rw [List.getElem?_map, hy0]; rfl) _ ?_
      rw [he, DataW.weights, Try.underlying22]
      have hb : Try.prog.bytesOf 40 = 64 := by kernel_rfl
      simp only [hb]
      exact List.mem_cons_self
    have := List.all_eq_true.1 hsz _ (DataW.weights_mem_each ht hd _ hw)
    have h3 : (es.length + rest.length) * 64 ≤ reachBytes := by simpa using this
    have h4 := reachBytes_lt
    have h5 : reachBytes ≤ 140737488351232 := by decide
    omega

def rightK (lim : Int) (ss : List St) (k : Nat) : Prop := (0 ≤ lim ∧ lim ≤ 16000) ∧ ∀ x ∈ ss.take k, RightP x
instance (lim : Int) (ss : List St) (k : Nat) : Decidable (rightK lim ss k) := inferInstanceAs (Decidable (_ ∧ _))
theorem rightK_succ {lim : Int} {ss : List St} {k : Nat} (h : k < ss.length) : rightK lim ss (k + 1) ↔ rightK lim ss k ∧ RightP ss[k] := by
  unfold rightK
  rw [List.take_succ_eq_append_getElem h]
  simp only [List.mem_append, List.mem_cons, List.not_mem_nil, or_false]
  constructor
  · rintro ⟨h1, h2⟩
    exact ⟨⟨h1, fun x hx => h2 x (.inl hx)⟩, h2 _ (.inr rfl)⟩
  · rintro ⟨⟨h1, h2⟩, h3⟩
    refine ⟨h1, fun x hx => ?_⟩
    rcases hx with hx | hx
    · exact h2 x hx
    · rw [hx]; exact h3
theorem one_prog (x : St) : ProgP 0 [x] ↔ RightP x := by
  constructor
  · intro h; exact h.2.2 x (by simp)
  · intro h
    exact ⟨by simp, by decide, fun y hy => by
      simp only [List.mem_cons, List.not_mem_nil, or_false] at hy
      rw [hy]; exact h⟩
theorem none_prog (lim : Int) : ProgP lim [] ↔ (0 ≤ lim ∧ lim ≤ 16000) := ⟨fun h => h.2.1, fun h => ⟨by decide, h, fun x hx => by cases hx⟩⟩

theorem right0 (lim : Int) (ss : List St) : (chkV lim [] == 0) = decide (rightK lim ss 0) := by
  unfold chkV
  by_cases h : ProgP lim []
  · rw [if_pos h, decide_eq_true ⟨(none_prog lim).1 h, fun x hx => by simp at hx⟩]; rfl
  · rw [if_neg h, decide_eq_false (fun hr => h ((none_prog lim).2 hr.1))]; rfl
/-- append a slice that is read to a row of the call's own, at a step of a region that draws -/
theorem step_append_sl {P : Program} (w : World) {ops : Array Oper} {o : Oper} {a : Act} {K : Act → World → Prop} {Q : Exit → Act → World → Prop} {E : Prop} (hgd : o.guard = none) (s x : Operand) (t : TypeId)
    (ho : o.op = .call { callee := .builtin .append, args := #[s, x], argTypes := #[t, t] })
    (B : Nat) (e : TypeId) (z : Value) (k bytes : Nat) (ht : P.underlying t = some (.slice e)) (hi : (P.info? e).map (fun i => (i.zero, i.size, i.bytes)) = some (some z, k, bytes)) (hzs : z.cells.size = k) (hk0 : 0 < k)
    (v : Value) (n : Nat) (xs : List Value) (hs : a.eval s = v) (hown : w.ownsRow B e k v n xs)
    (xv : Value) (m : Nat) (cells : List Value) (hx : a.eval x = xv) (hsl : Sl w xv k m cells) (h1 : ∀ u ∈ cells, u.oneCell' = true)
    (hlen : n + m ≤ maxLen) (hbytes : (n + m) * bytes ≤ 140737488355328) (w0 : World) (hB : B ≤ w.heap.size) (hb : Below B w0 w)
    (h : ∀ a' c' w', w'.ownsRow B e k (.slice a' (n + m) c') (n + m) (xs ++ cells) → Below B w0 w' → K (a.put o.dst (.slice a' (n + m) c')) w') :
    if Region.wanted o (yielded ops a.tmps) = true then Oper.wp P o a w K Q else E := by
  have hw : Region.wanted o (yielded ops a.tmps) = true := by simp [Region.wanted, hgd]
  rw [if_pos hw]
  obtain ⟨i0, hi0, hz0, hz1, hz2⟩ := info_parts hi
  obtain ⟨hl, ⟨_, hnil⟩, ad, cap, rfl, hc⟩ := hsl
  cases ad with
  | none =>
    have hc0 := hnil m cap rfl
    have hm : m = 0 := by
      rcases hc with h0 | ⟨b, off, h', _⟩
      · exact h0
      · cases h'
    subst hm; subst hc0
    have hce : cells = [] := List.eq_nil_of_length_eq_zero (by simpa using hl)
    subst hce
    have hrun := run_append_owned_none (P := P) (w := w) B t o.type e i0 k ht hi0 v n xs hown
    obtain ⟨a', c', rfl⟩ := ownsRow_slice hown
    unfold Oper.wp
    simp [execOp, ho, resolve, invoke, builtin, hs, hx, hrun, Result.andThen]
    exact h a' c' w (by simpa using hown) hb
  | some ad =>
    have hy : ∀ j u, cells[j]? = some u → w.cell? (ad.add j) = some u := by
      intro j u hj
      obtain ⟨hjl, rfl⟩ := List.getElem?_eq_some_iff.1 hj
      rcases hc with h0 | ⟨b, off, h', _, hcell⟩
      · subst h0; simp at hl; subst hl; simp at hjl
      · cases h'
        rw [Addr.add_lit]; exact hcell j hjl
    obtain ⟨v', w', hrun, r1, r2, _⟩ := run_append_own (P := P) w B t o.type e i0 z k bytes ht hi0 hz0 hz1 hz2 hzs hk0 v n xs hown ad m cap cells hl hy h1 hlen hbytes hB
    obtain ⟨a', c', rfl⟩ := ownsRow_slice r1
    unfold Oper.wp
    simp [execOp, ho, resolve, invoke, builtin, hs, hx, hrun, Result.andThen]
    exact h a' c' w' r1 (hb.grown r2 hB (fun j hj => (World.ownsRow.lt hown j hj).1))
theorem stCs_one (L : List St) : ∀ u ∈ L.flatMap stC, u.oneCell' = true := by
  intro u hu
  obtain ⟨x, _, hx⟩ := List.mem_flatMap.1 hu
  exact stC_one x u hx

/-- where the slice's block stands below b -/
def SlB (v : Value) (n B : Nat) : Prop := ∀ b off c, v = .slice (some ⟨b, off, none⟩) n c → n = 0 ∨ b < B
theorem Sl.slB {w : World} {v : Value} {k n : Nat} {cells : List Value} (h : Sl w v k n cells) : SlB v n w.heap.size := by
  obtain ⟨_, _, ad, cap, rfl, h3⟩ := h
  intro b off c e
  cases e
  rcases h3 with h0 | ⟨b', off', e2, hb, _⟩
  · exact .inl h0
  · cases e2; exact .inr hb
theorem Sl.at {w w' : World} {v : Value} {k n g : Nat} {cells : List Value} (h : Sl w v k n cells) (a : At g w w') (hg : ∀ b off c, v = .slice (some ⟨b, off, Option.none⟩) n c → n = 0 ∨ b ≠ g) : Sl w' v k n cells := by
  obtain ⟨h1, h2, ad, cap, rfl, h3⟩ := h
  refine ⟨h1, h2, ad, cap, rfl, ?_⟩
  rcases h3 with h0 | ⟨b, off, rfl, hb, hc⟩
  · exact .inl h0
  · rcases hg b off cap rfl with h0 | hne
    · exact .inl h0
    · exact .inr ⟨b, off, rfl, Nat.lt_of_lt_of_le hb a.size, fun j hj => (World.cell?_of_block (a.block b hb (by simpa using hne))).trans (hc j hj)⟩
theorem held_at {w0 w w' : World} {g G : Nat} {v0 : Value} {lim : Int} {ss : List St} (h : PHeld w0 w g v0 lim ss) (a : At G w w') (hs : SlB v0 ss.length w0.heap.size) (hg : g ≠ G) (hG : w0.heap.size ≤ G) : PHeld w0 w' g v0 lim ss :=
  ⟨(World.cell?_of_block (a.block g h.lt (by simpa using hg))).trans h.c0, (World.cell?_of_block (a.block g h.lt (by simpa using hg))).trans h.c1, h.sl.at a (fun b off c e => (hs b off c e).imp id (fun hb => by omega)), At.below h.below a hG, Nat.lt_of_lt_of_le h.lt a.size, h.ge⟩
set_option maxHeartbeats 1600000 in
set_option maxRecDepth 100000 in
theorem progSteps_walk (v0 : Value) (lim : Int) (ss : List St) (w : World) (hs : Sl w v0 6 ss.length (ss.flatMap stC)) (hf : Fit ss) (hsz : ss.length * 64 ≤ 140737488351232) :
    Calls Try.prog 6 #[.agg #[v0, .int .i64 lim]] w fun e w' => e = .returned (.bool true) ∧ Below w.heap.size w w' := by
  have hinfo : (Try.prog.info? 40).map (fun i => (i.zero, i.size, i.bytes)) = some (some (.agg #[.int .i64 0, .string .empty, .string .empty, .int .i64 0, .int .i64 0, .int .i64 0]), 6, 64) := by kernel_rfl
  have hs0 := hs
  obtain ⟨_, _, a0, cap0, rfl, hcs⟩ := hs0
  have CS := hid hcs
  clear hcs
  have h0 := PHeld.new (lim := lim) hs
  have hsb := hs.slB
  go_enter Try.func6, Try.ntmps6
  go_wp2_with fail
  obtain ⟨W, hW⟩ : ∃ W, W = w.alloc (.cells #[.slice a0 ss.length cap0, .int .i64 lim] 24) := ⟨_, rfl⟩
  rw [← hW] at h0 ⊢
  clear hW
  refine (pawake_any W).mono ?_
  rintro _ w1 ⟨rfl, b1⟩
  have h1 := h0.next b1
  have p0 := h1.c0
  have p1 := h1.c1
  go_wp2_with fail
  have bA : Below w1.heap.size w1 w1.drew := ⟨rfl, rfl, rfl, Nat.le_refl _, fun _ _ => rfl⟩
  have bC : Below w1.heap.size w1 (w1.alloc (.cells #[.slice none 0 0, .int .i64 0] 24)) := (Below.refl _ _).alloc (Nat.le_refl _) _
  have bB : Below (w1.alloc (.cells #[.slice none 0 0, .int .i64 0] 24)).heap.size (w1.alloc (.cells #[.slice none 0 0, .int .i64 0] 24)) (w1.alloc (.cells #[.slice none 0 0, .int .i64 0] 24)).drew := ⟨rfl, rfl, rfl, Nat.le_refl _, fun _ _ => rfl⟩
  have hO : Obj2 (w1.alloc (.cells #[.slice none 0 0, .int .i64 0] 24)) w1.heap.size 24 (.slice none 0 0) (.int .i64 0) := Obj2.new _ _ _ _
  have oA : w1.drew.ownsRow w1.heap.size 40 6 (.slice none 0 0) 0 [] := World.ownsRow_nil _ _ _ _
  have oB : (w1.alloc (.cells #[.slice none 0 0, .int .i64 0] 24)).drew.ownsRow (w1.alloc (.cells #[.slice none 0 0, .int .i64 0] 24)).heap.size 40 6 (.slice none 0 0) 0 [] := World.ownsRow_nil _ _ _ _
  have sA : Sl w1.drew (.slice a0 ss.length cap0) 6 ss.length (ss.flatMap stC) := h1.sl
  have sB' := h1.sl.below bC
  have sB : Sl (w1.alloc (.cells #[.slice none 0 0, .int .i64 0] 24)).drew (.slice a0 ss.length cap0) 6 ss.length (ss.flatMap stC) := sB'
  have px0 : (w1.alloc (.cells #[.slice none 0 0, .int .i64 0] 24)).cell? ⟨w.heap.size, 0, none⟩ = some (.slice a0 ss.length cap0) := Lib.cell?_alloc_some _ p0
  have px1 : (w1.alloc (.cells #[.slice none 0 0, .int .i64 0] 24)).cell? ⟨w.heap.size, 1, none⟩ = some (.int .i64 lim) := Lib.cell?_alloc_some _ p1
  go_region_law (first | (refine step_append_sl _ rfl (.const (.slice none 0 0)) (.tmp 13) 22 rfl (w1.alloc (.cells #[.slice none 0 0, .int .i64 0] 24)).heap.size 40 (.agg #[.int .i64 0, .string .empty, .string .empty, .int .i64 0, .int .i64 0, .int .i64 0]) 6 64 Try.underlying22 hinfo rfl (by decide) _ 0 [] rfl oB (.slice a0 ss.length cap0) ss.length (ss.flatMap stC) rfl sB (stCs_one ss) (by unfold maxLen; omega) (by omega) (w1.alloc (.cells #[.slice none 0 0, .int .i64 0] 24)) bB.size bB ?_; intro a1 c1 w2 hown hb2; rw [List.nil_append, Nat.zero_add] at hown; rw [Nat.zero_add]; have hbw := bnext bC hb2; have hO2 := hO.keep hb2; have d1 := (h1.next hbw).c1; have d0 := (h1.next hbw).c0; have o0 := hO2.c0; have o1 := hO2.c1; have of0 := hO2.fz 0; have of1 := hO2.fz 1) | (refine step_append_sl _ rfl (.const (.slice none 0 0)) (.tmp 13) 22 rfl w1.heap.size 40 (.agg #[.int .i64 0, .string .empty, .string .empty, .int .i64 0, .int .i64 0, .int .i64 0]) 6 64 Try.underlying22 hinfo rfl (by decide) _ 0 [] rfl oA (.slice a0 ss.length cap0) ss.length (ss.flatMap stC) rfl sA (stCs_one ss) (by unfold maxLen; omega) (by omega) w1 bA.size bA ?_; intro a1 c1 w2 hown hb2; rw [List.nil_append, Nat.zero_add] at hown; rw [Nat.zero_add]; have hbw := hb2; have d1 := (h1.next hbw).c1; have d0 := (h1.next hbw).c0; have dx0 := Lib.cell?_alloc_some (.cells #[.slice none 0 0, .int .i64 0] 24) d0; have dx1 := Lib.cell?_alloc_some (.cells #[.slice none 0 0, .int .i64 0] 24) d1))
  all_goals
    first
      | (obtain ⟨W3, hW3⟩ : ∃ W3, W3 = w2.alloc (.cells #[.slice a1 ss.length c1, .int .i64 lim] 24) := ⟨_, rfl⟩
         rw [← hW3]
         have b3 : Below w2.heap.size w2 W3 := by rw [hW3]; exact (Below.refl _ _).alloc (Nat.le_refl _) _
         have h3 := (h1.next hbw).next b3
         have o3 : Obj2 W3 w2.heap.size 24 (.slice a1 ss.length c1) (.int .i64 lim) := by rw [hW3]; exact Obj2.new _ _ _ _
         have s3 := Sl.of_own (own_new hown b3) (by unfold maxLen; omega)
         obtain ⟨gO, hgO⟩ : ∃ g, g = w2.heap.size := ⟨_, rfl⟩
         rw [← hgO] at o3 ⊢
         clear hgO hW3 b3)
      | (obtain ⟨W3, hW3⟩ : ∃ W3, W3 = ((w2.setCell ⟨w1.heap.size, 0, none⟩ (.slice a1 ss.length c1)).setCell ⟨w1.heap.size, 1, none⟩ (.int .i64 lim)) := ⟨_, rfl⟩
         rw [← hW3]
         have a3 : At w1.heap.size w2 W3 := by rw [hW3]; exact ((At.refl _ _).set 0 _).set 1 _
         have h3 : PHeld w W3 w.heap.size (.slice a0 ss.length cap0) lim ss := held_at (h1.next hbw) a3 hsb (by have := h1.lt; omega) (by have := h1.below.size; omega)
         have o3 : Obj2 W3 w1.heap.size 24 (.slice a1 ss.length c1) (.int .i64 lim) := by rw [hW3]; exact (hO2.set0 _).set1 _
         have s3 := Sl.of_own (own_at_other hown hO2 (by decide) a3) (by unfold maxLen; omega)
         obtain ⟨gO, hgO⟩ : ∃ g, g = w1.heap.size := ⟨_, rfl⟩
         rw [← hgO] at o3 ⊢
         clear hgO hW3 a3)
    clear p0 p1 h0 h1 hbw hown hb2
    have p0 := h3.c0
    have p1 := h3.c1
    have c0 := o3.c0
    have c1' := o3.c1
    go_wp2_with fail
    refine (check_any _ lim ss W3 s3 hf).mono ?_
    rintro _ w4 ⟨rfl, b4⟩
    have h4 := h3.next b4
    have o4 := o3.keep b4
    have s4 := s3.below b4
    clear p0 p1 c0 c1' h3 o3 s3
    have p0 := h4.c0
    have p1 := h4.c1
    have c0 := o4.c0
    have c1' := o4.c1
    go_wp2_with fail
    refine (psame_any _ _ lim lim ss ss w4 s4 h4.sl).mono ?_
    rintro _ w5 ⟨rfl, b5⟩
    rw [decide_eq_true (And.intro rfl rfl)]
    have h5 := h4.next b5
    clear p0 p1 c0 c1' h4 o4 s4
    have p0 := h5.c0
    have p1 := h5.c1
    by_cases h16 : (16 : Int) < (ss.length : Int)
    · have hv : chkV lim ss = 130 := by unfold chkV; rw [if_neg (fun h => by have := h.1; omega)]
      have hbf := h5.below
      rw [hv]
      clear hv
      go_wp2_with fail
      go_ret
      exact ⟨rfl, hbf⟩
    · go_wp2_with fail
      refine (check_any (.slice none 0 0) lim [] w5 (Sl.none _ _) (fun x hx => by cases hx)).mono ?_
      rintro _ w6 ⟨rfl, b6⟩
      have h6 := h5.next b6
      clear p0 p1 h5
      have p0 := h6.c0
      have p1 := h6.c1
      go_wp2_with fail
      rw [show (chkV lim [] == 0) = decide (rightK lim ss 0) from right0 lim ss]
      have hb6 := h6.below
      go_loopw [5, 36] (fun rt i wr => ∃ k : Nat, k ≤ ss.length ∧ i = .int .i64 k ∧ rt = .bool (decide (rightK lim ss k)) ∧ Below w.heap.size w wr) (fun _ i _ => ss.length - (intOf i).toNat)
      case atStart => exact ⟨0, by omega, rfl, rfl, hb6⟩
      case round =>
        clear h6 hb6 p0 p1
        obtain ⟨k, hk, rfl, rfl, hb⟩ := hrel
        by_cases hlt : k < ss.length
        · obtain ⟨b, off, rfl, hblt, hc⟩ := CS.out.resolve_left (by omega)
          have hk0 : wr.cell? ⟨b, off + k * 6, none⟩ = some (.int .i64 ss[k].1) := (hb.cell (p := ⟨b, off + k * 6 + 0, none⟩) hblt).trans (st_cell hc k 0 (by decide) hlt _ rfl)
          have hk1 : wr.cell? ⟨b, off + k * 6 + 1, none⟩ = some (.string ⟨ss[k].2.1.toArray⟩) := (hb.cell (p := ⟨b, off + k * 6 + 1, none⟩) hblt).trans (st_cell hc k 1 (by decide) hlt _ rfl)
          have hk2 : wr.cell? ⟨b, off + k * 6 + 2, none⟩ = some (.string ⟨ss[k].2.2.1.toArray⟩) := (hb.cell (p := ⟨b, off + k * 6 + 2, none⟩) hblt).trans (st_cell hc k 2 (by decide) hlt _ rfl)
          have hk3 : wr.cell? ⟨b, off + k * 6 + 3, none⟩ = some (.int .i64 ss[k].2.2.2.1) := (hb.cell (p := ⟨b, off + k * 6 + 3, none⟩) hblt).trans (st_cell hc k 3 (by decide) hlt _ rfl)
          have hk4 : wr.cell? ⟨b, off + k * 6 + 4, none⟩ = some (.int .i64 ss[k].2.2.2.2.1) := (hb.cell (p := ⟨b, off + k * 6 + 4, none⟩) hblt).trans (st_cell hc k 4 (by decide) hlt _ rfl)
          have hk5 : wr.cell? ⟨b, off + k * 6 + 5, none⟩ = some (.int .i64 ss[k].2.2.2.2.2) := (hb.cell (p := ⟨b, off + k * 6 + 5, none⟩) hblt).trans (st_cell hc k 5 (by decide) hlt _ rfl)
          clear hc
          have hfx := hf ss[k] (List.getElem_mem hlt)
          have hsu := rightK_succ (lim := lim) hlt
          generalize ss[k] = x at *
          obtain ⟨kd, nm, un, tr, ut, wt⟩ := x
          simp only at hk0 hk1 hk2 hk3 hk4 hk5
          by_cases hR : rightK lim ss k
          · rw [decide_eq_true hR]
            have bX : Below wr.heap.size wr (wr.alloc (.cells #[.int .i64 kd, .string ⟨nm.toArray⟩, .string ⟨un.toArray⟩, .int .i64 tr, .int .i64 ut, .int .i64 wt] 40)) := (Below.refl _ _).alloc (Nat.le_refl _) _
            have sX : (wr.alloc (.cells #[.int .i64 kd, .string ⟨nm.toArray⟩, .string ⟨un.toArray⟩, .int .i64 tr, .int .i64 ut, .int .i64 wt] 40)).heap.size = wr.heap.size + 1 := Array.size_push ..
            have bY : Below (wr.alloc (.cells #[.int .i64 kd, .string ⟨nm.toArray⟩, .string ⟨un.toArray⟩, .int .i64 tr, .int .i64 ut, .int .i64 wt] 40)).heap.size (wr.alloc (.cells #[.int .i64 kd, .string ⟨nm.toArray⟩, .string ⟨un.toArray⟩, .int .i64 tr, .int .i64 ut, .int .i64 wt] 40)) ((wr.alloc (.cells #[.int .i64 kd, .string ⟨nm.toArray⟩, .string ⟨un.toArray⟩, .int .i64 tr, .int .i64 ut, .int .i64 wt] 40)).alloc (.cells #[.int .i64 kd, .string ⟨nm.toArray⟩, .string ⟨un.toArray⟩, .int .i64 tr, .int .i64 ut, .int .i64 wt] 40)) := (Below.refl _ _).alloc (Nat.le_refl _) _
            have hC : ((wr.alloc (.cells #[.int .i64 kd, .string ⟨nm.toArray⟩, .string ⟨un.toArray⟩, .int .i64 tr, .int .i64 ut, .int .i64 wt] 40)).alloc (.cells #[.int .i64 kd, .string ⟨nm.toArray⟩, .string ⟨un.toArray⟩, .int .i64 tr, .int .i64 ut, .int .i64 wt] 40)).heap[wr.heap.size + 1]? = some (.cells #[.int .i64 kd, .string ⟨nm.toArray⟩, .string ⟨un.toArray⟩, .int .i64 tr, .int .i64 ut, .int .i64 wt] 40 (0, 0)) := by rw [← sX]; exact heap_alloc_new _ _
            have hsl : Sl ((wr.alloc (.cells #[.int .i64 kd, .string ⟨nm.toArray⟩, .string ⟨un.toArray⟩, .int .i64 tr, .int .i64 ut, .int .i64 wt] 40)).alloc (.cells #[.int .i64 kd, .string ⟨nm.toArray⟩, .string ⟨un.toArray⟩, .int .i64 tr, .int .i64 ut, .int .i64 wt] 40)) (.slice (some ⟨wr.heap.size + 1, 0, none⟩) 1 1) 6 [((kd, nm, un, tr, ut, wt) : St)].length ([((kd, nm, un, tr, ut, wt) : St)].flatMap stC) := by
              refine ⟨rfl, ⟨by simp [maxLen], fun _ _ h => by simp at h⟩, _, _, rfl, .inr ⟨wr.heap.size + 1, 0, rfl, (Array.getElem?_eq_some_iff.1 hC).1, fun j hj => ?_⟩⟩
              rw [Nat.zero_add, cell_of_row _ _ j _ _ (0, 0) hC]
              have e9 : #[Value.int .i64 kd, .string ⟨nm.toArray⟩, .string ⟨un.toArray⟩, .int .i64 tr, .int .i64 ut, .int .i64 wt] = ([((kd, nm, un, tr, ut, wt) : St)].flatMap stC).toArray := rfl
              rw [e9, List.getElem?_toArray, List.getElem?_eq_getElem hj]
            have hck := check_any _ 0 [((kd, nm, un, tr, ut, wt) : St)] _ hsl (fun x hx => by
              simp only [List.mem_cons, List.not_mem_nil, or_false] at hx
              rw [hx]; exact hfx)
            have hbY := bnext hb (bnext bX bY)
            have HCK := hid hck
            have HBY := hid hbY
            clear hC hsl hck bX bY sX hbY
            by_cases hx : RightP (kd, nm, un, tr, ut, wt)
            · have hv : chkV 0 [((kd, nm, un, tr, ut, wt) : St)] = 0 := by unfold chkV; rw [if_pos ((one_prog _).2 hx)]
              have hd : decide (rightK lim ss (k + 1)) = true := decide_eq_true (hsu.2 ⟨hR, hx⟩)
              have HV := hid hv
              have HD := hid hd
              clear hv hd hx hR hsu
              go_wp2_with fail
              refine HCK.out.mono ?_
              rintro _ w8 ⟨rfl, b8⟩
              rw [HV.out]
              have b9 := bnext HBY.out b8
              go_wp2_with fail
              go_roundw
              case rel => exact ⟨k + 1, by omega, by go_num, by rw [HD.out], b9⟩
              case measure => simp [intOf]; omega
            · have hv : chkV 0 [((kd, nm, un, tr, ut, wt) : St)] = 130 := by unfold chkV; rw [if_neg (fun h => hx ((one_prog _).1 h))]
              have hd : decide (rightK lim ss (k + 1)) = false := decide_eq_false (fun h => hx (hsu.1 h).2)
              have HV := hid hv
              have HD := hid hd
              clear hv hd hx hR hsu
              go_wp2_with fail
              refine HCK.out.mono ?_
              rintro _ w8 ⟨rfl, b8⟩
              rw [HV.out]
              have b9 := bnext HBY.out b8
              go_wp2_with fail
              go_roundw
              case rel => exact ⟨k + 1, by omega, by go_num, by rw [HD.out], b9⟩
              case measure => simp [intOf]; omega
          · rw [decide_eq_false hR]
            have hd : decide (rightK lim ss (k + 1)) = false := decide_eq_false (fun h => hR (hsu.1 h).1)
            have HD := hid hd
            clear hd hR hsu
            go_wp2_with fail
            go_roundw
            case rel => exact ⟨k + 1, by omega, by go_num, by rw [HD.out], hb.alloc hb.size _⟩
            case measure => simp [intOf]; omega
        · obtain rfl : k = ss.length := by omega
          have hiff : rightK lim ss ss.length ↔ ProgP lim ss := by
            unfold rightK ProgP
            rw [List.take_of_length_le (Nat.le_refl _)]
            exact ⟨fun h => ⟨by omega, h.1, h.2⟩, fun h => ⟨h.2.1, h.2.2⟩⟩
          by_cases hp : ProgP lim ss
          · rw [decide_eq_true (hiff.2 hp), show chkV lim ss = 0 by unfold chkV; rw [if_pos hp]]
            clear hp hiff
            go_wp2_with fail
            go_ret
            exact ⟨rfl, hb⟩
          · rw [decide_eq_false (fun h => hp (hiff.1 h)), show chkV lim ss = 130 by unfold chkV; rw [if_neg hp]]
            clear hp hiff
            go_wp2_with fail
            go_ret
            exact ⟨rfl, hb⟩

theorem progSteps_w (v u : Value) (lim : Int) (ss : List St) (w : World) (e0 : v = .agg #[u, .int .i64 lim]) (hs : Sl w u 6 ss.length (ss.flatMap stC)) (hf : Fit ss) (hsz : ss.length * 64 ≤ 140737488351232) :
    Calls Try.prog 6 #[v] w fun e w' => e = .returned (.bool true) ∧ Below w.heap.size w w' := by
  subst e0; exact progSteps_walk u lim ss w hs hf hsz
end Go.Proofs.Ytfkahaclaphflaa
