/- CONTRACTS: wherryref16.Starts, Acts, Owed. CONTRACT: wherryref16.Kept where the promise is kept. -/
import Derived.Test.YtdoblbiodpcjdaaSnP
import Derived.Test.YtdoblbiodpcjdaaSnO
import Derived.Deep.RegionHeld3
import Derived.WalkSpells
namespace Go.Proofs.Ytdoblbiodpcjdaa
open Go.RowKit
set_option linter.unusedVariables false
set_option linter.unusedSimpArgs false
theorem own_cap {w : World} {B k n : Nat} {e : TypeId} {a : Option Addr} {c : Nat} {xs : List Value} (h : w.ownsRow B e k (.slice a n c) n xs) : n ≤ c := by
 rcases h.2 with ⟨h1, h2⟩ | ⟨g', cap', cur, h1, _, _, h2, _⟩
 · rw [h2]; exact Nat.zero_le _
 · rw [Value.slice.injEq] at h1
   rw [h1.2.2]; exact h2
theorem own_ints {w : World} {B : Nat} {v : Value} {l : List Int} (h : w.ownsRow B 3 1 v l.length (l.flatMap ivC)) (hl : l.length ≤ 17592186043904) : Sl w v 1 l.length (l.map iv) := by
 have := Sl.of_own h (by unfold maxLen; omega)
 rw [ivC_map] at this; exact this
theorem Sl.take1 {w : World} {a : Option Addr} {n cap : Nat} {cells : List Value} (h : Sl w (.slice a n cap) 1 n cells) {k : Nat} (hk : k ≤ n) : Sl w (.slice a k cap) 1 k (cells.take k) := by
 obtain ⟨h1, ⟨h2, h3⟩, a', cap', e, h4⟩ := h
 cases e
 refine ⟨by simp; omega, ⟨by omega, fun m c e => ?_⟩, a, cap, rfl, ?_⟩
 · cases e; exact h3 _ _ rfl
 · by_cases h0 : k = 0
   · exact .inl h0
   · rcases h4 with h4 | ⟨b, off, rfl, hb, hc⟩
     · omega
     · exact .inr ⟨b, off, rfl, hb, fun j hj => by
         have hj' : j < cells.length := by have := hj; simp at this; omega
         rw [hc j hj', List.getElem_take]⟩
set_option maxHeartbeats 8000000 in
set_option maxRecDepth 100000 in
theorem rstarts (xs ys : List Int) (a b : Option Addr) (c d : Nat) (w : World) (ha : Sl w (.slice a xs.length c) 1 xs.length (xs.map iv)) (hb : Sl w (.slice b ys.length d) 1 ys.length (ys.map iv)) (hd : ys.length ≤ d) (hp : xs <+: ys) :
   Calls Try.prog 26 #[.slice a xs.length c, .slice b ys.length d] w fun e w' => e = .returned (.bool true) ∧ Below w.heap.size w w' := by
 have hx : xs.length ≤ 9223372036854775807 := ha.2.1.1
 have hy : ys.length ≤ 9223372036854775807 := hb.2.1.1
 have hle : xs.length ≤ ys.length := hp.length_le
 have hleI : (xs.length : Int) ≤ (ys.length : Int) := by omega
 have hcut : ∀ wx : World, (Instr.sliceAt 54 (.slice b ys.length d) none (some (.int .i64 (xs.length : Int))) none).run Try.prog wx = .ok (.slice b xs.length d) wx := fun wx => by
   have h1 : (xs.length : Int) ≤ (d : Int) := by omega
   have h2 : ¬ ((xs.length : Int) < 0) := by omega
   cases b with
   | none => go_simp
   | some b =>
     obtain ⟨_, _, a', cap', e, h4⟩ := hb
     rw [Value.slice.injEq] at e
     obtain ⟨rfl, -, rfl⟩ := e
     have hbz : b.add 0 = b := by
       obtain ⟨g, j, m⟩ := b
       unfold Addr.add; split <;> simp_all
     go_simp
 have hb' := hb.take1 hle
 rw [show (ys.map iv).take xs.length = xs.map iv by rw [← List.map_take, ← List.prefix_iff_eq_take.1 hp]] at hb'
 have HS := hid (rsame16 xs xs a b c d w ha hb')
 rw [show decide (xs = xs) = true by simp] at HS
 clear ha hb hb' hp
 go_enter Try.func26, Try.ntmps26
 go_wp2_with fail
 refine HS.out.mono ?_
 rintro _ w1 ⟨rfl, b1⟩
 have HB := hid b1
 clear b1
 go_wp2_with fail
 go_ret
 exact ⟨rfl, HB.out⟩
def actsK (ss : List St) (k : Nat) : List Int := (actsN ss k).map (fun i : Nat => (i : Int))
theorem actsK_yes {ss : List St} {k : Nat} (h : kdN ss k = 1) : actsK ss (k + 1) = actsK ss k ++ [(k : Int)] := by
 unfold actsK actsN; rw [List.range_succ, List.filter_append, List.map_append]; simp [h]
theorem actsK_no {ss : List St} {k : Nat} (h : kdN ss k ≠ 1) : actsK ss (k + 1) = actsK ss k := by
 unfold actsK actsN; rw [List.range_succ, List.filter_append, List.map_append]; simp [h]
theorem actsK_len (ss : List St) (k : Nat) : (actsK ss k).length ≤ k := by
 unfold actsK actsN
 have := List.length_filter_le (fun i => decide (kdN ss i = 1)) (List.range k)
 rw [List.length_map]; rw [List.length_range] at this; exact this
set_option maxHeartbeats 16000000 in
set_option maxRecDepth 100000 in
theorem acts16 (ss : List St) (lim : Int) (va : Option Addr) (vc : Nat) (w : World) (hp : Sl w (.slice va ss.length vc) 6 ss.length (ss.flatMap stC)) (hsl : ss.length ≤ 17592186043904) :
   Calls Try.prog 54 #[.agg #[.slice va ss.length vc, .int .i64 lim]] w fun e w' => ∃ (a' : Option Addr) (c' : Nat), e = .returned (.slice a' (actsF ss).length c') ∧ w'.ownsRow w.heap.size 3 1 (.slice a' (actsF ss).length c') (actsF ss).length ((actsF ss).flatMap ivC) ∧ Below w.heap.size w w' := by
 obtain ⟨w0, hw0⟩ : ∃ x, x = w.alloc (.cells #[.slice va ss.length vc, .int .i64 lim] 32) := ⟨_, rfl⟩
 have b0 : Below w.heap.size w w0 := by rw [hw0]; exact (Below.refl _ _).alloc (Nat.le_refl _) _
 have hr0 : w0.heap[w.heap.size]? = some (.cells #[.slice va ss.length vc, .int .i64 lim] 32 (0, 0)) := by rw [hw0]; exact heap_alloc_new w _
 have HS := hid (hp.below b0)
 have HW := hid hw0
 have HB0 := hid b0
 have HR0 := hid hr0
 have hinfo : (Try.prog.info? 3).map (fun i => (i.zero, i.size, i.bytes)) = some (some (.int .i64 0), 1, 8) := by kernel_rfl
 have hmx : maxLen = 9223372036854775807 := rfl
 clear hw0 hp b0 hr0
 go_enter Try.func54, Try.ntmps54
 go_wp2_with fail
 rw [← HW.out]
 go_wp2_with fail
 go_loopw [3, 4] (fun v0 n0 wr => ∃ (k : Nat) (a' : Option Addr) (c' : Nat), k ≤ ss.length ∧ n0 = .int .i64 (k : Int) ∧ v0 = .slice a' (actsK ss k).length c' ∧ wr.ownsRow w0.heap.size 3 1 (.slice a' (actsK ss k).length c') (actsK ss k).length ((actsK ss k).flatMap ivC) ∧ Below w0.heap.size w0 wr) (fun _ n0 _ => ss.length - (intOf n0).toNat)
 case atStart => exact ⟨0, none, 0, Nat.zero_le _, rfl, rfl, World.ownsRow_nil _ _ _ _, Below.refl _ _⟩
 case round =>
   obtain ⟨k, a', c', hk, rfl, rfl, hown, hb⟩ := hrel
   have hx := (hb.block _ (gL HR0.out)).trans HR0.out
   have x0 : wr.cell? ⟨w.heap.size, 0, none⟩ = some (.slice va ss.length vc) := cR hx rfl
   by_cases hlt : k < ss.length
   case neg =>
     obtain rfl : k = ss.length := by omega
     have HO := hid hown
     have HB := hid hb
     clear hx hown hb
     go_wp2_with fail
     go_ret
     exact ⟨a', c', rfl, own_mono HO.out HB0.out.size, HB0.out.trans (HB.out.mono HB0.out.size)⟩
   obtain ⟨_, _, a2, cap', hv, hcc⟩ := HS.out.below hb
   rw [Value.slice.injEq] at hv
   obtain ⟨rfl, -, rfl⟩ := hv
   obtain ⟨sb, off, rfl, hblt, hcc⟩ := hcc.resolve_left (by omega)
   have k0 : wr.cell? ⟨sb, off + k * 6, none⟩ = some (.int .i64 ss[k].1) := st_cell hcc k 0 (by decide) hlt _ rfl
   have hkd : kdN ss k = ss[k].1 := by
     unfold kdN
     rw [List.getD_eq_getElem?_getD, List.getElem?_eq_getElem hlt]; rfl
   obtain ⟨kx, hkq⟩ : ∃ k9, k9 = ss[k].1 := ⟨_, rfl⟩
   rw [← hkq] at k0 hkd
   have hk0 : (0 : Int) ≤ (k : Int) := by omega
   have hk1 : (k : Int) < (ss.length : Int) := by omega
   have HKD := hid hkd
   have HB := hid hb
   have HOWN := hid hown
   clear hcc hkd hkq hx hb hown
   by_cases hq1 : kx = 1
   case neg =>
     have hkx : (kx == 1) = false := by simpa using hq1
     have hA := hid (actsK_no (fun q => hq1 (HKD.out.symm.trans q)))
     clear hq1
     go_wp2_with fail
     go_roundw
     case rel => exact ⟨k + 1, a', c', by omega, by go_num, by rw [hA.out], by rw [hA.out]; exact HOWN.out, HB.out⟩
     case measure => simp [intOf]; omega
   subst hq1
   have hA := hid (actsK_yes HKD.out)
   have hal := actsK_len ss k
   have b8 : Below wr.heap.size wr (wr.alloc (.cells #[.int .i64 (k : Int)] 3)) := (Below.refl _ _).alloc (Nat.le_refl _) _
   have ho8 := own_new HOWN.out b8
   have hbs := HB.out.size
   have hD8 : w0.heap.size ≤ (wr.alloc (.cells #[.int .i64 (k : Int)] 3)).heap.size := Nat.le_trans HB.out.size b8.size
   have HB8 := hid (HB.out.trans (b8.mono HB.out.size))
   have hy : ∀ (j : Nat) (u : Value), (ivC (k : Int))[j]? = some u → (wr.alloc (.cells #[.int .i64 (k : Int)] 3)).cell? ⟨wr.heap.size, j, none⟩ = some u := by
     intro j u hu
     refine (World.cell?_alloc_at _ _ _ _ rfl).trans ?_
     rw [← hu]
     exact List.getElem?_toArray
   have HO8 := hid ho8
   clear b8
   go_wp2_with (at_builtin; go_must (refine wpList_append_row _ rfl _ _ 54 rfl ivC 1 (by decide) ivC_len ivC_one w0.heap.size 3 (.int .i64 0) 8 Try.underlying54 hinfo rfl _ (actsK ss k).length (actsK ss k) rfl ho8 wr.heap.size 1 rfl (k : Int) hy (by omega) (by omega) hD8 ?_))
   intro a2 c2 wa hown2 hgrow
   have HF := hid (show wa.ownsRow w0.heap.size 3 1 (.slice a2 (actsK ss (k + 1)).length c2) (actsK ss (k + 1)).length ((actsK ss (k + 1)).flatMap ivC) ∧ Below w0.heap.size w0 wa from ⟨by rw [hA.out, List.length_append, List.length_singleton, List.flatMap_append]; exact hown2, HB8.out.grown hgrow hD8 (fun j q => (HO8.out.lt j q).1)⟩)
   have HL := hid (show (actsK ss (k + 1)).length = (actsK ss k).length + 1 by rw [hA.out, List.length_append, List.length_singleton])
   clear hown2 hgrow hy hD8 ho8
   go_wp2_with fail
   go_roundw
   case rel => exact ⟨k + 1, a2, c2, by omega, by go_num, by rw [HL.out], HF.out.1, HF.out.2⟩
   case measure => simp [intOf]; omega
theorem owedF_yes {ss : List St} {l : List Int} {x : Int} (h : undoOf ss x ≠ []) : owedF ss (l ++ [x]) = x :: owedF ss l := by
 unfold owedF; rw [List.reverse_append, List.reverse_singleton, List.singleton_append, List.filter_cons]; simp [h]
theorem owedF_no {ss : List St} {l : List Int} {x : Int} (h : undoOf ss x = []) : owedF ss (l ++ [x]) = owedF ss l := by
 unfold owedF; rw [List.reverse_append, List.reverse_singleton, List.singleton_append, List.filter_cons]; simp [h]
theorem owedF_len (ss : List St) (l : List Int) : (owedF ss l).length ≤ l.length := by
 unfold owedF
 have := List.length_filter_le (fun i => decide (undoOf ss i ≠ [])) l.reverse
 rw [List.length_reverse] at this; exact this
set_option maxHeartbeats 16000000 in
set_option maxRecDepth 100000 in
theorem owed16 (ss : List St) (lim : Int) (va : Option Addr) (vc : Nat) (zs : List Int) (da : Option Addr) (dc : Nat) (hzl : zs.length ≤ 17592186043904)
   (w : World) (hp : Sl w (.slice va ss.length vc) 6 ss.length (ss.flatMap stC)) (hd : Sl w (.slice da zs.length dc) 1 zs.length (zs.map iv)) :
   Calls Try.prog 53 #[.agg #[.slice va ss.length vc, .int .i64 lim], .slice da zs.length dc] w (OwedPost ss zs w) := by
 obtain ⟨w0, hw0⟩ : ∃ x, x = w.alloc (.cells #[.slice va ss.length vc, .int .i64 lim] 32) := ⟨_, rfl⟩
 have b0 : Below w.heap.size w w0 := by rw [hw0]; exact (Below.refl _ _).alloc (Nat.le_refl _) _
 have hr0 : w0.heap[w.heap.size]? = some (.cells #[.slice va ss.length vc, .int .i64 lim] 32 (0, 0)) := by rw [hw0]; exact heap_alloc_new w _
 have hsl : ss.length ≤ 9223372036854775807 := hp.2.1.1
 have HS := hid (hp.below b0)
 have HD := hid (hd.below b0)
 have HW := hid hw0
 have HB0 := hid b0
 have HR0 := hid hr0
 have hinfo : (Try.prog.info? 3).map (fun i => (i.zero, i.size, i.bytes)) = some (some (.int .i64 0), 1, 8) := by kernel_rfl
 have hmx : maxLen = 9223372036854775807 := rfl
 clear hw0 hp b0 hr0 hd
 go_enter Try.func53, Try.ntmps53
 go_wp2_with fail
 rw [← HW.out]
 go_wp2_with fail
 go_loopw [6, 7] (fun v0 n0 wr => ∃ (k : Nat) (a' : Option Addr) (c' : Nat), k ≤ zs.length ∧ n0 = .int .i64 (k : Int) ∧ v0 = .slice a' (owedF ss (zs.take k)).length c' ∧ wr.ownsRow w0.heap.size 3 1 (.slice a' (owedF ss (zs.take k)).length c') (owedF ss (zs.take k)).length ((owedF ss (zs.take k)).flatMap ivC) ∧ (∀ x ∈ zs.take k, OwOk ss x) ∧ Below w0.heap.size w0 wr) (fun _ n0 _ => zs.length - (intOf n0).toNat)
 case atStart => exact ⟨0, none, 0, Nat.zero_le _, rfl, rfl, World.ownsRow_nil _ _ _ _, (fun x q => by cases q), Below.refl _ _⟩
 case round =>
   obtain ⟨k, a', c', hk, rfl, rfl, hown, hok, hb⟩ := hrel
   have hx := (hb.block _ (gL HR0.out)).trans HR0.out
   have x0 : wr.cell? ⟨w.heap.size, 0, none⟩ = some (.slice va ss.length vc) := cR hx rfl
   by_cases hlt : k < zs.length
   case neg =>
     obtain rfl : k = zs.length := by omega
     rw [List.take_length] at hown hok ⊢
     have HO := hid hown
     have HB := hid hb
     have HR := hid (owedR_all hok)
     clear hx hown hb hok
     go_wp2_with fail
     go_ret2
     exact ⟨_, (by rw [HR.out]; rfl), (by rw [HR.out]; exact own_mono HO.out HB0.out.size), HB0.out.trans (HB.out.mono HB0.out.size)⟩
   obtain ⟨zb, zo, rfl, hzb, z0⟩ := int_cell (HD.out.below hb) hlt
   have hsnoc : zs.take (k + 1) = zs.take k ++ [zs[k]] := take_snoc hlt
   have hmem : zs[k] ∈ zs := List.getElem_mem hlt
   have HBF := hid (HB0.out.trans (hb.mono HB0.out.size))
   obtain ⟨x, hxq⟩ : ∃ x, x = zs[k] := ⟨_, rfl⟩
   rw [← hxq] at z0 hsnoc hmem
   have HNO := hid (show ¬ OwOk ss x → owedR ss zs = none from fun q => owedR_no hmem q)
   have HSN := hid hsnoc
   have HOK := hid hok
   have HB := hid hb
   have HOWN := hid hown
   have HSP := hid (HS.out.below hb)
   have hk0 : (0 : Int) ≤ (k : Int) := by omega
   have hk1 : (k : Int) < (zs.length : Int) := by omega
   clear hxq hsnoc hmem hok hb hown hx
   by_cases hneg : x < 0
   · have hX := hid (HNO.out (fun q => by have := q.1; omega))
     go_wp2_with fail
     go_ret2
     exact ⟨_, (by rw [hX.out]; rfl), (by rw [hX.out]; exact World.ownsRow_nil _ _ _ _), HBF.out⟩
   by_cases hbig : (ss.length : Int) ≤ x
   · have hX := hid (HNO.out (fun q => by have := q.2.1; omega))
     go_wp2_with fail
     go_ret2
     exact ⟨_, (by rw [hX.out]; rfl), (by rw [hX.out]; exact World.ownsRow_nil _ _ _ _), HBF.out⟩
   obtain ⟨i, rfl⟩ : ∃ i : Nat, x = (i : Int) := ⟨x.toNat, by omega⟩
   have hil : i < ss.length := by omega
   obtain ⟨_, _, a2, cap', hv, hcc⟩ := HSP.out
   rw [Value.slice.injEq] at hv
   obtain ⟨rfl, -, rfl⟩ := hv
   obtain ⟨sb, off, rfl, hblt, hcc⟩ := hcc.resolve_left (by omega)
   have k0 : wr.cell? ⟨sb, off + i * 6, none⟩ = some (.int .i64 ss[i].1) := st_cell hcc i 0 (by decide) hil _ rfl
   have k2 : wr.cell? ⟨sb, off + i * 6 + 2, none⟩ = some (.string ⟨ss[i].2.2.1.toArray⟩) := st_cell hcc i 2 (by decide) hil _ rfl
   have hun : undoOf ss ((i : Nat) : Int) = ss[i].2.2.1 := by
     unfold undoOf
     rw [Int.toNat_natCast, List.getD_eq_getElem?_getD, List.getElem?_eq_getElem hil]; rfl
   have hkd : kdN ss i = ss[i].1 := by
     unfold kdN
     rw [List.getD_eq_getElem?_getD, List.getElem?_eq_getElem hil]; rfl
   obtain ⟨un, hunq⟩ : ∃ un, un = ss[i].2.2.1 := ⟨_, rfl⟩
   rw [← hunq] at k2 hun
   obtain ⟨kx, hkq⟩ : ∃ k9, k9 = ss[i].1 := ⟨_, rfl⟩
   rw [← hkq] at k0 hkd
   have hi0 : (0 : Int) ≤ (i : Int) := by omega
   have hi1 : (i : Int) < (ss.length : Int) := by omega
   have hi2 : ¬ ((ss.length : Int) ≤ (i : Int)) := by omega
   have HUN := hid hun
   have HKD := hid hkd
   clear hcc hun hkd hunq hkq hneg hbig
   by_cases hq1 : kx = 1
   case neg =>
     have hkx : (kx == 1) = false := by simpa using hq1
     have hkx' : (kx != 1) = true := by simpa using hq1
     have hX := hid (HNO.out (fun q => hq1 (by have := q.2.2; rw [Int.toNat_natCast, HKD.out] at this; exact this)))
     clear hq1
     go_wp2_with fail
     go_ret2
     exact ⟨_, (by rw [hX.out]; rfl), (by rw [hX.out]; exact World.ownsRow_nil _ _ _ _), HBF.out⟩
   subst hq1
   have HK := hid (show ∀ x ∈ zs.take (k + 1), OwOk ss x from fun x hx => by
     rw [HSN.out] at hx
     rcases List.mem_append.1 hx with q | q
     · exact HOK.out x q
     · rw [List.mem_singleton] at q; subst q
       exact ⟨hi0, hi1, by rw [Int.toNat_natCast, HKD.out]⟩)
   clear HNO
   cases un with
   | nil =>
     have hA := hid (show owedF ss (zs.take (k + 1)) = owedF ss (zs.take k) by rw [HSN.out]; exact owedF_no HUN.out)
     go_wp2_with fail
     go_roundw
     case rel => first
       | exact ⟨k + 1, a', c', by omega, by go_num, by rw [hA.out], by rw [hA.out]; exact HOWN.out, HK.out, HB.out⟩
       | ((repeat apply Exists.intro); exact ⟨⟨k + 1, a', c', by omega, by go_num, by rw [hA.out], by rw [hA.out]; exact HOWN.out, HK.out, HB.out⟩, rfl⟩)
     case measure => simp [intOf]; omega
   | cons u0 ur =>
     have hA := hid (show owedF ss (zs.take (k + 1)) = (i : Int) :: owedF ss (zs.take k) by rw [HSN.out]; exact owedF_yes (by rw [HUN.out]; simp))
     have hal := owedF_len ss (zs.take k)
     rw [List.length_take, Nat.min_eq_left hk] at hal
     have b8 : Below wr.heap.size wr (wr.alloc (.cells #[.int .i64 (i : Int)] 3)) := (Below.refl _ _).alloc (Nat.le_refl _) _
     have ho8 := own_new HOWN.out b8
     have hx8 := own_ints ho8 (by omega)
     have hl8 : (wr.alloc (.cells #[.int .i64 (i : Int)] 3)).ownsRow w0.heap.size 3 1 (.slice (some ⟨wr.heap.size, 0, none⟩) 1 1) 1 [.int .i64 (i : Int)] := World.ownsRow_lit wr #[.int .i64 (i : Int)] 1 HB.out.size (by omega) rfl
     have hD8 : w0.heap.size ≤ (wr.alloc (.cells #[.int .i64 (i : Int)] 3)).heap.size := Nat.le_trans HB.out.size b8.size
     have HB8 := hid (HB.out.trans (b8.mono HB.out.size))
     have h1 : ∀ u ∈ (owedF ss (zs.take k)).map iv, u.oneCell' = true := fun u hu => by
       obtain ⟨y, -, rfl⟩ := List.mem_map.1 hu; rfl
     clear b8 ho8
     go_wp2_with (at_builtin; go_must (refine wpList_append_sl _ rfl _ _ 54 rfl w0.heap.size 3 (.int .i64 0) 1 8 Try.underlying54 hinfo rfl (by decide) _ 1 [.int .i64 (i : Int)] rfl hl8 _ (owedF ss (zs.take k)).length ((owedF ss (zs.take k)).map iv) rfl hx8 h1 (by omega) (by omega) w0 hD8 HB8.out ?_))
     intro v2 wa hown2 hbl2 hgrow
     have hown3 : wa.ownsRow w0.heap.size 3 1 v2 (owedF ss (zs.take (k + 1))).length ((owedF ss (zs.take (k + 1))).flatMap ivC) := by
       rw [hA.out, ivC_map, List.length_cons, Nat.add_comm]; exact hown2
     obtain ⟨a2, c2, hv2⟩ := own_shape hown3
     subst hv2
     have HF := hid hown3
     have HBW := hid hbl2
     clear hown2 hown3 hbl2 hgrow h1 hD8 hx8 hl8
     go_wp2_with fail
     go_roundw
     case rel => first
       | exact ⟨k + 1, a2, c2, by omega, by go_num, rfl, HF.out, HK.out, HBW.out⟩
       | ((repeat apply Exists.intro); exact ⟨⟨k + 1, a2, c2, by omega, by go_num, rfl, HF.out, HK.out, HBW.out⟩, rfl⟩)
     case measure => simp [intOf]; omega
theorem keptF_cases {ss : List St} {st : Int} {done und : List Int} {fl sk stop : Bool} (h : keptF ss st done und fl sk stop = true) : owedR ss done = some (owedF ss done) ∧ done <+: actsF ss ∧
   ((st = 1 ∧ done = actsF ss ∧ und = [] ∧ fl = false ∧ sk = false) ∨ (st = 2 ∧ (fl || stop) = true ∧ sk = false ∧ und = owedF ss done) ∨ (st = 3 ∧ (fl || stop) = true ∧ sk = true ∧ und <+: owedF ss done ∧ und.length < (owedF ss done).length) ∨ (st ≠ 1 ∧ st ≠ 2 ∧ st ≠ 3 ∧ und <+: owedF ss done)) := by
 unfold keptF at h
 have ho : owedR ss done = none ∨ owedR ss done = some (owedF ss done) := by
   unfold owedR; split
   · exact .inr rfl
   · exact .inl rfl
 rcases ho with ho | ho
 · rw [ho] at h; simp at h
 rw [ho] at h
 simp only at h
 refine ⟨ho, ?_⟩
 by_cases hp : done <+: actsF ss
 case neg => rw [if_pos hp] at h; cases h
 rw [if_neg (not_not_intro hp)] at h
 refine ⟨hp, ?_⟩
 by_cases h1 : st = 1
 · rw [if_pos h1] at h
   simp only [Bool.and_eq_true, decide_eq_true_eq, Bool.not_eq_true'] at h
   exact .inl ⟨h1, h.1.1.1, h.1.1.2, h.1.2, h.2⟩
 rw [if_neg h1] at h
 by_cases h2 : st = 2
 · rw [if_pos h2] at h
   simp only [Bool.and_eq_true, decide_eq_true_eq, Bool.not_eq_true'] at h
   exact .inr (.inl ⟨h2, h.1.1, h.1.2, h.2⟩)
 rw [if_neg h2] at h
 by_cases h3 : st = 3
 · rw [if_pos h3] at h
   simp only [Bool.and_eq_true, decide_eq_true_eq] at h
   exact .inr (.inr (.inl ⟨h3, h.1.1.1, h.1.1.2, h.1.2, h.2⟩))
 rw [if_neg h3] at h
 exact .inr (.inr (.inr ⟨h1, h2, h3, of_decide_eq_true h⟩))
set_option maxHeartbeats 64000000 in
set_option maxRecDepth 100000 in
theorem kept16 (ss : List St) (lim st : Int) (va : Option Addr) (vc : Nat) (done und : List Int) (fl sk stop : Bool) (da ua : Option Addr) (dc uc : Nat) (w : World)
   (hp : Sl w (.slice va ss.length vc) 6 ss.length (ss.flatMap stC)) (hsl : ss.length ≤ 17592186043904) (hd : Sl w (.slice da done.length dc) 1 done.length (done.map iv)) (hdl : done.length ≤ 17592186043904) (hu : Sl w (.slice ua und.length uc) 1 und.length (und.map iv)) (hk : keptF ss st done und fl sk stop = true) :
   Calls Try.prog 25 #[.agg #[.slice va ss.length vc, .int .i64 lim], .agg #[.int .i64 st, .slice da done.length dc, .slice ua und.length uc, .bool fl, .bool sk, .bool stop]] w fun e w' => e = .returned (.bool true) ∧ Below w.heap.size w w' := by
 obtain ⟨hor, hpre, hcs⟩ := keptF_cases hk
 clear hk
 obtain ⟨w0, hw0⟩ : ∃ x, x = w.alloc (.cells #[.slice va ss.length vc, .int .i64 lim] 32) := ⟨_, rfl⟩
 have b0 : Below w.heap.size w w0 := by rw [hw0]; exact (Below.refl _ _).alloc (Nat.le_refl _) _
 have e0 : w0.heap.size = w.heap.size + 1 := by rw [hw0, World.size_alloc]
 have hr0 : w0.heap[w.heap.size]? = some (.cells #[.slice va ss.length vc, .int .i64 lim] 32 (0, 0)) := by rw [hw0]; exact heap_alloc_new w _
 obtain ⟨w2, hw2⟩ : ∃ x, x = w0.alloc (.cells #[.int .i64 st, .slice da done.length dc, .slice ua und.length uc, .bool fl, .bool sk, .bool stop] 60) := ⟨_, rfl⟩
 have b2 : Below w0.heap.size w0 w2 := by rw [hw2]; exact (Below.refl _ _).alloc (Nat.le_refl _) _
 have hr1 : w2.heap[w.heap.size + 1]? = some (.cells #[.int .i64 st, .slice da done.length dc, .slice ua und.length uc, .bool fl, .bool sk, .bool stop] 60 (0, 0)) := by rw [hw2, ← e0]; exact heap_alloc_new w0 _
 have hr0' := (b2.block _ (gL hr0)).trans hr0
 have b02 : Below w.heap.size w w2 := b0.trans (b2.mono b0.size)
 have p0 : w2.cell? ⟨w.heap.size, 0, none⟩ = some (.slice va ss.length vc) := cR hr0' rfl
 have p1 : w2.cell? ⟨w.heap.size, 1, none⟩ = some (.int .i64 lim) := cR hr0' rfl
 have r0 : w2.cell? ⟨w.heap.size + 1, 0, none⟩ = some (.int .i64 st) := cR hr1 rfl
 have r1 : w2.cell? ⟨w.heap.size + 1, 1, none⟩ = some (.slice da done.length dc) := cR hr1 rfl
 have r2 : w2.cell? ⟨w.heap.size + 1, 2, none⟩ = some (.slice ua und.length uc) := cR hr1 rfl
 have r3 : w2.cell? ⟨w.heap.size + 1, 3, none⟩ = some (.bool fl) := cR hr1 rfl
 have r4 : w2.cell? ⟨w.heap.size + 1, 4, none⟩ = some (.bool sk) := cR hr1 rfl
 have r5 : w2.cell? ⟨w.heap.size + 1, 5, none⟩ = some (.bool stop) := cR hr1 rfl
 have l0 := (gL hr0')
 have l1 := (gL hr1)
 have SC := hid (fun (w' : World) (q : Below w2.heap.size w2 w') => (⟨q, (q.cell (p := ⟨w.heap.size, 0, none⟩) l0).trans p0, (q.cell (p := ⟨w.heap.size, 1, none⟩) l0).trans p1, (q.cell (p := ⟨w.heap.size + 1, 0, none⟩) l1).trans r0, (q.cell (p := ⟨w.heap.size + 1, 1, none⟩) l1).trans r1, (q.cell (p := ⟨w.heap.size + 1, 2, none⟩) l1).trans r2, (q.cell (p := ⟨w.heap.size + 1, 3, none⟩) l1).trans r3, (q.cell (p := ⟨w.heap.size + 1, 4, none⟩) l1).trans r4, (q.cell (p := ⟨w.heap.size + 1, 5, none⟩) l1).trans r5⟩ : Below w2.heap.size w2 w' ∧ w'.cell? ⟨w.heap.size, 0, none⟩ = some (.slice va ss.length vc) ∧ w'.cell? ⟨w.heap.size, 1, none⟩ = some (.int .i64 lim) ∧ w'.cell? ⟨w.heap.size + 1, 0, none⟩ = some (.int .i64 st) ∧ w'.cell? ⟨w.heap.size + 1, 1, none⟩ = some (.slice da done.length dc) ∧ w'.cell? ⟨w.heap.size + 1, 2, none⟩ = some (.slice ua und.length uc) ∧ w'.cell? ⟨w.heap.size + 1, 3, none⟩ = some (.bool fl) ∧ w'.cell? ⟨w.heap.size + 1, 4, none⟩ = some (.bool sk) ∧ w'.cell? ⟨w.heap.size + 1, 5, none⟩ = some (.bool stop)))
 have hp2 := hp.below b02
 have hd2 := hd.below b02
 have hu2 := hu.below b02
 have hal : (actsF ss).length ≤ 17592186043904 := Nat.le_trans (actsK_len ss ss.length) hsl
 have hol : (owedF ss done).length ≤ 17592186043904 := Nat.le_trans (owedF_len ss done) hdl
 have HOW := hid (owed16 ss lim va vc done da dc hdl w2 hp2 hd2)
 unfold OwedPost at HOW
 rw [hor] at HOW
 have HAC := hid (fun (w' : World) (q : Below w2.heap.size w2 w') => acts16 ss lim va vc w' (hp2.below q) hsl)
 have HSD := hid (fun (w' : World) (a' : Option Addr) (c' B : Nat) (q : Below w2.heap.size w2 w') (ho : w'.ownsRow B 3 1 (.slice a' (actsF ss).length c') (actsF ss).length ((actsF ss).flatMap ivC)) => rstarts done (actsF ss) da a' dc c' w' (hd2.below q) (own_ints ho hal) (own_cap ho) hpre)
 have HMD := hid (fun (w' : World) (a' : Option Addr) (c' B : Nat) (q : Below w2.heap.size w2 w') (ho : w'.ownsRow B 3 1 (.slice a' (actsF ss).length c') (actsF ss).length ((actsF ss).flatMap ivC)) => rsame16 done (actsF ss) da a' dc c' w' (hd2.below q) (own_ints ho hal))
 have HMU := hid (fun (w' : World) (a' : Option Addr) (c' B : Nat) (q : Below w2.heap.size w2 w') (ho : w'.ownsRow B 3 1 (.slice a' (owedF ss done).length c') (owedF ss done).length ((owedF ss done).flatMap ivC)) => rsame16 und (owedF ss done) ua a' uc c' w' (hu2.below q) (own_ints ho hol))
 have HSU := hid (fun (hpu : und <+: owedF ss done) (w' : World) (a' : Option Addr) (c' B : Nat) (q : Below w2.heap.size w2 w') (ho : w'.ownsRow B 3 1 (.slice a' (owedF ss done).length c') (owedF ss done).length ((owedF ss done).flatMap ivC)) => rstarts und (owedF ss done) ua a' uc c' w' (hu2.below q) (own_ints ho hol) (own_cap ho) hpu)
 have HW0 := hid hw0
 have HW2 := hid hw2
 have HB02 := hid b02
 have HCS := hid hcs
 clear hw0 hw2 b0 b2 hr0 hr1 hr0' e0 l0 l1 hp hd hu hp2 hd2 hu2 hpre hor hcs b02
 go_enter Try.func25, Try.ntmps25
 go_wp2_with fail
 rw [← HW0.out]
 go_wp2_with fail
 try rw [← HW2.out]
 go_wp2_with fail
 refine HOW.out.mono ?_
 rintro _ w3 ⟨v3, rfl, ho3, b3⟩
 simp only [Option.getD_some] at ho3
 rw [if_neg (by simp)]
 obtain ⟨oa, oc, rfl⟩ := own_shape ho3
 have UP := hid (fun (w' : World) (q : Below w3.heap.size w3 w') => b3.trans (q.mono b3.size))
 have HBF := hid (fun (w' : World) (q : Below w3.heap.size w3 w') => HB02.out.trans ((UP.out w' q).mono HB02.out.size))
 have SD := hid (fun (w' : World) (q : Below w3.heap.size w3 w') => (⟨q, (SC.out _ (UP.out _ q)).2⟩ : Below w3.heap.size w3 w' ∧ w'.cell? ⟨w.heap.size, 0, none⟩ = some (.slice va ss.length vc) ∧ w'.cell? ⟨w.heap.size, 1, none⟩ = some (.int .i64 lim) ∧ w'.cell? ⟨w.heap.size + 1, 0, none⟩ = some (.int .i64 st) ∧ w'.cell? ⟨w.heap.size + 1, 1, none⟩ = some (.slice da done.length dc) ∧ w'.cell? ⟨w.heap.size + 1, 2, none⟩ = some (.slice ua und.length uc) ∧ w'.cell? ⟨w.heap.size + 1, 3, none⟩ = some (.bool fl) ∧ w'.cell? ⟨w.heap.size + 1, 4, none⟩ = some (.bool sk) ∧ w'.cell? ⟨w.heap.size + 1, 5, none⟩ = some (.bool stop)))
 have hbd : Below w3.heap.size w3 (w3.drewN 1) := below_drewN _ _ _
 have HO3 := hid ho3
 clear p0 p1 r0 r1 r2 r3 r4 r5 HOW ho3 SC b3
 go_wp2_with fail
 go_region_held3 (fun w' : World => Below w3.heap.size w3 w' ∧ w'.cell? ⟨w.heap.size, 0, none⟩ = some (.slice va ss.length vc) ∧ w'.cell? ⟨w.heap.size, 1, none⟩ = some (.int .i64 lim) ∧ w'.cell? ⟨w.heap.size + 1, 0, none⟩ = some (.int .i64 st) ∧ w'.cell? ⟨w.heap.size + 1, 1, none⟩ = some (.slice da done.length dc) ∧ w'.cell? ⟨w.heap.size + 1, 2, none⟩ = some (.slice ua und.length uc) ∧ w'.cell? ⟨w.heap.size + 1, 3, none⟩ = some (.bool fl) ∧ w'.cell? ⟨w.heap.size + 1, 4, none⟩ = some (.bool sk) ∧ w'.cell? ⟨w.heap.size + 1, 5, none⟩ = some (.bool stop)) (first | with_reducible exact SD.out _ hbs | with_reducible exact SD.out _ hba | exact SD.out _ hbd) (first
   | ((go_at_call 54; refine (HAC.out _ (UP.out _ hbd)).mono ?_; rintro _ wa ⟨aa, ac, rfl, hoa, ba⟩; have hba := hbd.trans (ba.mono hbd.size)))
   | ((go_at_call 26; refine (HSD.out _ _ _ _ (UP.out _ hba) hoa).mono ?_; rintro _ ws ⟨rfl, bs⟩; have hbs := hba.trans (bs.mono hba.size))))
 obtain ⟨-, p0, p1, r0, r1, r2, r3, r4, r5⟩ := SD.out _ hbs
 have hbe : Below w3.heap.size w3 (ws.drewN 1) := hbs.trans (below_drewN _ _ _)
 have HOE := hid (own_new HO3.out hbe)
 have HOS := hid (own_new HO3.out hbs)
 have HBE := hid hbe
 have HBS := hid hbs
 clear hba hbd ba bs hoa HSD
 rcases HCS.out with ⟨h1, h2, h3, h4, h5⟩ | ⟨h1, h2, h3, h4⟩ | ⟨h1, h2, h3, h4, h5⟩ | ⟨h1, h2, h3, h4⟩
 · subst h1 h4 h5
   have hz : ((und.length : Int) == 0) = true := by rw [h3]; rfl
   have HDQ := hid (show decide (done = actsF ss) = true from decide_eq_true h2)
   clear h2 h3 hbs
   go_wp2_with fail
   go_region_held3 (fun w' : World => Below w3.heap.size w3 w' ∧ w'.cell? ⟨w.heap.size, 0, none⟩ = some (.slice va ss.length vc) ∧ w'.cell? ⟨w.heap.size, 1, none⟩ = some (.int .i64 lim) ∧ w'.cell? ⟨w.heap.size + 1, 0, none⟩ = some (.int .i64 1) ∧ w'.cell? ⟨w.heap.size + 1, 1, none⟩ = some (.slice da done.length dc) ∧ w'.cell? ⟨w.heap.size + 1, 2, none⟩ = some (.slice ua und.length uc) ∧ w'.cell? ⟨w.heap.size + 1, 3, none⟩ = some (.bool false) ∧ w'.cell? ⟨w.heap.size + 1, 4, none⟩ = some (.bool false) ∧ w'.cell? ⟨w.heap.size + 1, 5, none⟩ = some (.bool stop)) (first | with_reducible exact SD.out _ hbt | with_reducible exact SD.out _ hba | exact SD.out _ hbe) (first
     | ((go_at_call 54; refine (HAC.out _ (UP.out _ hbe)).mono ?_; rintro _ wa ⟨aa, ac, rfl, hoa, ba⟩; have hba := hbe.trans (ba.mono hbe.size)))
     | ((go_at_call 28; refine (HMD.out _ _ _ _ (UP.out _ hba) hoa).mono ?_; rintro _ wt ⟨rfl, bt⟩; rw [HDQ.out]; have hbt := hba.trans (bt.mono hba.size))))
   have HBT := hid hbt
   clear hba hoa ba bt hbt
   go_wp2_with fail
   go_ret
   exact ⟨rfl, HBF.out _ HBT.out⟩
 · subst h1 h3
   have HUQ := hid (show decide (und = owedF ss done) = true from decide_eq_true h4)
   clear h4
   cases fl with
   | true =>
     clear h2
     have HSV := hid (HMU.out _ _ _ _ (UP.out _ hbs) HOS.out)
     clear hbs hbe
     go_wp2_with fail
     refine HSV.out.mono ?_
     rintro _ wt ⟨rfl, bt⟩
     rw [HUQ.out]
     have HBT := hid (HBS.out.trans (bt.mono HBS.out.size))
     clear bt
     go_wp2_with fail
     go_ret
     exact ⟨rfl, HBF.out _ HBT.out⟩
   | false =>
     have h2 : stop = true := by simpa using h2
     subst h2
     have HSV := hid (HMU.out _ _ _ _ (UP.out _ hbs) HOS.out)
     clear hbs hbe
     go_wp2_with fail
     refine HSV.out.mono ?_
     rintro _ wt ⟨rfl, bt⟩
     rw [HUQ.out]
     have HBT := hid (HBS.out.trans (bt.mono HBS.out.size))
     clear bt
     go_wp2_with fail
     go_ret
     exact ⟨rfl, HBF.out _ HBT.out⟩
 · subst h1 h3
   have HPU := hid h4
   have h5I : (und.length : Int) < ((owedF ss done).length : Int) := by omega
   clear h4 h5
   cases fl with
   | true =>
     clear h2
     have HSV := hid (HSU.out HPU.out _ _ _ _ (UP.out _ hbs) HOS.out)
     clear hbs hbe
     go_wp2_with fail
     refine HSV.out.mono ?_
     rintro _ wt ⟨rfl, bt⟩
     have HBT := hid (HBS.out.trans (bt.mono HBS.out.size))
     obtain ⟨-, -, -, -, -, m2, -, -, -⟩ := SD.out _ HBT.out
     clear bt
     go_wp2_with fail
     go_ret
     exact ⟨rfl, HBF.out _ HBT.out⟩
   | false =>
     have h2 : stop = true := by simpa using h2
     subst h2
     have HSV := hid (HSU.out HPU.out _ _ _ _ (UP.out _ hbs) HOS.out)
     clear hbs hbe
     go_wp2_with fail
     refine HSV.out.mono ?_
     rintro _ wt ⟨rfl, bt⟩
     have HBT := hid (HBS.out.trans (bt.mono HBS.out.size))
     obtain ⟨-, -, -, -, -, m2, -, -, -⟩ := SD.out _ HBT.out
     clear bt
     go_wp2_with fail
     go_ret
     exact ⟨rfl, HBF.out _ HBT.out⟩
 · have k1 : (st == 1) = false := by simpa using h1
   have k2 : (st == 2) = false := by simpa using h2
   have k3 : (st == 3) = false := by simpa using h3
   have HSV := hid (HSU.out h4 _ _ _ _ (UP.out _ hbs) HOS.out)
   clear h1 h2 h3 h4 hbs hbe
   go_wp2_with fail
   refine HSV.out.mono ?_
   rintro _ wt ⟨rfl, bt⟩
   have HBT := hid (HBS.out.trans (bt.mono HBS.out.size))
   clear bt
   go_wp2_with fail
   go_ret
   exact ⟨rfl, HBF.out _ HBT.out⟩
end Go.Proofs.Ytdoblbiodpcjdaa
