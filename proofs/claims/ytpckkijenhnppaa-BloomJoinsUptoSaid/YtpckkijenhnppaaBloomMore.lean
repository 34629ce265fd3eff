/- THE WALKS OF BloomMore, BloomJoins. -/
import Derived.Test.YtpckkijenhnppaaBloomLaws
import Derived.Test.YtpckkijenhnppaaBloomOpen
import Derived.RegionTactic
import Derived.WalkSpells
namespace Go.Proofs.Ytpckkijenhnppaa
open Go.ChangeShapes Go.WideShapes Go.ChangeAt Go.RowKit Go.Deep

theorem infoStr : (Try.prog.info? 9).map (fun i => (i.zero, i.size, i.bytes)) = some (some (.string ⟨#[]⟩), 1, 16) := by kernel_rfl
theorem strV_one (ss : List (List UInt8)) : ∀ u ∈ ss.map strV, u.oneCell' = true := by
  intro u hu
  simp only [List.mem_map] at hu
  obtain ⟨s, _, rfl⟩ := hu
  rfl
theorem open_mored {H : Type} {enc : TypeId × Value → H} {W : World} {base : Nat} {v : Value} {d : DataW H} {p : List MemPlace} (hv : Value.okWide Try.prog W .any base 38 v)
    (h : DataW.Trod enc Try.prog W 0 (fun _ => true) true 38 v d p) : ∃ (v0 v1 : Value) (n : Int) (v3 : Value) (ks ms qs : List (List UInt8)),
      v = .agg #[v0, v1, .int .i64 n, v3] ∧ Sl W v0 1 ks.length (ks.map strV) ∧ Sl W v1 1 ms.length (ms.map strV) ∧ Sl W v3 1 qs.length (qs.map strV) ∧ letters ks + letters ms + letters qs ≤ Rows.uptoBulk d := by
  obtain ⟨cs, rfl, hsz⟩ := okWide_struct Try.underlying38 hv
  obtain ⟨fuel, hf⟩ := h
  obtain ⟨ys, n, hd, hyl, hcl, hg⟩ := trod_fields Try.underlying38 (by kernel_rfl) (by kernel_rfl) hf
  obtain ⟨c0, y0, e0, f0, t0⟩ := hg 0 _ rfl
  obtain ⟨c1, y1, e1, f1, t1⟩ := hg 1 _ rfl
  obtain ⟨c2, y2, e2, _, t2⟩ := hg 2 _ rfl
  obtain ⟨c3, y3, e3, f3, t3⟩ := hg 3 _ rfl
  obtain ⟨ks, g0, _, b0⟩ := trod_strs (P := Try.prog) Try.underlying22 Try.underlying9 (by kernel_rfl) (fun d : DataW H => Rows.uptoBulk d) (fun l => by rw [bulk_string]; exact Nat.le_refl _) t0
  obtain ⟨ms, g1, _, b1⟩ := trod_strs (P := Try.prog) Try.underlying22 Try.underlying9 (by kernel_rfl) (fun d : DataW H => Rows.uptoBulk d) (fun l => by rw [bulk_string]; exact Nat.le_refl _) t1
  obtain ⟨qs, g3, _, b3⟩ := trod_strs (P := Try.prog) Try.underlying22 Try.underlying9 (by kernel_rfl) (fun d : DataW H => Rows.uptoBulk d) (fun l => by rw [bulk_string]; exact Nat.le_refl _) t3
  obtain ⟨N, k2, _, wn⟩ := DataW.trod_int Try.underlying3 t2
  simp only [List.cons.injEq, and_true] at k2
  subst k2
  have q0 := bulk_sl (n := letters ks) (b0.imp (fun ⟨a, b⟩ => ⟨a, by rw [b]; rfl⟩) id)
  have q1 := bulk_sl (n := letters ms) (b1.imp (fun ⟨a, b⟩ => ⟨a, by rw [b]; rfl⟩) id)
  have q3 := bulk_sl (n := letters qs) (b3.imp (fun ⟨a, b⟩ => ⟨a, by rw [b]; rfl⟩) id)
  obtain ⟨l⟩ := cs
  simp only [Value.cells] at hcl e0 e1 e2 e3
  match l, hcl with
  | [d0, d1, d2, d3], _ =>
    simp at e0 e1 e2 e3
    subst e0; subst e1; subst e2; subst e3
    refine ⟨d0, d1, N, d3, ks, ms, qs, rfl, g0, g1, g3, ?_⟩
    simp only at hd
    rw [hd]
    match ys, hyl with
    | [z0, z1, z2, z3], _ =>
      simp at f0 f1 f3
      subst f0; subst f1; subst f3
      simp only [List.map_cons, List.map_nil, Rows.uptoBulk, Rows.uptoBulkAll]; omega
theorem letters_len (ss : List (List UInt8)) : ss.length ≤ letters ss := sumBy_one (fun s => by omega) ss
theorem letters_mem {ss : List (List UInt8)} {s : List UInt8} (h : s ∈ ss) : s.length + 1 ≤ letters ss := sumBy_mem (sz := fun s => s.length + 1) h

theorem has_moreS (n : Int) (ks ms : List (List UInt8)) (k : List UInt8) (h : hasL (madeS n ks) k = true) : hasL (madeS n (ms ++ ks)) k = true := by
  unfold madeS at *
  split at h
  · cases h
  · rename_i hn
    rw [if_neg hn]
    exact has_more (by omega) (by omega) ks ms k h
theorem Sl.joined {w : World} {B : Nat} {e : TypeId} {v : Value} {xs ys : List (List UInt8)} (h : w.ownsRow B e 1 v (0 + xs.length + ys.length) ([] ++ xs.map strV ++ ys.map strV)) (hn : xs.length + ys.length ≤ maxLen) : Sl w v 1 (xs ++ ys).length ((xs ++ ys).map strV) := by
  have h1 := Sl.of_own h (by omega)
  simpa [Nat.zero_add] using h1

set_option maxHeartbeats 3200000 in
theorem bloomMore_walk (v v0 v1 : Value) (n : Int) (v3 : Value) (ks ms qs : List (List UInt8)) (w : World) (hv : v = .agg #[v0, v1, .int .i64 n, v3]) (h0 : Sl w v0 1 ks.length (ks.map strV)) (h1 : Sl w v1 1 ms.length (ms.map strV)) (h3 : Sl w v3 1 qs.length (qs.map strV))
    (hsz : letters ks + letters ms + letters qs ≤ 1048576) :
    Calls Try.prog 5 #[v] w fun e w' => e = .returned (.bool true) ∧ Below w.heap.size w w' := by
  subst hv
  have lk := letters_len ks; have lm := letters_len ms; have lq := letters_len qs
  have HKS : Hid (∀ s ∈ ks, s.length ≤ maxLen) := fun s hs => by have := letters_mem hs; unfold maxLen; omega
  have HMS : Hid (∀ s ∈ ms, s.length ≤ maxLen) := fun s hs => by have := letters_mem hs; unfold maxLen; omega
  have HQS : Hid (∀ s ∈ qs, s.length ≤ maxLen) := fun s hs => by have := letters_mem hs; unfold maxLen; omega
  have H0 := hid h0; have H1 := hid h1
  obtain ⟨_, _, a3, cap3, rfl, c3⟩ := h3
  have C3 := hid c3
  clear h0 h1 c3
  have g1 : 0 + ms.length ≤ maxLen := by unfold maxLen; omega
  have g2 : (0 + ms.length) * 16 ≤ 140737488355328 := by omega
  have k1 : 0 + ms.length + ks.length ≤ maxLen := by unfold maxLen; omega
  have k2 : (0 + ms.length + ks.length) * 16 ≤ 140737488355328 := by omega
  go_enter Try.func5, Try.ntmps5
  go_wp2_with fail
  go_quiet (fail)
  go_wp2_with fail
  obtain ⟨W1, hW1⟩ : ∃ W1, W1 = ((w.alloc (.cells #[v0, v1, .int .i64 n, .slice a3 qs.length cap3] 38)).drewN nq) := ⟨_, rfl⟩
  have hb0 : Below w.heap.size w W1 := by rw [hW1]; exact bnext ((Below.refl _ _).alloc (Nat.le_refl _) _) (below_drewN _ _ _)
  rw [← hW1]
  clear hW1
  refine (bawake_any _).mono ?_
  rintro e w1 ⟨rfl, hb1⟩
  have hbb1 := bnext hb0 hb1
  go_wp2_with fail
  refine (make_all v0 ks n HKS.out _ (H0.out.below hbb1)).mono ?_
  rintro e w2 ⟨rfl, hb2⟩
  have hbb2 := bnext hbb1 hb2
  have hz2 := hbb2.size
  have c1 := H1.out.below hbb2
  have d0 := H0
  clear hb0 hb1 hbb1 hb2
  have tok1 : True := trivial
  go_wp2_with (first
    | (at_builtin; have _t := tok1; clear tok1 _t; go_must (refine wpList_append_sl _ rfl _ _ 22 rfl w.heap.size 9 (.string ⟨#[]⟩) 1 16 Try.underlying22 infoStr rfl (by decide) (.slice none 0 0) 0 [] rfl (World.ownsRow_nil _ _ _ _) v1 ms.length (ms.map strV) rfl c1 (strV_one ms) g1 g2 w hz2 hbb2 ?_); intro v4 w3 o3 hb3 hg3; have hz3 := hb3.size; have e0 := H0.out.below hb3; clear hg3 c1)
    | (at_builtin; go_must (refine wpList_append_sl _ rfl _ _ 22 rfl w.heap.size 9 (.string ⟨#[]⟩) 1 16 Try.underlying22 infoStr rfl (by decide) _ _ _ rfl o3 v0 ks.length (ks.map strV) rfl e0 (strV_one ks) k1 k2 w hz3 hb3 ?_); intro v5 w4 o4 hb4 hg4))
  have s5 := Sl.joined o4 (by unfold maxLen; omega)
  clear o4 o3 e0 hb3 hz3 hg4 hbb2 hz2 d0
  have HAS := hid (fun q => has_moreS n ks ms q)
  have hF := madeS_len n ks
  have hG := madeS_len n (ms ++ ks)
  refine (make_all v5 (ms ++ ks) n (fun s hs => by rcases List.mem_append.1 hs with h | h; exact HMS.out s h; exact HKS.out s h) _ s5).mono ?_
  rintro e w5 ⟨rfl, hb5⟩
  obtain ⟨F, hFF⟩ : ∃ F, F = madeS n ks := ⟨_, rfl⟩
  obtain ⟨G, hGG⟩ : ∃ G, G = madeS n (ms ++ ks) := ⟨_, rfl⟩
  rw [← hFF] at hF HAS ⊢
  rw [← hGG] at hG HAS ⊢
  have hb := bnext hb4 hb5
  clear hFF hGG s5 hb4 hb5
  go_wp2_with fail
  go_loopw [12, 43] (fun _ i wr => ∃ k : Nat, k ≤ qs.length ∧ i = .int .i64 k ∧ Below w.heap.size w wr) (fun _ i _ => qs.length - (intOf i).toNat)
  case atStart => exact ⟨0, by omega, rfl, hb⟩
  case round =>
    clear hb
    obtain ⟨k, hk, rfl, hb⟩ := hrel
    by_cases hlt : k < qs.length
    · obtain ⟨b, off, rfl, hblt, hc⟩ := C3.out.resolve_left (by omega)
      have hck : wr.cell? ⟨b, off + k, none⟩ = some (.string ⟨(qs[k]).toArray⟩) := (hb.cell (p := ⟨b, off + k, none⟩) hblt).trans ((hc k (by simpa using hlt)).trans (by simp [strV]))
      clear hc
      have hql := HQS.out _ (List.getElem_mem hlt)
      cases hB : hasL F qs[k]
      · have HB := hid hB
        clear hB
        go_wp2_with fail
        refine (has_any F qs[k] (by unfold maxLen; omega) hql _).mono ?_
        rw [HB.out]
        rintro e w6 ⟨rfl, rfl⟩
        go_wp2_with fail
        go_roundw
        case rel => exact ⟨k + 1, by omega, by go_num, hb⟩
        case measure => simp [intOf]; omega
      · have HB := hid hB
        have HB2 := hid (HAS.out _ hB)
        clear hB
        go_wp2_with fail
        refine (has_any F qs[k] (by unfold maxLen; omega) hql _).mono ?_
        rw [HB.out]
        rintro e w6 ⟨rfl, rfl⟩
        go_wp2_with fail
        refine (has_any G qs[k] (by unfold maxLen; omega) hql _).mono ?_
        rw [HB2.out]
        rintro e w6 ⟨rfl, rfl⟩
        go_wp2_with fail
        go_roundw
        case rel => exact ⟨k + 1, by omega, by go_num, hb⟩
        case measure => simp [intOf]; omega
    · go_wp2_with fail
      go_ret
      exact ⟨rfl, hb⟩

theorem joinsS_at (n : Int) (ks ms : List (List UInt8)) (i : Nat) (h1 : i < (madeS n ks).length) (h2 : i < (madeS n ms).length) (h3 : i < (madeS n (ks ++ ms)).length) : (madeS n ks)[i] ||| (madeS n ms)[i] = (madeS n (ks ++ ms))[i] := by
  have hn : ¬ (n < 1 ∨ 8192 < n) := by
    intro h; unfold madeS at h1; rw [if_pos h] at h1; simp at h1
  have e : ∀ l, madeS n l = makeL n.toNat l := fun l => by unfold madeS; rw [if_neg hn]
  have h := joins_at (n := n.toNat) (by omega) ks ms i
  simp only [e] at h1 h2 h3 ⊢
  rw [List.getElem?_eq_getElem h1, List.getElem?_eq_getElem h2, List.getElem?_eq_getElem h3] at h
  exact h
theorem or_u8 (a b : UInt8) : bits .or .u8 (a.toNat : Int) (b.toNat : Int) = ((a ||| b).toNat : Int) := by
  rw [u8_or_nat _ _ (UInt8.toNat_lt a) (UInt8.toNat_lt b), UInt8.toNat_or]
theorem madeS_same (n : Int) (ks ms : List (List UInt8)) : (madeS n ks).length = (madeS n ms).length := by
  unfold madeS; split
  · rfl
  · rw [makeL_len, makeL_len]

set_option maxHeartbeats 3200000 in
theorem bloomJoins_walk (v0 : Value) (ks : List (List UInt8)) (v1 : Value) (ms : List (List UInt8)) (n : Int) (_hn : -9223372036854775808 ≤ n ∧ n ≤ 9223372036854775807) (w : World) (h0 : Sl w v0 1 ks.length (ks.map strV)) (h1 : Sl w v1 1 ms.length (ms.map strV))
    (hsz : letters ks + letters ms ≤ 1048576) :
    Calls Try.prog 6 #[v0, v1, .int .i64 n] w fun e w' => e = .returned (.bool true) ∧ Below w.heap.size w w' := by
  have lk := letters_len ks; have lm := letters_len ms
  have HKS : Hid (∀ s ∈ ks, s.length ≤ maxLen) := fun s hs => by have := letters_mem hs; unfold maxLen; omega
  have HMS : Hid (∀ s ∈ ms, s.length ≤ maxLen) := fun s hs => by have := letters_mem hs; unfold maxLen; omega
  have H0 := hid h0; have H1 := hid h1
  clear h0 h1
  have g1 : 0 + ks.length ≤ maxLen := by unfold maxLen; omega
  have g2 : (0 + ks.length) * 16 ≤ 140737488355328 := by omega
  have k1 : 0 + ks.length + ms.length ≤ maxLen := by unfold maxLen; omega
  have k2 : (0 + ks.length + ms.length) * 16 ≤ 140737488355328 := by omega
  go_enter Try.func6, Try.ntmps6
  go_wp2_with fail
  refine (bawake_any _).mono ?_
  rintro e w1 ⟨rfl, hb1⟩
  go_wp2_with fail
  refine (make_all v0 ks n HKS.out _ (H0.out.below hb1)).mono ?_
  rintro e w2 ⟨rfl, hb2⟩
  have hbb2 := bnext hb1 hb2
  go_wp2_with fail
  refine (make_all v1 ms n HMS.out _ (H1.out.below hbb2)).mono ?_
  rintro e w3 ⟨rfl, hb3⟩
  have hbb3 := bnext hbb2 hb3
  have hz2 := hbb3.size
  have c1 := H0.out.below hbb3
  clear hb1 hb2 hbb2 hb3
  have tok1 : True := trivial
  go_wp2_with (first
    | (at_builtin; have _t := tok1; clear tok1 _t; go_must (refine wpList_append_sl _ rfl _ _ 22 rfl w.heap.size 9 (.string ⟨#[]⟩) 1 16 Try.underlying22 infoStr rfl (by decide) (.slice none 0 0) 0 [] rfl (World.ownsRow_nil _ _ _ _) v0 ks.length (ks.map strV) rfl c1 (strV_one ks) g1 g2 w hz2 hbb3 ?_); intro v4 w4 o3 hb3 hg3; have hz3 := hb3.size; have e0 := H1.out.below hb3; clear hg3 c1)
    | (at_builtin; go_must (refine wpList_append_sl _ rfl _ _ 22 rfl w.heap.size 9 (.string ⟨#[]⟩) 1 16 Try.underlying22 infoStr rfl (by decide) _ _ _ rfl o3 v1 ms.length (ms.map strV) rfl e0 (strV_one ms) k1 k2 w hz3 hb3 ?_); intro v5 w5 o4 hb4 hg4))
  have s5 := Sl.joined o4 (by unfold maxLen; omega)
  clear o4 o3 e0 hb3 hz3 hg4 hbb3 hz2
  have HAS := hid (fun i => joinsS_at n ks ms i)
  have hF := madeS_len n ks
  have hs1 := madeS_same n ks ms
  have hs2 := madeS_same n ks (ks ++ ms)
  refine (make_all v5 (ks ++ ms) n (fun s hs => by rcases List.mem_append.1 hs with h | h; exact HKS.out s h; exact HMS.out s h) _ s5).mono ?_
  rintro e w6 ⟨rfl, hb5⟩
  obtain ⟨F, hFF⟩ : ∃ F, F = madeS n ks := ⟨_, rfl⟩
  obtain ⟨M, hMM⟩ : ∃ M, M = madeS n ms := ⟨_, rfl⟩
  obtain ⟨G, hGG⟩ : ∃ G, G = madeS n (ks ++ ms) := ⟨_, rfl⟩
  rw [← hFF] at hF HAS hs1 hs2 ⊢
  rw [← hMM] at HAS hs1 ⊢
  rw [← hGG] at HAS hs2 ⊢
  have hb := bnext hb4 hb5
  have q1 : ((F.length : Int) != (M.length : Int)) = false := by rw [hs1]; simp
  have q2 : ((F.length : Int) != (G.length : Int)) = false := by rw [hs2]; simp
  have HS1 := hid hs1; have HS2 := hid hs2
  clear hFF hGG hMM s5 hb4 hb5 hs1 hs2
  go_wp2_with fail
  go_loopw [13, 61] (fun _ i wr => ∃ k : Nat, k ≤ F.length ∧ i = .int .i64 k ∧ Below w.heap.size w wr) (fun _ i _ => F.length - (intOf i).toNat)
  case atStart => exact ⟨0, by omega, rfl, hb⟩
  case round =>
    clear hb q1 q2
    obtain ⟨k, hk, rfl, hb⟩ := hrel
    by_cases hlt : k < F.length
    · have hlM : k < M.length := by rw [← HS1.out]; exact hlt
      have hlG : k < G.length := by rw [← HS2.out]; exact hlt
      have hj := HAS.out k hlt hlM hlG
      have eo := or_u8 ((⟨F.toArray⟩ : ByteArray)[k]'hlt) ((⟨M.toArray⟩ : ByteArray)[k]'hlM)
      have ej : ((⟨F.toArray⟩ : ByteArray)[k]'hlt ||| (⟨M.toArray⟩ : ByteArray)[k]'hlM) = (⟨G.toArray⟩ : ByteArray)[k]'hlG := hj
      rw [ej] at eo
      clear ej hj
      have i1 : (k : Int) < (F.length : Int) := by omega
      have i2 : (k : Int) < (M.length : Int) := by omega
      have i3 : (k : Int) < (G.length : Int) := by omega
      go_wp2_with fail
      go_quiet (fail)
      go_wp2_with fail
      go_roundw
      case rel => exact ⟨k + 1, by omega, by go_num, bnext hb (below_drewN _ _ _)⟩
      case measure => simp [intOf]; omega
    · go_wp2_with fail
      go_ret
      exact ⟨rfl, hb⟩
end Go.Proofs.Ytpckkijenhnppaa
