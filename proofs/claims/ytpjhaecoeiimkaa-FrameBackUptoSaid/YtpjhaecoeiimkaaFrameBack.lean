/- THE PLAIN LAW OF FrameBack. -/
import Derived.Test.YtpjhaecoeiimkaaFrameSame
import Derived.Test.YtpjhaecoeiimkaaFrameShorts
import Derived.Test.YtpjhaecoeiimkaaOpenVary
namespace Go.Proofs.Ytpjhaecoeiimkaa
open Go.RowKit

def allL : List (List UInt8) → List UInt8 | [] => [] | s :: r => wrapL s ++ allL r
theorem allL_app (a b : List (List UInt8)) : allL (a ++ b) = allL a ++ allL b := by
  induction a with
  | nil => rfl
  | cons x r ih => simp [allL, ih]
theorem allL_take {a : List (List UInt8)} {k : Nat} (h : k < a.length) : allL (a.take (k + 1)) = allL (a.take k) ++ wrapL a[k] := by
  rw [List.take_add_one, List.getElem?_eq_getElem h, allL_app]; simp [allL]
theorem wrapL_len {s : List UInt8} (hs : s.length ≤ 1048576) : (wrapL s).length ≤ 14 + s.length := by
  have h10 := putL_len10 (n := s.length) (by unfold U64; omega)
  simp only [wrapL, List.length_append, fourL_len]; omega
theorem allL_len (a : List (List UInt8)) (h : lettersL a ≤ 1048576) : (allL a).length ≤ 15 * lettersL a := by
  induction a with
  | nil => simp [allL]
  | cons x r ih =>
    simp only [lettersL] at h
    have h1 := wrapL_len (s := x) (by omega)
    have h2 := ih (by omega)
    simp only [allL, List.length_append, lettersL]; omega
theorem bletters_mem {ss : List (List UInt8)} {k : Nat} (h : k < ss.length) : ss[k].length ≤ lettersL ss := by
  induction ss generalizing k with
  | nil => simp at h
  | cons s r ih =>
    cases k with
    | zero => simp [lettersL]; omega
    | succ k => have := ih (k := k) (by simpa using h); simp only [List.getElem_cons_succ, lettersL]; omega
theorem bletters_take (ss : List (List UInt8)) (k : Nat) : lettersL (ss.take k) ≤ lettersL ss := by
  induction ss generalizing k with
  | nil => simp
  | cons s r ih => cases k with
    | zero => simp [lettersL]
    | succ k => have := ih k; simp only [List.take_succ_cons, lettersL]; omega
theorem scan_nil : scanL [] = ([], []) := scan_end (by decide)
theorem scan_wraps (r : List UInt8) : ∀ ts : List (List UInt8), lettersL ts ≤ 1048576 → scanL (allL ts ++ r) = (ts ++ (scanL r).1, (scanL r).2)
  | [], _ => by simp [allL]
  | t :: ts, h => by
    simp only [lettersL] at h
    have hn := next_wrap t (allL ts ++ r) (by omega)
    rw [allL, List.append_assoc, scan_ok (by rw [hn]), hn, scan_wraps r ts (by omega)]
    rfl
theorem scan_part {s : List UInt8} (hs : s.length ≤ 1048576) {k : Nat} (hk : k < (wrapL s).length) : scanL ((wrapL s).take k) = ([], (wrapL s).take k) := scan_end (by rw [next_take s hs k hk]; decide)
theorem scan_all {ts : List (List UInt8)} (h : lettersL ts ≤ 1048576) : scanL (allL ts) = (ts, []) := by
  have := scan_wraps [] ts h
  rw [scan_nil] at this
  simpa using this
theorem all_split (ts : List (List UInt8)) (k : Nat) : allL ts = allL (ts.take k) ++ allL (ts.drop k) := by rw [← allL_app, List.take_append_drop]
/-- what a scan of the beginning gives -/
theorem scan_cut {ts : List (List UInt8)} (h : lettersL ts ≤ 1048576) (k cut : Nat) (hk : k ≤ ts.length) (hat : (allL (ts.take k)).length ≤ cut) (hc : cut ≤ (allL ts).length)
    (hend : k = ts.length ∨ cut < (allL (ts.take (k + 1))).length) : (scanL ((allL ts).take cut)).1 = ts.take k ∧ cut - (scanL ((allL ts).take cut)).2.length = (allL (ts.take k)).length := by
  have ht := bletters_take ts k
  have e : (allL ts).take cut = allL (ts.take k) ++ (allL (ts.drop k)).take (cut - (allL (ts.take k)).length) := by
    rw [all_split ts k, List.take_append, List.take_of_length_le hat]
  by_cases hlt : k < ts.length
  · have hend' := hend.resolve_left (by omega)
    rw [allL_take hlt, List.length_append] at hend'
    have hm := bletters_mem hlt
    rw [List.drop_eq_getElem_cons hlt, allL, List.take_append_of_le_length (by omega)] at e
    rw [e, scan_wraps _ _ (by omega), scan_part (by omega) (by omega)]
    refine ⟨by simp, ?_⟩
    simp only [List.length_take]; omega
  · obtain rfl : k = ts.length := by omega
    rw [List.drop_of_length_le (Nat.le_refl _)] at e
    rw [e, scan_wraps _ _ (by omega)]
    simp only [allL, List.take_nil, scan_nil]
    rw [List.take_of_length_le (Nat.le_refl _)] at hat ⊢
    refine ⟨by simp, ?_⟩
    simp; omega
theorem Sl.take {w : World} {a : Option Addr} {n cap : Nat} {cells : List Value} (h : Sl w (.slice a n cap) 1 n cells) {k : Nat} (hk : k ≤ n) : Sl w (.slice a k cap) 1 k (cells.take k) := by
  obtain ⟨h1, ⟨h2, h3⟩, a', cap', e, h4⟩ := h
  cases e
  refine ⟨by simp; omega, ⟨by omega, fun m c e => ?_⟩, a, cap, rfl, ?_⟩
  · cases e; exact h3 _ _ rfl
  · by_cases h0 : k = 0
    · exact .inl h0
    · rcases h4 with h4 | ⟨b, off, rfl, hb, hc⟩
      · omega
      · exact .inr ⟨b, off, rfl, hb, fun j hj => by
          have hj' : j < cells.length := by have := hj; simp at this; omega
          rw [hc j hj', List.getElem_take]⟩
/-- the ends of the first k frames -/
def endsV (ts : List (List UInt8)) (k : Nat) : List Value := (List.range k).map fun j => .int .i64 ((allL (ts.take (j + 1))).length : Int)
theorem endsV_len (ts : List (List UInt8)) (k : Nat) : (endsV ts k).length = k := by simp [endsV]
theorem endsV_succ (ts : List (List UInt8)) (k : Nat) : endsV ts (k + 1) = endsV ts k ++ [.int .i64 ((allL (ts.take (k + 1))).length : Int)] := by simp [endsV, List.range_succ]
theorem endsV_at (ts : List (List UInt8)) (k j : Nat) (h : j < (endsV ts k).length) : (endsV ts k)[j] = .int .i64 ((allL (ts.take (j + 1))).length : Int) := by simp [endsV]
theorem bstr_eq {l l' : List UInt8} (h : l = l') : Value.string ⟨l.toArray⟩ = .string ⟨l'.toArray⟩ := by rw [h]

open Go.ChangeShapes Go.WideShapes in
theorem open_strs_cap {H : Type} {enc : TypeId × Value → H} {W : World} {base : Nat} {v : Value} {d : DataW H} {p : List MemPlace} (hv : Value.okWide Try.prog W .any base 34 v)
    (h : DataW.Trod enc Try.prog W 0 (fun _ => true) true 34 v d p) : ∃ ss : List (List UInt8), Sl W v 1 ss.length (ss.map strV) ∧ (∀ a n c, v = .slice a n c → n ≤ c) ∧ lettersL ss + 1 ≤ Rows.uptoBulk d := by
  obtain ⟨ss, h1, h2⟩ := open_strs hv h
  refine ⟨ss, h1, ?_, h2⟩
  obtain ⟨a0, len0, cap0, rfl⟩ := okWide_slice Try.underlying34 hv
  obtain ⟨fuel, hf⟩ := h
  rcases open_strings Try.underlying34 Try.underlying9 (by kernel_rfl) hf with ⟨hcs, hx⟩ | ⟨x, l, c, zs, hcs, _, hl, hm, hz, hx, hcell, hwz⟩
  · simp [Value.cells] at hcs
    obtain ⟨rfl, rfl, rfl⟩ := hcs
    intro a n c e; simp at e; omega
  · simp [Value.cells] at hcs
    obtain ⟨rfl, rfl, rfl⟩ := hcs
    intro a n c e; simp at e; omega

set_option maxHeartbeats 4000000 in
theorem frameBack_walk (v0 : Value) (ss : List (List UInt8)) (cut : Int) (_hc : -9223372036854775808 ≤ cut ∧ cut ≤ 9223372036854775807) (w : World) (h1 : Sl w v0 1 ss.length (ss.map strV)) (hcap : ∀ a n c, v0 = .slice a n c → n ≤ c) (hsz : lettersL ss ≤ 1048576) :
    Calls Try.prog 12 #[v0, .int .i64 cut] w fun e w' => e = .returned (.bool true) ∧ Below w.heap.size w w' := by
  have hinfo : (Try.prog.info? 3).map (fun i => (i.zero, i.size, i.bytes)) = some (some (.int .i64 0), 1, 8) := by kernel_rfl
  have H1 := hid h1
  obtain ⟨_, _, a1, cap1, rfl, c1⟩ := h1
  have C1 := hid c1
  have hcp : ss.length ≤ cap1 := hcap _ _ _ rfl
  clear c1 hcap
  have hss := lettersL_len ss
  go_enter Try.func12, Try.ntmps12
  go_wp2_with fail
  refine (fawake_any _).mono ?_
  rintro e w1 ⟨rfl, hb1⟩
  go_wp2_with fail
  go_loopw [5, 6, 19] (fun s v i wr => ∃ k : Nat, k ≤ ss.length ∧ i = .int .i64 k ∧ s = .string ⟨(allL (ss.take k)).toArray⟩ ∧ OwnV wr w.heap.size 3 v (endsV ss k) ∧ Below w.heap.size w wr) (fun _ _ i _ => ss.length - (intOf i).toNat)
  case atStart => exact ⟨0, by omega, rfl, rfl, OwnV.nil _ _ _, hb1⟩
  case round =>
    obtain ⟨k, hk, rfl, rfl, hown, hb⟩ := hrel
    have htk := bletters_take ss k
    have htx := allL_len (ss.take k) (by omega)
    have hel := endsV_len ss k
    by_cases hlt : k < ss.length
    · obtain ⟨b, off, rfl, hblt, hc⟩ := C1.out.resolve_left (by omega)
      have hck : wr.cell? ⟨b, off + k, none⟩ = some (.string ⟨(ss[k]).toArray⟩) := (hb.cell (p := ⟨b, off + k, none⟩) hblt).trans ((hc k (by simpa using hlt)).trans (by simp [strV]))
      clear hc
      have hsl := bletters_mem hlt
      have hwl := wrapL_len (s := ss[k]) (by omega)
      have hsz1 := hb.size
      go_wp2_with fail
      refine (wrap_any ss[k] (by omega) _).mono ?_
      rintro e w2 ⟨rfl, hb2⟩
      have hcat := run_cat (P := Try.prog) w2 (allL (ss.take k)) (wrapL ss[k]) (by omega)
      rw [← allL_take hlt] at hcat
      have hown2 := hown.keep hb2
      have hb2' := bnext hb hb2
      have hsz2 := hb2'.size
      go_wp2_with (at_builtin; go_must (refine wpList_append_one _ rfl _ _ 65 rfl w.heap.size 3 (.int .i64 0) 8 Try.underlying65 hinfo rfl _ (endsV ss k) rfl ?h1 w2.heap.size rfl _ (cell_new _ _ _) rfl (by unfold maxLen; omega) (by omega) w ?h4 ?h5 ?_))
      case h1 => exact World.ownsRow.alloc hown2 _
      case h4 => simp; omega
      case h5 => exact hb2'.alloc (by omega) _
      intro v' w3 hown3 hb3 _
      go_wp2
      go_roundw
      case rel => exact ⟨k + 1, by omega, by go_num, rfl, by rw [endsV_succ]; exact hown3, hb3⟩
      case measure => simp [intOf]; omega
    · obtain rfl : k = ss.length := by omega
      rw [List.take_of_length_le (Nat.le_refl _)] at htx ⊢
      clear htk
      have hsc := scan_all hsz
      have c3 := scan_any (allL ss) (by omega) wr
      rw [hsc] at c3
      have c3' := hid c3
      clear hsc c3
      have s6 := hown.sl (by rw [endsV_len]; unfold maxLen; omega)
      rw [endsV_len] at s6
      have S6 := hid s6
      obtain ⟨_, _, a6, cap6, rfl, c6⟩ := s6
      clear c6 hel
      go_wp2_with fail
      refine c3'.out.mono ?_
      rintro e w4 ⟨v1, rfl, ho1, hn1, hb4⟩
      have hb4' := bnext hb hb4
      have s1 := ho1.sl (by rw [List.length_map]; unfold maxLen; omega)
      rw [List.length_map] at s1
      have s2 := H1.out.below hb4'
      have cs := same_any _ _ _ _ _ s1 s2
      rw [decide_eq_true rfl] at cs
      have CS := hid cs
      have S6' := hid (S6.out.below hb4)
      clear cs s1 s2 S6 c3'
      go_wp2_with fail
      refine CS.out.mono ?_
      rintro e w5 ⟨rfl, n5, hw5⟩
      have S6 := hid (S6'.out.drewN n5)
      rw [← hw5] at S6
      have hb5 : Below w.heap.size w w5 := by rw [hw5]; exact bnext hb4' (below_drewN _ _ _)
      clear hw5 CS S6'
      by_cases hneg : cut < 0
      · go_wp2_with fail
        go_ret
        exact ⟨rfl, hb5⟩
      · by_cases hbig : ((allL ss).length : Int) < cut
        · go_wp2_with fail
          go_ret
          exact ⟨rfl, hb5⟩
        · obtain ⟨c, rfl⟩ := Int.eq_ofNat_of_zero_le (Int.not_lt.1 hneg)
          have hcl : c ≤ (allL ss).length := by omega
          go_wp2_with fail
          go_loopw [13, 14] (fun i at0 wr => ∃ k : Nat, k ≤ ss.length ∧ i = .int .i64 k ∧ at0 = .int .i64 ((allL (ss.take k)).length : Int) ∧ wr = w5 ∧ (allL (ss.take k)).length ≤ c) (fun i _ _ => ss.length - (intOf i).toNat)
          case atStart => exact ⟨0, by omega, rfl, rfl, rfl, Nat.zero_le _⟩
          case round =>
            obtain ⟨k, hk, rfl, rfl, rfl, hat⟩ := hrel
            by_cases hgo : k < ss.length ∧ (allL (ss.take (k + 1))).length ≤ c
            · obtain ⟨hlt, hle⟩ := hgo
              obtain ⟨_, _, a6', cap6', e6, c6⟩ := S6.out
              obtain ⟨b6, off6, rfl, hb6, c6⟩ := c6.resolve_left (by omega)
              cases e6
              have hck : wr.cell? ⟨b6, off6 + k, none⟩ = some (.int .i64 ((allL (ss.take (k + 1))).length : Int)) := (c6 k (by rw [endsV_len]; exact hlt)).trans (by rw [endsV_at])
              clear c6
              have hle' : ((allL (ss.take (k + 1))).length : Int) ≤ (c : Int) := by omega
              go_wp2_with fail
              go_roundw
              case rel => exact ⟨k + 1, by omega, by go_num, rfl, by first | rfl | trivial, hle⟩
              case measure => simp [intOf]; omega
            · have hcut := scan_cut hsz k c hk hat hcl (by omega)
              have c4 := scan_any ((allL ss).take c) (by simp; omega) wr
              rw [hcut.1, List.length_take, Nat.min_eq_left hcl, hcut.2] at c4
              have htk : (ss.take k).length = k := by simp; omega
              have hex : (⟨(allL ss).toArray⟩ : ByteArray).extract 0 c = ⟨((allL ss).take c).toArray⟩ := by rw [ext_mid]; simp
              have hcc : (c : Int) ≤ ((allL ss).length : Int) := by omega
              have C4 := hid c4
              clear hcut c4
              by_cases hlt : k < ss.length
              · obtain ⟨_, _, a6', cap6', e6, c6⟩ := S6.out
                obtain ⟨b6, off6, rfl, hb6, c6⟩ := c6.resolve_left (by omega)
                cases e6
                have hck : wr.cell? ⟨b6, off6 + k, none⟩ = some (.int .i64 ((allL (ss.take (k + 1))).length : Int)) := (c6 k (by rw [endsV_len]; exact hlt)).trans (by rw [endsV_at])
                clear c6
                have hle' : ¬ ((allL (ss.take (k + 1))).length : Int) ≤ (c : Int) := by omega
                go_wp2_with fail
                refine C4.out.mono ?_
                rintro e w6 ⟨v2, rfl, ho2, hn2, hb6⟩
                have hb6' := bnext hb5 hb6
                have s1 := ho2.sl (by rw [List.length_map, htk]; unfold maxLen; omega)
                have s2 := (H1.out.below hb6').take hk
                rw [← List.map_take] at s2
                rw [List.length_map] at s1
                have s2' : Sl w6 (.slice a1 k cap1) 1 (ss.take k).length ((ss.take k).map strV) := by rw [htk]; exact s2
                have cs := same_any _ _ _ _ _ s1 s2'
                rw [decide_eq_true rfl] at cs
                have CS := hid cs
                clear cs s1 s2 s2' C4
                go_wp2_with fail
                refine CS.out.mono ?_
                rintro e w7 ⟨rfl, n7, rfl⟩
                go_wp2_with fail
                go_ret
                exact ⟨rfl, bnext hb6' (below_drewN _ _ _)⟩
              · obtain ⟨_, _, a6', cap6', e6, c6⟩ := S6.out
                clear c6
                go_wp2_with fail
                refine C4.out.mono ?_
                rintro e w6 ⟨v2, rfl, ho2, hn2, hb6⟩
                have hb6' := bnext hb5 hb6
                have s1 := ho2.sl (by rw [List.length_map, htk]; unfold maxLen; omega)
                have s2 := (H1.out.below hb6').take hk
                rw [← List.map_take] at s2
                rw [List.length_map] at s1
                have s2' : Sl w6 (.slice a1 k cap1) 1 (ss.take k).length ((ss.take k).map strV) := by rw [htk]; exact s2
                have cs := same_any _ _ _ _ _ s1 s2'
                rw [decide_eq_true rfl] at cs
                have CS := hid cs
                clear cs s1 s2 s2' C4
                go_wp2_with fail
                refine CS.out.mono ?_
                rintro e w7 ⟨rfl, n7, rfl⟩
                go_wp2_with fail
                go_ret
                exact ⟨rfl, bnext hb6' (below_drewN _ _ _)⟩
end Go.Proofs.Ytpjhaecoeiimkaa
