/- THE WALK OF VaryBack. -/
import Derived.Test.YtpjhaecoeiimkaaVaryAwake
import Derived.Test.YtpjhaecoeiimkaaRdr
import Derived.Test.YtpjhaecoeiimkaaOpenVary
namespace Go.Proofs.Ytpjhaecoeiimkaa
open Go.RowKit

def putsL : List Nat → List UInt8 | [] => [] | n :: r => putL n ++ putsL r
def textsL : List (List UInt8) → List UInt8 | [] => [] | s :: r => textL s ++ textsL r
theorem putsL_snoc (a : List Nat) (n : Nat) : putsL (a ++ [n]) = putsL a ++ putL n := by induction a with | nil => simp [putsL] | cons x r ih => simp [putsL, ih]
theorem textsL_snoc (a : List (List UInt8)) (n : List UInt8) : textsL (a ++ [n]) = textsL a ++ textL n := by induction a with | nil => simp [textsL] | cons x r ih => simp [textsL, ih]
theorem putsL_take {a : List Nat} {k : Nat} (h : k < a.length) : putsL (a.take k) ++ putL a[k] = putsL (a.take (k + 1)) := by
  rw [List.take_add_one, List.getElem?_eq_getElem h]; exact (putsL_snoc _ _).symm
theorem textsL_take {a : List (List UInt8)} {k : Nat} (h : k < a.length) : textsL (a.take k) ++ textL a[k] = textsL (a.take (k + 1)) := by
  rw [List.take_add_one, List.getElem?_eq_getElem h]; exact (textsL_snoc _ _).symm
theorem str_eq {l l' : List UInt8} (h : l = l') : Value.string ⟨l.toArray⟩ = .string ⟨l'.toArray⟩ := by rw [h]
theorem putsL_len (a : List Nat) (h : ∀ n ∈ a, U64 n) : (putsL a).length ≤ 10 * a.length := by
  induction a with
  | nil => simp [putsL]
  | cons x r ih =>
    have h1 := putL_len10 (h x (by simp))
    have h2 := ih (fun n hn => h n (by simp [hn]))
    simp only [putsL, List.length_append, List.length_cons]; omega
theorem textsL_len (a : List (List UInt8)) (h : lettersL a ≤ 1048576) : (textsL a).length ≤ 11 * lettersL a := by
  induction a with
  | nil => simp [textsL]
  | cons x r ih =>
    simp only [lettersL] at h
    have h1 : (putL x.length).length ≤ 10 := putL_len10 (by unfold U64; omega)
    have h2 := ih (by omega)
    simp only [textsL, textL, List.length_append, lettersL]; omega

theorem numF_put {n : Nat} (hn : U64 n) (r : List UInt8) : numF (putL n ++ r) false = (n, r, false) := by
  obtain ⟨e1, e2, e3⟩ := get_some ((get_iff (putL n ++ r) n r).2 ⟨hn, rfl⟩)
  simp [numF, e1, e2, e3]
theorem textF_text {s : List UInt8} (hs : s.length ≤ 1099511627776) (r : List UInt8) : textF (textL s ++ r) false = (s, r, false) := by
  unfold textF textL
  rw [List.append_assoc, numF_put (by unfold U64; omega)]
  simp only
  have e : min (s.length : Int) 1099511627776 = (s.length : Int) := by omega
  rw [e, takeF_ok (by simp)]
  simp
theorem letters_mem {ss : List (List UInt8)} {k : Nat} (h : k < ss.length) : ss[k].length ≤ lettersL ss := by
  induction ss generalizing k with
  | nil => simp at h
  | cons s r ih =>
    cases k with
    | zero => simp [lettersL]; omega
    | succ k => have := ih (k := k) (by simpa using h); simp only [List.getElem_cons_succ, lettersL]; omega
theorem letters_take (ss : List (List UInt8)) (k : Nat) : lettersL (ss.take k) ≤ lettersL ss := by
  induction ss generalizing k with
  | nil => simp
  | cons s r ih => cases k with
    | zero => simp [lettersL]
    | succ k => have := ih k; simp only [List.take_succ_cons, lettersL]; omega
theorem letters_drop (ss : List (List UInt8)) (k : Nat) : lettersL (ss.drop k) ≤ lettersL ss := by
  induction ss generalizing k with
  | nil => simp
  | cons s r ih => cases k with
    | zero => simp
    | succ k => have := ih k; simp only [List.drop_succ_cons, lettersL]; omega

set_option maxHeartbeats 4000000 in
theorem varyBack_walk (v0 : Value) (ns : List Nat) (v1 : Value) (ss : List (List UInt8)) (w : World) (h0 : Sl w v0 1 ns.length (ns.map u64V)) (hu : ∀ n ∈ ns, U64 n) (h1 : Sl w v1 1 ss.length (ss.map strV)) (hsz : ns.length + lettersL ss ≤ 1048576) :
    Calls Try.prog 6 #[v0, v1] w fun e w' => e = .returned (.bool true) ∧ Below w.heap.size w w' := by
  obtain ⟨_, _, a0, cap0, rfl, c0⟩ := h0
  obtain ⟨_, _, a1, cap1, rfl, c1⟩ := h1
  have C0 := hid c0; have C1 := hid c1; have HU := hid hu
  clear c0 c1 hu
  have hss := lettersL_len ss
  go_enter Try.func6, Try.ntmps6
  go_wp2_with fail
  refine (vawake_any _).mono ?_
  rintro e w1 ⟨rfl, hb1⟩
  go_wp2_with fail
  go_loopw [5, 7, 19] (fun s _ i wr => ∃ k : Nat, k ≤ ns.length ∧ i = .int .i64 k ∧ s = .string ⟨(putsL (ns.take k)).toArray⟩ ∧ Below w.heap.size w wr) (fun _ _ i _ => ns.length - (intOf i).toNat)
  case atStart => exact ⟨0, by omega, rfl, rfl, hb1⟩
  case round =>
    obtain ⟨k, hk, rfl, rfl, hb⟩ := hrel
    have hpl := putsL_len (ns.take k) (fun n hn => HU.out n (List.mem_of_mem_take hn))
    have htl : (ns.take k).length ≤ ns.length := List.length_take_le' _ _
    by_cases hlt : k < ns.length
    · obtain ⟨b, off, rfl, hblt, hc⟩ := C0.out.resolve_left (by omega)
      have hck : wr.cell? ⟨b, off + k, none⟩ = some (.int .u64 (ns[k] : Int)) := (hb.cell (p := ⟨b, off + k, none⟩) hblt).trans ((hc k (by simpa using hlt)).trans (by simp [u64V]))
      clear hc
      have hun : U64 ns[k] := HU.out _ (List.getElem_mem hlt)
      have h10 := putL_len10 hun
      go_wp2_with fail
      refine (put_any ns[k] hun _).mono ?_
      rintro e w2 ⟨rfl, hb2⟩
      have hcat := run_cat (P := Try.prog) w2 (putsL (ns.take k)) (putL ns[k]) (by omega)
      go_wp2_with fail
      go_roundw
      case rel => exact ⟨k + 1, by omega, by go_num, str_eq (putsL_take hlt), bnext hb hb2⟩
      case measure => simp [intOf]; omega
    · obtain rfl : k = ns.length := by omega
      rw [List.take_of_length_le (Nat.le_refl _)] at hpl ⊢
      clear htl
      go_wp2_with fail
      obtain ⟨wo, rfl⟩ : ∃ wo : World, wo = wr := ⟨_, rfl⟩
      go_loopw [5, 9, 30] (fun s _ i wr => ∃ k : Nat, k ≤ ss.length ∧ i = .int .i64 k ∧ s = .string ⟨(putsL ns ++ textsL (ss.take k)).toArray⟩ ∧ Below w.heap.size w wr) (fun _ _ i _ => ss.length - (intOf i).toNat)
      case atStart => exact ⟨0, by omega, rfl, by simp [textsL], hb⟩
      case round =>
        clear hb
        obtain ⟨k, hk, rfl, rfl, hb⟩ := hrel
        have htk := letters_take ss k
        have htx := textsL_len (ss.take k) (by omega)
        by_cases hlt : k < ss.length
        · obtain ⟨b, off, rfl, hblt, hc⟩ := C1.out.resolve_left (by omega)
          have hck : wr.cell? ⟨b, off + k, none⟩ = some (.string ⟨(ss[k]).toArray⟩) := (hb.cell (p := ⟨b, off + k, none⟩) hblt).trans ((hc k (by simpa using hlt)).trans (by simp [strV]))
          clear hc
          have hsl := letters_mem hlt
          have h10 : (putL ss[k].length).length ≤ 10 := putL_len10 (by unfold U64; omega)
          go_wp2_with fail
          refine (text_any ss[k] (by omega) _).mono ?_
          rintro e w2 ⟨rfl, hb2⟩
          have hcat := run_cat (P := Try.prog) w2 (putsL ns ++ textsL (ss.take k)) (textL ss[k]) (by unfold textL; simp only [List.length_append]; omega)
          go_wp2_with fail
          go_roundw
          case rel => exact ⟨k + 1, by omega, by go_num, str_eq (by rw [textsL_take hlt]), bnext hb hb2⟩
          case measure => simp [intOf]; omega
        · obtain rfl : k = ss.length := by omega
          rw [List.take_of_length_le (Nat.le_refl _)] at htx ⊢
          clear htk
          go_wp2_with fail
          refine (read_any _ _).mono ?_
          rintro e w2 ⟨rfl, rfl⟩
          have hr0 := read_rdr (putsL ns ++ textsL ss) wr
          have hb2 : Below w.heap.size w (wr.alloc (.cells #[.string ⟨(putsL ns ++ textsL ss).toArray⟩, .bool false] 69)) := hb.alloc hb.size _
          have hg := hb.size
          obtain ⟨g, hgg⟩ : ∃ g, g = wr.heap.size := ⟨_, rfl⟩
          rw [← hgg] at hr0 hg ⊢
          obtain ⟨w3, hw3⟩ : ∃ w3, w3 = wr.alloc (.cells #[.string ⟨(putsL ns ++ textsL ss).toArray⟩, .bool false] 69) := ⟨_, rfl⟩
          rw [← hw3] at hr0 hb2 ⊢
          clear hw3 hgg hb
          go_wp2_with fail
          go_loopw [12, 43] (fun _ i wr => ∃ k : Nat, k ≤ ns.length ∧ i = .int .i64 k ∧ Rdr wr g (putsL (ns.drop k) ++ textsL ss) false ∧ Below w.heap.size w wr) (fun _ i _ => ns.length - (intOf i).toNat)
          case atStart => exact ⟨0, by omega, rfl, hr0, hb2⟩
          case round =>
            clear hb2 hr0
            obtain ⟨k, hk, rfl, hr, hb⟩ := hrel
            have hdl : (putsL (ns.drop k) ++ textsL ss).length ≤ maxLen := by
              have h1 := putsL_len (ns.drop k) (fun n hn => HU.out n (List.mem_of_mem_drop hn))
              have h2 := textsL_len ss (by omega)
              simp only [List.length_append, List.length_drop] at *; unfold maxLen; omega
            by_cases hlt : k < ns.length
            · obtain ⟨b, off, rfl, hblt, hc⟩ := C0.out.resolve_left (by omega)
              have hck : wr.cell? ⟨b, off + k, none⟩ = some (.int .u64 (ns[k] : Int)) := (hb.cell (p := ⟨b, off + k, none⟩) hblt).trans ((hc k (by simpa using hlt)).trans (by simp [u64V]))
              clear hc
              have hun : U64 ns[k] := HU.out _ (List.getElem_mem hlt)
              have hnum : numF (putsL (ns.drop k) ++ textsL ss) false = (ns[k], putsL (ns.drop (k + 1)) ++ textsL ss, false) := by
                rw [List.drop_eq_getElem_cons hlt, putsL, List.append_assoc, numF_put hun]
              have HN := hid hnum
              clear hnum
              go_wp2_with fail
              refine (num_any g _ _ _ hr hdl).mono ?_
              rw [HN.out]
              rintro e w4 ⟨rfl, hr4, hg4⟩
              go_wp2_with fail
              go_roundw
              case rel => exact ⟨k + 1, by omega, by go_num, hr4, At.below hb hg4 hg⟩
              case measure => simp [intOf]; omega
            · obtain rfl : k = ns.length := by omega
              rw [List.drop_of_length_le (Nat.le_refl _), show putsL [] ++ textsL ss = textsL ss from rfl] at hr
              clear hdl
              go_wp2_with fail
              obtain ⟨wo, rfl⟩ : ∃ wo : World, wo = wr := ⟨_, rfl⟩
              go_loopw [14, 54] (fun _ i wr => ∃ k : Nat, k ≤ ss.length ∧ i = .int .i64 k ∧ Rdr wr g (textsL (ss.drop k)) false ∧ Below w.heap.size w wr) (fun _ i _ => ss.length - (intOf i).toNat)
              case atStart => exact ⟨0, by omega, rfl, hr, hb⟩
              case round =>
                clear hb hr
                obtain ⟨k, hk, rfl, hr, hb⟩ := hrel
                have hdl : (textsL (ss.drop k)).length ≤ maxLen := by
                  have h0 := letters_drop ss k
                  have h2 := textsL_len (ss.drop k) (by omega)
                  unfold maxLen; omega
                by_cases hlt : k < ss.length
                · obtain ⟨b, off, rfl, hblt, hc⟩ := C1.out.resolve_left (by omega)
                  have hck : wr.cell? ⟨b, off + k, none⟩ = some (.string ⟨(ss[k]).toArray⟩) := (hb.cell (p := ⟨b, off + k, none⟩) hblt).trans ((hc k (by simpa using hlt)).trans (by simp [strV]))
                  clear hc
                  have hsl := letters_mem hlt
                  have hnum : textF (textsL (ss.drop k)) false = (ss[k], textsL (ss.drop (k + 1)), false) := by
                    rw [List.drop_eq_getElem_cons hlt, textsL, textF_text (by omega)]
                  have HN := hid hnum
                  clear hnum
                  go_wp2_with fail
                  refine (text_any_r g _ _ _ hr hdl).mono ?_
                  rw [HN.out]
                  rintro e w4 ⟨rfl, hr4, hg4⟩
                  go_wp2_with fail
                  go_roundw
                  case rel => exact ⟨k + 1, by omega, by go_num, hr4, At.below hb hg4 hg⟩
                  case measure => simp [intOf]; omega
                · obtain rfl : k = ss.length := by omega
                  rw [List.drop_of_length_le (Nat.le_refl _)] at hr
                  clear hdl
                  go_wp2_with fail
                  refine (end_any g _ _ _ hr).mono ?_
                  rintro e w5 ⟨rfl, rfl⟩
                  go_wp2_with fail
                  go_ret
                  exact ⟨rfl, hb⟩
end Go.Proofs.Ytpjhaecoeiimkaa
