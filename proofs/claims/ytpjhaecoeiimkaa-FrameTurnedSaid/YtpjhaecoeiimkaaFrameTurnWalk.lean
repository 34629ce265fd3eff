/- THE WALK OF FrameTurned. -/
import Derived.Test.YtpjhaecoeiimkaaFrameTurn
import Derived.Laws.IdiomStrings
import Derived.RegionTactic
namespace Go.Proofs.Ytpjhaecoeiimkaa
open Go.RowKit

theorem below_to_drew {B : Nat} {w w' : World} (h : Below B w w') : Below B w w'.drew := ⟨h.os, h.tape, h.output, h.size, h.block⟩
/-- the remainder, brought above zero -/
theorem turn_bit (bit : Int) (n : Nat) (hn : 0 < n) : ∃ q : Nat, q < n ∧ ((bit.tmod n) + n).tmod n = (q : Int) ∧ -(n : Int) < bit.tmod n ∧ bit.tmod n < n := by
  have h1 : bit.tmod n < n := Int.tmod_lt_of_pos _ (by omega)
  have h2 : -(n : Int) < bit.tmod n := by
    rcases Int.lt_or_le bit 0 with h | h
    · have e : bit.tmod n = -((-bit).tmod n) := by rw [Int.neg_tmod]; omega
      have := Int.tmod_lt_of_pos (-bit) (show (0 : Int) < n by omega)
      omega
    · have := Int.tmod_nonneg (n : Int) h
      omega
  have h3 : 0 ≤ bit.tmod n + n := by omega
  refine ⟨((bit.tmod n + n).tmod n).toNat, ?_, ?_, h2, h1⟩
  · have := Int.tmod_lt_of_pos (bit.tmod n + n) (show (0 : Int) < n by omega)
    omega
  · have := Int.tmod_nonneg (n : Int) h3
    omega

theorem turned_back (w3 : World) (g p : Nat) (c : UInt8) (W : List UInt8) (hp : p < W.length) (n cap : Nat) (hn : n = W.length) (hcells : ∀ j (hj : j < W.length), w3.cell? ⟨g, j, none⟩ = some (byteV W[j])) :
    (convert 47 9 (.slice (some ⟨g, 0, none⟩) n cap)).run Try.prog (w3.setCell ⟨g, p, none⟩ (.int .u8 (c.toNat : Int))).drew = .ok (.string ⟨(W.set p c).toArray⟩) (w3.setCell ⟨g, p, none⟩ (.int .u8 (c.toNat : Int))).drew := by
  have hl' : n = (W.set p c).length := by simp [hn]
  rw [hl']
  refine run_convert_bytes_back _ 47 9 5 ⟨g, 0, none⟩ cap (W.set p c) Try.underlying47 Try.underlying5 Try.underlying9 (fun j hj => ?_)
  have e0 : (⟨g, 0, none⟩ : Addr).add j = ⟨g, j, none⟩ := by unfold Addr.add; split <;> simp_all
  rw [e0]
  show (w3.setCell ⟨g, p, none⟩ (.int .u8 (c.toNat : Int))).cell? ⟨g, j, none⟩ = some (.int .u8 ((W.set p c)[j].toNat : Int))
  by_cases e : j = p
  · subst e
    rw [World.cell?_setCell_same _ _ _ (hcells j hp), List.getElem_set_self]
  · rw [World.cell?_setCell_other (h := fun h => e (by injection h with _ h _; exact h.symm)), List.getElem_set_ne (fun h => e h.symm)]
    exact hcells j (by simpa using hj)

set_option maxHeartbeats 1600000 in
theorem frameTurned_walk (l : List UInt8) (hl : l.length ≤ 140737488351232) (bit : Int) (_hc : -9223372036854775808 ≤ bit ∧ bit ≤ 9223372036854775807) (w : World) :
    Calls Try.prog 8 #[.string ⟨l.toArray⟩, .int .i64 bit] w fun e w' => e = .returned (.bool true) ∧ Below w.heap.size w w' := by
  by_cases h : l.length ≤ 1048576
  · have hu : U64 l.length := by unfold U64; omega
    have h10 := putL_len10 hu
    have hlen : (wrapL l).length ≤ 1048600 := by simp only [wrapL, List.length_append, fourL_len]; omega
    by_cases hbig : 2000 < l.length
    · obtain ⟨W, hW⟩ : ∃ W, W = wrapL l := ⟨_, rfl⟩
      have HW := hid hW
      clear hW
      go_enter Try.func8, Try.ntmps8
      go_wp2_with fail
      refine (fawake_any _).mono ?_
      rintro e w1 ⟨rfl, hb1⟩
      go_wp2_with fail
      refine (wrap_any l h _).mono ?_
      rw [← HW.out]
      rintro e w2 ⟨rfl, hb2⟩
      go_wp2_with fail
      go_ret
      exact ⟨rfl, bnext hb1 hb2⟩
    · obtain ⟨q, hq, eq, g1, g2⟩ := turn_bit bit (8 * (l.length + 4)) (by omega)
      have hlen' : (wrapL l).length = (putL l.length).length + (4 + l.length) := by simp [wrapL, fourL_len]
      have hpl : (putL l.length).length + q / 8 < (wrapL l).length := by omega
      have hcv := fun w s => run_bytes_of_string (P := Try.prog) w 9 47 5 s Try.underlying9 Try.underlying47 Try.underlying5
      obtain ⟨W, hW⟩ : ∃ W, W = wrapL l := ⟨_, rfl⟩
      obtain ⟨H, hH⟩ : ∃ H, H = (putL l.length).length := ⟨_, rfl⟩
      have HW := hid hW
      rw [← hW, ← hH] at hlen'
      have hpl' : H + q / 8 < W.length := by omega
      have hnt0 : ∀ c, c ≠ W[H + q / 8]'hpl' → nextF (W.set (H + q / 8) c) = ([], [], 21) := by
        subst hW; subst hH
        exact fun c hc => next_turned l h (q / 8) (by omega) _ rfl hpl c hc
      rw [← hW] at hlen
      rw [← hH] at h10
      clear hpl hW hH
      obtain ⟨c, hcc⟩ : ∃ c : UInt8, c = UInt8.ofNat ((W[H + q / 8]).toNat ^^^ 2 ^ (q % 8)) := ⟨_, rfl⟩
      have hnt := hnt0 c (by rw [hcc]; exact flip_ne _ (q % 8) (by omega))
      clear hnt0
      have HNT := hid hnt
      have HCC := hid hcc
      clear hnt hcc
      have eqw : (wrap64 (bit.tmod (8 * ((l.length : Int) + 4)) + 8 * ((l.length : Int) + 4))).tmod (8 * ((l.length : Int) + 4)) = (q : Int) := by
        have e8 : (8 * ((l.length : Int) + 4)) = ((8 * (l.length + 4) : Nat) : Int) := by omega
        have hwr : wrap64 (bit.tmod ((8 * (l.length + 4) : Nat) : Int) + ((8 * (l.length + 4) : Nat) : Int)) = bit.tmod ((8 * (l.length + 4) : Nat) : Int) + ((8 * (l.length + 4) : Nat) : Int) := by simp only [wrap64]; omega
        rw [e8, hwr, eq]
      have ehd : (H : Int) + (4 + (l.length : Int)) - (l.length : Int) - 4 = (H : Int) := by omega
      clear eq
      go_enter Try.func8, Try.ntmps8
      go_wp2_with fail
      refine (fawake_any _).mono ?_
      rintro e w1 ⟨rfl, hb1⟩
      go_wp2_with fail
      refine (wrap_any l h _).mono ?_
      rw [← HW.out]
      rintro e w2 ⟨rfl, hb2⟩
      go_wp2_with fail
      generalize grownCap w2 (H + (4 + l.length)) 0 5 = cap
      have hcells : ∀ j (hj : j < W.length), (w2.alloc (.cells (bytesRow ⟨W.toArray⟩ cap) 5 ((bytesRow ⟨W.toArray⟩ cap).size, (bytesRow ⟨W.toArray⟩ cap).size + 1))).drew.cell? ⟨w2.heap.size, j, none⟩ = some (byteV W[j]) := fun j hj => by
        show (w2.alloc (.cells _ _ _)).cell? _ = _
        rw [World.cell?_alloc_mark, bytesRow_at _ _ j (by simpa using hj)]; rfl
      have hfz : ∀ j, j < W.length → (w2.alloc (.cells (bytesRow ⟨W.toArray⟩ cap) 5 ((bytesRow ⟨W.toArray⟩ cap).size, (bytesRow ⟨W.toArray⟩ cap).size + 1))).drew.frozen? ⟨w2.heap.size, j, none⟩ = false := fun j hj => by
        show (w2.alloc (.cells _ _ _)).frozen? _ = _
        rw [World.frozen?_alloc_mark]
        have : ¬ (bytesRow ⟨W.toArray⟩ cap).size ≤ j := by unfold bytesRow; simp; omega
        simp [this]
      have hb3 : Below w2.heap.size w2 (w2.alloc (.cells (bytesRow ⟨W.toArray⟩ cap) 5 ((bytesRow ⟨W.toArray⟩ cap).size, (bytesRow ⟨W.toArray⟩ cap).size + 1))).drew := below_to_drew ((Below.refl _ w2).alloc (Nat.le_refl _) _)
      obtain ⟨w3, hw3⟩ : ∃ w3, w3 = (w2.alloc (.cells (bytesRow ⟨W.toArray⟩ cap) 5 ((bytesRow ⟨W.toArray⟩ cap).size, (bytesRow ⟨W.toArray⟩ cap).size + 1))).drew := ⟨_, rfl⟩
      rw [← hw3] at hcells hfz hb3 ⊢
      clear hw3
      have hcell : w3.cell? ⟨w2.heap.size, H + q / 8, none⟩ = some (.int .u8 ((W[H + q / 8]).toNat : Int)) := hcells (H + q / 8) hpl'
      have hfr := hfz (H + q / 8) hpl'
      have HCS := hid hcells
      clear hcells hfz
      have i1 : ((H : Int) + (q : Int) / 8).toNat = H + q / 8 := by omega
      have i2 : (0 : Int) ≤ (H : Int) + (q : Int) / 8 := by omega
      have i3 : (H : Int) + (q : Int) / 8 < ((H + (4 + l.length) : Nat) : Int) := by omega
      have i4 : (0 : Int) ≤ (q : Int) % 8 := by omega
      have i5 : (q : Int) % 8 ≤ 8 := by omega
      have hxor : bits .xor .u8 ((W[H + q / 8]).toNat : Int) (2 ^ (q % 8) % 256) = (c.toNat : Int) := by
        have hk : (2 : Nat) ^ (q % 8) < 256 := Nat.pow_lt_pow_right (n := 8) (by omega) (by omega)
        have e1 : (2 : Int) ^ (q % 8) % 256 = ((2 ^ (q % 8) : Nat) : Int) := by
          have e2 : ((2 ^ (q % 8) : Nat) : Int) = (2 : Int) ^ (q % 8) := Int.natCast_pow ..
          rw [← e2]
          clear e2
          generalize (2 : Nat) ^ (q % 8) = v at hk ⊢
          omega
        have hx := UInt8.toNat_lt (W[H + q / 8])
        rw [e1, u8_xor_nat _ _ (by omega) hk, HCC.out, UInt8.toNat_ofNat', Nat.mod_eq_of_lt (Nat.xor_lt_two_pow (n := 8) (by omega) (by omega))]
      go_region
      have hb4 : Below w2.heap.size w2 (w3.setCell ⟨w2.heap.size, H + q / 8, none⟩ (.int .u8 (c.toNat : Int))).drew := below_to_drew (hb3.setCell (Nat.le_refl _) _)
      have hback := turned_back w3 w2.heap.size _ c W hpl' (H + (4 + l.length)) cap hlen'.symm HCS.out
      have hl' : (W.set (H + q / 8) c).length = H + (4 + l.length) := by simp [hlen']
      have hTl : (W.set (H + q / 8) c).length ≤ maxLen := by rw [hl']; unfold maxLen; omega
      have hrest := fun w => next_any (W.set (H + q / 8) c) hTl w
      rw [HNT.out] at hrest
      clear hcell hfr hxor HCS hlen' HNT hcv
      generalize (w3.setCell ⟨w2.heap.size, H + q / 8, none⟩ (.int .u8 (c.toNat : Int))).drew = w4 at hb4 hback ⊢
      generalize W.set (H + q / 8) c = T at hback hl' hTl hrest
      have HR := hid hrest
      clear hrest
      go_wp2_with fail
      refine (HR.out _).mono ?_
      rintro e w5 ⟨rfl, hb5⟩
      go_wp2_with fail
      go_ret
      exact ⟨rfl, bnext (bnext (bnext hb1 hb2) hb4) hb5⟩
  · go_enter Try.func8, Try.ntmps8
    go_wp2_with fail
    refine (fawake_any _).mono ?_
    rintro e w1 ⟨rfl, hb1⟩
    go_wp2_with fail
    refine (wrap_no l (by omega) (by unfold maxLen; omega) _).mono ?_
    rintro e w2 ⟨rfl, hb2⟩
    go_wp2_with fail
    go_ret
    exact ⟨rfl, bnext hb1 hb2⟩
end Go.Proofs.Ytpjhaecoeiimkaa
