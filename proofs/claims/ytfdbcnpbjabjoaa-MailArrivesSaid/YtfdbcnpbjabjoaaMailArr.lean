/- THE WALK of MailArrives. -/
import Derived.Test.YtfdbcnpbjabjoaaMailLst
import Derived.Test.YtfdbcnpbjabjoaaMailArrL
import Derived.Laws.StructEq
namespace Go.Proofs.Ytfdbcnpbjabjoaa
open Go.RowKit Go.Maps
set_option linter.unusedVariables false
set_option linter.unusedSimpArgs false

set_option maxHeartbeats 64000000 in
set_option maxRecDepth 100000 in
theorem mailArrives_walk (v0 : Value) (qs : List MCall) (w : World) (h1 : Sl w v0 4 qs.length (qs.flatMap callC)) (hq : ∀ a ∈ qs, I64 a.1 ∧ I64 a.2.1) :
    Calls Try.prog 4 #[v0] w fun e w' => e = .returned (.bool true) ∧ Below w.heap.size w w' := by
  have HQ := hid hq
  obtain ⟨_, _, a1, cap1, rfl, c1⟩ := h1
  have C1 := hid c1
  clear c1 hq
  go_enter Try.func4, Try.ntmps4
  go_wp2_with fail
  refine (awake_any w).mono ?_
  rintro _ w1 ⟨rfl, b1⟩
  go_wp2_with fail
  refine (new_any w1).mono ?_
  rintro _ w2 ⟨rfl, n2, b2⟩
  have hmm := @run_makeMap Try.prog
  obtain ⟨w3, hw3⟩ : ∃ x, x = w2.alloc (.map #[] 0) := ⟨_, rfl⟩
  obtain ⟨w4, hw4⟩ : ∃ x, x = w3.alloc (.map #[] 0) := ⟨_, rfl⟩
  have hA := hid (AW.start b2 n2 hw3 hw4)
  have e3 : w3.heap.size = w2.heap.size + 1 := by rw [hw3, World.size_alloc]
  rw [e3] at hA
  have HW3 := hid hw3
  have HW4 := hid hw4
  have B1 := hid b1
  clear hw3 hw4 n2 b2 b1
  go_wp2_with fail
  rw [← HW3.out]
  go_wp2_with fail
  rw [← HW4.out]
  clear hmm
  go_wp2_with fail
  obtain ⟨g1, hg1⟩ : ∃ g, g = w1.heap.size := ⟨_, rfl⟩
  obtain ⟨gs, hgs⟩ : ∃ g, g = w2.heap.size := ⟨_, rfl⟩
  rw [← hg1, ← hgs] at hA ⊢
  have HB := hid (fun (w9 : World) (h : Below g1 w1 w9) => bnext B1.out (hg1 ▸ h))
  have HG1 := hid hg1
  clear hg1 hgs e3
  go_loopw [6, 24] (fun v i wr => ∃ (k : Nat) (L : List Letter) (nx : Int), k ≤ qs.length ∧ i = .int .i64 k ∧ AW w1 wr g1 gs (gs + 1) v L nx k ∧ k ≤ 500) (fun _ i _ => qs.length - (intOf i).toNat)
  case atStart => exact ⟨0, [], 0, by omega, rfl, hA.out, by omega⟩
  case round =>
    clear hA
    obtain ⟨k, L, nx, hk, rfl, hA, hk5⟩ := hrel
    by_cases hlt : k < qs.length
    · obtain ⟨b, off, rfl, hblt, hc⟩ := C1.out.resolve_left (by omega)
      have hbw : ∀ (j : Nat) v, j < 4 → (callC qs[k])[j]? = some v → wr.cell? ⟨b, off + (k * 4 + j), none⟩ = some v := fun j v hj hv =>
        (hA.below.cell (p := ⟨b, off + (k * 4 + j), none⟩) (by rw [HG1.out]; exact Nat.lt_of_lt_of_le hblt B1.out.size)).trans ((B1.out.cell (p := ⟨b, off + (k * 4 + j), none⟩) hblt).trans (Sl.cell (k := 4) (f := callC) (fun _ => rfl) hc k j hj hlt v hv))
      have hk0 : wr.cell? ⟨b, off + k * 4, none⟩ = some (.int .i64 qs[k].1) := hbw 0 _ (by decide) rfl
      have hk1 : wr.cell? ⟨b, off + k * 4 + 1, none⟩ = some (.int .i64 qs[k].2.1) := hbw 1 _ (by decide) rfl
      have hk2 : wr.cell? ⟨b, off + k * 4 + 2, none⟩ = some (.string ⟨qs[k].2.2.1.toArray⟩) := hbw 2 _ (by decide) rfl
      have hk3 : wr.cell? ⟨b, off + k * 4 + 3, none⟩ = some (.string ⟨qs[k].2.2.2.toArray⟩) := hbw 3 _ (by decide) rfl
      have hqk := HQ.out qs[k] (List.getElem_mem hlt)
      clear hbw hc
      generalize hkk : qs[k] = x at *
      clear hkk
      obtain ⟨K, I, to, text⟩ := x
      simp only at hk0 hk1 hk2 hk3 hqk
      obtain ⟨a6, c6, rfl⟩ := hA.list.shape
      rw [List.length_map] at hA
      obtain ⟨W, hW⟩ : ∃ W, W = wr.alloc (.cells #[.int .i64 K, .int .i64 I, .string ⟨to.toArray⟩, .string ⟨text.toArray⟩] 31) := ⟨_, rfl⟩
      have bW : Below wr.heap.size wr W := by rw [hW]; exact (Below.refl _ _).alloc (Nat.le_refl _) _
      have hC : W.heap[wr.heap.size]? = some (.cells #[.int .i64 K, .int .i64 I, .string ⟨to.toArray⟩, .string ⟨text.toArray⟩] 31 (0, 0)) := by rw [hW]; exact heap_alloc_new wr _
      have hAW := hA.of_below bW
      have x0 : W.cell? ⟨wr.heap.size, 0, none⟩ = some (.int .i64 K) := by rw [cell_of_row W _ 0 _ _ (0, 0) hC]; rfl
      have x1 : W.cell? ⟨wr.heap.size, 1, none⟩ = some (.int .i64 I) := by rw [cell_of_row W _ 1 _ _ (0, 0) hC]; rfl
      have x2 : W.cell? ⟨wr.heap.size, 2, none⟩ = some (.string ⟨to.toArray⟩) := by rw [cell_of_row W _ 2 _ _ (0, 0) hC]; rfl
      have x3 : W.cell? ⟨wr.heap.size, 3, none⟩ = some (.string ⟨text.toArray⟩) := by rw [cell_of_row W _ 3 _ _ (0, 0) hC]; rfl
      have hX : Hid (W = wr.alloc (.cells #[.int .i64 K, .int .i64 I, .string ⟨to.toArray⟩, .string ⟨text.toArray⟩] 31)) := hW
      have HC := hid hC
      have HA := hid hAW
      have hgw := hA.ge
      clear hW hA bW hC hAW
      have HL := hid HA.out.list
      by_cases h500 : (k : Int) = 500
      · have h5 : ((k : Int) == 500) = true := beq_iff_eq.2 h500
        clear h500
        go_wp2_with (rw [← hX.out])
        refine (len_any _ _ _ _ _ HA.out.net).mono ?_
        rintro _ w9 ⟨rfl, rfl⟩
        go_wp2_with fail
        go_ret
        exact ⟨rfl, HB.out _ HA.out.below⟩
      · have h5 : ((k : Int) == 500) = false := by simpa using h500
        have hk6 : k + 1 ≤ 500 := by omega
        by_cases hK0 : K = 0
        · subst hK0
          by_cases hok : sendOk to text L
          · go_wp2_with (rw [← hX.out])
            refine (send_ok W _ _ _ _ to text HA.out.net hok ⟨by have := HA.out.n0; omega, by have := HA.out.nk; omega⟩).mono ?_
            rintro _ w5 ⟨rfl, n5, k5⟩
            have y2 := Lib.cell?_alloc_some (.cells #[.string .empty, .string .empty] 50) (k5.cellAt (j := 2) HC.out (by decide) rfl)
            have y3 := Lib.cell?_alloc_some (.cells #[.string .empty, .string .empty] 50) (k5.cellAt (j := 3) HC.out (by decide) rfl)
            clear x0 x1 x2 x3 hk0 hk1 hk2 hk3
            obtain ⟨w6, hw6⟩ : ∃ x, x = w5.alloc (.cells #[.string .empty, .string .empty] 50) := ⟨_, rfl⟩
            have b6 : Below w5.heap.size w5 w6 := by rw [hw6]; exact (Below.refl _ _).alloc (Nat.le_refl _) _
            obtain ⟨fs, fm, hS, hO⟩ := HA.out.toAS
            have HS5 := hid (hS.of_keep k5 (by decide) n5)
            have HS := hid (HS5.out.of_below b6)
            have hn0 := HA.out.n0
            have hnk := HA.out.nk
            have hkey := hid (keyI (n := nx + 1) (by unfold i64B; omega))
            have hno := hid (hO.no (nx + 1) (by omega))
            have hz := hid (show (fs (iL (nx + 1))).getD zStr2 = .agg #[.string .empty, .string .empty] by rw [hno.out]; rfl)
            have hs0 := hid (show (fs (iL (nx + 1))).isSome = false by rw [hno.out]; rfl)
            have HO := hid (hO.send hn0 to text)
            have HL64 := hid hok.2.2.2
            rw [← hw6] at y2 y3
            have HW6 := hid hw6
            have m1' := HS5.out.m1
            have p1 := HS.out.m1
            clear hw6 n5 k5 b6 hS hO HL
            go_wp2_with (first | (at_lookup; refine wpList_look_ok _ rfl _ _ 47 rfl 3 50 kInt Try.underlying47 (zeroStr2 _) gs (2 * k) fs rfl m1' _ (iL (nx + 1)) rfl hkey.out _ false hz.out hs0.out ?_) | (rw [← HW6.out]) | (at_mapUpdate; refine wpList_store _ rfl _ _ _ 47 rfl 3 50 kInt Try.underlying47 gs (2 * k) fs rfl p1 (by unfold maxLen; omega) _ _ (iL (nx + 1)) rfl rfl hkey.out ?_))
            intro w7 s7 r7
            have HS7 := hid (HS.out.put1 s7 r7)
            have p2 := HS.out.m2.kept r7 (by simp)
            clear y2 y3 s7 r7 p1 m1'
            go_wp2_with (at_mapUpdate; refine wpList_store _ rfl _ _ _ 48 rfl 3 3 kInt Try.underlying48 (gs + 1) (2 * k) fm rfl p2 (by unfold maxLen; omega) _ _ (iL (nx + 1)) rfl rfl hkey.out ?_)
            intro w8 s8 r8
            have HS8 := hid (HS7.out.put2 s8 (by omega) r8)
            clear p2 s8 r8
            obtain ⟨w9, hw9⟩ : ∃ x, x = w8.alloc (.cells #[.int .i64 (nx + 1)] 3) := ⟨_, rfl⟩
            have HS9 := hid (HS8.out.of_below (w' := w9) (by rw [hw9]; exact (Below.refl _ _).alloc (Nat.le_refl _) _))
            have hl9 := HS9.out.list
            have y9 : w9.cell? ⟨w8.heap.size, 0, none⟩ = some (.int .i64 (nx + 1)) := by rw [hw9]; exact cell_new _ _ _
            have HW9 := hid hw9
            have HGE := hid HS9.out.ge
            have HL65 := hid (show (L.map (·.1)).length + 1 ≤ 1000 by have := HA.out.hL; rw [List.length_map]; omega)
            clear hw9
            go_wp2_with (at_builtin; go_loud (rw [← HW9.out]; refine wpList_append_lst _ rfl _ _ 49 rfl Try.underlying49 infoInt g1 (.slice a6 L.length c6) (L.map (fun x => x.1)) rfl hl9 w8.heap.size 1 rfl (nx + 1) y9 HL65.out HGE.out ?_))
            intro v10 w10 l10 r10
            obtain ⟨a10, c10, rfl⟩ := l10.shape
            go_wp2_with fail
            go_roundw
            case rel => exact ⟨k + 1, _, nx + 1, by omega, by go_num, HS9.out.fin l10 r10 HO.out (by simp) (by have := HL64.out; simp; omega) (by omega) (by omega) (by omega) HG1.out, by omega⟩
            case measure => simp [intOf]; omega
          · have c1 := send_no W _ _ _ _ to text HA.out.net hok
            have her : sendErr to text L ≠ 0 := fun e => hok (sendErr_ok.1 e)
            generalize sendErr to text L = er at c1 her
            have hes : (er == 0) = false := by simpa using her
            clear her
            go_wp2_with (rw [← hX.out])
            refine c1.mono ?_
            rintro _ w5 ⟨rfl, hw5⟩
            rw [hw5]
            clear hw5 w5 c1
            go_wp2_with fail
            go_roundw
            case rel => exact ⟨k + 1, _, nx, by omega, by go_num, (HA.out.up hk6), by omega⟩
            case measure => simp [intOf]; omega
        · by_cases hK1 : K = 1
          · subst hK1
            by_cases hwr : wrongB L I = true
            · have c1 := take_no W _ _ _ _ I HA.out.net hwr
              unfold strV at c1
              go_wp2_with (rw [← hX.out])
              refine c1.mono ?_
              rintro _ w5 ⟨rfl, hw5⟩
              rw [hw5]
              clear hw5 w5 c1
              go_wp2_with fail
              go_roundw
              case rel => exact ⟨k + 1, _, nx, by omega, by go_num, (HA.out.up hk6), by omega⟩
              case measure => simp [intOf]; omega
            · obtain ⟨j, rfl, hj⟩ := wrong_ok (by simpa using hwr)
              obtain ⟨fs, fm, hS, hO⟩ := HA.out.toAS
              have hj' : j < (L.map (fun x : Letter => x.1)).length := by rw [List.length_map]; exact hj
              obtain ⟨g6, cap6, e6, hc6, -, -, -⟩ := hS.list.cell hj'
              rw [List.length_map, Value.slice.injEq] at e6
              obtain ⟨rfl, -, rfl⟩ := e6
              have hcap : (L.length : Int) ≤ (c6 : Int) := by rw [List.length_map] at hc6; omega
              clear hc6
              have hne : wr.heap.size ≠ gs + 1 := fun e => by obtain ⟨es, cl, q⟩ := hS.m2.blk; rw [← e, HC.out] at q; cases q
              have hn0 := HA.out.n0
              have hnk := HA.out.nk
              have hid64 : i64B L[j].1 := by have := hO.ids _ (List.getElem_mem hj); unfold i64B; omega
              have hcn1 := mcnt_pos hj
              have HO0 := hO.cut hj
              have hmay := hO.may L[j].1
              have hsnt := hO.sent _ (List.getElem_mem hj)
              have hcn := mcnt_le L L[j].1
              have hzj : (L.map (fun x : Letter => x.1))[j] = L[j].1 := by rw [List.getElem_map]
              have HMP := hid (show (L.map (fun x : Letter => x.1)).take j ++ (L.map (fun x : Letter => x.1)).drop (j + 1) = (L.take j ++ L.drop (j + 1)).map (fun x : Letter => x.1) by rw [List.map_append, List.map_take, List.map_drop])
              have hj1 : (j : Int) < (L.length : Int) := by omega
              have hj2 : (j : Int) + 1 ≤ (L.length : Int) := by omega
              have hj0 : (0 : Int) ≤ (j : Int) := by omega
              have hL64 : L.length ≤ 64 := HA.out.hL
              have hx0 := HA.out.net
              have c1 := take_ok W _ _ _ _ j hx0 hj (by unfold maxLen; omega)
              obtain ⟨lj, hlj⟩ : ∃ x, x = L[j] := ⟨_, rfl⟩
              rw [← hlj] at c1 HO0 hmay hsnt hcn hcn1 hzj hid64
              obtain ⟨id, tj, xj⟩ := lj
              unfold strV at c1
              simp only at c1 HO0 hmay hsnt hcn hcn1 hzj hid64
              have hkey := hid (keyI hid64)
              obtain ⟨cn, hcn'⟩ : ∃ c, c = mcnt L id := ⟨_, rfl⟩
              rw [← hcn'] at HO0 hmay hcn hcn1
              have HO := hid HO0
              have hmy := hid hmay
              have hst := hid (show (fs (iL id)).getD zStr2 = .agg #[.string ⟨tj.toArray⟩, .string ⟨xj.toArray⟩] by rw [hsnt]; rfl)
              have hcz : ((cn : Int) == 0) = false := by simp; omega
              have hc0 : (1 : Int) ≤ (cn : Int) := by omega
              have hc6 : (cn : Int) ≤ 64 := by omega
              have htl := hid (take_len L j)
              have heq2 := eqStr2 ⟨tj.toArray⟩ ⟨xj.toArray⟩
              clear HO0 hmay hsnt hO hid64 hcn hcn1 hcn' hlj HL
              go_wp2_with (rw [← hX.out])
              refine c1.mono ?_
              rintro _ w5 ⟨rfl, n5, k5⟩
              clear c1
              have y1 := k5.cellAt (j := 1) HC.out (by decide) rfl
              have HS5 := hid (hS.of_keep k5 (by decide) n5)
              have y6 := HS5.out.list.at hj'
              rw [hzj] at y6
              have p1 := HS5.out.m1
              have p2 := HS5.out.m2
              clear x0 x1 x2 x3 hk0 hk1 hk2 hk3 hS n5 k5 hx0
              go_wp2_with (first | (at_lookup; refine wpList_look _ rfl _ _ 47 rfl 3 50 kInt Try.underlying47 (zeroStr2 _) gs (2 * k) fs rfl p1 _ (iL id) rfl hkey.out _ hst.out ?_) | (at_lookup; refine wpList_look _ rfl _ _ 48 rfl 3 3 kInt Try.underlying48 (zeroInt _) (gs + 1) (2 * k) fm rfl p2 _ (iL id) rfl hkey.out _ hmy.out ?_) | (at_lookup; refine wpList_lookG _ (by rfl) _ _ 48 rfl 3 3 kInt Try.underlying48 (zeroInt _) (gs + 1) (2 * k) fm rfl p2 _ (iL id) rfl hkey.out _ hmy.out ?_) | (at_mapUpdate; refine wpList_store _ rfl _ _ _ 48 rfl 3 3 kInt Try.underlying48 (gs + 1) (2 * k) fm rfl p2 (by unfold maxLen; omega) _ _ (iL id) rfl rfl hkey.out ?_))
              intro w8 s8 r8
              have HS8 := hid (HS5.out.up.put2 s8 (by omega) r8)
              have y1 := r8.cell y1 (by simpa using hne)
              clear p1 p2 s8 r8 y6
              obtain ⟨A, hA⟩ : ∃ A : Option Addr, (if c6 = j + 1 then (some (⟨g6, 0, none⟩ : Addr)) else some ⟨g6, j + 1, none⟩) = A := ⟨_, rfl⟩
              have hAc := hid (show j + 1 < L.length → A = some ⟨g6, j + 1, none⟩ from fun q => by rw [← hA, if_neg (by omega)])
              have hic : j ≤ c6 := by omega
              have hjc : j + 1 ≤ c6 := by omega
              have e5 : (0 : Int) ≤ (j : Int) + 1 := by omega
              have hb1 := hid (World.block_lt_of_cell? _ _ y1)
              have hwrp : IntKind.i64.wrap ((j : Int) + 1) = (j : Int) + 1 := IntWalk.i64_in _ (by omega)
              have HL8 := hid HS8.out.list
              have HG8 := hid HS8.out.ge
              have HLn := hid (show (L.map (fun x : Letter => x.1)).length = L.length by rw [List.length_map])
              have HL66 := hid (show (L.map (fun x : Letter => x.1)).length ≤ 1000 by rw [List.length_map]; omega)
              go_wp2_with fail
              go_region_held3 (fun w' => w'.cell? ⟨wr.heap.size, 1, none⟩ = some (.int .i64 (j : Int))) (first | exact y1 | exact (b10.cell (p := ⟨wr.heap.size, 1, none⟩) hb1.out).trans y1 | go_keep)
                ((refine step_append_cut _ (by rfl) _ _ 49 (by rfl) Try.underlying49 infoInt g1 g6 c6 L.length (L.map (fun x : Letter => x.1)) HLn.out (HL8.out.of_blocks (fun _ _ _ _ => rfl)) j _ A hj' (by rfl) (by rfl) hAc.out HL66.out HG8.out ?_; intro v10 w10 l10 b10))
              obtain ⟨a10, c10, rfl⟩ := l10.shape
              go_wp2_with fail
              go_roundw
              case rel => exact ⟨k + 1, _, nx, by omega, by go_num, HS8.out.finB l10 (below_of_drew b10) HO.out HMP.out (Nat.le_trans htl.out hL64) (by omega) (by omega) (by omega) HG1.out, by omega⟩
              case measure => simp [intOf]; omega
          · have e0 : (K == 0) = false := by simpa using hK0
            by_cases hK2 : K = 2
            · subst hK2
              by_cases hwr : wrongB L I = true
              · have c1 := double_no W _ _ _ _ I HA.out.net hwr
                go_wp2_with (rw [← hX.out])
                refine c1.mono ?_
                rintro _ w5 ⟨rfl, hw5⟩
                rw [hw5]
                clear hw5 w5 c1
                go_wp2_with fail
                go_roundw
                case rel => exact ⟨k + 1, _, nx, by omega, by go_num, (HA.out.up hk6), by omega⟩
                case measure => simp [intOf]; omega
              · have hwr : wrongB L I = false := by simpa using hwr
                by_cases hf : 64 ≤ L.length
                · have c1 := double_full W _ _ _ _ I HA.out.net hwr hf
                  go_wp2_with (rw [← hX.out])
                  refine c1.mono ?_
                  rintro _ w5 ⟨rfl, hw5⟩
                  rw [hw5]
                  clear hw5 w5 c1
                  go_wp2_with fail
                  go_roundw
                  case rel => exact ⟨k + 1, _, nx, by omega, by go_num, (HA.out.up hk6), by omega⟩
                  case measure => simp [intOf]; omega
                · obtain ⟨j, rfl, hj⟩ := wrong_ok (by simpa using hwr)
                  obtain ⟨fs, fm, hS, hO⟩ := HA.out.toAS
                  have hj' : j < (L.map (fun x : Letter => x.1)).length := by rw [List.length_map]; exact hj
                  obtain ⟨g6, cap6, e6, -⟩ := hS.list.cell hj'
                  rw [List.length_map, Value.slice.injEq] at e6
                  obtain ⟨rfl, -, rfl⟩ := e6
                  have hne : wr.heap.size ≠ gs + 1 := fun e => by obtain ⟨es, cl, q⟩ := hS.m2.blk; rw [← e, HC.out] at q; cases q
                  have hn0 := HA.out.n0
                  have hnk := HA.out.nk
                  obtain ⟨id, hidj⟩ : ∃ x, x = L[j].1 := ⟨_, rfl⟩
                  have hid64 : i64B id := by have := hO.ids _ (List.getElem_mem hj); rw [hidj]; unfold i64B; omega
                  have hkey := hid (keyI hid64)
                  have HO0 := hO.dbl hj
                  have hmay := hO.may L[j].1
                  have hcn := mcnt_le L L[j].1
                  have hzj : (L.map (fun x : Letter => x.1))[j] = id := by rw [List.getElem_map, hidj]
                  have HMP := hid (show (L.map (fun x : Letter => x.1)) ++ [id] = (L ++ [L[j]]).map (fun x : Letter => x.1) by rw [List.map_append, hidj]; rfl)
                  rw [← hidj] at HO0 hmay hcn
                  have hj1 : (j : Int) < (L.length : Int) := by omega
                  have hj0 : (0 : Int) ≤ (j : Int) := by omega
                  have hx0 := HA.out.net
                  obtain ⟨cn, hcn'⟩ : ∃ c, c = mcnt L id := ⟨_, rfl⟩
                  rw [← hcn'] at HO0 hmay hcn
                  have HO := hid HO0
                  have hmy := hid hmay
                  have hc0 : (0 : Int) ≤ (cn : Int) := by omega
                  have hc6 : (cn : Int) ≤ 64 := by omega
                  have hL64 : L.length < 64 := by omega
                  clear HO0 hmay hO hid64 hcn hidj hcn' HL
                  go_wp2_with (rw [← hX.out])
                  refine (double_ok W _ _ _ _ j hx0 hj hL64).mono ?_
                  rintro _ w5 ⟨rfl, n5, k5⟩
                  have y1 := k5.cellAt (j := 1) HC.out (by decide) rfl
                  have HS5 := hid (hS.of_keep k5 (by decide) n5)
                  have y6 := HS5.out.list.at hj'
                  rw [hzj] at y6
                  have p2 := HS5.out.m2
                  clear x0 x1 x2 x3 hk0 hk1 hk2 hk3 hS n5 k5 hx0
                  go_wp2_with (first | (at_lookup; refine wpList_look _ rfl _ _ 48 rfl 3 3 kInt Try.underlying48 (zeroInt _) (gs + 1) (2 * k) fm rfl p2 _ (iL id) rfl hkey.out _ hmy.out ?_) | (at_mapUpdate; refine wpList_store _ rfl _ _ _ 48 rfl 3 3 kInt Try.underlying48 (gs + 1) (2 * k) fm rfl p2 (by unfold maxLen; omega) _ _ (iL id) rfl rfl hkey.out ?_))
                  intro w8 s8 r8
                  have HS8 := hid (HS5.out.up.put2 s8 (by omega) r8)
                  have y1 := r8.cell y1 (by simpa using hne)
                  have y6 := HS8.out.list.at hj'
                  rw [hzj] at y6
                  clear p2 s8 r8
                  obtain ⟨w9, hw9⟩ : ∃ x, x = w8.alloc (.cells #[.int .i64 (id)] 3) := ⟨_, rfl⟩
                  have HS9 := hid (HS8.out.of_below (w' := w9) (by rw [hw9]; exact (Below.refl _ _).alloc (Nat.le_refl _) _))
                  have hl9 := HS9.out.list
                  have y9 : w9.cell? ⟨w8.heap.size, 0, none⟩ = some (.int .i64 (id)) := by rw [hw9]; exact cell_new _ _ _
                  have HW9 := hid hw9
                  have HGE := hid HS9.out.ge
                  have HL65 := hid (show (L.map (fun x : Letter => x.1)).length + 1 ≤ 1000 by rw [List.length_map]; omega)
                  clear hw9
                  go_wp2_with (at_builtin; go_loud (rw [← HW9.out]; refine wpList_append_lst _ rfl _ _ 49 rfl Try.underlying49 infoInt g1 (.slice (some ⟨g6, 0, none⟩) L.length c6) (L.map (fun x => x.1)) rfl hl9 w8.heap.size 1 rfl (id) y9 HL65.out HGE.out ?_))
                  intro v10 w10 l10 r10
                  obtain ⟨a10, c10, rfl⟩ := l10.shape
                  go_wp2_with fail
                  go_roundw
                  case rel => exact ⟨k + 1, _, nx, by omega, by go_num, HS9.out.fin l10 r10 HO.out HMP.out (by simp; omega) (by omega) (by omega) (by omega) HG1.out, by omega⟩
                  case measure => simp [intOf]; omega
            · have e1 : (K == 1) = false := by simpa using hK1
              have e2 : (K == 2) = false := by simpa using hK2
              by_cases hwr : wrongB L I = true
              · have c1 := lose_no W _ _ _ _ I HA.out.net hwr
                go_wp2_with (rw [← hX.out])
                refine c1.mono ?_
                rintro _ w5 ⟨rfl, hw5⟩
                rw [hw5]
                clear hw5 w5 c1
                go_wp2_with fail
                go_roundw
                case rel => exact ⟨k + 1, _, nx, by omega, by go_num, (HA.out.up hk6), by omega⟩
                case measure => simp [intOf]; omega
              · obtain ⟨j, rfl, hj⟩ := wrong_ok (by simpa using hwr)
                obtain ⟨fs, fm, hS, hO⟩ := HA.out.toAS
                have hj' : j < (L.map (fun x : Letter => x.1)).length := by rw [List.length_map]; exact hj
                obtain ⟨g6, cap6, e6, hc6, -, -, -⟩ := hS.list.cell hj'
                rw [List.length_map, Value.slice.injEq] at e6
                obtain ⟨rfl, -, rfl⟩ := e6
                have hcap : (L.length : Int) ≤ (c6 : Int) := by rw [List.length_map] at hc6; omega
                clear hc6
                have hne : wr.heap.size ≠ gs + 1 := fun e => by obtain ⟨es, cl, q⟩ := hS.m2.blk; rw [← e, HC.out] at q; cases q
                have hn0 := HA.out.n0
                have hnk := HA.out.nk
                have hid64 : i64B L[j].1 := by have := hO.ids _ (List.getElem_mem hj); unfold i64B; omega
                have hcn1 := mcnt_pos hj
                have HO0 := hO.cut hj
                have hmay := hO.may L[j].1
                have hsnt := hO.sent _ (List.getElem_mem hj)
                have hcn := mcnt_le L L[j].1
                have hzj : (L.map (fun x : Letter => x.1))[j] = L[j].1 := by rw [List.getElem_map]
                have HMP := hid (show (L.map (fun x : Letter => x.1)).take j ++ (L.map (fun x : Letter => x.1)).drop (j + 1) = (L.take j ++ L.drop (j + 1)).map (fun x : Letter => x.1) by rw [List.map_append, List.map_take, List.map_drop])
                have hj1 : (j : Int) < (L.length : Int) := by omega
                have hj2 : (j : Int) + 1 ≤ (L.length : Int) := by omega
                have hj0 : (0 : Int) ≤ (j : Int) := by omega
                have hL64 : L.length ≤ 64 := HA.out.hL
                have hx0 := HA.out.net
                have c1 := lose_ok W _ _ _ _ j hx0 hj (by unfold maxLen; omega)
                obtain ⟨lj, hlj⟩ : ∃ x, x = L[j] := ⟨_, rfl⟩
                rw [← hlj] at HO0 hmay hsnt hcn hcn1 hzj hid64
                obtain ⟨id, tj, xj⟩ := lj
                simp only at HO0 hmay hsnt hcn hcn1 hzj hid64
                have hkey := hid (keyI hid64)
                obtain ⟨cn, hcn'⟩ : ∃ c, c = mcnt L id := ⟨_, rfl⟩
                rw [← hcn'] at HO0 hmay hcn hcn1
                have HO := hid HO0
                have hmy := hid hmay
                have hst := hid (show (fs (iL id)).getD zStr2 = .agg #[.string ⟨tj.toArray⟩, .string ⟨xj.toArray⟩] by rw [hsnt]; rfl)
                have hcz : ((cn : Int) == 0) = false := by simp; omega
                have hc0 : (1 : Int) ≤ (cn : Int) := by omega
                have hc6 : (cn : Int) ≤ 64 := by omega
                have htl := hid (take_len L j)
                clear HO0 hmay hsnt hO hid64 hcn hcn1 hcn' hlj HL
                go_wp2_with (rw [← hX.out])
                refine c1.mono ?_
                rintro _ w5 ⟨rfl, n5, k5⟩
                clear c1
                have y1 := k5.cellAt (j := 1) HC.out (by decide) rfl
                have HS5 := hid (hS.of_keep k5 (by decide) n5)
                have y6 := HS5.out.list.at hj'
                rw [hzj] at y6
                have p1 := HS5.out.m1
                have p2 := HS5.out.m2
                clear x0 x1 x2 x3 hk0 hk1 hk2 hk3 hS n5 k5 hx0
                go_wp2_with (first | (at_lookup; refine wpList_look _ rfl _ _ 48 rfl 3 3 kInt Try.underlying48 (zeroInt _) (gs + 1) (2 * k) fm rfl p2 _ (iL id) rfl hkey.out _ hmy.out ?_) | (at_mapUpdate; refine wpList_store _ rfl _ _ _ 48 rfl 3 3 kInt Try.underlying48 (gs + 1) (2 * k) fm rfl p2 (by unfold maxLen; omega) _ _ (iL id) rfl rfl hkey.out ?_))
                intro w8 s8 r8
                have HS8 := hid (HS5.out.up.put2 s8 (by omega) r8)
                have y1 := r8.cell y1 (by simpa using hne)
                clear p1 p2 s8 r8 y6
                obtain ⟨A, hA⟩ : ∃ A : Option Addr, (if c6 = j + 1 then (some (⟨g6, 0, none⟩ : Addr)) else some ⟨g6, j + 1, none⟩) = A := ⟨_, rfl⟩
                have hAc := hid (show j + 1 < L.length → A = some ⟨g6, j + 1, none⟩ from fun q => by rw [← hA, if_neg (by omega)])
                have hic : j ≤ c6 := by omega
                have hjc : j + 1 ≤ c6 := by omega
                have e5 : (0 : Int) ≤ (j : Int) + 1 := by omega
                have hb1 := hid (World.block_lt_of_cell? _ _ y1)
                have hwrp : IntKind.i64.wrap ((j : Int) + 1) = (j : Int) + 1 := IntWalk.i64_in _ (by omega)
                have HL8 := hid HS8.out.list
                have HG8 := hid HS8.out.ge
                have HLn := hid (show (L.map (fun x : Letter => x.1)).length = L.length by rw [List.length_map])
                have HL66 := hid (show (L.map (fun x : Letter => x.1)).length ≤ 1000 by rw [List.length_map]; omega)
                go_wp2_with fail
                go_region_held3 (fun w' => w'.cell? ⟨wr.heap.size, 1, none⟩ = some (.int .i64 (j : Int))) (first | exact y1 | exact (b10.cell (p := ⟨wr.heap.size, 1, none⟩) hb1.out).trans y1 | go_keep)
                  ((refine step_append_cut _ (by rfl) _ _ 49 (by rfl) Try.underlying49 infoInt g1 g6 c6 L.length (L.map (fun x : Letter => x.1)) HLn.out (HL8.out.of_blocks (fun _ _ _ _ => rfl)) j _ A hj' (by rfl) (by rfl) hAc.out HL66.out HG8.out ?_; intro v10 w10 l10 b10))
                obtain ⟨a10, c10, rfl⟩ := l10.shape
                go_wp2_with fail
                go_roundw
                case rel => exact ⟨k + 1, _, nx, by omega, by go_num, HS8.out.finB l10 (below_of_drew b10) HO.out HMP.out (Nat.le_trans htl.out hL64) (by omega) (by omega) (by omega) HG1.out, by omega⟩
                case measure => simp [intOf]; omega
    · have HA := hid hA
      clear hA
      go_wp2_with fail
      refine (len_any _ _ _ _ _ HA.out.net).mono ?_
      rintro _ w9 ⟨rfl, rfl⟩
      obtain ⟨a6, c6, rfl⟩ := HA.out.list.shape
      go_wp2_with fail
      go_ret
      exact ⟨rfl, HB.out _ HA.out.below⟩
end Go.Proofs.Ytfdbcnpbjabjoaa
