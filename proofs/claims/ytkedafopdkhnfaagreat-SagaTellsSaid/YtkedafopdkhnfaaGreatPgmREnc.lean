/- CONTRACT: the reference's Encode. -/
import Derived.Test.YtkedafopdkhnfaaGreatPgmEncP
namespace Go.Proofs.YtkedafopdkhnfaaGreat
open Go.RowKit
set_option linter.unusedVariables false
theorem zFm(n:Nat)(hn:n≤16000)(w:World) :
 Calls Tryz.prog 103 #[.int .i64 n] w fun e w'=>e=.returned (.string ⟨(putL n).toArray⟩)∧Below w.heap.size w w':=by
 have:=zNo n (by omega) (by omega) w
 rw[Int.toNat_natCast] at this
 exact this
set_option maxHeartbeats 3200000 in
set_option maxRecDepth 100000 in
theorem zMi(v:Value)(lim:Int)(ss:List St)(w:World)(hs:Sl w v 6 ss.length (ss.flatMap stC))(hf:Fit ss):Calls Tryz.prog 94 #[.agg #[v,.int .i64 lim]] w fun e w'=>e=.returned (.tuple #[.string ⟨(encV lim ss).toArray⟩,.int .i64 (chkV lim ss)])∧Below w.heap.size w w':=by
 have hb0:=fun w' (h:Below w.heap.size w w')=>zOn v lim ss w' (hs.below h) hf
 have hm:=hs.2.1.1
 obtain⟨_,_,a,cap,rfl,hc⟩:=hs
 have C1:=hid hc
 clear hc
 by_cases hp:zCr lim ss
 · obtain⟨n,rfl⟩:=Int.eq_ofNat_of_zero_le hp.2.1.1
   have h16:=hp.1
   have hl16:=hp.2.1.2
   have hv:chkV n ss=0:=by unfold chkV;rw[if_pos hp]
   have hd:decide (zCr n ss)=true:=decide_eq_true hp
   have hw:encV n ss=encP n ss:=by unfold encV;rw[if_pos hp]
   rw[hd] at hb0
   have HB:=hid hb0
   rw[hv,hw]
   have hu:U64 n:=by unfold U64;omega
   have hul:U64 ss.length:=by unfold U64;omega
   have HP:=hid hp
   clear hp hv hw hb0 hd
   go_enter Tryz.func94,Tryz.ntmps94
   go_wp2_with fail
   obtain⟨w1,hw1⟩:∃w1,w1=w.alloc (.cells #[.slice a ss.length cap,.int .i64 n] 32):=⟨_,rfl⟩
   rw[← hw1]
   have bw1:Below w.heap.size w w1:=by rw[hw1];exact(Below.refl _ _).alloc (Nat.le_refl _) _
   have sw1:w1.heap.size=w.heap.size+1:=by rw[hw1];exact Array.size_push ..
   have pc0:w1.cell? ⟨w.heap.size,0,none⟩=some (.slice a ss.length cap):=by rw[hw1,World.cell?_alloc_at _ _ _ _ rfl];rfl
   have pc1:w1.cell? ⟨w.heap.size,1,none⟩=some (.int .i64 n):=by rw[hw1,World.cell?_alloc_at _ _ _ _ rfl];rfl
   clear hw1
   refine(HB.out w1 bw1).mono ?_
   rintro _ w2 ⟨rfl,hb2⟩
   have pd1:w2.cell? ⟨w.heap.size,1,none⟩=some (.int .i64 n):=(hb2.cell (p:=⟨w.heap.size,1,none⟩) (by show w.heap.size<_;omega)).trans pc1
   go_wp2_with fail
   have pd0:w2.cell? ⟨w.heap.size,0,none⟩=some (.slice a ss.length cap):=(hb2.cell (p:=⟨w.heap.size,0,none⟩) (by show w.heap.size<_;omega)).trans pc0
   have hcat:=fun w=>zDu (P:=Tryz.prog) w (putL n) (putL ss.length) (by have:=zDp hu;have:=zDp hul;omega)
   have hlw:w.heap.size<w2.heap.size:=by have:=hb2.size;omega
   have hkeep:=fun w' w'' h k=>zWg (A:=⟨w.heap.size,0,none⟩) (C:=⟨w.heap.size,1,none⟩) hlw hlw pd0 pd1 (w':=w') (w'':=w'') h k
   go_region_held3 (fun w'=>Below w2.heap.size w2 w'∧w'.cell? ⟨w.heap.size,0,none⟩=some (.slice a ss.length cap)∧w'.cell? ⟨w.heap.size,1,none⟩=some (.int .i64 n)) (first | exact hS | exact⟨zAa _ _ 1,pd0,pd1⟩)
    (first | (go_at_call 103;refine(zFm _ (by omega) _).mono ?_;rintro _ w3 ⟨rfl,hb3⟩;have hS:=hkeep _ _ (by assumption) hb3))
   have q0:=hS.2.1
   have hb3':=zAl hb2 hS.1
   clear hS
   go_wp2_with fail
   have hE0:putL n++putL ss.length=encK n ss 0:=by unfold encK;simp
   rw[hE0]
   clear hcat hE0 q0
   go_loopw [4,5] (fun s i wr=>∃k:Nat,k≤ss.length∧i=.int .i64 k∧s=.string ⟨(encK n ss k).toArray⟩∧Below w1.heap.size w1 wr) (fun _ i _=>ss.length - (intOf i).toNat)
   case atStart=>exact⟨0,by omega,rfl,rfl,hb3'⟩
   case round =>
    clear hb3'
    obtain⟨k,hk,rfl,rfl,hb⟩:=hrel
    have pr0:wr.cell? ⟨w.heap.size,0,none⟩=some (.slice a ss.length cap):=(hb.cell (p:=⟨w.heap.size,0,none⟩) (by show w.heap.size<_;omega)).trans pc0
    by_cases hlt:k<ss.length
    · obtain⟨b,off,rfl,hblt,hc⟩:=C1.out.resolve_left (by omega)
      have hk0:wr.cell? ⟨b,off+k*6,none⟩=some (.int .i64 ss[k].1):=((hb.cell (p:=⟨b,off+k*6+0,none⟩) (by show b<_;omega)).trans (bw1.cell (p:=⟨b,off+k*6+0,none⟩) hblt)).trans (zAp hc k 0 (by decide) hlt _ rfl)
      have hk1:wr.cell? ⟨b,off+k*6+1,none⟩=some (.string ⟨ss[k].2.1.toArray⟩):=((hb.cell (p:=⟨b,off+k*6+1,none⟩) (by show b<_;omega)).trans (bw1.cell (p:=⟨b,off+k*6+1,none⟩) hblt)).trans (zAp hc k 1 (by decide) hlt _ rfl)
      have hk2:wr.cell? ⟨b,off+k*6+2,none⟩=some (.string ⟨ss[k].2.2.1.toArray⟩):=((hb.cell (p:=⟨b,off+k*6+2,none⟩) (by show b<_;omega)).trans (bw1.cell (p:=⟨b,off+k*6+2,none⟩) hblt)).trans (zAp hc k 2 (by decide) hlt _ rfl)
      have hk3:wr.cell? ⟨b,off+k*6+3,none⟩=some (.int .i64 ss[k].2.2.2.1):=((hb.cell (p:=⟨b,off+k*6+3,none⟩) (by show b<_;omega)).trans (bw1.cell (p:=⟨b,off+k*6+3,none⟩) hblt)).trans (zAp hc k 3 (by decide) hlt _ rfl)
      have hk4:wr.cell? ⟨b,off+k*6+4,none⟩=some (.int .i64 ss[k].2.2.2.2.1):=((hb.cell (p:=⟨b,off+k*6+4,none⟩) (by show b<_;omega)).trans (bw1.cell (p:=⟨b,off+k*6+4,none⟩) hblt)).trans (zAp hc k 4 (by decide) hlt _ rfl)
      have hk5:wr.cell? ⟨b,off+k*6+5,none⟩=some (.int .i64 ss[k].2.2.2.2.2):=((hb.cell (p:=⟨b,off+k*6+5,none⟩) (by show b<_;omega)).trans (bw1.cell (p:=⟨b,off+k*6+5,none⟩) hblt)).trans (zAp hc k 5 (by decide) hlt _ rfl)
      clear hc
      have hxr:=HP.out.2.2 ss[k] (List.getElem_mem hlt)
      have hsu:=zPl n ss k hlt
      have hl1:=zM5 HP.out k
      have hl2:=zM5 HP.out (k+1)
      generalize ss[k]=x at *
      generalize encK n ss k=pre at *
      obtain⟨post,hpost⟩:∃p,p=encK n ss (k+1):=⟨_,rfl⟩
      rw[← hpost] at hsu hl2
      have HPo:=hid hpost
      clear hpost
      obtain⟨kd,nm,un,tr,ut,wt⟩:=x
      simp only at hk0 hk1 hk2 hk3 hk4 hk5
      rcases hxr with ⟨hkd,hu1,hn1,ht1,hw1⟩ | ⟨hkd,hn1,hu1,ht1,hut1,hw1⟩ | ⟨hkd,hn1,hu1,ht1,hut1,hw1⟩
      · simp only[St.kd,St.nm,St.un,St.tr,St.ut,St.wt] at hkd hu1 hn1 ht1 hw1
        have hul2:un.length≤16:=by
         rcases hu1 with ⟨h,_⟩ | ⟨h,_⟩
         · rw[h];simp
         · exact h.2.1
        have hnl:=hn1.2.1
        have hut1:0≤ut∧ut≤5:=by rcases hu1 with ⟨_,h⟩ | ⟨_,h⟩ <;> omega
        obtain⟨tr,rfl⟩:=Int.eq_ofNat_of_zero_le (show 0≤tr by omega)
        obtain⟨ut,rfl⟩:=Int.eq_ofNat_of_zero_le hut1.1
        subst hkd
        subst hw1
        have hutr:tr≤16000:=by omega
        have huut:ut≤16000:=by omega
        have h1u:1≤16000:=by decide
        have g1:=zEm hnl
        have g2:=zEm hul2
        have g3:=zA7 tr (by omega)
        have g4:=zA7 ut (by omega)
        have g5:=zA7 1 (by decide)
        have f0:=fun w=>zDu (P:=Tryz.prog) w pre (putL 1) (by omega)
        have f1:=fun w=>zDu (P:=Tryz.prog) w (zCe nm) (putL tr) (by omega)
        have f2:=fun w=>zDu (P:=Tryz.prog) w (zCe nm++putL tr) (zCe un) (by simp only[List.length_append];omega)
        have f3:=fun w=>zDu (P:=Tryz.prog) w (zCe nm++(putL tr++zCe un)) (putL ut) (by simp only[List.length_append];omega)
        have f4:=fun w=>zDu (P:=Tryz.prog) w (pre++putL 1) (zCe nm++(putL tr++(zCe un++putL ut))) (by simp only[List.length_append];omega)
        have hE:pre++(putL 1++(zCe nm++(putL tr++(zCe un++putL ut))))=post:=by
         rw[hsu]
         unfold encS
         rw[if_pos rfl]
         rfl
        have HE:=hid hE
        clear hE hsu hu1 hn1 ht1 hut1 g1 g2 g3 g4 g5 hl1 hl2
        go_wp2_with fail
        obtain⟨W,hW⟩:∃W,W=wr.alloc (.cells #[.int .i64 1,.string ⟨nm.toArray⟩,.string ⟨un.toArray⟩,.int .i64 tr,.int .i64 ut,.int .i64 0] 77):=⟨_,rfl⟩
        rw[← hW]
        have bW:Below wr.heap.size wr W:=by rw[hW];exact(Below.refl _ _).alloc (Nat.le_refl _) _
        have hC:W.heap[wr.heap.size]?=some (.cells #[.int .i64 1,.string ⟨nm.toArray⟩,.string ⟨un.toArray⟩,.int .i64 tr,.int .i64 ut,.int .i64 0] 77 (0,0)):=by rw[hW];exact heap_alloc_new wr _
        have hlW:wr.heap.size<W.heap.size:=(gL hC)
        clear hW hk0 hk1 hk2 hk3 hk4 hk5
        refine(zFm _ h1u W).mono ?_
        rintro _ w4 ⟨rfl,hb4⟩
        have C4:=(hb4.block _ hlW).trans hC
        have hl4:wr.heap.size<w4.heap.size:=Nat.lt_of_lt_of_le hlW hb4.size
        have x0:w4.cell? ⟨wr.heap.size,0,none⟩=some (.int .i64 1):=by rw[cell_of_row w4 _ 0 _ _ (0,0) C4];rfl
        have x1:w4.cell? ⟨wr.heap.size,1,none⟩=some (.string ⟨nm.toArray⟩):=by rw[cell_of_row w4 _ 1 _ _ (0,0) C4];rfl
        have x2:w4.cell? ⟨wr.heap.size,2,none⟩=some (.string ⟨un.toArray⟩):=by rw[cell_of_row w4 _ 2 _ _ (0,0) C4];rfl
        have x3:w4.cell? ⟨wr.heap.size,3,none⟩=some (.int .i64 tr):=by rw[cell_of_row w4 _ 3 _ _ (0,0) C4];rfl
        have x4:w4.cell? ⟨wr.heap.size,4,none⟩=some (.int .i64 ut):=by rw[cell_of_row w4 _ 4 _ _ (0,0) C4];rfl
        have x5:w4.cell? ⟨wr.heap.size,5,none⟩=some (.int .i64 0):=by rw[cell_of_row w4 _ 5 _ _ (0,0) C4];rfl
        have hb4':=zAl hb (zAl bW hb4)
        go_wp2_with fail
        have hkeep:=fun w' w'' (h:Below w4.heap.size w4 w'∧w'.cell? ⟨wr.heap.size,1,none⟩=some (.string ⟨nm.toArray⟩)∧w'.cell? ⟨wr.heap.size,2,none⟩=some (.string ⟨un.toArray⟩)∧w'.cell? ⟨wr.heap.size,3,none⟩=some (.int .i64 tr)∧w'.cell? ⟨wr.heap.size,4,none⟩=some (.int .i64 ut)) (k:Below w'.heap.size w' w'')=>zWh (A:=⟨wr.heap.size,1,none⟩) (C:=⟨wr.heap.size,2,none⟩) (D:=⟨wr.heap.size,3,none⟩) (E:=⟨wr.heap.size,4,none⟩) hl4 hl4 hl4 hl4 x1 x2 x3 x4 h k
        go_region_held3 (fun w'=>Below w4.heap.size w4 w'∧w'.cell? ⟨wr.heap.size,1,none⟩=some (.string ⟨nm.toArray⟩)∧w'.cell? ⟨wr.heap.size,2,none⟩=some (.string ⟨un.toArray⟩)∧w'.cell? ⟨wr.heap.size,3,none⟩=some (.int .i64 tr)∧w'.cell? ⟨wr.heap.size,4,none⟩=some (.int .i64 ut)) (first | exact hS | exact⟨zAa _ _ 1,x1,x2,x3,x4⟩)
         (first | (go_at_call 103;refine(zFm _ (by first | exact hutr | exact huut) _).mono ?_;rintro _ w5 ⟨rfl,hb5⟩;have hS:=hkeep _ _ (by assumption) hb5) | (go_at_call 104;refine(zLg _ (by omega) _).mono ?_;rintro _ w5 ⟨rfl,hb5⟩;have hS:=hkeep _ _ (by assumption) hb5))
        have hb5':=zAl hb4' hS.1
        clear hS x0 x1 x2 x3 x4 x5
        go_wp2_with fail
        go_roundw
        case rel=>exact⟨k+1,by omega,by go_num,by rw[HE.out,HPo.out],hb5'⟩
        case measure=>simp[intOf];omega
      · simp only[St.kd,St.nm,St.un,St.tr,St.ut,St.wt] at hkd hn1 hu1 ht1 hut1 hw1
        obtain⟨wt,rfl⟩:=Int.eq_ofNat_of_zero_le (show 0≤wt by omega)
        subst hkd
        subst hn1
        subst hu1
        subst ht1
        subst hut1
        have huwt:wt≤16000:=by omega
        have h1u:2≤16000:=by decide
        have g3:=zA7 wt (by omega)
        have g5:=zA7 2 (by decide)
        have f0:=fun w=>zDu (P:=Tryz.prog) w pre (putL 2) (by omega)
        have f1:=fun w=>zDu (P:=Tryz.prog) w (pre++putL 2) (putL wt) (by simp only[List.length_append];omega)
        have hE:pre++(putL 2++putL wt)=post:=by
         rw[hsu]
         unfold encS
         rw[if_neg i21,if_pos rfl]
         rfl
        have HE:=hid hE
        clear hE hsu hw1 g3 g5 hl1 hl2
        go_wp2_with fail
        obtain⟨W,hW⟩:∃W,W=wr.alloc (.cells #[.int .i64 2,.string ⟨#[]⟩,.string ⟨#[]⟩,.int .i64 0,.int .i64 0,.int .i64 wt] 77):=⟨_,rfl⟩
        rw[← hW]
        have bW:Below wr.heap.size wr W:=by rw[hW];exact(Below.refl _ _).alloc (Nat.le_refl _) _
        have hC:W.heap[wr.heap.size]?=some (.cells #[.int .i64 2,.string ⟨#[]⟩,.string ⟨#[]⟩,.int .i64 0,.int .i64 0,.int .i64 wt] 77 (0,0)):=by rw[hW];exact heap_alloc_new wr _
        have hlW:wr.heap.size<W.heap.size:=(gL hC)
        clear hW hk0 hk1 hk2 hk3 hk4 hk5
        refine(zFm _ h1u W).mono ?_
        rintro _ w4 ⟨rfl,hb4⟩
        have C4:=(hb4.block _ hlW).trans hC
        have hl4:wr.heap.size<w4.heap.size:=Nat.lt_of_lt_of_le hlW hb4.size
        have x0:w4.cell? ⟨wr.heap.size,0,none⟩=some (.int .i64 2):=by rw[cell_of_row w4 _ 0 _ _ (0,0) C4];rfl
        have x1:w4.cell? ⟨wr.heap.size,1,none⟩=some (.string ⟨#[]⟩):=by rw[cell_of_row w4 _ 1 _ _ (0,0) C4];rfl
        have x5:w4.cell? ⟨wr.heap.size,5,none⟩=some (.int .i64 wt):=by rw[cell_of_row w4 _ 5 _ _ (0,0) C4];rfl
        have hb4':=zAl hb (zAl bW hb4)
        go_wp2_with fail
        refine(zFm _ huwt _).mono ?_
        rintro _ w5 ⟨rfl,hb5⟩
        have hb5':=zAl hb4' hb5
        clear x0 x1 x5
        go_wp2_with fail
        go_roundw
        case rel=>exact⟨k+1,by omega,by go_num,by rw[← HPo.out,← HE.out],hb5'⟩
        case measure=>simp[intOf];omega
      · simp only[St.kd,St.nm,St.un,St.tr,St.ut,St.wt] at hkd hn1 hu1 ht1 hut1 hw1
        subst hkd
        subst hu1
        subst ht1
        subst hut1
        subst hw1
        have hnl:=hn1.2.1
        have h1u:3≤16000:=by decide
        have g3:=zEm hnl
        have g5:=zA7 3 (by decide)
        have f0:=fun w=>zDu (P:=Tryz.prog) w pre (putL 3) (by omega)
        have f1:=fun w=>zDu (P:=Tryz.prog) w (pre++putL 3) (zCe nm) (by simp only[List.length_append];omega)
        have hE:pre++(putL 3++zCe nm)=post:=by
         rw[hsu]
         unfold encS
         rw[if_neg i31,if_neg i32]
         rfl
        have HE:=hid hE
        clear hE hsu hn1 g3 g5 hl1 hl2
        go_wp2_with fail
        obtain⟨W,hW⟩:∃W,W=wr.alloc (.cells #[.int .i64 3,.string ⟨nm.toArray⟩,.string ⟨#[]⟩,.int .i64 0,.int .i64 0,.int .i64 0] 77):=⟨_,rfl⟩
        rw[← hW]
        have bW:Below wr.heap.size wr W:=by rw[hW];exact(Below.refl _ _).alloc (Nat.le_refl _) _
        have hC:W.heap[wr.heap.size]?=some (.cells #[.int .i64 3,.string ⟨nm.toArray⟩,.string ⟨#[]⟩,.int .i64 0,.int .i64 0,.int .i64 0] 77 (0,0)):=by rw[hW];exact heap_alloc_new wr _
        have hlW:wr.heap.size<W.heap.size:=(gL hC)
        clear hW hk0 hk1 hk2 hk3 hk4 hk5
        refine(zFm _ h1u W).mono ?_
        rintro _ w4 ⟨rfl,hb4⟩
        have C4:=(hb4.block _ hlW).trans hC
        have hl4:wr.heap.size<w4.heap.size:=Nat.lt_of_lt_of_le hlW hb4.size
        have x0:w4.cell? ⟨wr.heap.size,0,none⟩=some (.int .i64 3):=by rw[cell_of_row w4 _ 0 _ _ (0,0) C4];rfl
        have x1:w4.cell? ⟨wr.heap.size,1,none⟩=some (.string ⟨nm.toArray⟩):=by rw[cell_of_row w4 _ 1 _ _ (0,0) C4];rfl
        have x5:w4.cell? ⟨wr.heap.size,5,none⟩=some (.int .i64 0):=by rw[cell_of_row w4 _ 5 _ _ (0,0) C4];rfl
        have hb4':=zAl hb (zAl bW hb4)
        go_wp2_with fail
        refine(zLg _ (by omega) _).mono ?_
        rintro _ w5 ⟨rfl,hb5⟩
        have hb5':=zAl hb4' hb5
        clear x0 x1 x5
        go_wp2_with fail
        go_roundw
        case rel=>exact⟨k+1,by omega,by go_num,by rw[← HPo.out,← HE.out],hb5'⟩
        case measure=>simp[intOf];omega
    · obtain rfl:k=ss.length:=by omega
      have hE:=zR7 n ss
      have HE:=hid hE
      clear hE
      go_wp2_with fail
      go_ret2
      exact⟨by rw[← HE.out];rfl,zAl bw1 hb⟩
 · have hv:chkV lim ss=130:=by unfold chkV;rw[if_neg hp]
   have hd:decide (zCr lim ss)=false:=decide_eq_false hp
   have hw:encV lim ss=[]:=by unfold encV;rw[if_neg hp]
   rw[hd] at hb0
   have HB:=hid hb0
   rw[hv,hw]
   clear hp hv hw hb0 hd
   go_enter Tryz.func94,Tryz.ntmps94
   go_wp2_with fail
   refine(HB.out _ ((Below.refl _ _).alloc (Nat.le_refl _) _)).mono ?_
   rintro _ w2 ⟨rfl,hb2⟩
   go_wp2_with fail
   go_ret2
   exact⟨rfl,zAl ((Below.refl _ _).alloc (Nat.le_refl _) _) hb2⟩
end Go.Proofs.YtkedafopdkhnfaaGreat
