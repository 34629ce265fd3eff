/- CONTRACT: wherryref16.Tell. WALK of SagaTells. -/
import Derived.Test.YtkedafopdkhnfaaGreatPcB
import Derived.Test.YtkedafopdkhnfaaGreatSnT
import Derived.Laws.ResultCell
import Derived.Test.YtkedafopdkhnfaaGreatSnR
import Derived.Test.YtkedafopdkhnfaaGreatSnQ
namespace Go.Proofs.YtkedafopdkhnfaaGreat
set_option maxHeartbeats 64000000
set_option maxRecDepth 100000
open Go.RowKit
set_option linter.unusedVariables false
set_option linter.unusedSimpArgs false
theorem zPt(ss:List St)(cr:Crs)(e:Ev)(h9:e.kd≠9):(zAc ss cr e).fl=cr.fl∧(zAc ss cr e).sk=cr.sk:=by
 have hends:(zAr ss cr e.rf 2).fl=cr.fl∧(zAr ss cr e.rf 2).sk=cr.sk:=by unfold zAr;split <;> simp
 unfold zAc
 repeat' split
 all_goals first
  | exact⟨rfl,rfl⟩
  | exact hends
  | (rename_i q;exact absurd q h9)
def zKe(l:List Ev)(w:World)(e:Ending)(w':World):Prop:=∃vd vu:Value,e=.returned (.tuple #[.agg #[.int .i64 (zCh l).1,vd,vu,.bool (zCh l).2.2.2.1,.bool (zCh l).2.2.2.2.1,.bool (zCh l).2.2.2.2.2],.int .i64 (zBe l).2])∧w'.ownsRow w.heap.size 3 1 vd (zCh l).2.1.length ((zCh l).2.1.flatMap ivC)∧w'.ownsRow w.heap.size 3 1 vu (zCh l).2.2.1.length ((zCh l).2.2.1.flatMap ivC)∧Below w.heap.size w w'
theorem zQr(a:Option Addr)(c:Nat)(l:List Ev)(w:World)(hs:Sl w (.slice a l.length c) 8 l.length (l.flatMap evc))(hfit:FitE l)(hcap:l.length≤c) :
 Calls Tryz.prog 10 #[.slice a l.length c] w (zKe l w):=by
 have hm:l.length≤9223372036854775807:=hs.2.1.1
 obtain⟨w0,hw0⟩:∃x,x=w.alloc (.cells #[.int .i64 0,.slice none 0 0,.slice none 0 0,.bool false,.bool false,.bool false] 38):=⟨_,rfl⟩
 have b0:Below w.heap.size w w0:=by rw[hw0];exact(Below.refl _ _).alloc (Nat.le_refl _) _
 have hr0:w0.heap[w.heap.size]?=some (.cells #[.int .i64 0,.slice none 0 0,.slice none 0 0,.bool false,.bool false,.bool false] 38 (0,0)):=by rw[hw0];exact heap_alloc_new w _
 have hs0:=hs.below b0
 have HC:=hid (zMk a c l w0 hs0 hfit hcap)
 have HW:=hid hw0
 clear hw0
 go_enter Tryz.func10,Tryz.ntmps10
 go_wp2_with fail
 rw[← HW.out]
 go_wp2_with fail
 refine HC.out.mono ?_
 rintro _ w1 ⟨rfl,b1⟩
 have b01:=b0.trans (b1.mono b0.size)
 have hr1:=(b1.block _ (gL hr0)).trans hr0
 have hs1:=hs0.below b1
 by_cases hc0:(zBe l).2=0
 case neg =>
  have hq:((zBe l).2==0)=false:=by simpa using hc0
  have hq':((zBe l).2 != 0)=true:=by simpa using hc0
  have HT:=hid (show zCh l=(0,[],[],false,false,false) by unfold zCh;rw[if_pos hc0])
  have r0:w1.cell? ⟨w.heap.size,0,none⟩=some (.int .i64 0):=cR hr1 rfl
  have r1:w1.cell? ⟨w.heap.size,1,none⟩=some (.slice none 0 0):=cR hr1 rfl
  have r2:w1.cell? ⟨w.heap.size,2,none⟩=some (.slice none 0 0):=cR hr1 rfl
  have r3:w1.cell? ⟨w.heap.size,3,none⟩=some (.bool false):=cR hr1 rfl
  have r4:w1.cell? ⟨w.heap.size,4,none⟩=some (.bool false):=cR hr1 rfl
  have r5:w1.cell? ⟨w.heap.size,5,none⟩=some (.bool false):=cR hr1 rfl
  have rf0:=frozen_of_row w1 _ 0 _ _ hr1
  have rf1:=frozen_of_row w1 _ 1 _ _ hr1
  have rf2:=frozen_of_row w1 _ 2 _ _ hr1
  have rf3:=frozen_of_row w1 _ 3 _ _ hr1
  have rf4:=frozen_of_row w1 _ 4 _ _ hr1
  have rf5:=frozen_of_row w1 _ 5 _ _ hr1
  have HG:=hid (At.below b01 (((((((At.refl w.heap.size w1).set 0 (.int .i64 0)).set 1 (.slice none 0 0)).set 2 (.slice none 0 0)).set 3 (.bool false)).set 4 (.bool false)).set 5 (.bool false)) (Nat.le_refl _))
  clear hc0 hs hs0 hs1 b0 b1 b01 HC hr0 hr1
  generalize hce:(zBe l).2=e9 at *
  have HCE:=hid hce
  clear hce
  generalize (zBe l).1=i9 at *
  go_wp2_with fail
  refine bodyPost_ret (v:=.tuple #[.agg #[.int .i64 0,.slice none 0 0,.slice none 0 0,.bool false,.bool false,.bool false],.int .i64 e9]) ?_ rfl ⟨.slice none 0 0,.slice none 0 0,(by rw[HT.out,HCE.out]),by rw[HT.out];exact World.ownsRow_nil _ _ _ _,by rw[HT.out];exact World.ownsRow_nil _ _ _ _,HG.out⟩
  rw[results_cell_tmp rfl]
  go_simp
 rw[hc0]
 obtain⟨hl,hcf⟩:=zJl.1 hc0
 have h500:=hcf.hs.short
 have HT:=hid (show zCh l=(zAg l,(crsF l).done,(crsF l).und,(crsF l).fl,(crsF l).sk,(crsF l).stop) by unfold zCh;rw[if_neg (not_not_intro hc0)])
 have HST:=hid (zBd a c l w1 hs1)
 have HD1:=hid (fun(w':World) (q:Below w1.heap.size w1 w')=>by
  have:=zG7 a c l w' (hs1.below q) hcf false
  rw[(zGx l).1] at this
  exact this)
 have HD2:=hid (fun(w':World) (q:Below w1.heap.size w1 w')=>by
  have:=zG7 a c l w' (hs1.below q) hcf true
  rw[(zGx l).2] at this
  exact this)
 have HSP:=hid (fun(w':World) (q:Below w1.heap.size w1 w')=>by
  have:=zJd a c l w' (hs1.below q)
  rw[zNq] at this
  exact this)
 have HCF:=hid hcf
 have HC0:=hid hc0
 have HB01:=hid b01
 have HR1:=hid hr1
 have HS1:=hid hs1
 have HL:=hid hl
 obtain⟨fl',hfl⟩:∃x,x=(crsF l).fl:=⟨_,rfl⟩
 obtain⟨sk',hsk⟩:∃x,x=(crsF l).sk:=⟨_,rfl⟩
 rw[← hfl,← hsk] at HT
 have HFS:=hid (And.intro hfl hsk)
 clear hfl hsk hs hs0 hs1 b0 b1 b01 HC hr0 hr1 hc0 hl hcf HW
 generalize (zBe l).1=i9 at *
 generalize hdn:(crsF l).done=dn at HT HD1
 generalize hun:(crsF l).und=un at HT HD2
 generalize hsp:(crsF l).stop=stp at HT HSP
 clear hdn hun hsp
 go_wp2_with fail
 refine HST.out.mono ?_
 rintro _ wa ⟨rfl,hwa⟩
 rw[hwa]
 clear hwa wa HST
 go_wp2_with fail
 refine(HD1.out w1 (Below.refl _ _)).mono ?_
 rintro _ w2 ⟨da,dc,rfl,hod,b2⟩
 go_wp2_with fail
 refine(HD2.out w2 b2).mono ?_
 rintro _ w3 ⟨ua,uc,rfl,hou,b3⟩
 have b13:=b2.trans (b3.mono b2.size)
 go_wp2_with fail
 refine(HSP.out w3 b13).mono ?_
 rintro _ wa ⟨rfl,hwa⟩
 rw[hwa]
 clear hwa wa HSP HD1 HD2
 generalize zAg l=st at *
 obtain⟨w5,hw5⟩:∃x,x=(w3.alloc (.cells #[.int .i64 st,.slice da dn.length dc,.slice ua un.length uc,.bool false,.bool false,.bool stp] 38)):=⟨_,rfl⟩
 have b5:Below w3.heap.size w3 w5:=by rw[hw5];exact(Below.refl _ _).alloc (Nat.le_refl _) _
 have hx5:w5.heap[w3.heap.size]?=some (.cells #[.int .i64 st,.slice da dn.length dc,.slice ua un.length uc,.bool false,.bool false,.bool stp] 38 (0,0)):=by rw[hw5];exact heap_alloc_new w3 _
 have HOD:=hid (zAf (zAf hod b3) b5)
 have HOU:=hid (zAf hou b5)
 have hod3:=hid (fun d q=>(hod.lt d q).2)
 have hou3:=hid (fun d q=>(hou.lt d q).2)
 have HB5:=hid (b13.trans (b5.mono b13.size))
 have HW5:=hid hw5
 have HX5:=hid hx5
 have HL3:=hid b13.size
 have HL2:=hid b3.size
 have HL1:=hid b2.size
 clear hod hou b2 b3 b13 b5 hw5 hx5
 go_upto_region 5 with (fail)
 rw[← HW5.out]
 go_wp2_with fail
 go_loopw [7] (fun n0 wr=>∃k:Nat,k≤l.length∧n0=.int .i64 (k:Int)∧wr.heap[w3.heap.size]?=some (.cells #[.int .i64 st,.slice da dn.length dc,.slice ua un.length uc,.bool (rdF (prgL l).2 (l.take k)).fl,.bool (rdF (prgL l).2 (l.take k)).sk,.bool stp] 38 (0,0))∧At w3.heap.size w5 wr) (fun n0 _=>l.length - (intOf n0).toNat)
 case atStart=>exact⟨0,Nat.zero_le _,rfl,HX5.out,At.refl _ _⟩
 case round =>
  clear HX5
  obtain⟨k,hk,rfl,hrow,hat5⟩:=hrel
  have hb1:=At.below HB5.out hat5 HL3.out
  by_cases hlt:k<l.length
  case neg =>
   obtain rfl:k=l.length:=by omega
   rw[List.take_length,← zI8,← HFS.out.1,← HFS.out.2] at hrow
   have hr9:wr.heap[w.heap.size]?=some (.cells #[.int .i64 0,.slice none 0 0,.slice none 0 0,.bool false,.bool false,.bool false] 38 (0,0)):=(hb1.block _ (gL HR1.out)).trans HR1.out
   have hlw:=(gL HR1.out)
   obtain⟨r0,r1,r2,r3,r4,r5⟩:=cA hr9
   obtain⟨rf0,rf1,rf2,rf3,rf4,rf5⟩:=fA hr9
   have x0:wr.cell? ⟨w3.heap.size,0,none⟩=some (.int .i64 st):=cR hrow rfl
   have x1:wr.cell? ⟨w3.heap.size,1,none⟩=some (.slice da dn.length dc):=cR hrow rfl
   have x2:wr.cell? ⟨w3.heap.size,2,none⟩=some (.slice ua un.length uc):=cR hrow rfl
   have x3:wr.cell? ⟨w3.heap.size,3,none⟩=some (.bool fl'):=cR hrow rfl
   have x4:wr.cell? ⟨w3.heap.size,4,none⟩=some (.bool sk'):=cR hrow rfl
   have x5:wr.cell? ⟨w3.heap.size,5,none⟩=some (.bool stp):=cR hrow rfl
   have xf0:=frozen_of_row wr _ 0 _ _ hrow
   have xf1:=frozen_of_row wr _ 1 _ _ hrow
   have xf2:=frozen_of_row wr _ 2 _ _ hrow
   have xf3:=frozen_of_row wr _ 3 _ _ hrow
   have xf4:=frozen_of_row wr _ 4 _ _ hrow
   have xf5:=frozen_of_row wr _ 5 _ _ hrow
   have HG:=hid ((((((((At.refl w.heap.size wr).set 0 (.int .i64 st)).set 1 (.slice da dn.length dc)).set 2 (.slice ua un.length uc)).set 3 (.bool fl')).set 4 (.bool sk')).set 5 (.bool stp)))
   have HO1:=hid (zAw ((HOD.out.kept hat5 (.inr (fun q=>by have:=hod3.out _ q;have:=HL2.out;omega))).kept HG.out (.inr (fun q=>by have:=(HOD.out.lt _ q).1;omega))) HB01.out.size)
   have HO2:=hid (zAw ((HOU.out.kept hat5 (.inr (fun q=>by have:=hou3.out _ q;omega))).kept HG.out (.inr (fun q=>by have:=(HOU.out.lt _ q).1;have:=HL3.out;have:=HL2.out;have:=HL1.out;omega))) (Nat.le_trans HB01.out.size (by have:=HL3.out;have:=HL2.out;have:=HL1.out;omega)))
   have HBF:=hid (At.below (HB01.out.trans (hb1.mono HB01.out.size)) HG.out (Nat.le_refl _))
   clear hrow hat5 hb1 hr9 hlw
   go_wp2_with fail
   refine bodyPost_ret (v:=.tuple #[.agg #[.int .i64 st,.slice da dn.length dc,.slice ua un.length uc,.bool fl',.bool sk',.bool stp],.int .i64 0]) ?_ rfl ⟨_,_,(by rw[HT.out,HC0.out]),by rw[HT.out];exact HO1.out,by rw[HT.out];exact HO2.out,HBF.out⟩
   rw[results_cell_tmp rfl]
   go_simp
  have hsr:=HS1.out.below hb1
  have hsr2:=hsr
  have hnx:=zG6 hlt (prgL l).2
  have hrest:=zPt (prgL l).2 (rdF (prgL l).2 (l.take k)) l[k]
  rw[← hnx] at hrest
  have hat:(l[k]).kd=9→∃(i:Nat) (x:Ev),i<k∧l[i]?=some x∧(l[k]).rf=(i:Int)+1∧((rdF (prgL l).2 (l.take (k+1))).fl=if x.ud=true then(rdF (prgL l).2 (l.take k)).fl else true)∧((rdF (prgL l).2 (l.take (k+1))).sk=if x.ud=true then true else(rdF (prgL l).2 (l.take k)).sk):=fun h9=>by
   obtain⟨i,x,n,hik,hxi,hx6,hrf,hsp,hkn,hnl,hpl,-⟩:=zMr HCF.out hlt (.inr h9)
   refine⟨i,x,hik,hxi,by rw[hrf];omega,?_⟩
   rw[hnx]
   obtain⟨X,hX⟩:∃X,X=l[k]:=⟨_,rfl⟩
   rw[← hX] at h9 hpl ⊢
   clear hX
   obtain⟨id,kd,tk,rf,sp,ty,ud,dt⟩:=X
   have h9:kd=9:=h9
   subst h9
   cases hu:x.ud with
   | true =>
     rw[hu] at hpl
     have:=zVu (prgL l).2 (rdF (prgL l).2 (l.take k)) id tk rf sp ty ud dt (n:Int) hpl
     rw[this.2.2.1,this.2.2.2.1];simp
   | false =>
     rw[hu] at hpl
     have:=zVt (prgL l).2 (rdF (prgL l).2 (l.take k)) id tk rf sp ty ud dt (n:Int) (by simpa using hpl)
     rw[this.2.2.1,this.2.2.2.1];simp
  have HEQ:(l[k]).kd=(l[k]).kd:=rfl
  obtain⟨_,_,a',cap,hv,hcc⟩:=hsr
  rw[Value.slice.injEq] at hv
  obtain⟨rfl,-,rfl⟩:=hv
  obtain⟨b,off,rfl,hblt,hcc⟩:=hcc.resolve_left (by omega)
  have c1:wr.cell? ⟨b,off+k*8+1,none⟩=some (.int .i64 (l[k]).2.1):=zAd hcc k 1 (by decide) hlt _ rfl
  have c3:wr.cell? ⟨b,off+k*8+3,none⟩=some (.int .i64 (l[k]).2.2.2.1):=zAd hcc k 3 (by decide) hlt _ rfl
  obtain⟨X,hX⟩:∃X,X=l[k]:=⟨_,rfl⟩
  rw[← hX] at HEQ hrest hat hnx c1 c3
  clear hX hcc
  obtain⟨id,kd,tk,rf,sp,ty,ud,dt⟩:=X
  simp only at c1 c3
  have hkI:(k:Int)<(l.length:Int):=by omega
  have hkp:(0:Int)≤(k:Int):=by omega
  have hkm:(k:Int)+1≤9223372036854775807:=by omega
  clear HEQ hnx
  simp only[Ev.kd,Ev.rf] at hrest hat
  generalize hfk:(rdF (prgL l).2 (l.take k)).fl=fl at *
  generalize hsk:(rdF (prgL l).2 (l.take k)).sk=sk at *
  clear hfk hsk
  have hk5:(k:Int)≤500:=by omega
  by_cases h9:kd=9
  case neg =>
   have hN:=hid (hrest h9)
   have q9:(kd==9)=false:=by simpa using h9
   have HRW:=hid hrow
   have HAT:=hid hat5
   clear hrest hat h9 hrow hat5 hb1 hsr2
   go_wp2_with fail
   go_roundw
   case rel=>first
    | exact⟨k+1,by omega,by go_num,by rw[hN.out.1,hN.out.2];exact HRW.out,HAT.out⟩
    | ((repeat apply Exists.intro);exact⟨⟨k+1,by omega,by go_num,by rw[hN.out.1,hN.out.2];exact HRW.out,HAT.out⟩,rfl⟩)
   case measure=>simp[intOf];omega
  subst h9
  obtain⟨i,x,hik,hxi,hrf,hf1,hs1⟩:=hat rfl
  clear hrest hat
  subst hrf
  have hil:i<l.length:=by omega
  obtain⟨_,rfl⟩:=List.getElem?_eq_some_iff.1 hxi
  obtain⟨_,_,a',cap,hv,hc2⟩:=hsr2
  rw[Value.slice.injEq] at hv
  obtain⟨hv1,-,rfl⟩:=hv
  obtain⟨b9,off9,hb9,-,hc2⟩:=hc2.resolve_left (by omega)
  rw[hb9,Option.some.injEq,Addr.mk.injEq] at hv1
  obtain⟨rfl,rfl,-⟩:=hv1
  have x6:wr.cell? ⟨b,off+i*8+6,none⟩=some (.bool (l[i]).2.2.2.2.2.2.1):=zAd hc2 i 6 (by decide) hil _ rfl
  obtain⟨xu,hxu⟩:∃y,y=(l[i]).2.2.2.2.2.2.1:=⟨_,rfl⟩
  rw[← hxu] at x6
  rw[show(l[i]).ud=xu from hxu.symm] at hf1 hs1
  clear hc2 hxu hxi hb9
  have hi0:(0:Int)≤(i:Int):=by omega
  have hi1:(i:Int)<(l.length:Int):=by omega
  have hi2:(i:Int)+1≤500:=by omega
  have g0:wr.cell? ⟨w3.heap.size,0,none⟩=some (.int .i64 st):=cR hrow rfl
  have g1:wr.cell? ⟨w3.heap.size,1,none⟩=some (.slice da dn.length dc):=cR hrow rfl
  have g2:wr.cell? ⟨w3.heap.size,2,none⟩=some (.slice ua un.length uc):=cR hrow rfl
  have g3:wr.cell? ⟨w3.heap.size,3,none⟩=some (.bool fl):=cR hrow rfl
  have g4:wr.cell? ⟨w3.heap.size,4,none⟩=some (.bool sk):=cR hrow rfl
  have g5:wr.cell? ⟨w3.heap.size,5,none⟩=some (.bool stp):=cR hrow rfl
  have gf0:=frozen_of_row wr _ 0 _ _ hrow
  have gf1:=frozen_of_row wr _ 1 _ _ hrow
  have gf2:=frozen_of_row wr _ 2 _ _ hrow
  have gf3:=frozen_of_row wr _ 3 _ _ hrow
  have gf4:=frozen_of_row wr _ 4 _ _ hrow
  have gf5:=frozen_of_row wr _ 5 _ _ hrow
  cases xu with
  | true =>
    have HF:=hid (show(wr.setCell ⟨w3.heap.size,4,none⟩ (.bool true)).heap[w3.heap.size]?=some (.cells #[.int .i64 st,.slice da dn.length dc,.slice ua un.length uc,.bool (rdF (prgL l).2 (l.take (k+1))).fl,.bool (rdF (prgL l).2 (l.take (k+1))).sk,.bool stp] 38 (0,0))∧At w3.heap.size w5 (wr.setCell ⟨w3.heap.size,4,none⟩ (.bool true)) from⟨by rw[hf1,hs1];exact heap_setCell_same wr w3.heap.size 4 _ _ (.bool true) hrow,hat5.set 4 _⟩)
    clear hf1 hs1 hrow hat5 hb1
    go_wp2_with fail
    go_roundw
    case rel=>first
     | exact⟨k+1,by omega,by go_num,HF.out.1,HF.out.2⟩
     | ((repeat apply Exists.intro);exact⟨⟨k+1,by omega,by go_num,HF.out.1,HF.out.2⟩,rfl⟩)
    case measure=>simp[intOf];omega
  | false =>
    have HF:=hid (show(wr.setCell ⟨w3.heap.size,3,none⟩ (.bool true)).heap[w3.heap.size]?=some (.cells #[.int .i64 st,.slice da dn.length dc,.slice ua un.length uc,.bool (rdF (prgL l).2 (l.take (k+1))).fl,.bool (rdF (prgL l).2 (l.take (k+1))).sk,.bool stp] 38 (0,0))∧At w3.heap.size w5 (wr.setCell ⟨w3.heap.size,3,none⟩ (.bool true)) from⟨by rw[hf1,hs1];exact heap_setCell_same wr w3.heap.size 3 _ _ (.bool true) hrow,hat5.set 3 _⟩)
    clear hf1 hs1 hrow hat5 hb1
    go_wp2_with fail
    go_roundw
    case rel=>first
     | exact⟨k+1,by omega,by go_num,HF.out.1,HF.out.2⟩
     | ((repeat apply Exists.intro);exact⟨⟨k+1,by omega,by go_num,HF.out.1,HF.out.2⟩,rfl⟩)
    case measure=>simp[intOf];omega
theorem zTc{l:List Ev}(h500:l.length≤17592186043904):(zCh l).2.1.length≤17592186043904∧(zCh l).2.2.1.length≤17592186043904:=by
 by_cases hc:(zBe l).2=0
 · rw[show zCh l=(zAg l,(crsF l).done,(crsF l).und,(crsF l).fl,(crsF l).sk,(crsF l).stop) by unfold zCh;rw[if_neg (not_not_intro hc)]]
   obtain⟨hl,hcf⟩:=zJl.1 hc
   have h1:=zKo hcf false l.length (Nat.le_refl _)
   have h2:=zKo hcf true l.length (Nat.le_refl _)
   rw[(zGx l).1] at h1
   rw[(zGx l).2] at h2
   exact⟨by show(crsF l).done.length≤_;omega,by show(crsF l).und.length≤_;omega⟩
 · rw[show zCh l=(0,[],[],false,false,false) by unfold zCh;rw[if_pos hc]]
   exact⟨by decide,by decide⟩
theorem zMc(st:Int)(dn un:List Int)(fl sk sp:Bool)(da ua ea xa:Option Addr)(dc uc ec xc:Nat)(w:World)(h1:Sl w (.slice da dn.length dc) 1 dn.length (dn.map iv))(h2:Sl w (.slice ua un.length uc) 1 un.length (un.map iv))(h3:Sl w (.slice ea dn.length ec) 1 dn.length (dn.map iv))(h4:Sl w (.slice xa un.length xc) 1 un.length (un.map iv)) :
 Calls Tryz.prog 13 #[.agg #[.int .i64 st,.slice da dn.length dc,.slice ua un.length uc,.bool fl,.bool sk,.bool sp],.agg #[.int .i64 st,.slice ea dn.length ec,.slice xa un.length xc,.bool fl,.bool sk,.bool sp]] w fun e w'=>e=.returned (.bool true)∧Below w.heap.size w w':=by
 obtain⟨w0,hw0⟩:∃x,x=w.alloc (.cells #[.int .i64 st,.slice da dn.length dc,.slice ua un.length uc,.bool fl,.bool sk,.bool sp] 35):=⟨_,rfl⟩
 have b0:Below w.heap.size w w0:=by rw[hw0];exact(Below.refl _ _).alloc (Nat.le_refl _) _
 have e0:w0.heap.size=w.heap.size+1:=by rw[hw0,World.size_alloc]
 have hr0:w0.heap[w.heap.size]?=some (.cells #[.int .i64 st,.slice da dn.length dc,.slice ua un.length uc,.bool fl,.bool sk,.bool sp] 35 (0,0)):=by rw[hw0];exact heap_alloc_new w _
 obtain⟨w2,hw2⟩:∃x,x=w0.alloc (.cells #[.int .i64 st,.slice ea dn.length ec,.slice xa un.length xc,.bool fl,.bool sk,.bool sp] 38):=⟨_,rfl⟩
 have b2:Below w0.heap.size w0 w2:=by rw[hw2];exact(Below.refl _ _).alloc (Nat.le_refl _) _
 have hr1:w2.heap[w.heap.size+1]?=some (.cells #[.int .i64 st,.slice ea dn.length ec,.slice xa un.length xc,.bool fl,.bool sk,.bool sp] 38 (0,0)):=by rw[hw2,← e0];exact heap_alloc_new w0 _
 have hr0':=(b2.block _ (gL hr0)).trans hr0
 have b02:Below w.heap.size w w2:=b0.trans (b2.mono b0.size)
 have HR:=hid (fun(w':World) (q:Below w2.heap.size w2 w')=>And.intro ((q.block _ (gL hr0')).trans hr0') ((q.block _ (gL hr1)).trans hr1))
 have H1:=hid (zMl dn dn da ea dc ec w2 (h1.below b02) (h3.below b02))
 have H2:=hid (fun(w':World) (q:Below w2.heap.size w2 w')=>zMl un un ua xa uc xc w' ((h2.below b02).below q) ((h4.below b02).below q))
 rw[show decide (dn=dn)=true by simp] at H1
 rw[show decide (un=un)=true by simp] at H2
 have HB:=hid b02
 have HW0:=hid hw0
 have HW2:=hid hw2
 obtain⟨p0,p1⟩:=HR.out w2 (Below.refl _ _)
 have r0:w2.cell? ⟨w.heap.size,0,none⟩=some (.int .i64 st):=cR p0 rfl
 have r1:w2.cell? ⟨w.heap.size,1,none⟩=some (.slice da dn.length dc):=cR p0 rfl
 have r2:w2.cell? ⟨w.heap.size,2,none⟩=some (.slice ua un.length uc):=cR p0 rfl
 have r3:w2.cell? ⟨w.heap.size,3,none⟩=some (.bool fl):=cR p0 rfl
 have r4:w2.cell? ⟨w.heap.size,4,none⟩=some (.bool sk):=cR p0 rfl
 have r5:w2.cell? ⟨w.heap.size,5,none⟩=some (.bool sp):=cR p0 rfl
 have q0:w2.cell? ⟨w.heap.size+1,0,none⟩=some (.int .i64 st):=cR p1 rfl
 have q1:w2.cell? ⟨w.heap.size+1,1,none⟩=some (.slice ea dn.length ec):=cR p1 rfl
 have q2:w2.cell? ⟨w.heap.size+1,2,none⟩=some (.slice xa un.length xc):=cR p1 rfl
 have q3:w2.cell? ⟨w.heap.size+1,3,none⟩=some (.bool fl):=cR p1 rfl
 have q4:w2.cell? ⟨w.heap.size+1,4,none⟩=some (.bool sk):=cR p1 rfl
 have q5:w2.cell? ⟨w.heap.size+1,5,none⟩=some (.bool sp):=cR p1 rfl
 clear hw0 b0 hr0 hw2 b2 hr1 hr0' e0 b02 h1 h2 h3 h4 p0 p1
 go_enter Tryz.func13,Tryz.ntmps13
 go_upto_region 1 with (fail)
 rw[← HW0.out]
 try rw[← HW2.out]
 go_wp2_with fail
 refine H1.out.mono ?_
 rintro _ w3 ⟨rfl,b3⟩
 have HB3:=hid b3
 clear r0 r1 r2 r3 r4 r5 q0 q1 q2 q3 q4 q5 b3
 obtain⟨p0,p1⟩:=HR.out w3 HB3.out
 have r0:w3.cell? ⟨w.heap.size,0,none⟩=some (.int .i64 st):=cR p0 rfl
 have r1:w3.cell? ⟨w.heap.size,1,none⟩=some (.slice da dn.length dc):=cR p0 rfl
 have r2:w3.cell? ⟨w.heap.size,2,none⟩=some (.slice ua un.length uc):=cR p0 rfl
 have r3:w3.cell? ⟨w.heap.size,3,none⟩=some (.bool fl):=cR p0 rfl
 have r4:w3.cell? ⟨w.heap.size,4,none⟩=some (.bool sk):=cR p0 rfl
 have r5:w3.cell? ⟨w.heap.size,5,none⟩=some (.bool sp):=cR p0 rfl
 have q0:w3.cell? ⟨w.heap.size+1,0,none⟩=some (.int .i64 st):=cR p1 rfl
 have q1:w3.cell? ⟨w.heap.size+1,1,none⟩=some (.slice ea dn.length ec):=cR p1 rfl
 have q2:w3.cell? ⟨w.heap.size+1,2,none⟩=some (.slice xa un.length xc):=cR p1 rfl
 have q3:w3.cell? ⟨w.heap.size+1,3,none⟩=some (.bool fl):=cR p1 rfl
 have q4:w3.cell? ⟨w.heap.size+1,4,none⟩=some (.bool sk):=cR p1 rfl
 have q5:w3.cell? ⟨w.heap.size+1,5,none⟩=some (.bool sp):=cR p1 rfl
 clear p0 p1
 go_wp2_with fail
 refine(H2.out w3 HB3.out).mono ?_
 rintro _ w4 ⟨rfl,b4⟩
 have HB4:=hid (HB3.out.trans (b4.mono HB3.out.size))
 clear r0 r1 r2 r3 r4 r5 q0 q1 q2 q3 q4 q5 b4
 obtain⟨p0,p1⟩:=HR.out w4 HB4.out
 have r0:w4.cell? ⟨w.heap.size,0,none⟩=some (.int .i64 st):=cR p0 rfl
 have r1:w4.cell? ⟨w.heap.size,1,none⟩=some (.slice da dn.length dc):=cR p0 rfl
 have r2:w4.cell? ⟨w.heap.size,2,none⟩=some (.slice ua un.length uc):=cR p0 rfl
 have r3:w4.cell? ⟨w.heap.size,3,none⟩=some (.bool fl):=cR p0 rfl
 have r4:w4.cell? ⟨w.heap.size,4,none⟩=some (.bool sk):=cR p0 rfl
 have r5:w4.cell? ⟨w.heap.size,5,none⟩=some (.bool sp):=cR p0 rfl
 have q0:w4.cell? ⟨w.heap.size+1,0,none⟩=some (.int .i64 st):=cR p1 rfl
 have q1:w4.cell? ⟨w.heap.size+1,1,none⟩=some (.slice ea dn.length ec):=cR p1 rfl
 have q2:w4.cell? ⟨w.heap.size+1,2,none⟩=some (.slice xa un.length xc):=cR p1 rfl
 have q3:w4.cell? ⟨w.heap.size+1,3,none⟩=some (.bool fl):=cR p1 rfl
 have q4:w4.cell? ⟨w.heap.size+1,4,none⟩=some (.bool sk):=cR p1 rfl
 have q5:w4.cell? ⟨w.heap.size+1,5,none⟩=some (.bool sp):=cR p1 rfl
 clear p0 p1
 have HBF:=hid (HB.out.trans (HB4.out.mono HB.out.size))
 go_wp2_with fail
 go_ret
 exact⟨rfl,HBF.out⟩
theorem zMm(a:Option Addr)(c:Nat)(l:List Ev)(ss:List St)(lim:Int)(va:Option Addr)(vc:Nat)(zs:List Int)(za:Option Addr)(zc:Nat)(hzl:zs.length*8≤140737488351232)(w:World)(hs:Sl w (.slice a l.length c) 8 l.length (l.flatMap evc))(hcap:l.length≤c)(hfit:FitE l)(hp:Sl w (.slice va ss.length vc) 6 ss.length (ss.flatMap stC))(hz:Sl w (.slice za zs.length zc) 1 zs.length (zs.map iv)) :
 Calls Tryz.prog 4 #[.slice a l.length c,.agg #[.slice va ss.length vc,.int .i64 lim],.slice za zs.length zc] w fun e w'=>e=.returned (.bool true)∧Below w.heap.size w w':=by
 have hm:l.length≤9223372036854775807:=hs.2.1.1
 have hz8:zs.length≤17592186043904:=by omega
 obtain⟨w0,hw0⟩:∃x,x=w.alloc (.cells #[.slice va ss.length vc,.int .i64 lim] 32):=⟨_,rfl⟩
 have b0:Below w.heap.size w w0:=by rw[hw0];exact(Below.refl _ _).alloc (Nat.le_refl _) _
 have hr0:w0.heap[w.heap.size]?=some (.cells #[.slice va ss.length vc,.int .i64 lim] 32 (0,0)):=by rw[hw0];exact heap_alloc_new w _
 have SC:=hid (fun(w':World) (q:Below w0.heap.size w0 w')=>by
  have hx:=(q.block _ (gL hr0)).trans hr0
  have p0:w'.cell? ⟨w.heap.size,0,none⟩=some (.slice va ss.length vc):=cR hx rfl
  have p1:w'.cell? ⟨w.heap.size,1,none⟩=some (.int .i64 lim):=cR hx rfl
  exact And.intro p0 p1)
 have HP:=hid (fun(w':World) (q:Below w0.heap.size w0 w')=>(hp.below b0).below q)
 have HZ:=hid (fun(w':World) (q:Below w0.heap.size w0 w')=>(hz.below b0).below q)
 have HS:=hid (fun(w':World) (q:Below w0.heap.size w0 w')=>(hs.below b0).below q)
 have HW:=hid hw0
 have HB:=hid (fun(w':World) (q:Below w0.heap.size w0 w')=>b0.trans (q.mono b0.size))
 clear hw0 b0 hr0 hp hz hs
 go_enter Tryz.func4,Tryz.ntmps4
 go_wp2_with fail
 rw[← HW.out]
 go_wp2_with fail
 refine(zOv w0).mono ?_
 rintro _ w1 ⟨rfl,b1⟩
 by_cases h60:60<l.length
 · have hq:(60:Int)<(l.length:Int):=by omega
   have HB1:=hid (HB.out w1 b1)
   clear h60 b1
   go_wp2_with fail
   go_ret
   exact⟨rfl,HB1.out⟩
 have hq:(l.length:Int)≤60:=by omega
 obtain⟨hdl,hul⟩:=zTc (l:=l) (by omega)
 have HC:=hid (zNr a c l w1 (HS.out w1 b1) hfit hcap)
 clear h60
 go_wp2_with fail
 refine HC.out.mono ?_
 rintro _ w2 ⟨vd,vu,rfl,hod,hou,b2⟩
 have b02:=b1.trans (b2.mono b1.size)
 have HRT:=hid (fun(w':World) (q:Below w0.heap.size w0 w')=>zQr a c l w' (HS.out w' q) hfit hcap)
 unfold zKe at HRT
 clear HC b1 b2
 generalize (zBe l).2=ce at *
 generalize (zCh l).1=st at *
 generalize (zCh l).2.1=dn at *
 generalize (zCh l).2.2.1=un at *
 generalize (zCh l).2.2.2.1=fl at *
 generalize (zCh l).2.2.2.2.1=sk at *
 generalize (zCh l).2.2.2.2.2=sp at *
 obtain⟨da,dc,rfl⟩:=zB6 hod
 obtain⟨ua,uc,rfl⟩:=zB6 hou
 have hsd:=zD2 hod hdl
 have hsu:=zD2 hou hul
 obtain⟨w3,hw3⟩:∃x,x=(w2.alloc (.cells #[.int .i64 st,.slice da dn.length dc,.slice ua un.length uc,.bool fl,.bool sk,.bool sp] 35)):=⟨_,rfl⟩
 have b3:Below w2.heap.size w2 w3:=by rw[hw3];exact(Below.refl _ _).alloc (Nat.le_refl _) _
 have hx3:w3.heap[w2.heap.size]?=some (.cells #[.int .i64 st,.slice da dn.length dc,.slice ua un.length uc,.bool fl,.bool sk,.bool sp] 35 (0,0)):=by rw[hw3];exact heap_alloc_new w2 _
 have b03:=b02.trans (b3.mono b02.size)
 have HRT3:=hid (HRT.out w3 b03)
 have hsd3:=hsd.below b3
 have hsu3:=hsu.below b3
 have HW3:=hid hw3
 clear hw3 HRT hod hou hsd hsu b02 b3
 go_wp2_with fail
 rw[← HW3.out]
 go_wp2_with fail
 refine HRT3.out.mono ?_
 rintro _ w4 ⟨ve,vx,rfl,hoe,hox,b4⟩
 obtain⟨ea,ec,rfl⟩:=zB6 hoe
 obtain⟨xa,xc,rfl⟩:=zB6 hox
 have hse:=zD2 hoe hdl
 have hsx:=zD2 hox hul
 have b04:=b03.trans (b4.mono b03.size)
 have hx4:=(b4.block _ (gL hx3)).trans hx3
 obtain⟨w5,hw5⟩:∃x,x=(w4.alloc (.cells #[.int .i64 st,.slice ea dn.length ec,.slice xa un.length xc,.bool fl,.bool sk,.bool sp] 38)):=⟨_,rfl⟩
 have b5:Below w4.heap.size w4 w5:=by rw[hw5];exact(Below.refl _ _).alloc (Nat.le_refl _) _
 have hy5:w5.heap[w4.heap.size]?=some (.cells #[.int .i64 st,.slice ea dn.length ec,.slice xa un.length xc,.bool fl,.bool sk,.bool sp] 38 (0,0)):=by rw[hw5];exact heap_alloc_new w4 _
 have hx5:=(b5.block _ (gL hx4)).trans hx4
 have b05:=b04.trans (b5.mono b04.size)
 have HL:=hid (fun(w':World) (q:Below w5.heap.size w5 w')=>zMc st dn un fl sk sp da ua ea xa dc uc ec xc w' (((hsd3.below b4).below b5).below q) (((hsu3.below b4).below b5).below q) ((hse.below b5).below q) ((hsx.below b5).below q))
 have HX:=hid (fun(w':World) (q:Below w5.heap.size w5 w')=>And.intro ((q.block _ (gL hx5)).trans hx5) ((q.block _ (gL hy5)).trans hy5))
 have UP:=hid (fun(w':World) (q:Below w5.heap.size w5 w')=>b05.trans (q.mono b05.size))
 have HO1:=hid (zNl ss lim va vc zs za zc hz8 w5 (HP.out w5 b05) (HZ.out w5 b05))
 have HO2:=hid (fun(w':World) (q:Below w5.heap.size w5 w')=>zVz ss lim va vc zs za zc hz8 w' (HP.out w' (UP.out w' q)) (HZ.out w' (UP.out w' q)))
 unfold zF5 at HO1 HO2
 have hol:((zFw ss zs).getD []).length≤17592186043904:=by
  unfold zFw
  split
  · exact Nat.le_trans (zK7 ss zs) hz8
  · exact Nat.zero_le _
 generalize (zFw ss zs).getD []=OD at *
 generalize (if zFw ss zs=none then(1:Int) else 0)=oe at *
 obtain⟨p0,p1⟩:=SC.out w5 b05
 have HW5:=hid hw5
 clear hw5 HRT3 hoe hox hsd3 hsu3 hse hsx hx3 hx4 hx5 hy5 b03 b04 b4 b5 b05
 go_upto_region 7 with (fail)
 rw[← HW5.out]
 go_wp2_with fail
 refine HO1.out.mono ?_
 rintro _ w6 ⟨v6,rfl,ho6,b6⟩
 obtain⟨a6,c6,rfl⟩:=zB6 ho6
 have hs6:=zD2 ho6 hol
 have HB6:=hid b6
 have HO6:=hid (HO2.out w6 b6)
 clear p0 p1 ho6 b6 HO1 HO2
 obtain⟨p0,p1⟩:=SC.out w6 (UP.out w6 HB6.out)
 go_wp2_with fail
 refine HO6.out.mono ?_
 rintro _ w7 ⟨v7,rfl,ho7,b7⟩
 obtain⟨a7,c7,rfl⟩:=zB6 ho7
 have hs7:=zD2 ho7 hol
 have HB7:=hid (HB6.out.trans (b7.mono HB6.out.size))
 have HM:=hid (fun(w':World) (q:Below w7.heap.size w7 w')=>zMl OD OD a6 a7 c6 c7 w' ((hs6.below b7).below q) (hs7.below q))
 rw[show decide (OD=OD)=true by simp] at HM
 clear p0 p1 ho7 HO6 b7 hs6 hs7
 obtain⟨hx7,hy7⟩:=HX.out w7 HB7.out
 have r0:w7.cell? ⟨w2.heap.size,0,none⟩=some (.int .i64 st):=cR hx7 rfl
 have r1:w7.cell? ⟨w2.heap.size,1,none⟩=some (.slice da dn.length dc):=cR hx7 rfl
 have r2:w7.cell? ⟨w2.heap.size,2,none⟩=some (.slice ua un.length uc):=cR hx7 rfl
 have r3:w7.cell? ⟨w2.heap.size,3,none⟩=some (.bool fl):=cR hx7 rfl
 have r4:w7.cell? ⟨w2.heap.size,4,none⟩=some (.bool sk):=cR hx7 rfl
 have r5:w7.cell? ⟨w2.heap.size,5,none⟩=some (.bool sp):=cR hx7 rfl
 have q0:w7.cell? ⟨w4.heap.size,0,none⟩=some (.int .i64 st):=cR hy7 rfl
 have q1:w7.cell? ⟨w4.heap.size,1,none⟩=some (.slice ea dn.length ec):=cR hy7 rfl
 have q2:w7.cell? ⟨w4.heap.size,2,none⟩=some (.slice xa un.length xc):=cR hy7 rfl
 have q3:w7.cell? ⟨w4.heap.size,3,none⟩=some (.bool fl):=cR hy7 rfl
 have q4:w7.cell? ⟨w4.heap.size,4,none⟩=some (.bool sk):=cR hy7 rfl
 have q5:w7.cell? ⟨w4.heap.size,5,none⟩=some (.bool sp):=cR hy7 rfl
 clear hx7 hy7
 have HL7:=hid (HL.out w7 HB7.out)
 go_wp2_with fail
 refine HL7.out.mono ?_
 rintro _ w8 ⟨rfl,b8⟩
 have HM8:=hid (HM.out w8 b8)
 have HB8:=hid (HB7.out.trans (b8.mono HB7.out.size))
 clear r0 r1 r2 r3 r4 r5 q0 q1 q2 q3 q4 q5 b8 HL7
 go_wp2_with fail
 refine HM8.out.mono ?_
 rintro _ w9 ⟨rfl,b9⟩
 have HBF:=hid (HB.out w9 (UP.out w9 (HB8.out.trans (b9.mono HB8.out.size))))
 clear b9
 go_wp2_with fail
 go_ret
 exact⟨rfl,HBF.out⟩
theorem zMn(v:Value)(a:Option Addr)(c:Nat)(l:List Ev)(u1:Value)(va:Option Addr)(vc:Nat)(lim:Int)(ss:List St)(u2:Value)(zs:List Int)(za:Option Addr)(zc:Nat)(w:World)(hv:v=.slice a l.length c)(hs:Sl w v 8 l.length (l.flatMap evc))(hcap:l.length≤c)(hfit:FitE l)(h1:u1=.agg #[.slice va ss.length vc,.int .i64 lim])(hp:Sl w (.slice va ss.length vc) 6 ss.length (ss.flatMap stC))(h2:u2=.slice za zs.length zc)(hz:Sl w u2 1 zs.length (zs.map iv))(hzl:zs.length*8≤140737488351232) :
 Calls Tryz.prog 4 #[v,u1,u2] w fun e w'=>e=.returned (.bool true)∧Below w.heap.size w w':=by
 subst hv;subst h1;subst h2;exact zMm a c l ss lim va vc zs za zc hzl w hs hcap hfit hp hz
end Go.Proofs.YtkedafopdkhnfaaGreat
