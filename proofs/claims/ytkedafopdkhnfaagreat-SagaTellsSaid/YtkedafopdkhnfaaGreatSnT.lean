/- CONTRACT: saga.Tell. CONTRACT: wherrylaw16.awake. -/
import Derived.Test.YtkedafopdkhnfaaGreatSnP
import Derived.Test.YtkedafopdkhnfaaGreatPmN
import Derived.Test.YtkedafopdkhnfaaGreatPmM
import Derived.Test.YtkedafopdkhnfaaGreatSnO
import Derived.Laws.ResultCell
import Derived.Test.YtkedafopdkhnfaaGreatSnR
namespace Go.Proofs.YtkedafopdkhnfaaGreat
set_option maxHeartbeats 64000000
set_option maxRecDepth 100000
open Go.RowKit
set_option linter.unusedVariables false
set_option linter.unusedSimpArgs false
abbrev Rp:=Int×List Int×List Int×Bool×Bool×Bool
def zCh(l:List Ev):Rp:=if(zBe l).2≠0 then(0,[],[],false,false,false) else(zAg l,(crsF l).done,(crsF l).und,(crsF l).fl,(crsF l).sk,(crsF l).stop)
def zMw(l:List Ev)(w:World)(e:Ending)(w':World):Prop:=∃vd vu:Value,e=.returned (.tuple #[.agg #[.int .i64 (zCh l).1,vd,vu,.bool (zCh l).2.2.2.1,.bool (zCh l).2.2.2.2.1,.bool (zCh l).2.2.2.2.2],.int .i64 (zBe l).2])∧w'.ownsRow w.heap.size 3 1 vd (zCh l).2.1.length ((zCh l).2.1.flatMap ivC)∧w'.ownsRow w.heap.size 3 1 vu (zCh l).2.2.1.length ((zCh l).2.2.1.flatMap ivC)∧Below w.heap.size w w'
theorem zNv(w:World):(zeroValue 52).run Tryz.prog w=.ok (.agg #[.int .i64 0,.int .i64 0,.int .i64 0,.int .i64 0,.int .i64 0,.int .i64 0,.bool false,.string .empty]) w:=by kernel_rfl
theorem zWc(ss:List St)(cr:Crs)(id tk rf sp ty:Int)(ud:Bool)(dt:List UInt8)(n:Int)(h:cr.pl rf=(n,1)):(zAc ss cr (id,7,tk,rf,sp,ty,ud,dt)).done=cr.done∧(zAc ss cr (id,7,tk,rf,sp,ty,ud,dt)).und=cr.und ++ [n]∧(zAc ss cr (id,7,tk,rf,sp,ty,ud,dt)).fl=cr.fl∧(zAc ss cr (id,7,tk,rf,sp,ty,ud,dt)).sk=cr.sk∧(zAc ss cr (id,7,tk,rf,sp,ty,ud,dt)).stop=cr.stop:=by
 have:zAc ss cr (id,7,tk,rf,sp,ty,ud,dt)=zAr ss cr rf 2:=rfl
 rw[this];unfold zAr;rw[h];simp
theorem zWb(ss:List St)(cr:Crs)(id tk rf sp ty:Int)(ud:Bool)(dt:List UInt8)(n:Nat)(h:cr.pl rf=((n:Int),0))(hk:kdN ss n=1):(zAc ss cr (id,7,tk,rf,sp,ty,ud,dt)).done=cr.done ++ [(n:Int)]∧(zAc ss cr (id,7,tk,rf,sp,ty,ud,dt)).und=cr.und∧(zAc ss cr (id,7,tk,rf,sp,ty,ud,dt)).fl=cr.fl∧(zAc ss cr (id,7,tk,rf,sp,ty,ud,dt)).sk=cr.sk∧(zAc ss cr (id,7,tk,rf,sp,ty,ud,dt)).stop=cr.stop:=by
 have:zAc ss cr (id,7,tk,rf,sp,ty,ud,dt)=zAr ss cr rf 2:=rfl
 rw[this];unfold zAr;rw[h];simp[hk]
theorem zVu(ss:List St)(cr:Crs)(id tk rf sp ty:Int)(ud:Bool)(dt:List UInt8)(n:Int)(h:cr.pl rf=(n,1)):(zAc ss cr (id,9,tk,rf,sp,ty,ud,dt)).done=cr.done∧(zAc ss cr (id,9,tk,rf,sp,ty,ud,dt)).und=cr.und∧(zAc ss cr (id,9,tk,rf,sp,ty,ud,dt)).fl=cr.fl∧(zAc ss cr (id,9,tk,rf,sp,ty,ud,dt)).sk=true∧(zAc ss cr (id,9,tk,rf,sp,ty,ud,dt)).stop=cr.stop:=by
 have:zAc ss cr (id,9,tk,rf,sp,ty,ud,dt)=zAr ss cr rf 3:=rfl
 rw[this];unfold zAr;rw[h];simp
theorem zVt(ss:List St)(cr:Crs)(id tk rf sp ty:Int)(ud:Bool)(dt:List UInt8)(n:Int)(h:cr.pl rf=(n,0)):(zAc ss cr (id,9,tk,rf,sp,ty,ud,dt)).done=cr.done∧(zAc ss cr (id,9,tk,rf,sp,ty,ud,dt)).und=cr.und∧(zAc ss cr (id,9,tk,rf,sp,ty,ud,dt)).fl=true∧(zAc ss cr (id,9,tk,rf,sp,ty,ud,dt)).sk=cr.sk∧(zAc ss cr (id,9,tk,rf,sp,ty,ud,dt)).stop=cr.stop:=by
 have:zAc ss cr (id,9,tk,rf,sp,ty,ud,dt)=zAr ss cr rf 3:=rfl
 rw[this];unfold zAr;rw[h];simp
theorem zKn(ss:List St)(cr:Crs)(e:Ev)(h7:e.kd≠7)(h9:e.kd≠9)(h13:e.kd≠13)(h14:e.kd≠14)(h11:e.kd=11→∃n:Nat,cr.pl e.rf=((n:Int),0)∧kdN ss n≠1):(zAc ss cr e).done=cr.done∧(zAc ss cr e).und=cr.und∧(zAc ss cr e).fl=cr.fl∧(zAc ss cr e).sk=cr.sk∧(zAc ss cr e).stop=cr.stop:=by
 unfold zAc
 split
 · exact⟨rfl,rfl,rfl,rfl,rfl⟩
 · split
   · exact⟨rfl,rfl,rfl,rfl,rfl⟩
   · split
     · rename_i q
       obtain⟨n,hn,hk⟩:=h11 (q.resolve_left h7)
       unfold zAr
       rw[hn]
       simp[hk]
     · split
       · exact⟨rfl,rfl,rfl,rfl,rfl⟩
       · rw[if_neg (fun z=>z.elim h13 h14)];exact⟨rfl,rfl,rfl,rfl,rfl⟩
theorem zNr(a:Option Addr)(c:Nat)(l:List Ev)(w:World)(hs:Sl w (.slice a l.length c) 8 l.length (l.flatMap evc))(hfit:FitE l)(hcap:l.length≤c) :
 Calls Tryz.prog 9 #[.slice a l.length c] w (zMw l w):=by
 have hm:l.length≤9223372036854775807:=hs.2.1.1
 obtain⟨w0,hw0⟩:∃x,x=w.alloc (.cells #[.int .i64 0,.slice none 0 0,.slice none 0 0,.bool false,.bool false,.bool false] 35):=⟨_,rfl⟩
 have b0:Below w.heap.size w w0:=by rw[hw0];exact(Below.refl _ _).alloc (Nat.le_refl _) _
 have hr0:w0.heap[w.heap.size]?=some (.cells #[.int .i64 0,.slice none 0 0,.slice none 0 0,.bool false,.bool false,.bool false] 35 (0,0)):=by rw[hw0];exact heap_alloc_new w _
 have hs0:=hs.below b0
 have HC:=hid (zMg a c l w0 hs0 hfit hcap)
 have HW:=hid hw0
 clear hw0
 go_enter Tryz.func9,Tryz.ntmps9
 go_wp2_with fail
 rw[← HW.out]
 go_wp2_with fail
 refine HC.out.mono ?_
 rintro _ w1 ⟨rfl,b1⟩
 have b01:=b0.trans (b1.mono b0.size)
 have hr1:=(b1.block _ (gL hr0)).trans hr0
 have hs1:=hs0.below b1
 by_cases hc0:(zBe l).2=0
 case neg =>
  have hq:((zBe l).2==0)=false:=by simpa using hc0
  have hq':((zBe l).2 != 0)=true:=by simpa using hc0
  have HT:=hid (show zCh l=(0,[],[],false,false,false) by unfold zCh;rw[if_pos hc0])
  have HB:=hid b01
  have r0:w1.cell? ⟨w.heap.size,0,none⟩=some (.int .i64 0):=cR hr1 rfl
  have r1:w1.cell? ⟨w.heap.size,1,none⟩=some (.slice none 0 0):=cR hr1 rfl
  have r2:w1.cell? ⟨w.heap.size,2,none⟩=some (.slice none 0 0):=cR hr1 rfl
  have r3:w1.cell? ⟨w.heap.size,3,none⟩=some (.bool false):=cR hr1 rfl
  have r4:w1.cell? ⟨w.heap.size,4,none⟩=some (.bool false):=cR hr1 rfl
  have r5:w1.cell? ⟨w.heap.size,5,none⟩=some (.bool false):=cR hr1 rfl
  have rf0:=frozen_of_row w1 _ 0 _ _ hr1
  have rf1:=frozen_of_row w1 _ 1 _ _ hr1
  have rf2:=frozen_of_row w1 _ 2 _ _ hr1
  have rf3:=frozen_of_row w1 _ 3 _ _ hr1
  have rf4:=frozen_of_row w1 _ 4 _ _ hr1
  have rf5:=frozen_of_row w1 _ 5 _ _ hr1
  have HG:=hid ((At.below b01 (((((((At.refl w.heap.size w1).set 0 (.int .i64 0)).set 1 (.slice none 0 0)).set 2 (.slice none 0 0)).set 3 (.bool false)).set 4 (.bool false)).set 5 (.bool false)) (Nat.le_refl _)))
  clear hc0 hs hs0 hs1 b0 b1 b01 HC hr0 hr1
  generalize hce:(zBe l).2=e9 at *
  have HCE:=hid hce
  clear hce
  generalize (zBe l).1=i9 at *
  go_wp2_with fail
  refine bodyPost_ret (v:=.tuple #[.agg #[.int .i64 0,.slice none 0 0,.slice none 0 0,.bool false,.bool false,.bool false],.int .i64 e9]) ?_ rfl ⟨.slice none 0 0,.slice none 0 0,(by rw[HT.out,HCE.out]),by rw[HT.out];exact World.ownsRow_nil _ _ _ _,by rw[HT.out];exact World.ownsRow_nil _ _ _ _,HG.out⟩
  rw[results_cell_tmp rfl]
  go_simp
 rw[hc0]
 obtain⟨hl,hcf⟩:=zJl.1 hc0
 have hH:=hcf.hs
 have h500:=hH.short
 have HBU:=hid (zHx a c l w1 hs1 hfit)
 have HT:=hid (show zCh l=(zAg l,(crsF l).done,(crsF l).und,(crsF l).fl,(crsF l).sk,(crsF l).stop) by unfold zCh;rw[if_neg (not_not_intro hc0)])
 have HB1:=hid b1
 have HS0:=hid hs0
 have HR0:=hid hr0
 have HB0:=hid b0
 have HCF:=hid hcf
 have HL:=hid hl
 have HC0:=hid hc0
 clear hs hs0 hs1 b0 b1 b01 HC hr0 hr1 hc0 hl hcf HW
 generalize (zBe l).1=i9 at *
 go_wp2_with fail
 refine HBU.out.mono ?_
 rintro _ w2 ⟨va,ua,ca,vc,uc,cc,rfl,hst,b2⟩
 have hrb:zAm l=(stOf l,0,0):=by unfold zAm;rw[zHh.2 hH]
 rw[hrb]
 simp only
 obtain⟨s,hsq⟩:∃s,s=stOf l:=⟨_,rfl⟩
 have hsv:s.status=zAg l:=by rw[hsq,zC5 HL.out]
 rw[← hsq]
 obtain⟨ss,lim,st,nx,bg,ak,tn,fr,js,cs,cn,ov⟩:=s
 simp only at hsv
 have HSV:=hid hsv
 rw[show staV ⟨ss,lim,st,nx,bg,ak,tn,fr,js,cs,cn,ov⟩ (.slice va (⟨ss,lim,st,nx,bg,ak,tn,fr,js,cs,cn,ov⟩:Sta).ss.length vc) (.slice ua (⟨ss,lim,st,nx,bg,ak,tn,fr,js,cs,cn,ov⟩:Sta).jobs.length uc) (.slice ca (⟨ss,lim,st,nx,bg,ak,tn,fr,js,cs,cn,ov⟩:Sta).clocks.length cc)=.agg #[.slice va ss.length vc,.int .i64 lim,.int .i64 st,.int .i64 nx,.int .i64 bg,.int .i64 ak,.int .i64 tn,.bool fr,.slice ua js.length uc,.slice ca cs.length cc,.bool cn,.bool ov] from rfl]
 clear hsq hst hrb hsv HBU
 obtain⟨w3,hw3⟩:∃x,x=(w2.alloc (.cells #[.slice va ss.length vc,.int .i64 lim,.int .i64 st,.int .i64 nx,.int .i64 bg,.int .i64 ak,.int .i64 tn,.bool fr,.slice ua js.length uc,.slice ca cs.length cc,.bool cn,.bool ov] 59)):=⟨_,rfl⟩
 have b3:Below w2.heap.size w2 w3:=by rw[hw3];exact(Below.refl _ _).alloc (Nat.le_refl _) _
 have hx3:w3.heap[w2.heap.size]?=some (.cells #[.slice va ss.length vc,.int .i64 lim,.int .i64 st,.int .i64 nx,.int .i64 bg,.int .i64 ak,.int .i64 tn,.bool fr,.slice ua js.length uc,.slice ca cs.length cc,.bool cn,.bool ov] 59 (0,0)):=by rw[hw3];exact heap_alloc_new w2 _
 have x2:w3.cell? ⟨w2.heap.size,2,none⟩=some (.int .i64 st):=cR hx3 rfl
 have hb3:=(HB1.out.trans (b2.mono HB1.out.size)).trans (b3.mono (HB1.out.trans (b2.mono HB1.out.size)).size)
 have HB3:=hid hb3
 have HW3:=hid hw3
 obtain⟨w4,hw4⟩:∃x,x=w3.alloc (.cells #[.int .i64 st,.slice none 0 0,.slice none 0 0,.bool false,.bool false,.bool false] 35):=⟨_,rfl⟩
 have b4:Below w3.heap.size w3 w4:=by rw[hw4];exact(Below.refl _ _).alloc (Nat.le_refl _) _
 have hx4:w4.heap[w3.heap.size]?=some (.cells #[.int .i64 st,.slice none 0 0,.slice none 0 0,.bool false,.bool false,.bool false] 35 (0,0)):=by rw[hw4];exact heap_alloc_new w3 _
 have HW4:=hid hw4
 have hmm:=@run_makeMap Tryz.prog
 obtain⟨w5,hw5⟩:∃x,x=w4.alloc (.map #[] 0):=⟨_,rfl⟩
 have b5:Below w4.heap.size w4 w5:=by rw[hw5];exact(Below.refl _ _).alloc (Nat.le_refl _) _
 have HW5:=hid hw5
 have hb4:=hb3.trans (b4.mono hb3.size)
 have hb5:=hb4.trans (b5.mono hb4.size)
 have hb5x:=zAl (zAl (zAl b2 b3) b4) b5
 have htm:TM w0.heap.size w5.heap.size w5 w3.heap.size st (rdF (prgL l).2 (l.take 0)) (.slice none 0 0) (.slice none 0 0) w4.heap.size 0 (l.take 0) :=
  ⟨(b5.block _ (gL hx4)).trans hx4,World.ownsRow_nil _ _ _ _,World.ownsRow_nil _ _ _ _,⟨Ent.none,by rw[hw5];exact MapV.made w4 Tryz.prog 3,by rw[List.take_zero];exact JbOk.nil _⟩,(fun b q=>by cases q),(fun _=>rfl),hb3.size,hb4.size,hb5.size,hb5.size,Nat.le_refl _⟩
 have e3:w3.heap.size=w2.heap.size+1:=by rw[HW3.out,World.size_alloc]
 have e4:w4.heap.size=w2.heap.size+1+1:=by rw[HW4.out,World.size_alloc,e3]
 rw[e3,e4] at htm
 have HTM:=hid htm
 have HB5:=hid hb5
 have HBZ:=hid HB1.out.size
 clear e3 e4 hw3 hw4 hw5 b2 b3 hx3 hb3 b4 hx4 b5 hb4 hb5 hb5x htm
 go_wp2_with fail
 rw[← HW3.out]
 go_wp2_with fail
 rw[← HW4.out]
 go_wp2_with fail
 rw[← HW5.out]
 clear hmm x2
 go_wp2_with fail
 go_loopw [35] (fun n0 wr=>∃(k D:Nat) (vd vu:Value),k≤l.length∧n0=.int .i64 (k:Int)∧TM w0.heap.size D wr (w2.heap.size+1) st (rdF (prgL l).2 (l.take k)) vd vu (w2.heap.size+1+1) k (l.take k)∧Below w0.heap.size w0 wr) (fun n0 _=>l.length - (intOf n0).toNat)
 case atStart=>exact⟨0,_,_,_,Nat.zero_le _,rfl,HTM.out,HB5.out⟩
 case round =>
  clear HTM HB5
  obtain⟨k,D,vd,vu,hk,rfl,htm,hb⟩:=hrel
  by_cases hlt:k<l.length
  case neg =>
   obtain rfl:k=l.length:=by omega
   rw[List.take_length,← zI8] at htm
   obtain⟨da,dc,rfl⟩:=zB6 htm.hd
   obtain⟨ua9,uc9,rfl⟩:=zB6 htm.hu
   have hr9:wr.heap[w.heap.size]?=some (.cells #[.int .i64 0,.slice none 0 0,.slice none 0 0,.bool false,.bool false,.bool false] 35 (0,0)):=(hb.block _ (gL HR0.out)).trans HR0.out
   obtain⟨r0,r1,r2,r3,r4,r5⟩:=cA hr9
   obtain⟨rf0,rf1,rf2,rf3,rf4,rf5⟩:=fA hr9
   obtain⟨x0,x1,x2,x3,x4,x5⟩:=cA htm.row
   obtain⟨xf0,xf1,xf2,xf3,xf4,xf5⟩:=fA htm.row
   have HG:=hid ((((((((At.refl w.heap.size wr).set 0 (.int .i64 st)).set 1 (.slice da (crsF l).done.length dc)).set 2 (.slice ua9 (crsF l).und.length uc9)).set 3 (.bool (crsF l).fl)).set 4 (.bool (crsF l).sk)).set 5 (.bool (crsF l).stop)))
   have hlt0:w.heap.size<w0.heap.size:=(gL HR0.out)
   have HO1:=hid (zAw (htm.hd.kept HG.out (.inr (fun q=>by have:=(htm.hd.lt _ q).1;omega))) HB0.out.size)
   have HO2:=hid (zAw (htm.hu.kept HG.out (.inr (fun q=>by have:=(htm.hu.lt _ q).1;have:=htm.lD.1;omega))) (Nat.le_trans HB0.out.size htm.lD.1))
   have HBZ2:=hid (HB0.out.trans (hb.mono HB0.out.size))
   have HBF:=hid (At.below HBZ2.out HG.out (Nat.le_refl _))
   clear htm hb hr9 hlt0
   go_wp2_with fail
   refine bodyPost_ret (v:=.tuple #[.agg #[.int .i64 st,.slice da (crsF l).done.length dc,.slice ua9 (crsF l).und.length uc9,.bool (crsF l).fl,.bool (crsF l).sk,.bool (crsF l).stop],.int .i64 0]) ?_ rfl ⟨_,_,(by rw[HT.out,HC0.out,← HSV.out]),by rw[HT.out];exact HO1.out,by rw[HT.out];exact HO2.out,HBF.out⟩
   rw[results_cell_tmp rfl]
   go_simp
  have hevp:=hH.nth k _ (List.getElem?_eq_getElem hlt)
  have hnx:=zG6 hlt (prgL l).2
  have htk:=zCu hlt
  have hat:(l[k]).kd=7∨(l[k]).kd=9→_:=zMr HCF.out hlt
  have h11:(l[k]).kd=11→∃n:Nat,(rdF (prgL l).2 (l.take k)).pl (l[k]).rf=((n:Int),0)∧kdN (prgL l).2 n≠1:=zQz HCF.out hlt
  have hsr:=HS0.out.below hb
  obtain⟨_,_,a',cap,hv,hc⟩:=hsr
  rw[Value.slice.injEq] at hv
  obtain⟨rfl,-,rfl⟩:=hv
  obtain⟨b,off,rfl,hblt,hc⟩:=hc.resolve_left (by omega)
  obtain⟨L,hL⟩:∃L,L=l:=⟨_,rfl⟩
  have c0:wr.cell? ⟨b,off+k*8,none⟩=some (.int .i64 (l[k]).1):=zAd hc k 0 (by decide) hlt _ rfl
  have c1:wr.cell? ⟨b,off+k*8+1,none⟩=some (.int .i64 (l[k]).2.1):=zAd hc k 1 (by decide) hlt _ rfl
  have c2:wr.cell? ⟨b,off+k*8+2,none⟩=some (.int .i64 (l[k]).2.2.1):=zAd hc k 2 (by decide) hlt _ rfl
  have c3:wr.cell? ⟨b,off+k*8+3,none⟩=some (.int .i64 (l[k]).2.2.2.1):=zAd hc k 3 (by decide) hlt _ rfl
  have c4:wr.cell? ⟨b,off+k*8+4,none⟩=some (.int .i64 (l[k]).2.2.2.2.1):=zAd hc k 4 (by decide) hlt _ rfl
  have c5:wr.cell? ⟨b,off+k*8+5,none⟩=some (.int .i64 (l[k]).2.2.2.2.2.1):=zAd hc k 5 (by decide) hlt _ rfl
  have c6:wr.cell? ⟨b,off+k*8+6,none⟩=some (.bool (l[k]).2.2.2.2.2.2.1):=zAd hc k 6 (by decide) hlt _ rfl
  have c7:wr.cell? ⟨b,off+k*8+7,none⟩=some (.string ⟨(l[k]).2.2.2.2.2.2.2.toArray⟩):=zAd hc k 7 (by decide) hlt _ rfl
  have hdt0:(l[k]).2.2.2.2.2.2.2.length≤1400:=zGc hevp.1.2.2.2.2.2.2.2
  clear hc hL L
  obtain⟨X,hX⟩:∃X,X=l[k]:=⟨_,rfl⟩
  rw[← hX] at hat h11 hevp hnx htk hdt0 c0 c1 c2 c3 c4 c5 c6 c7
  clear hX
  obtain⟨id,kd,tk,rf,sp,ty,ud,dt⟩:=X
  have hrf0:=zKv hevp.1
  have hid2:=hevp.2
  obtain⟨q1,q2,-⟩:=hevp.1
  simp only[Ev.id,Ev.kd,Ev.rf,Ev.sp] at q1 q2 hat h11 hrf0 hid2
  simp only at hdt0 c0 c1 c2 c3 c4 c5 c6 c7
  have hid64:i64B id:=by unfold i64B;omega
  have hrf64:i64B rf:=by unfold i64B;omega
  generalize hcq:(rdF (prgL l).2 (l.take k))=cr at *
  have hkI:(k:Int)<(l.length:Int):=by omega
  have hk5:(k:Int)≤500:=by omega
  have hkp:(0:Int)≤(k:Int):=by omega
  have hkl:(l.take k).length=k:=by rw[List.length_take,Nat.min_eq_left hk]
  clear hevp
  have HNX:=hid hnx
  have HTK:=hid htk
  obtain⟨we,hwe⟩:∃x,x=wr.alloc (.cells #[.int .i64 id,.int .i64 kd,.int .i64 tk,.int .i64 rf,.int .i64 sp,.int .i64 ty,.bool ud,.string ⟨dt.toArray⟩] 52):=⟨_,rfl⟩
  have be:Below wr.heap.size wr we:=by rw[hwe];exact(Below.refl _ _).alloc (Nat.le_refl _) _
  have hxe:we.heap[wr.heap.size]?=some (.cells #[.int .i64 id,.int .i64 kd,.int .i64 tk,.int .i64 rf,.int .i64 sp,.int .i64 ty,.bool ud,.string ⟨dt.toArray⟩] 52 (0,0)):=by rw[hwe];exact heap_alloc_new wr _
  have htm:=htm.below be
  have hb:=hb.trans (be.mono hb.size)
  have HWE:=hid hwe
  clear hwe be hnx hcq htk
  by_cases k6:kd=6
  · subst k6
    obtain⟨f,hf,hjb⟩:=htm.hp
    have hkey:=hid (keyI hid64)
    have hqt:=hid (zKn (prgL l).2 cr (id,6,tk,rf,sp,ty,ud,dt) (show(6:Int)≠7 by decide) (show(6:Int)≠9 by decide) (show(6:Int)≠13 by decide) (show(6:Int)≠14 by decide) (fun q=>absurd (show(6:Int)=11 from q) (by decide)))
    obtain⟨y0,y1,y2,y3,y4,y5,y6,y7⟩:=cA hxe
    have HTM:=hid htm
    have HB:=hid hb
    have HJB:=hid hjb
    have HID:=hid (show id=(((l.take k).length+1:Nat):Int) by rw[hkl];exact hid2)
    clear htm hb hjb hxe hat h11 hid2
    go_wp2_with (first | (at_mapUpdate;rw[← HWE.out];refine zC0 we rfl _ _ _ 70 rfl 3 52 kInt Tryz.underlying70 (w2.heap.size+1+1) k f rfl hf (by unfold maxLen;omega) _ _ (.int .i64 id) rfl rfl hkey.out ?_))
    intro w7 hown7 hgrow7
    have h7:=HTM.out.put (e:=(id,6,tk,rf,sp,ty,ud,dt)) HID.out hgrow7 HJB.out hown7 hqt.out.1 hqt.out.2.1 hqt.out.2.2.1 hqt.out.2.2.2.1 hqt.out.2.2.2.2
    have HF:=hid (show TM w0.heap.size D w7 (w2.heap.size+1) st (rdF (prgL l).2 (l.take (k+1))) vd vu (w2.heap.size+1+1) (k+1) (l.take (k+1))∧Below w0.heap.size w0 w7 from⟨by rw[HNX.out,HTK.out];exact h7.1,HB.out.trans h7.2⟩)
    clear hown7 hgrow7 h7 hf y0 y1 y2 y3 y4 y5 y6 y7
    go_wp2_with fail
    go_roundw
    case rel=>first
     | exact⟨k+1,_,_,_,by omega,by go_num,HF.out.1,HF.out.2⟩
     | ((repeat apply Exists.intro);exact⟨⟨k+1,_,_,_,by omega,by go_num,HF.out.1,HF.out.2⟩,rfl⟩)
    case measure=>simp[intOf];omega
  by_cases k7:kd=7
  · subst k7
    obtain⟨i,x,n,hik,hxi,hx6,hrfi,hxs,hkn,hnl,hpl,hund,hdl16,hul16⟩:=hat (.inl rfl)
    obtain⟨f,hf,hjb⟩:=htm.hp
    have hkey:=hid (keyI hrf64)
    have hfx:f (.int .i64 rf)=some (evV8 x):=by rw[hrfi];exact hjb i x (by rw[List.getElem?_take_of_lt hik];exact hxi) hx6
    obtain⟨xi,xk,xt,xr,xs,xy,xu,xd⟩:=x
    simp only[Ev.kd,Ev.sp,Ev.ud] at hx6 hxs hpl hund
    subst hx6
    subst hxs
    have HU:=hid (show(f (.int .i64 rf)).getD (.agg #[.int .i64 0,.int .i64 0,.int .i64 0,.int .i64 0,.int .i64 0,.int .i64 0,.bool false,.string .empty])=.agg #[.int .i64 xi,.int .i64 6,.int .i64 xt,.int .i64 xr,.int .i64 (n:Int),.int .i64 xy,.bool xu,.string ⟨xd.toArray⟩] by rw[hfx];rfl)
    obtain⟨-,y1,-,y3,-⟩:=cA hxe
    have t1:=htm.other (e:=(id,7,tk,rf,sp,ty,ud,dt)) (show(7:Int)≠6 by decide) (c':=cr) rfl rfl rfl rfl rfl
    cases xu with
    | true =>
      have hq:=hid (zWc (prgL l).2 cr id tk rf sp ty ud dt (n:Int) hpl)
      have b7:Below we.heap.size we (we.alloc (.cells #[.int .i64 xi,.int .i64 6,.int .i64 xt,.int .i64 xr,.int .i64 (n:Int),.int .i64 xy,.bool true,.string ⟨xd.toArray⟩] 52)):=(Below.refl _ _).alloc (Nat.le_refl _) _
      have b8:Below (we.alloc (.cells #[.int .i64 xi,.int .i64 6,.int .i64 xt,.int .i64 xr,.int .i64 (n:Int),.int .i64 xy,.bool true,.string ⟨xd.toArray⟩] 52)).heap.size (we.alloc (.cells #[.int .i64 xi,.int .i64 6,.int .i64 xt,.int .i64 xr,.int .i64 (n:Int),.int .i64 xy,.bool true,.string ⟨xd.toArray⟩] 52)) ((we.alloc (.cells #[.int .i64 xi,.int .i64 6,.int .i64 xt,.int .i64 xr,.int .i64 (n:Int),.int .i64 xy,.bool true,.string ⟨xd.toArray⟩] 52)).alloc (.cells #[.int .i64 (n:Int)] 3)):=(Below.refl _ _).alloc (Nat.le_refl _) _
      have t7:=t1.below b7
      have t8:=t7.below b8
      have hb8:=(hb.trans (b7.mono hb.size)).trans (b8.mono (hb.trans (b7.mono hb.size)).size)
      have d2:(we.alloc (.cells #[.int .i64 xi,.int .i64 6,.int .i64 xt,.int .i64 xr,.int .i64 (n:Int),.int .i64 xy,.bool true,.string ⟨xd.toArray⟩] 52)).cell? ⟨w2.heap.size+1,2,none⟩=some (vu):=cR t7.row rfl
      have df2:=frozen_of_row (we.alloc (.cells #[.int .i64 xi,.int .i64 6,.int .i64 xt,.int .i64 xr,.int .i64 (n:Int),.int .i64 xy,.bool true,.string ⟨xd.toArray⟩] 52)) _ 2 _ _ t7.row
      have e2:((we.alloc (.cells #[.int .i64 xi,.int .i64 6,.int .i64 xt,.int .i64 xr,.int .i64 (n:Int),.int .i64 xy,.bool true,.string ⟨xd.toArray⟩] 52)).alloc (.cells #[.int .i64 (n:Int)] 3)).cell? ⟨w2.heap.size+1,2,none⟩=some (vu):=cR t8.row rfl
      have ef2:=frozen_of_row ((we.alloc (.cells #[.int .i64 xi,.int .i64 6,.int .i64 xt,.int .i64 xr,.int .i64 (n:Int),.int .i64 xy,.bool true,.string ⟨xd.toArray⟩] 52)).alloc (.cells #[.int .i64 (n:Int)] 3)) _ 2 _ _ t8.row
      have ho8:=t8.hu
      have hD8:D≤((we.alloc (.cells #[.int .i64 xi,.int .i64 6,.int .i64 xt,.int .i64 xr,.int .i64 (n:Int),.int .i64 xy,.bool true,.string ⟨xd.toArray⟩] 52)).alloc (.cells #[.int .i64 (n:Int)] 3)).heap.size:=t8.lD.2
      have hy:∀(j:Nat) (u:Value),(ivC (n:Int))[j]?=some u→((we.alloc (.cells #[.int .i64 xi,.int .i64 6,.int .i64 xt,.int .i64 xr,.int .i64 (n:Int),.int .i64 xy,.bool true,.string ⟨xd.toArray⟩] 52)).alloc (.cells #[.int .i64 (n:Int)] 3)).cell? ⟨we.heap.size+1,j,none⟩=some u:=by
       intro j u hu
       refine(World.cell?_alloc_at _ _ _ _ (by rw[World.size_alloc])).trans ?_
       rw[← hu]
       exact List.getElem?_toArray
      have hinfo:(Tryz.prog.info? 3).map (fun i=>(i.zero,i.size,i.bytes))=some (some (.int .i64 0),1,8):=by kernel_rfl
      have hmx:maxLen=9223372036854775807:=rfl
      have HT8:=hid t8
      have HB8:=hid hb8
      have HU:=hid (HU.out.trans (show _=.agg #[.int .i64 xi,.int .i64 6,.int .i64 xt,.int .i64 xr,.int .i64 (n:Int),.int .i64 xy,.bool true,.string ⟨xd.toArray⟩] from rfl))
      clear t1 t7 t8 htm hb hxe hat h11 hid2 hund hpl hrfi hfx hxi hjb b7 b8 hb8
      go_wp2_with (first | (at_lookup;rw[← HWE.out];refine zCn we rfl _ _ 70 rfl 3 52 kInt Tryz.underlying70 (zNv _) (w2.heap.size+1+1) k f rfl hf _ (.int .i64 rf) rfl hkey.out (.agg #[.int .i64 xi,.int .i64 6,.int .i64 xt,.int .i64 xr,.int .i64 (n:Int),.int .i64 xy,.bool true,.string ⟨xd.toArray⟩]) HU.out ?_) | (at_builtin;go_must (refine zAs _ rfl _ _ 33 rfl ivC 1 (by decide) zJx zJz D 3 (.int .i64 0) 8 Tryz.underlying33 hinfo rfl _ cr.und.length cr.und rfl ho8 (we.heap.size+1) 1 rfl (n:Int) hy (by omega) (by omega) hD8 ?_)))
      intro a' c' wa hown hgrow
      have hgw:=HT8.out.gw
      have hr5:wa.heap[(w2.heap.size+1)]?=some _:=(hgrow.block _ (gL HT8.out.row) (fun z=>hgw.2.1 z.symm)).trans HT8.out.row
      have v5:wa.cell? ⟨w2.heap.size+1,2,none⟩=some vu:=cR hr5 rfl
      have vf5:=frozen_of_row wa _ 2 _ _ hr5
      have h9:=hid (HT8.out.und_new hgrow (show World.ownsRow _ _ _ _ _ _ _ by rw[List.flatMap_append];exact hown) (c':=zAc (prgL l).2 cr (id,7,tk,rf,sp,ty,ud,dt)) hq.out.1 hq.out.2.1 hq.out.2.2.1 hq.out.2.2.2.1 hq.out.2.2.2.2)
      have HF:=hid (show TM w0.heap.size D (wa.setCell ⟨w2.heap.size+1,2,none⟩ (.slice a' (cr.und.length+1) c')) (w2.heap.size+1) st (rdF (prgL l).2 (l.take (k+1))) vd (.slice a' (cr.und.length+1) c') (w2.heap.size+1+1) (k+1) (l.take (k+1))∧Below w0.heap.size w0 (wa.setCell ⟨w2.heap.size+1,2,none⟩ (.slice a' (cr.und.length+1) c')) from⟨by rw[HNX.out,HTK.out];exact h9.out.1,HB8.out.trans h9.out.2⟩)
      clear hown hgrow hr5 hgw h9 HT8 hy hD8 ho8 d2 df2 e2 ef2
      go_wp2_with fail
      go_roundw
      case rel=>first
       | exact⟨k+1,_,_,_,by omega,by go_num,HF.out.1,HF.out.2⟩
       | ((repeat apply Exists.intro);exact⟨⟨k+1,_,_,_,by omega,by go_num,HF.out.1,HF.out.2⟩,rfl⟩)
      case measure=>simp[intOf];omega
    | false =>
      have hq:=hid (zWb (prgL l).2 cr id tk rf sp ty ud dt n hpl hkn)
      have HUND:=hid (hund rfl)
      have b7:Below we.heap.size we (we.alloc (.cells #[.int .i64 xi,.int .i64 6,.int .i64 xt,.int .i64 xr,.int .i64 (n:Int),.int .i64 xy,.bool false,.string ⟨xd.toArray⟩] 52)):=(Below.refl _ _).alloc (Nat.le_refl _) _
      have b8:Below (we.alloc (.cells #[.int .i64 xi,.int .i64 6,.int .i64 xt,.int .i64 xr,.int .i64 (n:Int),.int .i64 xy,.bool false,.string ⟨xd.toArray⟩] 52)).heap.size (we.alloc (.cells #[.int .i64 xi,.int .i64 6,.int .i64 xt,.int .i64 xr,.int .i64 (n:Int),.int .i64 xy,.bool false,.string ⟨xd.toArray⟩] 52)) ((we.alloc (.cells #[.int .i64 xi,.int .i64 6,.int .i64 xt,.int .i64 xr,.int .i64 (n:Int),.int .i64 xy,.bool false,.string ⟨xd.toArray⟩] 52)).alloc (.cells #[.int .i64 (n:Int)] 3)):=(Below.refl _ _).alloc (Nat.le_refl _) _
      have t7:=t1.below b7
      have t8:=t7.below b8
      have hb8:=(hb.trans (b7.mono hb.size)).trans (b8.mono (hb.trans (b7.mono hb.size)).size)
      have d1:(we.alloc (.cells #[.int .i64 xi,.int .i64 6,.int .i64 xt,.int .i64 xr,.int .i64 (n:Int),.int .i64 xy,.bool false,.string ⟨xd.toArray⟩] 52)).cell? ⟨w2.heap.size+1,1,none⟩=some (vd):=cR t7.row rfl
      have df1:=frozen_of_row (we.alloc (.cells #[.int .i64 xi,.int .i64 6,.int .i64 xt,.int .i64 xr,.int .i64 (n:Int),.int .i64 xy,.bool false,.string ⟨xd.toArray⟩] 52)) _ 1 _ _ t7.row
      have e1:((we.alloc (.cells #[.int .i64 xi,.int .i64 6,.int .i64 xt,.int .i64 xr,.int .i64 (n:Int),.int .i64 xy,.bool false,.string ⟨xd.toArray⟩] 52)).alloc (.cells #[.int .i64 (n:Int)] 3)).cell? ⟨w2.heap.size+1,1,none⟩=some (vd):=cR t8.row rfl
      have ef1:=frozen_of_row ((we.alloc (.cells #[.int .i64 xi,.int .i64 6,.int .i64 xt,.int .i64 xr,.int .i64 (n:Int),.int .i64 xy,.bool false,.string ⟨xd.toArray⟩] 52)).alloc (.cells #[.int .i64 (n:Int)] 3)) _ 1 _ _ t8.row
      have ho8:=t8.hd
      have hD8:w0.heap.size≤((we.alloc (.cells #[.int .i64 xi,.int .i64 6,.int .i64 xt,.int .i64 xr,.int .i64 (n:Int),.int .i64 xy,.bool false,.string ⟨xd.toArray⟩] 52)).alloc (.cells #[.int .i64 (n:Int)] 3)).heap.size:=t8.lB
      have hy:∀(j:Nat) (u:Value),(ivC (n:Int))[j]?=some u→((we.alloc (.cells #[.int .i64 xi,.int .i64 6,.int .i64 xt,.int .i64 xr,.int .i64 (n:Int),.int .i64 xy,.bool false,.string ⟨xd.toArray⟩] 52)).alloc (.cells #[.int .i64 (n:Int)] 3)).cell? ⟨we.heap.size+1,j,none⟩=some u:=by
       intro j u hu
       refine(World.cell?_alloc_at _ _ _ _ (by rw[World.size_alloc])).trans ?_
       rw[← hu]
       exact List.getElem?_toArray
      have hinfo:(Tryz.prog.info? 3).map (fun i=>(i.zero,i.size,i.bytes))=some (some (.int .i64 0),1,8):=by kernel_rfl
      have hmx:maxLen=9223372036854775807:=rfl
      have HT8:=hid t8
      have HB8:=hid hb8
      have HU:=hid (HU.out.trans (show _=.agg #[.int .i64 xi,.int .i64 6,.int .i64 xt,.int .i64 xr,.int .i64 (n:Int),.int .i64 xy,.bool false,.string ⟨xd.toArray⟩] from rfl))
      clear t1 t7 t8 htm hb hxe hat h11 hid2 hund hpl hrfi hfx hxi hjb b7 b8 hb8
      go_wp2_with (first | (at_lookup;rw[← HWE.out];refine zCn we rfl _ _ 70 rfl 3 52 kInt Tryz.underlying70 (zNv _) (w2.heap.size+1+1) k f rfl hf _ (.int .i64 rf) rfl hkey.out (.agg #[.int .i64 xi,.int .i64 6,.int .i64 xt,.int .i64 xr,.int .i64 (n:Int),.int .i64 xy,.bool false,.string ⟨xd.toArray⟩]) HU.out ?_) | (at_builtin;go_must (refine zAs _ rfl _ _ 33 rfl ivC 1 (by decide) zJx zJz w0.heap.size 3 (.int .i64 0) 8 Tryz.underlying33 hinfo rfl _ cr.done.length cr.done rfl ho8 (we.heap.size+1) 1 rfl (n:Int) hy (by omega) (by omega) hD8 ?_)))
      intro a' c' wa hown hgrow
      have hgw:=HT8.out.gw
      have hr5:wa.heap[(w2.heap.size+1)]?=some _:=(hgrow.block _ (gL HT8.out.row) (fun z=>hgw.1 z.symm)).trans HT8.out.row
      have v5:wa.cell? ⟨w2.heap.size+1,1,none⟩=some vd:=cR hr5 rfl
      have vf5:=frozen_of_row wa _ 1 _ _ hr5
      have h9:=hid (HT8.out.done_new HUND.out hgrow (show World.ownsRow _ _ _ _ _ _ _ by rw[List.flatMap_append];exact hown) (c':=zAc (prgL l).2 cr (id,7,tk,rf,sp,ty,ud,dt)) hq.out.1 hq.out.2.1 hq.out.2.2.1 hq.out.2.2.2.1 hq.out.2.2.2.2)
      obtain⟨⟨D',ht9⟩,hb9⟩:=h9.out
      have HF:=hid (show TM w0.heap.size D' (wa.setCell ⟨w2.heap.size+1,1,none⟩ (.slice a' (cr.done.length+1) c')) (w2.heap.size+1) st (rdF (prgL l).2 (l.take (k+1))) (.slice a' (cr.done.length+1) c') vu (w2.heap.size+1+1) (k+1) (l.take (k+1))∧Below w0.heap.size w0 (wa.setCell ⟨w2.heap.size+1,1,none⟩ (.slice a' (cr.done.length+1) c')) from⟨by rw[HNX.out,HTK.out];exact ht9,HB8.out.trans hb9⟩)
      clear ht9 hb9
      clear hown hgrow hr5 hgw h9 HT8 hy hD8 ho8 d1 df1 e1 ef1
      go_wp2_with fail
      go_roundw
      case rel=>first
       | exact⟨k+1,_,_,_,by omega,by go_num,HF.out.1,HF.out.2⟩
       | ((repeat apply Exists.intro);exact⟨⟨k+1,_,_,_,by omega,by go_num,HF.out.1,HF.out.2⟩,rfl⟩)
      case measure=>simp[intOf];omega
  by_cases k9:kd=9
  · subst k9
    obtain⟨i,x,n,hik,hxi,hx6,hrfi,hxs,hkn,hnl,hpl,hund,hdl16,hul16⟩:=hat (.inr rfl)
    obtain⟨f,hf,hjb⟩:=htm.hp
    have hkey:=hid (keyI hrf64)
    have hfx:f (.int .i64 rf)=some (evV8 x):=by rw[hrfi];exact hjb i x (by rw[List.getElem?_take_of_lt hik];exact hxi) hx6
    obtain⟨xi,xk,xt,xr,xs,xy,xu,xd⟩:=x
    simp only[Ev.kd,Ev.sp,Ev.ud] at hx6 hxs hpl hund
    subst hx6
    subst hxs
    have HU:=hid (show(f (.int .i64 rf)).getD (.agg #[.int .i64 0,.int .i64 0,.int .i64 0,.int .i64 0,.int .i64 0,.int .i64 0,.bool false,.string .empty])=.agg #[.int .i64 xi,.int .i64 6,.int .i64 xt,.int .i64 xr,.int .i64 (n:Int),.int .i64 xy,.bool xu,.string ⟨xd.toArray⟩] by rw[hfx];rfl)
    obtain⟨-,y1,-,y3,-⟩:=cA hxe
    have t1:=htm.other (e:=(id,9,tk,rf,sp,ty,ud,dt)) (show(9:Int)≠6 by decide) (c':=cr) rfl rfl rfl rfl rfl
    cases xu with
    | true =>
      have hq:=zVu (prgL l).2 cr id tk rf sp ty ud dt (n:Int) hpl
      have h7:=t1.flag (c':=zAc (prgL l).2 cr (id,9,tk,rf,sp,ty,ud,dt)) 4 (.bool true) (by rw[hq.2.2.1,hq.2.2.2.1,hq.2.2.2.2];rfl) hq.1 hq.2.1
      have HF0:=hid h7
      have d4:we.cell? ⟨w2.heap.size+1,4,none⟩=some (.bool cr.sk):=cR htm.row rfl
      have df4:=frozen_of_row we _ 4 _ _ htm.row
      have HB:=hid hb
      have HU:=hid (HU.out.trans (show _=.agg #[.int .i64 xi,.int .i64 6,.int .i64 xt,.int .i64 xr,.int .i64 (n:Int),.int .i64 xy,.bool true,.string ⟨xd.toArray⟩] from rfl))
      have hfd:∀(wx:World),(Instr.field 52 (.agg #[.int .i64 xi,.int .i64 6,.int .i64 xt,.int .i64 xr,.int .i64 (n:Int),.int .i64 xy,.bool true,.string ⟨xd.toArray⟩]) 6).run Tryz.prog wx=.ok (.bool true) wx:=fun _=>rfl
      clear h7 t1 htm hb hxe hat h11 hid2 hund hpl hrfi hfx hxi hjb hq
      go_wp2_with (first | (at_lookup;rw[← HWE.out];refine zCn we rfl _ _ 70 rfl 3 52 kInt Tryz.underlying70 (zNv _) (w2.heap.size+1+1) k f rfl hf _ (.int .i64 rf) rfl hkey.out (.agg #[.int .i64 xi,.int .i64 6,.int .i64 xt,.int .i64 xr,.int .i64 (n:Int),.int .i64 xy,.bool true,.string ⟨xd.toArray⟩]) HU.out ?_))
      have HF:=hid (show TM w0.heap.size D (we.setCell ⟨w2.heap.size+1,4,none⟩ (.bool true)) (w2.heap.size+1) st (rdF (prgL l).2 (l.take (k+1))) vd vu (w2.heap.size+1+1) (k+1) (l.take (k+1))∧Below w0.heap.size w0 (we.setCell ⟨w2.heap.size+1,4,none⟩ (.bool true)) from⟨by rw[HNX.out,HTK.out];exact HF0.out.1,HB.out.trans HF0.out.2⟩)
      go_wp2_with fail
      go_roundw
      case rel=>first
       | exact⟨k+1,_,_,_,by omega,by go_num,HF.out.1,HF.out.2⟩
       | ((repeat apply Exists.intro);exact⟨⟨k+1,_,_,_,by omega,by go_num,HF.out.1,HF.out.2⟩,rfl⟩)
      case measure=>simp[intOf];omega
    | false =>
      have hq:=zVt (prgL l).2 cr id tk rf sp ty ud dt (n:Int) hpl
      have h7:=t1.flag (c':=zAc (prgL l).2 cr (id,9,tk,rf,sp,ty,ud,dt)) 3 (.bool true) (by rw[hq.2.2.1,hq.2.2.2.1,hq.2.2.2.2];rfl) hq.1 hq.2.1
      have HF0:=hid h7
      have d3:we.cell? ⟨w2.heap.size+1,3,none⟩=some (.bool cr.fl):=cR htm.row rfl
      have df3:=frozen_of_row we _ 3 _ _ htm.row
      have HB:=hid hb
      have HU:=hid (HU.out.trans (show _=.agg #[.int .i64 xi,.int .i64 6,.int .i64 xt,.int .i64 xr,.int .i64 (n:Int),.int .i64 xy,.bool false,.string ⟨xd.toArray⟩] from rfl))
      have hfd:∀(wx:World),(Instr.field 52 (.agg #[.int .i64 xi,.int .i64 6,.int .i64 xt,.int .i64 xr,.int .i64 (n:Int),.int .i64 xy,.bool false,.string ⟨xd.toArray⟩]) 6).run Tryz.prog wx=.ok (.bool false) wx:=fun _=>rfl
      clear h7 t1 htm hb hxe hat h11 hid2 hund hpl hrfi hfx hxi hjb hq
      go_wp2_with (first | (at_lookup;rw[← HWE.out];refine zCn we rfl _ _ 70 rfl 3 52 kInt Tryz.underlying70 (zNv _) (w2.heap.size+1+1) k f rfl hf _ (.int .i64 rf) rfl hkey.out (.agg #[.int .i64 xi,.int .i64 6,.int .i64 xt,.int .i64 xr,.int .i64 (n:Int),.int .i64 xy,.bool false,.string ⟨xd.toArray⟩]) HU.out ?_))
      have HF:=hid (show TM w0.heap.size D (we.setCell ⟨w2.heap.size+1,3,none⟩ (.bool true)) (w2.heap.size+1) st (rdF (prgL l).2 (l.take (k+1))) vd vu (w2.heap.size+1+1) (k+1) (l.take (k+1))∧Below w0.heap.size w0 (we.setCell ⟨w2.heap.size+1,3,none⟩ (.bool true)) from⟨by rw[HNX.out,HTK.out];exact HF0.out.1,HB.out.trans HF0.out.2⟩)
      go_wp2_with fail
      go_roundw
      case rel=>first
       | exact⟨k+1,_,_,_,by omega,by go_num,HF.out.1,HF.out.2⟩
       | ((repeat apply Exists.intro);exact⟨⟨k+1,_,_,_,by omega,by go_num,HF.out.1,HF.out.2⟩,rfl⟩)
      case measure=>simp[intOf];omega
  by_cases k13:kd=13
  · subst k13
    have t1:=htm.other (e:=(id,13,tk,rf,sp,ty,ud,dt)) (show(13:Int)≠6 by decide) (c':=cr) rfl rfl rfl rfl rfl
    have h7:=t1.flag (c':=zAc (prgL l).2 cr (id,13,tk,rf,sp,ty,ud,dt)) 5 (.bool true) rfl rfl rfl
    have y1:we.cell? ⟨wr.heap.size,1,none⟩=some (.int .i64 13):=cR hxe rfl
    have d5:we.cell? ⟨w2.heap.size+1,5,none⟩=some (.bool cr.stop):=cR htm.row rfl
    have df5:=frozen_of_row we _ 5 _ _ htm.row
    have HF:=hid (show TM w0.heap.size D (we.setCell ⟨w2.heap.size+1,5,none⟩ (.bool true)) (w2.heap.size+1) st (rdF (prgL l).2 (l.take (k+1))) vd vu (w2.heap.size+1+1) (k+1) (l.take (k+1))∧Below w0.heap.size w0 (we.setCell ⟨w2.heap.size+1,5,none⟩ (.bool true)) from⟨by rw[HNX.out,HTK.out];exact h7.1,hb.trans h7.2⟩)
    clear h7 t1 htm hb hxe hat h11 hid2
    rw[HWE.out] at d5 df5
    go_wp2_with fail
    rw[← HWE.out]
    go_roundw
    case rel=>first
     | exact⟨k+1,_,_,_,by omega,by go_num,HF.out.1,HF.out.2⟩
     | ((repeat apply Exists.intro);exact⟨⟨k+1,_,_,_,by omega,by go_num,HF.out.1,HF.out.2⟩,rfl⟩)
    case measure=>simp[intOf];omega
  by_cases k14:kd=14
  · subst k14
    have t1:=htm.other (e:=(id,14,tk,rf,sp,ty,ud,dt)) (show(14:Int)≠6 by decide) (c':=cr) rfl rfl rfl rfl rfl
    have h7:=t1.flag (c':=zAc (prgL l).2 cr (id,14,tk,rf,sp,ty,ud,dt)) 5 (.bool true) rfl rfl rfl
    have y1:we.cell? ⟨wr.heap.size,1,none⟩=some (.int .i64 14):=cR hxe rfl
    have d5:we.cell? ⟨w2.heap.size+1,5,none⟩=some (.bool cr.stop):=cR htm.row rfl
    have df5:=frozen_of_row we _ 5 _ _ htm.row
    have HF:=hid (show TM w0.heap.size D (we.setCell ⟨w2.heap.size+1,5,none⟩ (.bool true)) (w2.heap.size+1) st (rdF (prgL l).2 (l.take (k+1))) vd vu (w2.heap.size+1+1) (k+1) (l.take (k+1))∧Below w0.heap.size w0 (we.setCell ⟨w2.heap.size+1,5,none⟩ (.bool true)) from⟨by rw[HNX.out,HTK.out];exact h7.1,hb.trans h7.2⟩)
    clear h7 t1 htm hb hxe hat h11 hid2
    rw[HWE.out] at d5 df5
    go_wp2_with fail
    rw[← HWE.out]
    go_roundw
    case rel=>first
     | exact⟨k+1,_,_,_,by omega,by go_num,HF.out.1,HF.out.2⟩
     | ((repeat apply Exists.intro);exact⟨⟨k+1,_,_,_,by omega,by go_num,HF.out.1,HF.out.2⟩,rfl⟩)
    case measure=>simp[intOf];omega
  have hqt:=zKn (prgL l).2 cr (id,kd,tk,rf,sp,ty,ud,dt) k7 k9 k13 k14 h11
  have t7:=htm.other (e:=(id,kd,tk,rf,sp,ty,ud,dt)) k6 hqt.1 hqt.2.1 hqt.2.2.1 hqt.2.2.2.1 hqt.2.2.2.2
  have HF:=hid (show TM w0.heap.size D we (w2.heap.size+1) st (rdF (prgL l).2 (l.take (k+1))) vd vu (w2.heap.size+1+1) (k+1) (l.take (k+1))∧Below w0.heap.size w0 we from⟨by rw[HNX.out,HTK.out];exact t7,hb⟩)
  have y1:we.cell? ⟨wr.heap.size,1,none⟩=some (.int .i64 kd):=cR hxe rfl
  have e6:(kd==6)=false:=by simpa using k6
  have e7:(kd==7)=false:=by simpa using k7
  have e9:(kd==9)=false:=by simpa using k9
  have e13:(kd==13)=false:=by simpa using k13
  have e14:(kd==14)=false:=by simpa using k14
  clear hqt t7 htm hb hxe k6 k7 k9 k13 k14 hat h11 hid2
  go_wp2_with fail
  rw[← HWE.out]
  go_wp2_with fail
  go_roundw
  case rel=>first
   | exact⟨k+1,_,_,_,by omega,by go_num,HF.out.1,HF.out.2⟩
   | ((repeat apply Exists.intro);exact⟨⟨k+1,_,_,_,by omega,by go_num,HF.out.1,HF.out.2⟩,rfl⟩)
  case measure=>simp[intOf];omega
def sw6:List Ev:=[(1,1,0,0,0,0,false,[0,1,1,1,97,1,1,117,1]),(2,2,0,0,0,0,false,[]),(3,3,0,2,0,0,false,[]),(4,4,0,3,0,0,false,[]),(5,6,0,0,0,0,false,[]),(6,7,0,5,0,1,false,[])]
theorem zWl:(zBe sw6).2=0:=by kernel_rfl
theorem zWm:zCh sw6=(zAg sw6,[0],[],false,false,false):=by kernel_rfl
theorem zU9:FitE sw6:=by
 intro x hx
 simp only[sw6,List.mem_cons,List.not_mem_nil,or_false] at hx
 rcases hx with rfl | rfl | rfl | rfl | rfl | rfl <;> decide
theorem zOw(w:World):Calls Tryz.prog 23 #[] w fun e w'=>e=.returned (.agg #[.int .i64 1,.int .i64 1,.int .i64 0,.int .i64 0,.int .i64 0,.int .i64 0,.bool false,.string ⟨#[0,1,1,1,97,1,1,117,1]⟩])∧Below w.heap.size w w':=by
 have b0:=hid ((Below.refl w.heap.size w).alloc (Nat.le_refl _) (.cells #[.int .i64 1,.int .i64 1,.int .i64 0,.int .i64 0,.int .i64 0,.int .i64 0,.bool false,.string ⟨#[0,1,1,1,97,1,1,117,1]⟩] 52))
 go_enter Tryz.func23,Tryz.ntmps23
 go_wp2_with fail
 refine bodyPost_ret (v:=.agg #[.int .i64 1,.int .i64 1,.int .i64 0,.int .i64 0,.int .i64 0,.int .i64 0,.bool false,.string ⟨#[0,1,1,1,97,1,1,117,1]⟩]) ?_ rfl ⟨rfl,b0.out⟩
 rw[zBn rfl]
 go_simp
theorem zOv(w:World):Calls Tryz.prog 8 #[] w fun e w'=>e=.returned (.bool true)∧Below w.heap.size w w':=by
 have hinfo:(Tryz.prog.info? 52).map (fun i=>(i.zero,i.size,i.bytes))=some (some (.agg #[.int .i64 0,.int .i64 0,.int .i64 0,.int .i64 0,.int .i64 0,.int .i64 0,.bool false,.string .empty]),8,72):=by kernel_rfl
 have hmx:maxLen=9223372036854775807:=rfl
 go_enter Tryz.func8,Tryz.ntmps8
 go_wp2_with fail
 refine(zOw w).mono ?_
 rintro _ w1 ⟨rfl,b1⟩
 have b2:Below w1.heap.size w1 (w1.alloc (.cells #[.int .i64 1,.int .i64 1,.int .i64 0,.int .i64 0,.int .i64 0,.int .i64 0,.bool false,.string ⟨#[0,1,1,1,97,1,1,117,1]⟩,.int .i64 2,.int .i64 2,.int .i64 0,.int .i64 0,.int .i64 0,.int .i64 0,.bool false,.string ⟨#[]⟩,.int .i64 3,.int .i64 3,.int .i64 0,.int .i64 2,.int .i64 0,.int .i64 0,.bool false,.string ⟨#[]⟩,.int .i64 4,.int .i64 4,.int .i64 0,.int .i64 3,.int .i64 0,.int .i64 0,.bool false,.string ⟨#[]⟩,.int .i64 5,.int .i64 6,.int .i64 0,.int .i64 0,.int .i64 0,.int .i64 0,.bool false,.string ⟨#[]⟩,.int .i64 6,.int .i64 7,.int .i64 0,.int .i64 5,.int .i64 0,.int .i64 1,.bool false,.string ⟨#[]⟩] 52)):=(Below.refl _ _).alloc (Nat.le_refl _) _
 have ho:(w1.alloc (.cells #[.int .i64 1,.int .i64 1,.int .i64 0,.int .i64 0,.int .i64 0,.int .i64 0,.bool false,.string ⟨#[0,1,1,1,97,1,1,117,1]⟩,.int .i64 2,.int .i64 2,.int .i64 0,.int .i64 0,.int .i64 0,.int .i64 0,.bool false,.string ⟨#[]⟩,.int .i64 3,.int .i64 3,.int .i64 0,.int .i64 2,.int .i64 0,.int .i64 0,.bool false,.string ⟨#[]⟩,.int .i64 4,.int .i64 4,.int .i64 0,.int .i64 3,.int .i64 0,.int .i64 0,.bool false,.string ⟨#[]⟩,.int .i64 5,.int .i64 6,.int .i64 0,.int .i64 0,.int .i64 0,.int .i64 0,.bool false,.string ⟨#[]⟩,.int .i64 6,.int .i64 7,.int .i64 0,.int .i64 5,.int .i64 0,.int .i64 1,.bool false,.string ⟨#[]⟩] 52)).ownsRow w.heap.size 52 8 (.slice (some ⟨w1.heap.size,0,none⟩) 6 6) 6 (sw6.flatMap evc):=⟨rfl,.inr ⟨w1.heap.size,6,_,rfl,b1.size,heap_alloc_new w1 _,Nat.le_refl _,by rw[hmx];omega,rfl,rfl⟩⟩
 have hs2:=Sl.of_own ho (by rw[hmx];omega)
 have b12:=zAl b1 b2
 have hB1:=zNr (some ⟨w1.heap.size,0,none⟩) 6 sw6 (w1.alloc (.cells #[.int .i64 1,.int .i64 1,.int .i64 0,.int .i64 0,.int .i64 0,.int .i64 0,.bool false,.string ⟨#[0,1,1,1,97,1,1,117,1]⟩,.int .i64 2,.int .i64 2,.int .i64 0,.int .i64 0,.int .i64 0,.int .i64 0,.bool false,.string ⟨#[]⟩,.int .i64 3,.int .i64 3,.int .i64 0,.int .i64 2,.int .i64 0,.int .i64 0,.bool false,.string ⟨#[]⟩,.int .i64 4,.int .i64 4,.int .i64 0,.int .i64 3,.int .i64 0,.int .i64 0,.bool false,.string ⟨#[]⟩,.int .i64 5,.int .i64 6,.int .i64 0,.int .i64 0,.int .i64 0,.int .i64 0,.bool false,.string ⟨#[]⟩,.int .i64 6,.int .i64 7,.int .i64 0,.int .i64 5,.int .i64 0,.int .i64 1,.bool false,.string ⟨#[]⟩] 52)) hs2 zU9 (Nat.le_refl _)
 rw[show sw6.length=6 from rfl] at hB1
 unfold zMw at hB1
 rw[zWm,zWl] at hB1
 simp only at hB1
 clear b1
 go_wp2_with fail
 refine hB1.mono ?_
 rintro _ w3 ⟨vd,vu,rfl,hod,hou,b3⟩
 generalize zAg sw6=st9
 have b03:=hid (zAl b12 b3)
 have hsd:=zD2 hod (by decide)
 obtain⟨da,dc,rfl⟩:=zB6 hod
 obtain⟨ua,uc,rfl⟩:=zB6 hou
 rw[show([]:List Int).length=0 from rfl] at *
 rw[show([(0:Int)]:List Int).length=1 from rfl] at *
 clear hB1 hs2 ho b2 b12 b3 hod hou
 have b4:Below w3.heap.size w3 (w3.alloc (.cells #[.int .i64 st9,.slice da 1 dc,.slice ua 0 uc,.bool false,.bool false,.bool false] 35)):=(Below.refl _ _).alloc (Nat.le_refl _) _
 have hr4:=heap_alloc_new w3 (.cells #[.int .i64 st9,.slice da 1 dc,.slice ua 0 uc,.bool false,.bool false,.bool false] 35)
 have b5:Below (w3.alloc (.cells #[.int .i64 st9,.slice da 1 dc,.slice ua 0 uc,.bool false,.bool false,.bool false] 35)).heap.size (w3.alloc (.cells #[.int .i64 st9,.slice da 1 dc,.slice ua 0 uc,.bool false,.bool false,.bool false] 35)) ((w3.alloc (.cells #[.int .i64 st9,.slice da 1 dc,.slice ua 0 uc,.bool false,.bool false,.bool false] 35)).alloc (.cells #[.int .i64 0] 3)):=(Below.refl _ _).alloc (Nat.le_refl _) _
 have b35:=zAl b4 b5
 have hr5:=(b5.block _ (gL hr4)).trans hr4
 have hl5:=World.ownsRow_lit (base:=0) (e:=3) (size:=1) (w3.alloc (.cells #[.int .i64 st9,.slice da 1 dc,.slice ua 0 uc,.bool false,.bool false,.bool false] 35)) #[.int .i64 0] 1 (Nat.zero_le _) (by omega) rfl
 have hs5:=Sl.of_own hl5 (by omega)
 have hB2:=zNl [] 0 none 0 [0] (some ⟨(w3.alloc (.cells #[.int .i64 st9,.slice da 1 dc,.slice ua 0 uc,.bool false,.bool false,.bool false] 35)).heap.size,0,none⟩) 1 (by decide) ((w3.alloc (.cells #[.int .i64 st9,.slice da 1 dc,.slice ua 0 uc,.bool false,.bool false,.bool false] 35)).alloc (.cells #[.int .i64 0] 3)) (Sl.none _ 6) hs5
 unfold zF5 at hB2
 rw[show zFw [] [0]=none from rfl] at hB2
 simp only[List.length_cons,List.length_nil,Nat.zero_add] at hB2
 have e4:(w3.alloc (.cells #[.int .i64 st9,.slice da 1 dc,.slice ua 0 uc,.bool false,.bool false,.bool false] 35)).heap.size=w3.heap.size+1:=by rw[World.size_alloc]
 have HB2:=hid hB2
 rw[e4] at HB2
 have hsd5:=hsd.below b35
 have HSD:=hid hsd5
 have HR5:=hid hr5
 have HB35:=hid b35
 clear b4 b5 b35 hr4 hr5 hl5 hs5 hB2 e4 hsd hsd5
 go_wp2_with fail
 refine HB2.out.mono ?_
 rintro _ w6 ⟨v6,rfl,-,b6⟩
 have hr6:=(b6.block _ (gL HR5.out)).trans HR5.out
 have y0:w6.cell? ⟨w3.heap.size,0,none⟩=some (.int .i64 st9):=cR hr6 rfl
 have y1:w6.cell? ⟨w3.heap.size,1,none⟩=some (.slice da 1 dc):=cR hr6 rfl
 have y2:w6.cell? ⟨w3.heap.size,2,none⟩=some (.slice ua 0 uc):=cR hr6 rfl
 have y3:w6.cell? ⟨w3.heap.size,3,none⟩=some (.bool false):=cR hr6 rfl
 have y4:w6.cell? ⟨w3.heap.size,4,none⟩=some (.bool false):=cR hr6 rfl
 have y5:w6.cell? ⟨w3.heap.size,5,none⟩=some (.bool false):=cR hr6 rfl
 obtain⟨db,dof,rfl,-,z0⟩:=zGf (HSD.out.below b6) (i:=0) (by decide)
 rw[show([(0:Int)]:List Int)[0]=0 from rfl,Nat.add_zero] at z0
 have HB:=hid (zAl b03.out (zAl HB35.out b6))
 clear hinfo hr6 b6
 go_wp2_with fail
 go_ret
 exact⟨rfl,HB.out⟩
end Go.Proofs.YtkedafopdkhnfaaGreat
