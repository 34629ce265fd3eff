/- CONTRACT: Apply, of an event that is the next: of the kinds [10, 11]. CONTRACT: Apply, of an event that is the next: of the kinds [1, 12, 13, 14]. CONTRACT: Apply, of an event that is the next: of the kinds [15, 16, 17, 18]. CONTRACT: Apply. -/
import Derived.Test.YtkedafopdkhnfaaGreatSmA
import Derived.Deep.RegionLaw
import Derived.Deep.CutBlock
import Derived.Test.YtkedafopdkhnfaaGreatSmB
namespace Go.Proofs.YtkedafopdkhnfaaGreat
open Go.Value renaming int → vI, bool → vB, slice → vS
open Go.IntKind renaming i64 → kI
set_option maxHeartbeats 64000000
set_option maxRecDepth 100000
open Go.RowKit
set_option linter.unusedVariables false
set_option linter.unusedSimpArgs false
theorem zRp(ss:List St)(lim st nx bg ak tn:Int)(fr:Bool)(js:List Jb)(cs:List Ck)(cn ov:Bool)(va ua ca:Option Addr)(vc uc cc:Nat)(id kd tk rf sp ty:Int)(ud:Bool)(dt:List UInt8)(w:World)(hr:StR w ⟨ss,lim,st,nx,bg,ak,tn,fr,js,cs,cn,ov⟩ (vS va ss.length vc) (vS ua js.length uc) (vS ca cs.length cc))(hok:SOK ⟨ss,lim,st,nx,bg,ak,tn,fr,js,cs,cn,ov⟩)(hdt:dt.length≤140737488355328)(hkk:10≤kd∧kd≤11)(hP:EvP (id,kd,tk,rf,sp,ty,ud,dt))(hn:¬nx=0)(hs:st=0)(hi:id=nx) :
 Calls Tryz.prog 31 #[.agg #[vS va ss.length vc,vI kI lim,vI kI st,vI kI nx,vI kI bg,vI kI ak,vI kI tn,vB fr,vS ua js.length uc,vS ca cs.length cc,vB cn,vB ov],.agg #[vI kI id,vI kI kd,vI kI tk,vI kI rf,vI kI sp,vI kI ty,vB ud,.string ⟨dt.toArray⟩]] w fun e' w'=>zHv w.heap.size w (zA0 ⟨ss,lim,st,nx,bg,ak,tn,fr,js,cs,cn,ov⟩ (id,kd,tk,rf,sp,ty,ud,dt)) e' w':=by
 obtain⟨⟨hl1,hl2,hl3⟩,hj9,⟨hbg,hlm⟩,hwt,hnx⟩:=hok
 simp only at hl1 hl2 hl3 hj9 hbg hlm hwt hnx
 have htk:0≤tk∧tk≤1099511627776:=hP.2.2.1
 have hkd:1≤kd∧kd≤18:=hP.1
 have hEV:=hid (show evV (id,kd,tk,rf,sp,ty,ud,dt)=0 by unfold evV;rw[if_pos hP])
 have hqn:(nx==0)=false:=by simpa using hn
 have hA1:=hid (fun(hk:zA1 ⟨ss,lim,st,nx,bg,ak,tn,fr,js,cs,cn,ov⟩ (id,kd,tk,rf,sp,ty,ud,dt)=none)=>(show zA0 ⟨ss,lim,st,nx,bg,ak,tn,fr,js,cs,cn,ov⟩ (id,kd,tk,rf,sp,ty,ud,dt)=(s0,120) by
  unfold zA0
  rw[if_neg (not_not_intro hP),if_neg (show ¬(⟨ss,lim,st,nx,bg,ak,tn,fr,js,cs,cn,ov⟩:Sta).next=0 from hn),if_neg (not_not_intro (show(⟨ss,lim,st,nx,bg,ak,tn,fr,js,cs,cn,ov⟩:Sta).status=0 from hs)),if_neg (not_not_intro (show Ev.id (id,kd,tk,rf,sp,ty,ud,dt)=(⟨ss,lim,st,nx,bg,ak,tn,fr,js,cs,cn,ov⟩:Sta).next from hi)),hk]))
 have hA2:=hid (fun(t:Sta) (hk:zA1 ⟨ss,lim,st,nx,bg,ak,tn,fr,js,cs,cn,ov⟩ (id,kd,tk,rf,sp,ty,ud,dt)=some t)=>(show zA0 ⟨ss,lim,st,nx,bg,ak,tn,fr,js,cs,cn,ov⟩ (id,kd,tk,rf,sp,ty,ud,dt)=({ t with next:=nx+1 },0) by
  unfold zA0
  rw[if_neg (not_not_intro hP),if_neg (show ¬(⟨ss,lim,st,nx,bg,ak,tn,fr,js,cs,cn,ov⟩:Sta).next=0 from hn),if_neg (not_not_intro (show(⟨ss,lim,st,nx,bg,ak,tn,fr,js,cs,cn,ov⟩:Sta).status=0 from hs)),if_neg (not_not_intro (show Ev.id (id,kd,tk,rf,sp,ty,ud,dt)=(⟨ss,lim,st,nx,bg,ak,tn,fr,js,cs,cn,ov⟩:Sta).next from hi)),hk]))
 clear hP hn
 subst hs
 subst hi
 obtain⟨W,hW,hS,hE,hR,bW,sW⟩:=lay3 w #[vS va ss.length vc,vI kI lim,vI kI 0,vI kI id,vI kI bg,vI kI ak,vI kI tn,vB fr,vS ua js.length uc,vS ca cs.length cc,vB cn,vB ov] #[vI kI id,vI kI kd,vI kI tk,vI kI rf,vI kI sp,vI kI ty,vB ud,.string ⟨dt.toArray⟩] #[vS none 0 0,vI kI 0,vI kI 0,vI kI 0,vI kI 0,vI kI 0,vI kI 0,vB false,vS none 0 0,vS none 0 0,vB false,vB false] 59 52 59
 have ht:T3 w.heap.size w W w.heap.size #[vS va ss.length vc,vI kI lim,vI kI 0,vI kI id,vI kI bg,vI kI ak,vI kI tn,vB fr,vS ua js.length uc,vS ca cs.length cc,vB cn,vB ov] #[vI kI id,vI kI kd,vI kI tk,vI kI rf,vI kI sp,vI kI ty,vB ud,.string ⟨dt.toArray⟩] #[vS none 0 0,vI kI 0,vI kI 0,vI kI 0,vI kI 0,vI kI 0,vI kI 0,vB false,vS none 0 0,vS none 0 0,vB false,vB false] 59 52:=⟨hS,hE,hR,BK.of (Nat.le_refl _) bW,by omega⟩
 have HW:=hid hW
 clear hW hS hE hR sW bW
 go_enter Tryz.func31,Tryz.ntmps31
 go_wp2_with fail
 rw[← HW.out]
 clear HW
 refine(zBx id kd tk rf sp ty ud dt hdt W).mono ?_
 rintro _ w1 ⟨rfl,b1⟩
 rw[hEV.out]
 have ht1:=ht.below b1
 clear ht b1
 obtain⟨-,-,x2,x3,-,-,-,-,x8,x9,-⟩:=cA (ht1).hX
 obtain⟨-,-,-,-,-,-,-,-,xz8,xz9,-⟩:=fA (ht1).hX
 have y0:w1.cell? ⟨w.heap.size+1,0,none⟩=some (vI kI id):=(ht1).y rfl
 have hr0:=hr
 have hr1:=hr.below (ht1.hb.below)
 have hbs:=ht1.hs
 have hX1:=ht1.hX
 clear hr
 go_upto_region 12 with (fail)
 go_cut [2,3,4,5] (fun s2 s3 s4 s5 wx=>s2=.pointer (some ⟨w.heap.size,0,none⟩)∧s3=.pointer (some ⟨w.heap.size+1,0,none⟩)∧s4=.pointer (some ⟨w.heap.size+1+1,0,none⟩)∧s5=vI kI 0∧∃(a1 a2:Option Addr) (c1 c2:Nat),T3 w.heap.size w wx w.heap.size #[vS va ss.length vc,vI kI lim,vI kI 0,vI kI id,vI kI bg,vI kI ak,vI kI tn,vB fr,vS a1 js.length c1,vS a2 cs.length c2,vB cn,vB ov] #[vI kI id,vI kI kd,vI kI tk,vI kI rf,vI kI sp,vI kI ty,vB ud,.string ⟨dt.toArray⟩] #[vS none 0 0,vI kI 0,vI kI 0,vI kI 0,vI kI 0,vI kI 0,vI kI 0,vB false,vS none 0 0,vS none 0 0,vB false,vB false] 59 52 ∧ wx.ownsRow w.heap.size 100 4 (vS a1 js.length c1) js.length (js.flatMap jbC)∧wx.ownsRow w.heap.size 103 3 (vS a2 cs.length c2) cs.length (cs.flatMap ckC))
 case first =>
  go_region_law (first
   | (go_simp;go_at_call 39;refine(zDm ua uc js hl2 _ (by first | exact StR.hj (by assumption) | exact Sl.below (StR.hj (by assumption)) (zAa _ _ 1))).mono ?_;rintro _ wz ⟨q1,q2,rfl,own0,bz0⟩;have htz:=T3.below (by assumption) (by first | exact bz0 | exact zAb (n:=1) bz0);have hrz:=StR.below (by assumption) (by first | exact bz0 | exact zAb (n:=1) bz0);have hoj:=zAw own0 (by first | exact hbs | exact T3.hs (by assumption));(try (have hoc:=zAf hoc (by first | exact bz0 | exact zAb (n:=1) bz0)));obtain⟨-,-,-,-,-,-,-,-,x8,x9,-⟩:=cA (htz).hX;obtain⟨-,-,-,-,-,-,-,-,xz8,xz9,-⟩:=fA (htz).hX)
   | (go_simp;go_at_call 40;refine(zDl ca cc cs hl3 _ (by first | exact StR.hc (by assumption) | exact Sl.below (StR.hc (by assumption)) (zAa _ _ 1))).mono ?_;rintro _ wz ⟨q1,q2,rfl,own0,bz0⟩;have htz:=T3.below (by assumption) (by first | exact bz0 | exact zAb (n:=1) bz0);have hrz:=StR.below (by assumption) (by first | exact bz0 | exact zAb (n:=1) bz0);have hoc:=zAw own0 (by first | exact hbs | exact T3.hs (by assumption));(try (have hoj:=zAf hoj (by first | exact bz0 | exact zAb (n:=1) bz0)));obtain⟨-,-,-,-,-,-,-,-,x8,x9,-⟩:=cA (htz).hX;obtain⟨-,-,-,-,-,-,-,-,xz8,xz9,-⟩:=fA (htz).hX))
  all_goals first
   | (go_wp2_with fail;go_meet;exact⟨rfl,rfl,rfl,rfl,_,_,_,_,T3.set (T3.set (by assumption) (Nat.le_refl _) 8 _) (Nat.le_refl _) 9 _,zAh hoj (T3.hX (by assumption)) (by decide) (((At.refl _ _).set 8 _).set 9 _),zAh hoc (T3.hX (by assumption)) (by decide) (((At.refl _ _).set 8 _).set 9 _)⟩)
   | (go_wp2_with fail;go_meet;exact⟨rfl,rfl,rfl,rfl,_,_,_,_,T3.set (T3.set (by assumption) (Nat.le_refl _) 9 _) (Nat.le_refl _) 8 _,zAh hoj (T3.hX (by assumption)) (by decide) (((At.refl _ _).set 9 _).set 8 _),zAh hoc (T3.hX (by assumption)) (by decide) (((At.refl _ _).set 9 _).set 8 _)⟩)
 case rest =>
  obtain⟨rfl,rfl,rfl,rfl,a1,a2,c1,c2,ht2,hoj,hoc⟩:=hcut
  clear x2 x3 x8 x9 xz8 xz9 y0 ht1 hX1
  have hrs:=hr0.hs.below ht2.hb.below
  have x0:wc.cell? ⟨w.heap.size,0,none⟩=some (vS va ss.length vc):=(ht2).x rfl
  go_wp2_with fail
  refine(zDn va vc ss hl1 wc hrs).mono ?_
  rintro _ w3 ⟨a3,c3,rfl,hos,b3⟩
  have hos3:=zAw hos ht2.hs
  have ht3:=ht2.below b3
  have hoj3:=zAf hoj b3
  have hoc3:=zAf hoc b3
  clear hos ht2 hoj hoc b3 x0 hrs
  have x0:w3.cell? ⟨w.heap.size,0,none⟩=some (vS va ss.length vc):=(ht3).x rfl
  have xz0:=(ht3).fx 0
  have ht4:=ht3.set (Nat.le_refl _) 0 (vS a3 ss.length c3)
  have aw:At w.heap.size w3 (w3.setCell ⟨w.heap.size,0,none⟩ (vS a3 ss.length c3)):=(At.refl _ w3).set 0 _
  have hO4:StO (w3.setCell ⟨w.heap.size,0,none⟩ (vS a3 ss.length c3)) w.heap.size ⟨ss,lim,0,id,bg,ak,tn,fr,js,cs,cn,ov⟩ (vS a3 ss.length c3) (vS a1 js.length c1) (vS a2 cs.length c2):=⟨zAh hos3 ht3.hX (by decide) aw,zAh hoj3 ht3.hX (by decide) aw,zAh hoc3 ht3.hX (by decide) aw⟩
  go_upto_region 14 with (fail)
  obtain⟨w4,hw4⟩:∃x,x=w3.setCell ⟨w.heap.size,0,none⟩ (vS a3 ss.length c3):=⟨_,rfl⟩
  rw[← hw4] at ht4 hO4 ⊢
  clear hw4 aw hos3 hoj3 hoc3 ht3 x0 xz0
  have y1:w4.cell? ⟨w.heap.size+1,1,none⟩=some (vI kI kd):=(ht4).y rfl
  go_upto_block 0 with (fail)
  go_cut [2,3,4,5,8] (fun s2 s3 s4 s5 s8 wx=>s2=.pointer (some ⟨w.heap.size,0,none⟩)∧s3=.pointer (some ⟨w.heap.size+1,0,none⟩)∧s4=.pointer (some ⟨w.heap.size+1+1,0,none⟩)∧s5=vI kI 0∧AftP w ⟨ss,lim,0,id,bg,ak,tn,fr,js,cs,cn,ov⟩ (id,kd,tk,rf,sp,ty,ud,dt) #[vI kI id,vI kI kd,vI kI tk,vI kI rf,vI kI sp,vI kI ty,vB ud,.string ⟨dt.toArray⟩] s8 wx)
  case first =>
   obtain⟨x0,x1,x2,x3,x4,x5,x6,x7,x8,x9,x10,x11⟩:=cA (ht4).hX
   obtain⟨y0,-,y2,y3,y4,y5,y6,y7⟩:=cA (ht4).hY
   rcases(by omega:kd=10∨kd=11) with hk | hk
   ·
    have hk9:zA1 ⟨ss,lim,0,id,bg,ak,tn,fr,js,cs,cn,ov⟩ (id,kd,tk,rf,sp,ty,ud,dt)=zDb ⟨ss,lim,0,id,bg,ak,tn,fr,js,cs,cn,ov⟩ (id,kd,tk,rf,sp,ty,ud,dt):=by unfold zA1;simp only[Ev.kd];rw[if_neg (by omega),if_neg (by omega),if_pos (by omega)]
    have q2:(kd==2)=false:=by rw[hk];rfl
    have q3:(kd==3)=false:=by rw[hk];rfl
    have q4:(kd==4)=false:=by rw[hk];rfl
    have q5:(kd==5)=false:=by rw[hk];rfl
    have q6:(kd==6)=false:=by rw[hk];rfl
    have q7:(kd==7)=false:=by rw[hk];rfl
    have q8:(kd==8)=false:=by rw[hk];rfl
    have q9:(kd==9)=false:=by rw[hk];rfl
    have q10:(kd==10)=true:=by rw[hk];rfl
    have q11:(kd==11)=false:=by rw[hk];rfl
    have HKD:=hid hk
    clear hk
    have HK9:=hid hk9
    clear hk9
    go_wp2_with fail
    refine(zLz ss lim 0 id bg ak tn fr js cs cn ov a3 a1 a2 c3 c1 c2 id kd tk rf sp ty ud dt w.heap.size w4 ht4.hs hO4 hl3 htk hwt HKD.out).mono ?_
    rintro e' w5 ⟨hbk,hm⟩
    rw[← HK9.out] at hm
    clear HK9
    cases hR:zA1 ⟨ss,lim,0,id,bg,ak,tn,fr,js,cs,cn,ov⟩ (id,kd,tk,rf,sp,ty,ud,dt) with
    | none =>
      rw[hR] at hm
      simp only at hm
      have HR:=hid hR
      clear hR hO4
      obtain⟨s9,vv,uu,cc9,n1,n2,n3,k1,k2,k3,rfl⟩:=hm
      rw[stvE]
      have ht5:=ht4.keep hbk (by decide)
      clear x0 x1 x2 x3 x4 x5 x6 x7 x8 x9 x10 x11 y0 y1 y2 y3 y4 y5 y6 y7
      obtain⟨x0,x1,x2,x3,x4,x5,x6,x7,x8,x9,x10,x11⟩:=cA (ht5).hX
      obtain⟨xz0,xz1,xz2,xz3,xz4,xz5,xz6,xz7,xz8,xz9,xz10,xz11⟩:=fA (ht5).hX
      have HP12:=hid (ht5.put12 (Nat.le_refl _) (Nat.le_refl _) (vS vv n1 k1) (vI kI s9.lim) (vI kI s9.status) (vI kI s9.next) (vI kI s9.began) (vI kI s9.asked) (vI kI s9.taken) (vB s9.fresh) (vS uu n2 k2) (vS cc9 n3 k3) (vB s9.cancel) (vB s9.overdue))
      clear ht4 ht5 hbk
      go_wp2_with fail
      go_meet
      exact⟨rfl,rfl,rfl,rfl,.no HR.out HP12.out⟩
    | some t =>
      rw[hR] at hm
      simp only at hm
      have HR:=hid hR
      clear hR hO4
      obtain⟨vv,uu,cc9,k1,k2,k3,rfl,hO5⟩:=hm
      rw[stvE]
      have ht5:=ht4.keep hbk (by decide)
      clear x0 x1 x2 x3 x4 x5 x6 x7 x8 x9 x10 x11 y0 y1 y2 y3 y4 y5 y6 y7
      obtain⟨x0,x1,x2,x3,x4,x5,x6,x7,x8,x9,x10,x11⟩:=cA (ht5).hX
      obtain⟨xz0,xz1,xz2,xz3,xz4,xz5,xz6,xz7,xz8,xz9,xz10,xz11⟩:=fA (ht5).hX
      have HP12:=hid (ht5.put12 (Nat.le_refl _) (Nat.le_refl _) (vS vv t.ss.length k1) (vI kI t.lim) (vI kI t.status) (vI kI t.next) (vI kI t.began) (vI kI t.asked) (vI kI t.taken) (vB t.fresh) (vS uu t.jobs.length k2) (vS cc9 t.clocks.length k3) (vB t.cancel) (vB t.overdue))
      have HO5:=hid (hO5.at ht5.hX (by decide) (((((((((((((At.refl w.heap.size w5).set 0 (vS vv t.ss.length k1)).set 1 (vI kI t.lim)).set 2 (vI kI t.status)).set 3 (vI kI t.next)).set 4 (vI kI t.began)).set 5 (vI kI t.asked)).set 6 (vI kI t.taken)).set 7 (vB t.fresh)).set 8 (vS uu t.jobs.length k2)).set 9 (vS cc9 t.clocks.length k3)).set 10 (vB t.cancel)).set 11 (vB t.overdue)))
      clear ht4 ht5 hbk hO5
      go_wp2_with fail
      go_meet
      exact⟨rfl,rfl,rfl,rfl,.yes HR.out HP12.out HO5.out⟩
   ·
    have hk9:zA1 ⟨ss,lim,0,id,bg,ak,tn,fr,js,cs,cn,ov⟩ (id,kd,tk,rf,sp,ty,ud,dt)=zDb ⟨ss,lim,0,id,bg,ak,tn,fr,js,cs,cn,ov⟩ (id,kd,tk,rf,sp,ty,ud,dt):=by unfold zA1;simp only[Ev.kd];rw[if_neg (by omega),if_neg (by omega),if_pos (by omega)]
    have q2:(kd==2)=false:=by rw[hk];rfl
    have q3:(kd==3)=false:=by rw[hk];rfl
    have q4:(kd==4)=false:=by rw[hk];rfl
    have q5:(kd==5)=false:=by rw[hk];rfl
    have q6:(kd==6)=false:=by rw[hk];rfl
    have q7:(kd==7)=false:=by rw[hk];rfl
    have q8:(kd==8)=false:=by rw[hk];rfl
    have q9:(kd==9)=false:=by rw[hk];rfl
    have q10:(kd==10)=false:=by rw[hk];rfl
    have q11:(kd==11)=true:=by rw[hk];rfl
    have HKD:=hid hk
    clear hk
    have HK9:=hid hk9
    clear hk9
    go_wp2_with fail
    refine(zL0 ss lim 0 id bg ak tn fr js cs cn ov a3 a1 a2 c3 c1 c2 id kd tk rf sp ty ud dt w.heap.size w4 ht4.hs hO4 hl3 htk hwt HKD.out).mono ?_
    rintro e' w5 ⟨hbk,hm⟩
    rw[← HK9.out] at hm
    clear HK9
    cases hR:zA1 ⟨ss,lim,0,id,bg,ak,tn,fr,js,cs,cn,ov⟩ (id,kd,tk,rf,sp,ty,ud,dt) with
    | none =>
      rw[hR] at hm
      simp only at hm
      have HR:=hid hR
      clear hR hO4
      obtain⟨s9,vv,uu,cc9,n1,n2,n3,k1,k2,k3,rfl⟩:=hm
      rw[stvE]
      have ht5:=ht4.keep hbk (by decide)
      clear x0 x1 x2 x3 x4 x5 x6 x7 x8 x9 x10 x11 y0 y1 y2 y3 y4 y5 y6 y7
      obtain⟨x0,x1,x2,x3,x4,x5,x6,x7,x8,x9,x10,x11⟩:=cA (ht5).hX
      obtain⟨xz0,xz1,xz2,xz3,xz4,xz5,xz6,xz7,xz8,xz9,xz10,xz11⟩:=fA (ht5).hX
      have HP12:=hid (ht5.put12 (Nat.le_refl _) (Nat.le_refl _) (vS vv n1 k1) (vI kI s9.lim) (vI kI s9.status) (vI kI s9.next) (vI kI s9.began) (vI kI s9.asked) (vI kI s9.taken) (vB s9.fresh) (vS uu n2 k2) (vS cc9 n3 k3) (vB s9.cancel) (vB s9.overdue))
      clear ht4 ht5 hbk
      go_wp2_with fail
      go_meet
      exact⟨rfl,rfl,rfl,rfl,.no HR.out HP12.out⟩
    | some t =>
      rw[hR] at hm
      simp only at hm
      have HR:=hid hR
      clear hR hO4
      obtain⟨vv,uu,cc9,k1,k2,k3,rfl,hO5⟩:=hm
      rw[stvE]
      have ht5:=ht4.keep hbk (by decide)
      clear x0 x1 x2 x3 x4 x5 x6 x7 x8 x9 x10 x11 y0 y1 y2 y3 y4 y5 y6 y7
      obtain⟨x0,x1,x2,x3,x4,x5,x6,x7,x8,x9,x10,x11⟩:=cA (ht5).hX
      obtain⟨xz0,xz1,xz2,xz3,xz4,xz5,xz6,xz7,xz8,xz9,xz10,xz11⟩:=fA (ht5).hX
      have HP12:=hid (ht5.put12 (Nat.le_refl _) (Nat.le_refl _) (vS vv t.ss.length k1) (vI kI t.lim) (vI kI t.status) (vI kI t.next) (vI kI t.began) (vI kI t.asked) (vI kI t.taken) (vB t.fresh) (vS uu t.jobs.length k2) (vS cc9 t.clocks.length k3) (vB t.cancel) (vB t.overdue))
      have HO5:=hid (hO5.at ht5.hX (by decide) (((((((((((((At.refl w.heap.size w5).set 0 (vS vv t.ss.length k1)).set 1 (vI kI t.lim)).set 2 (vI kI t.status)).set 3 (vI kI t.next)).set 4 (vI kI t.began)).set 5 (vI kI t.asked)).set 6 (vI kI t.taken)).set 7 (vB t.fresh)).set 8 (vS uu t.jobs.length k2)).set 9 (vS cc9 t.clocks.length k3)).set 10 (vB t.cancel)).set 11 (vB t.overdue)))
      clear ht4 ht5 hbk hO5
      go_wp2_with fail
      go_meet
      exact⟨rfl,rfl,rfl,rfl,.yes HR.out HP12.out HO5.out⟩
  case rest =>
   obtain⟨rfl,rfl,rfl,rfl,hcut⟩:=hcut
   rcases hcut with ⟨hR,rfl,X',ht5⟩ | ⟨t,vv,uu,cc9,k1,k2,k3,hR,rfl,ht5,hO5⟩
   · have HA:=hid (hA1.out hR)
     clear hR hA1 hA2 y1
     obtain⟨z0,z1,z2,z3,z4,z5,z6,z7,z8,z9,z10,z11⟩:=cA (ht5).hZ
     obtain⟨zf0,zf1,zf2,zf3,zf4,zf5,zf6,zf7,zf8,zf9,zf10,zf11⟩:=fA (ht5).hZ
     have HB:=hid ((ht5).hb.at (((((((((((((At.refl (w.heap.size+1+1) wc).set 0 (vS none 0 0)).set 1 (vI kI 0)).set 2 (vI kI 0)).set 3 (vI kI 0)).set 4 (vI kI 0)).set 5 (vI kI 0)).set 6 (vI kI 0)).set 7 (vB false)).set 8 (vS none 0 0)).set 9 (vS none 0 0)).set 10 (vB false)).set 11 (vB false)) (ht5).hs (Nat.le_refl _) (by omega)).below
     go_wp2_with fail
     refine bodyPost_ret (v:=.tuple #[.agg #[vS none 0 0,vI kI 0,vI kI 0,vI kI 0,vI kI 0,vI kI 0,vI kI 0,vB false,vS none 0 0,vS none 0 0,vB false,vB false],vI kI 120]) ?_ rfl (by rw[HA.out];exact⟨HB.out,none,none,none,0,0,0,rfl,StO.none _ _ s0 rfl rfl rfl⟩)
     rw[results_cell_tmp rfl]
     go_simp
   · clear y1
     have hnext:t.next=id:=zEg hR
     have HA:=hid (hA2.out t hR)
     have x3:wc.cell? ⟨w.heap.size,3,none⟩=some (vI kI id):=by
      have:=ht5.x (j:=3) (v:=vI kI t.next) rfl
      rw[hnext] at this
      exact this
     have xz3:=(ht5).fx 3
     have a6:At w.heap.size wc (wc.setCell ⟨w.heap.size,3,none⟩ (vI kI (id+1))):=(At.refl _ wc).set 3 _
     have hO6:=hO5.at ht5.hX (by decide) a6
     have ht6:T3 w.heap.size w (wc.setCell ⟨w.heap.size,3,none⟩ (vI kI (id+1))) w.heap.size #[vS vv t.ss.length k1,vI kI t.lim,vI kI t.status,vI kI (id+1),vI kI t.began,vI kI t.asked,vI kI t.taken,vB t.fresh,vS uu t.jobs.length k2,vS cc9 t.clocks.length k3,vB t.cancel,vB t.overdue] #[vI kI id,vI kI kd,vI kI tk,vI kI rf,vI kI sp,vI kI ty,vB ud,.string ⟨dt.toArray⟩] #[vS none 0 0,vI kI 0,vI kI 0,vI kI 0,vI kI 0,vI kI 0,vI kI 0,vB false,vS none 0 0,vS none 0 0,vB false,vB false] 59 52:=(ht5.set (Nat.le_refl _) 3 (vI kI (id+1))).row (by kernel_rfl)
     clear hR hnext hA1 hA2
     obtain⟨w0x,w1x,w2x,w3x,w4x,w5x,w6x,w7x,w8x,w9x,w10x,w11x⟩:=cA (ht6).hX
     obtain⟨z0,z1,z2,z3,z4,z5,z6,z7,z8,z9,z10,z11⟩:=cA (ht6).hZ
     obtain⟨zf0,zf1,zf2,zf3,zf4,zf5,zf6,zf7,zf8,zf9,zf10,zf11⟩:=fA (ht6).hZ
     have HB:=hid (ht6.hb.at (((((((((((((At.refl (w.heap.size+1+1) (wc.setCell ⟨w.heap.size,3,none⟩ (vI kI (id+1)))).set 0 (vS vv t.ss.length k1)).set 1 (vI kI t.lim)).set 2 (vI kI t.status)).set 3 (vI kI (id+1))).set 4 (vI kI t.began)).set 5 (vI kI t.asked)).set 6 (vI kI t.taken)).set 7 (vB t.fresh)).set 8 (vS uu t.jobs.length k2)).set 9 (vS cc9 t.clocks.length k3)).set 10 (vB t.cancel)).set 11 (vB t.overdue)) ht6.hs (Nat.le_refl _) (by omega)).below
     have HO:=hid ((hO6.at ht6.hZ (by decide) (((((((((((((At.refl (w.heap.size+1+1) (wc.setCell ⟨w.heap.size,3,none⟩ (vI kI (id+1)))).set 0 (vS vv t.ss.length k1)).set 1 (vI kI t.lim)).set 2 (vI kI t.status)).set 3 (vI kI (id+1))).set 4 (vI kI t.began)).set 5 (vI kI t.asked)).set 6 (vI kI t.taken)).set 7 (vB t.fresh)).set 8 (vS uu t.jobs.length k2)).set 9 (vS cc9 t.clocks.length k3)).set 10 (vB t.cancel)).set 11 (vB t.overdue))).like (s':={ t with next:=id+1 }) rfl rfl rfl)
     clear ht5 ht6 hO5 hO6 a6
     go_wp2_with fail
     refine bodyPost_ret (v:=.tuple #[.agg #[vS vv t.ss.length k1,vI kI t.lim,vI kI t.status,vI kI (id+1),vI kI t.began,vI kI t.asked,vI kI t.taken,vB t.fresh,vS uu t.jobs.length k2,vS cc9 t.clocks.length k3,vB t.cancel,vB t.overdue],vI kI 0]) ?_ rfl (by rw[HA.out];exact⟨HB.out,vv,uu,cc9,k1,k2,k3,rfl,HO.out⟩)
     rw[results_cell_tmp rfl]
     go_simp
theorem zRq(ss:List St)(lim st nx bg ak tn:Int)(fr:Bool)(js:List Jb)(cs:List Ck)(cn ov:Bool)(va ua ca:Option Addr)(vc uc cc:Nat)(id kd tk rf sp ty:Int)(ud:Bool)(dt:List UInt8)(w:World)(hr:StR w ⟨ss,lim,st,nx,bg,ak,tn,fr,js,cs,cn,ov⟩ (vS va ss.length vc) (vS ua js.length uc) (vS ca cs.length cc))(hok:SOK ⟨ss,lim,st,nx,bg,ak,tn,fr,js,cs,cn,ov⟩)(hdt:dt.length≤140737488355328)(hkk:kd=1∨(12≤kd∧kd≤14))(hP:EvP (id,kd,tk,rf,sp,ty,ud,dt))(hn:¬nx=0)(hs:st=0)(hi:id=nx) :
 Calls Tryz.prog 31 #[.agg #[vS va ss.length vc,vI kI lim,vI kI st,vI kI nx,vI kI bg,vI kI ak,vI kI tn,vB fr,vS ua js.length uc,vS ca cs.length cc,vB cn,vB ov],.agg #[vI kI id,vI kI kd,vI kI tk,vI kI rf,vI kI sp,vI kI ty,vB ud,.string ⟨dt.toArray⟩]] w fun e' w'=>zHv w.heap.size w (zA0 ⟨ss,lim,st,nx,bg,ak,tn,fr,js,cs,cn,ov⟩ (id,kd,tk,rf,sp,ty,ud,dt)) e' w':=by
 obtain⟨⟨hl1,hl2,hl3⟩,hj9,⟨hbg,hlm⟩,hwt,hnx⟩:=hok
 simp only at hl1 hl2 hl3 hj9 hbg hlm hwt hnx
 have htk:0≤tk∧tk≤1099511627776:=hP.2.2.1
 have hkd:1≤kd∧kd≤18:=hP.1
 have hEV:=hid (show evV (id,kd,tk,rf,sp,ty,ud,dt)=0 by unfold evV;rw[if_pos hP])
 have hqn:(nx==0)=false:=by simpa using hn
 have hA1:=hid (fun(hk:zA1 ⟨ss,lim,st,nx,bg,ak,tn,fr,js,cs,cn,ov⟩ (id,kd,tk,rf,sp,ty,ud,dt)=none)=>(show zA0 ⟨ss,lim,st,nx,bg,ak,tn,fr,js,cs,cn,ov⟩ (id,kd,tk,rf,sp,ty,ud,dt)=(s0,120) by
  unfold zA0
  rw[if_neg (not_not_intro hP),if_neg (show ¬(⟨ss,lim,st,nx,bg,ak,tn,fr,js,cs,cn,ov⟩:Sta).next=0 from hn),if_neg (not_not_intro (show(⟨ss,lim,st,nx,bg,ak,tn,fr,js,cs,cn,ov⟩:Sta).status=0 from hs)),if_neg (not_not_intro (show Ev.id (id,kd,tk,rf,sp,ty,ud,dt)=(⟨ss,lim,st,nx,bg,ak,tn,fr,js,cs,cn,ov⟩:Sta).next from hi)),hk]))
 have hA2:=hid (fun(t:Sta) (hk:zA1 ⟨ss,lim,st,nx,bg,ak,tn,fr,js,cs,cn,ov⟩ (id,kd,tk,rf,sp,ty,ud,dt)=some t)=>(show zA0 ⟨ss,lim,st,nx,bg,ak,tn,fr,js,cs,cn,ov⟩ (id,kd,tk,rf,sp,ty,ud,dt)=({ t with next:=nx+1 },0) by
  unfold zA0
  rw[if_neg (not_not_intro hP),if_neg (show ¬(⟨ss,lim,st,nx,bg,ak,tn,fr,js,cs,cn,ov⟩:Sta).next=0 from hn),if_neg (not_not_intro (show(⟨ss,lim,st,nx,bg,ak,tn,fr,js,cs,cn,ov⟩:Sta).status=0 from hs)),if_neg (not_not_intro (show Ev.id (id,kd,tk,rf,sp,ty,ud,dt)=(⟨ss,lim,st,nx,bg,ak,tn,fr,js,cs,cn,ov⟩:Sta).next from hi)),hk]))
 clear hP hn
 subst hs
 subst hi
 obtain⟨W,hW,hS,hE,hR,bW,sW⟩:=lay3 w #[vS va ss.length vc,vI kI lim,vI kI 0,vI kI id,vI kI bg,vI kI ak,vI kI tn,vB fr,vS ua js.length uc,vS ca cs.length cc,vB cn,vB ov] #[vI kI id,vI kI kd,vI kI tk,vI kI rf,vI kI sp,vI kI ty,vB ud,.string ⟨dt.toArray⟩] #[vS none 0 0,vI kI 0,vI kI 0,vI kI 0,vI kI 0,vI kI 0,vI kI 0,vB false,vS none 0 0,vS none 0 0,vB false,vB false] 59 52 59
 have ht:T3 w.heap.size w W w.heap.size #[vS va ss.length vc,vI kI lim,vI kI 0,vI kI id,vI kI bg,vI kI ak,vI kI tn,vB fr,vS ua js.length uc,vS ca cs.length cc,vB cn,vB ov] #[vI kI id,vI kI kd,vI kI tk,vI kI rf,vI kI sp,vI kI ty,vB ud,.string ⟨dt.toArray⟩] #[vS none 0 0,vI kI 0,vI kI 0,vI kI 0,vI kI 0,vI kI 0,vI kI 0,vB false,vS none 0 0,vS none 0 0,vB false,vB false] 59 52:=⟨hS,hE,hR,BK.of (Nat.le_refl _) bW,by omega⟩
 have HW:=hid hW
 clear hW hS hE hR sW bW
 go_enter Tryz.func31,Tryz.ntmps31
 go_wp2_with fail
 rw[← HW.out]
 clear HW
 refine(zBx id kd tk rf sp ty ud dt hdt W).mono ?_
 rintro _ w1 ⟨rfl,b1⟩
 rw[hEV.out]
 have ht1:=ht.below b1
 clear ht b1
 obtain⟨-,-,x2,x3,-,-,-,-,x8,x9,-⟩:=cA (ht1).hX
 obtain⟨-,-,-,-,-,-,-,-,xz8,xz9,-⟩:=fA (ht1).hX
 have y0:w1.cell? ⟨w.heap.size+1,0,none⟩=some (vI kI id):=(ht1).y rfl
 have hr0:=hr
 have hr1:=hr.below (ht1.hb.below)
 have hbs:=ht1.hs
 have hX1:=ht1.hX
 clear hr
 go_upto_region 12 with (fail)
 go_cut [2,3,4,5] (fun s2 s3 s4 s5 wx=>s2=.pointer (some ⟨w.heap.size,0,none⟩)∧s3=.pointer (some ⟨w.heap.size+1,0,none⟩)∧s4=.pointer (some ⟨w.heap.size+1+1,0,none⟩)∧s5=vI kI 0∧∃(a1 a2:Option Addr) (c1 c2:Nat),T3 w.heap.size w wx w.heap.size #[vS va ss.length vc,vI kI lim,vI kI 0,vI kI id,vI kI bg,vI kI ak,vI kI tn,vB fr,vS a1 js.length c1,vS a2 cs.length c2,vB cn,vB ov] #[vI kI id,vI kI kd,vI kI tk,vI kI rf,vI kI sp,vI kI ty,vB ud,.string ⟨dt.toArray⟩] #[vS none 0 0,vI kI 0,vI kI 0,vI kI 0,vI kI 0,vI kI 0,vI kI 0,vB false,vS none 0 0,vS none 0 0,vB false,vB false] 59 52 ∧ wx.ownsRow w.heap.size 100 4 (vS a1 js.length c1) js.length (js.flatMap jbC)∧wx.ownsRow w.heap.size 103 3 (vS a2 cs.length c2) cs.length (cs.flatMap ckC))
 case first =>
  go_region_law (first
   | (go_simp;go_at_call 39;refine(zDm ua uc js hl2 _ (by first | exact StR.hj (by assumption) | exact Sl.below (StR.hj (by assumption)) (zAa _ _ 1))).mono ?_;rintro _ wz ⟨q1,q2,rfl,own0,bz0⟩;have htz:=T3.below (by assumption) (by first | exact bz0 | exact zAb (n:=1) bz0);have hrz:=StR.below (by assumption) (by first | exact bz0 | exact zAb (n:=1) bz0);have hoj:=zAw own0 (by first | exact hbs | exact T3.hs (by assumption));(try (have hoc:=zAf hoc (by first | exact bz0 | exact zAb (n:=1) bz0)));obtain⟨-,-,-,-,-,-,-,-,x8,x9,-⟩:=cA (htz).hX;obtain⟨-,-,-,-,-,-,-,-,xz8,xz9,-⟩:=fA (htz).hX)
   | (go_simp;go_at_call 40;refine(zDl ca cc cs hl3 _ (by first | exact StR.hc (by assumption) | exact Sl.below (StR.hc (by assumption)) (zAa _ _ 1))).mono ?_;rintro _ wz ⟨q1,q2,rfl,own0,bz0⟩;have htz:=T3.below (by assumption) (by first | exact bz0 | exact zAb (n:=1) bz0);have hrz:=StR.below (by assumption) (by first | exact bz0 | exact zAb (n:=1) bz0);have hoc:=zAw own0 (by first | exact hbs | exact T3.hs (by assumption));(try (have hoj:=zAf hoj (by first | exact bz0 | exact zAb (n:=1) bz0)));obtain⟨-,-,-,-,-,-,-,-,x8,x9,-⟩:=cA (htz).hX;obtain⟨-,-,-,-,-,-,-,-,xz8,xz9,-⟩:=fA (htz).hX))
  all_goals first
   | (go_wp2_with fail;go_meet;exact⟨rfl,rfl,rfl,rfl,_,_,_,_,T3.set (T3.set (by assumption) (Nat.le_refl _) 8 _) (Nat.le_refl _) 9 _,zAh hoj (T3.hX (by assumption)) (by decide) (((At.refl _ _).set 8 _).set 9 _),zAh hoc (T3.hX (by assumption)) (by decide) (((At.refl _ _).set 8 _).set 9 _)⟩)
   | (go_wp2_with fail;go_meet;exact⟨rfl,rfl,rfl,rfl,_,_,_,_,T3.set (T3.set (by assumption) (Nat.le_refl _) 9 _) (Nat.le_refl _) 8 _,zAh hoj (T3.hX (by assumption)) (by decide) (((At.refl _ _).set 9 _).set 8 _),zAh hoc (T3.hX (by assumption)) (by decide) (((At.refl _ _).set 9 _).set 8 _)⟩)
 case rest =>
  obtain⟨rfl,rfl,rfl,rfl,a1,a2,c1,c2,ht2,hoj,hoc⟩:=hcut
  clear x2 x3 x8 x9 xz8 xz9 y0 ht1 hX1
  have hrs:=hr0.hs.below ht2.hb.below
  have x0:wc.cell? ⟨w.heap.size,0,none⟩=some (vS va ss.length vc):=(ht2).x rfl
  go_wp2_with fail
  refine(zDn va vc ss hl1 wc hrs).mono ?_
  rintro _ w3 ⟨a3,c3,rfl,hos,b3⟩
  have hos3:=zAw hos ht2.hs
  have ht3:=ht2.below b3
  have hoj3:=zAf hoj b3
  have hoc3:=zAf hoc b3
  clear hos ht2 hoj hoc b3 x0 hrs
  have x0:w3.cell? ⟨w.heap.size,0,none⟩=some (vS va ss.length vc):=(ht3).x rfl
  have xz0:=(ht3).fx 0
  have ht4:=ht3.set (Nat.le_refl _) 0 (vS a3 ss.length c3)
  have aw:At w.heap.size w3 (w3.setCell ⟨w.heap.size,0,none⟩ (vS a3 ss.length c3)):=(At.refl _ w3).set 0 _
  have hO4:StO (w3.setCell ⟨w.heap.size,0,none⟩ (vS a3 ss.length c3)) w.heap.size ⟨ss,lim,0,id,bg,ak,tn,fr,js,cs,cn,ov⟩ (vS a3 ss.length c3) (vS a1 js.length c1) (vS a2 cs.length c2):=⟨zAh hos3 ht3.hX (by decide) aw,zAh hoj3 ht3.hX (by decide) aw,zAh hoc3 ht3.hX (by decide) aw⟩
  go_upto_region 14 with (fail)
  obtain⟨w4,hw4⟩:∃x,x=w3.setCell ⟨w.heap.size,0,none⟩ (vS a3 ss.length c3):=⟨_,rfl⟩
  rw[← hw4] at ht4 hO4 ⊢
  clear hw4 aw hos3 hoj3 hoc3 ht3 x0 xz0
  have y1:w4.cell? ⟨w.heap.size+1,1,none⟩=some (vI kI kd):=(ht4).y rfl
  go_upto_block 0 with (fail)
  go_cut [2,3,4,5,8] (fun s2 s3 s4 s5 s8 wx=>s2=.pointer (some ⟨w.heap.size,0,none⟩)∧s3=.pointer (some ⟨w.heap.size+1,0,none⟩)∧s4=.pointer (some ⟨w.heap.size+1+1,0,none⟩)∧s5=vI kI 0∧AftP w ⟨ss,lim,0,id,bg,ak,tn,fr,js,cs,cn,ov⟩ (id,kd,tk,rf,sp,ty,ud,dt) #[vI kI id,vI kI kd,vI kI tk,vI kI rf,vI kI sp,vI kI ty,vB ud,.string ⟨dt.toArray⟩] s8 wx)
  case first =>
   obtain⟨x0,x1,x2,x3,x4,x5,x6,x7,x8,x9,x10,x11⟩:=cA (ht4).hX
   obtain⟨y0,-,y2,y3,y4,y5,y6,y7⟩:=cA (ht4).hY
   rcases(by omega:kd=1∨kd=12∨kd=13∨kd=14) with hk | hk | hk | hk
   ·
    have hk9:zA1 ⟨ss,lim,0,id,bg,ak,tn,fr,js,cs,cn,ov⟩ (id,kd,tk,rf,sp,ty,ud,dt)=zBw ⟨ss,lim,0,id,bg,ak,tn,fr,js,cs,cn,ov⟩ (id,kd,tk,rf,sp,ty,ud,dt):=by unfold zA1;simp only[Ev.kd];rw[if_neg (by omega),if_neg (by omega),if_neg (by omega)]
    have q2:(kd==2)=false:=by rw[hk];rfl
    have q3:(kd==3)=false:=by rw[hk];rfl
    have q4:(kd==4)=false:=by rw[hk];rfl
    have q5:(kd==5)=false:=by rw[hk];rfl
    have q6:(kd==6)=false:=by rw[hk];rfl
    have q7:(kd==7)=false:=by rw[hk];rfl
    have q8:(kd==8)=false:=by rw[hk];rfl
    have q9:(kd==9)=false:=by rw[hk];rfl
    have q10:(kd==10)=false:=by rw[hk];rfl
    have q11:(kd==11)=false:=by rw[hk];rfl
    have HKD:=hid hk
    clear hk
    have HK9:=hid hk9
    clear hk9
    go_wp2_with fail
    refine(zNt ss lim 0 id bg ak tn fr js cs cn ov a3 a1 a2 c3 c1 c2 id kd tk rf sp ty ud dt w.heap.size w4 ht4.hs hO4 ⟨hbg,hlm⟩ (by have:=HKD.out;omega)).mono ?_
    rintro e' w5 ⟨hbk,hm⟩
    rw[← HK9.out] at hm
    clear HK9
    cases hR:zA1 ⟨ss,lim,0,id,bg,ak,tn,fr,js,cs,cn,ov⟩ (id,kd,tk,rf,sp,ty,ud,dt) with
    | none =>
      rw[hR] at hm
      simp only at hm
      have HR:=hid hR
      clear hR hO4
      obtain⟨s9,vv,uu,cc9,n1,n2,n3,k1,k2,k3,rfl⟩:=hm
      rw[stvE]
      have ht5:=ht4.keep hbk (by decide)
      clear x0 x1 x2 x3 x4 x5 x6 x7 x8 x9 x10 x11 y0 y1 y2 y3 y4 y5 y6 y7
      obtain⟨x0,x1,x2,x3,x4,x5,x6,x7,x8,x9,x10,x11⟩:=cA (ht5).hX
      obtain⟨xz0,xz1,xz2,xz3,xz4,xz5,xz6,xz7,xz8,xz9,xz10,xz11⟩:=fA (ht5).hX
      have HP12:=hid (ht5.put12 (Nat.le_refl _) (Nat.le_refl _) (vS vv n1 k1) (vI kI s9.lim) (vI kI s9.status) (vI kI s9.next) (vI kI s9.began) (vI kI s9.asked) (vI kI s9.taken) (vB s9.fresh) (vS uu n2 k2) (vS cc9 n3 k3) (vB s9.cancel) (vB s9.overdue))
      clear ht4 ht5 hbk
      go_wp2_with fail
      go_meet
      exact⟨rfl,rfl,rfl,rfl,.no HR.out HP12.out⟩
    | some t =>
      rw[hR] at hm
      simp only at hm
      have HR:=hid hR
      clear hR hO4
      obtain⟨vv,uu,cc9,k1,k2,k3,rfl,hO5⟩:=hm
      rw[stvE]
      have ht5:=ht4.keep hbk (by decide)
      clear x0 x1 x2 x3 x4 x5 x6 x7 x8 x9 x10 x11 y0 y1 y2 y3 y4 y5 y6 y7
      obtain⟨x0,x1,x2,x3,x4,x5,x6,x7,x8,x9,x10,x11⟩:=cA (ht5).hX
      obtain⟨xz0,xz1,xz2,xz3,xz4,xz5,xz6,xz7,xz8,xz9,xz10,xz11⟩:=fA (ht5).hX
      have HP12:=hid (ht5.put12 (Nat.le_refl _) (Nat.le_refl _) (vS vv t.ss.length k1) (vI kI t.lim) (vI kI t.status) (vI kI t.next) (vI kI t.began) (vI kI t.asked) (vI kI t.taken) (vB t.fresh) (vS uu t.jobs.length k2) (vS cc9 t.clocks.length k3) (vB t.cancel) (vB t.overdue))
      have HO5:=hid (hO5.at ht5.hX (by decide) (((((((((((((At.refl w.heap.size w5).set 0 (vS vv t.ss.length k1)).set 1 (vI kI t.lim)).set 2 (vI kI t.status)).set 3 (vI kI t.next)).set 4 (vI kI t.began)).set 5 (vI kI t.asked)).set 6 (vI kI t.taken)).set 7 (vB t.fresh)).set 8 (vS uu t.jobs.length k2)).set 9 (vS cc9 t.clocks.length k3)).set 10 (vB t.cancel)).set 11 (vB t.overdue)))
      clear ht4 ht5 hbk hO5
      go_wp2_with fail
      go_meet
      exact⟨rfl,rfl,rfl,rfl,.yes HR.out HP12.out HO5.out⟩
   ·
    have hk9:zA1 ⟨ss,lim,0,id,bg,ak,tn,fr,js,cs,cn,ov⟩ (id,kd,tk,rf,sp,ty,ud,dt)=zBw ⟨ss,lim,0,id,bg,ak,tn,fr,js,cs,cn,ov⟩ (id,kd,tk,rf,sp,ty,ud,dt):=by unfold zA1;simp only[Ev.kd];rw[if_neg (by omega),if_neg (by omega),if_neg (by omega)]
    have q2:(kd==2)=false:=by rw[hk];rfl
    have q3:(kd==3)=false:=by rw[hk];rfl
    have q4:(kd==4)=false:=by rw[hk];rfl
    have q5:(kd==5)=false:=by rw[hk];rfl
    have q6:(kd==6)=false:=by rw[hk];rfl
    have q7:(kd==7)=false:=by rw[hk];rfl
    have q8:(kd==8)=false:=by rw[hk];rfl
    have q9:(kd==9)=false:=by rw[hk];rfl
    have q10:(kd==10)=false:=by rw[hk];rfl
    have q11:(kd==11)=false:=by rw[hk];rfl
    have HKD:=hid hk
    clear hk
    have HK9:=hid hk9
    clear hk9
    go_wp2_with fail
    refine(zNt ss lim 0 id bg ak tn fr js cs cn ov a3 a1 a2 c3 c1 c2 id kd tk rf sp ty ud dt w.heap.size w4 ht4.hs hO4 ⟨hbg,hlm⟩ (by have:=HKD.out;omega)).mono ?_
    rintro e' w5 ⟨hbk,hm⟩
    rw[← HK9.out] at hm
    clear HK9
    cases hR:zA1 ⟨ss,lim,0,id,bg,ak,tn,fr,js,cs,cn,ov⟩ (id,kd,tk,rf,sp,ty,ud,dt) with
    | none =>
      rw[hR] at hm
      simp only at hm
      have HR:=hid hR
      clear hR hO4
      obtain⟨s9,vv,uu,cc9,n1,n2,n3,k1,k2,k3,rfl⟩:=hm
      rw[stvE]
      have ht5:=ht4.keep hbk (by decide)
      clear x0 x1 x2 x3 x4 x5 x6 x7 x8 x9 x10 x11 y0 y1 y2 y3 y4 y5 y6 y7
      obtain⟨x0,x1,x2,x3,x4,x5,x6,x7,x8,x9,x10,x11⟩:=cA (ht5).hX
      obtain⟨xz0,xz1,xz2,xz3,xz4,xz5,xz6,xz7,xz8,xz9,xz10,xz11⟩:=fA (ht5).hX
      have HP12:=hid (ht5.put12 (Nat.le_refl _) (Nat.le_refl _) (vS vv n1 k1) (vI kI s9.lim) (vI kI s9.status) (vI kI s9.next) (vI kI s9.began) (vI kI s9.asked) (vI kI s9.taken) (vB s9.fresh) (vS uu n2 k2) (vS cc9 n3 k3) (vB s9.cancel) (vB s9.overdue))
      clear ht4 ht5 hbk
      go_wp2_with fail
      go_meet
      exact⟨rfl,rfl,rfl,rfl,.no HR.out HP12.out⟩
    | some t =>
      rw[hR] at hm
      simp only at hm
      have HR:=hid hR
      clear hR hO4
      obtain⟨vv,uu,cc9,k1,k2,k3,rfl,hO5⟩:=hm
      rw[stvE]
      have ht5:=ht4.keep hbk (by decide)
      clear x0 x1 x2 x3 x4 x5 x6 x7 x8 x9 x10 x11 y0 y1 y2 y3 y4 y5 y6 y7
      obtain⟨x0,x1,x2,x3,x4,x5,x6,x7,x8,x9,x10,x11⟩:=cA (ht5).hX
      obtain⟨xz0,xz1,xz2,xz3,xz4,xz5,xz6,xz7,xz8,xz9,xz10,xz11⟩:=fA (ht5).hX
      have HP12:=hid (ht5.put12 (Nat.le_refl _) (Nat.le_refl _) (vS vv t.ss.length k1) (vI kI t.lim) (vI kI t.status) (vI kI t.next) (vI kI t.began) (vI kI t.asked) (vI kI t.taken) (vB t.fresh) (vS uu t.jobs.length k2) (vS cc9 t.clocks.length k3) (vB t.cancel) (vB t.overdue))
      have HO5:=hid (hO5.at ht5.hX (by decide) (((((((((((((At.refl w.heap.size w5).set 0 (vS vv t.ss.length k1)).set 1 (vI kI t.lim)).set 2 (vI kI t.status)).set 3 (vI kI t.next)).set 4 (vI kI t.began)).set 5 (vI kI t.asked)).set 6 (vI kI t.taken)).set 7 (vB t.fresh)).set 8 (vS uu t.jobs.length k2)).set 9 (vS cc9 t.clocks.length k3)).set 10 (vB t.cancel)).set 11 (vB t.overdue)))
      clear ht4 ht5 hbk hO5
      go_wp2_with fail
      go_meet
      exact⟨rfl,rfl,rfl,rfl,.yes HR.out HP12.out HO5.out⟩
   ·
    have hk9:zA1 ⟨ss,lim,0,id,bg,ak,tn,fr,js,cs,cn,ov⟩ (id,kd,tk,rf,sp,ty,ud,dt)=zBw ⟨ss,lim,0,id,bg,ak,tn,fr,js,cs,cn,ov⟩ (id,kd,tk,rf,sp,ty,ud,dt):=by unfold zA1;simp only[Ev.kd];rw[if_neg (by omega),if_neg (by omega),if_neg (by omega)]
    have q2:(kd==2)=false:=by rw[hk];rfl
    have q3:(kd==3)=false:=by rw[hk];rfl
    have q4:(kd==4)=false:=by rw[hk];rfl
    have q5:(kd==5)=false:=by rw[hk];rfl
    have q6:(kd==6)=false:=by rw[hk];rfl
    have q7:(kd==7)=false:=by rw[hk];rfl
    have q8:(kd==8)=false:=by rw[hk];rfl
    have q9:(kd==9)=false:=by rw[hk];rfl
    have q10:(kd==10)=false:=by rw[hk];rfl
    have q11:(kd==11)=false:=by rw[hk];rfl
    have HKD:=hid hk
    clear hk
    have HK9:=hid hk9
    clear hk9
    go_wp2_with fail
    refine(zNt ss lim 0 id bg ak tn fr js cs cn ov a3 a1 a2 c3 c1 c2 id kd tk rf sp ty ud dt w.heap.size w4 ht4.hs hO4 ⟨hbg,hlm⟩ (by have:=HKD.out;omega)).mono ?_
    rintro e' w5 ⟨hbk,hm⟩
    rw[← HK9.out] at hm
    clear HK9
    cases hR:zA1 ⟨ss,lim,0,id,bg,ak,tn,fr,js,cs,cn,ov⟩ (id,kd,tk,rf,sp,ty,ud,dt) with
    | none =>
      rw[hR] at hm
      simp only at hm
      have HR:=hid hR
      clear hR hO4
      obtain⟨s9,vv,uu,cc9,n1,n2,n3,k1,k2,k3,rfl⟩:=hm
      rw[stvE]
      have ht5:=ht4.keep hbk (by decide)
      clear x0 x1 x2 x3 x4 x5 x6 x7 x8 x9 x10 x11 y0 y1 y2 y3 y4 y5 y6 y7
      obtain⟨x0,x1,x2,x3,x4,x5,x6,x7,x8,x9,x10,x11⟩:=cA (ht5).hX
      obtain⟨xz0,xz1,xz2,xz3,xz4,xz5,xz6,xz7,xz8,xz9,xz10,xz11⟩:=fA (ht5).hX
      have HP12:=hid (ht5.put12 (Nat.le_refl _) (Nat.le_refl _) (vS vv n1 k1) (vI kI s9.lim) (vI kI s9.status) (vI kI s9.next) (vI kI s9.began) (vI kI s9.asked) (vI kI s9.taken) (vB s9.fresh) (vS uu n2 k2) (vS cc9 n3 k3) (vB s9.cancel) (vB s9.overdue))
      clear ht4 ht5 hbk
      go_wp2_with fail
      go_meet
      exact⟨rfl,rfl,rfl,rfl,.no HR.out HP12.out⟩
    | some t =>
      rw[hR] at hm
      simp only at hm
      have HR:=hid hR
      clear hR hO4
      obtain⟨vv,uu,cc9,k1,k2,k3,rfl,hO5⟩:=hm
      rw[stvE]
      have ht5:=ht4.keep hbk (by decide)
      clear x0 x1 x2 x3 x4 x5 x6 x7 x8 x9 x10 x11 y0 y1 y2 y3 y4 y5 y6 y7
      obtain⟨x0,x1,x2,x3,x4,x5,x6,x7,x8,x9,x10,x11⟩:=cA (ht5).hX
      obtain⟨xz0,xz1,xz2,xz3,xz4,xz5,xz6,xz7,xz8,xz9,xz10,xz11⟩:=fA (ht5).hX
      have HP12:=hid (ht5.put12 (Nat.le_refl _) (Nat.le_refl _) (vS vv t.ss.length k1) (vI kI t.lim) (vI kI t.status) (vI kI t.next) (vI kI t.began) (vI kI t.asked) (vI kI t.taken) (vB t.fresh) (vS uu t.jobs.length k2) (vS cc9 t.clocks.length k3) (vB t.cancel) (vB t.overdue))
      have HO5:=hid (hO5.at ht5.hX (by decide) (((((((((((((At.refl w.heap.size w5).set 0 (vS vv t.ss.length k1)).set 1 (vI kI t.lim)).set 2 (vI kI t.status)).set 3 (vI kI t.next)).set 4 (vI kI t.began)).set 5 (vI kI t.asked)).set 6 (vI kI t.taken)).set 7 (vB t.fresh)).set 8 (vS uu t.jobs.length k2)).set 9 (vS cc9 t.clocks.length k3)).set 10 (vB t.cancel)).set 11 (vB t.overdue)))
      clear ht4 ht5 hbk hO5
      go_wp2_with fail
      go_meet
      exact⟨rfl,rfl,rfl,rfl,.yes HR.out HP12.out HO5.out⟩
   ·
    have hk9:zA1 ⟨ss,lim,0,id,bg,ak,tn,fr,js,cs,cn,ov⟩ (id,kd,tk,rf,sp,ty,ud,dt)=zBw ⟨ss,lim,0,id,bg,ak,tn,fr,js,cs,cn,ov⟩ (id,kd,tk,rf,sp,ty,ud,dt):=by unfold zA1;simp only[Ev.kd];rw[if_neg (by omega),if_neg (by omega),if_neg (by omega)]
    have q2:(kd==2)=false:=by rw[hk];rfl
    have q3:(kd==3)=false:=by rw[hk];rfl
    have q4:(kd==4)=false:=by rw[hk];rfl
    have q5:(kd==5)=false:=by rw[hk];rfl
    have q6:(kd==6)=false:=by rw[hk];rfl
    have q7:(kd==7)=false:=by rw[hk];rfl
    have q8:(kd==8)=false:=by rw[hk];rfl
    have q9:(kd==9)=false:=by rw[hk];rfl
    have q10:(kd==10)=false:=by rw[hk];rfl
    have q11:(kd==11)=false:=by rw[hk];rfl
    have HKD:=hid hk
    clear hk
    have HK9:=hid hk9
    clear hk9
    go_wp2_with fail
    refine(zNt ss lim 0 id bg ak tn fr js cs cn ov a3 a1 a2 c3 c1 c2 id kd tk rf sp ty ud dt w.heap.size w4 ht4.hs hO4 ⟨hbg,hlm⟩ (by have:=HKD.out;omega)).mono ?_
    rintro e' w5 ⟨hbk,hm⟩
    rw[← HK9.out] at hm
    clear HK9
    cases hR:zA1 ⟨ss,lim,0,id,bg,ak,tn,fr,js,cs,cn,ov⟩ (id,kd,tk,rf,sp,ty,ud,dt) with
    | none =>
      rw[hR] at hm
      simp only at hm
      have HR:=hid hR
      clear hR hO4
      obtain⟨s9,vv,uu,cc9,n1,n2,n3,k1,k2,k3,rfl⟩:=hm
      rw[stvE]
      have ht5:=ht4.keep hbk (by decide)
      clear x0 x1 x2 x3 x4 x5 x6 x7 x8 x9 x10 x11 y0 y1 y2 y3 y4 y5 y6 y7
      obtain⟨x0,x1,x2,x3,x4,x5,x6,x7,x8,x9,x10,x11⟩:=cA (ht5).hX
      obtain⟨xz0,xz1,xz2,xz3,xz4,xz5,xz6,xz7,xz8,xz9,xz10,xz11⟩:=fA (ht5).hX
      have HP12:=hid (ht5.put12 (Nat.le_refl _) (Nat.le_refl _) (vS vv n1 k1) (vI kI s9.lim) (vI kI s9.status) (vI kI s9.next) (vI kI s9.began) (vI kI s9.asked) (vI kI s9.taken) (vB s9.fresh) (vS uu n2 k2) (vS cc9 n3 k3) (vB s9.cancel) (vB s9.overdue))
      clear ht4 ht5 hbk
      go_wp2_with fail
      go_meet
      exact⟨rfl,rfl,rfl,rfl,.no HR.out HP12.out⟩
    | some t =>
      rw[hR] at hm
      simp only at hm
      have HR:=hid hR
      clear hR hO4
      obtain⟨vv,uu,cc9,k1,k2,k3,rfl,hO5⟩:=hm
      rw[stvE]
      have ht5:=ht4.keep hbk (by decide)
      clear x0 x1 x2 x3 x4 x5 x6 x7 x8 x9 x10 x11 y0 y1 y2 y3 y4 y5 y6 y7
      obtain⟨x0,x1,x2,x3,x4,x5,x6,x7,x8,x9,x10,x11⟩:=cA (ht5).hX
      obtain⟨xz0,xz1,xz2,xz3,xz4,xz5,xz6,xz7,xz8,xz9,xz10,xz11⟩:=fA (ht5).hX
      have HP12:=hid (ht5.put12 (Nat.le_refl _) (Nat.le_refl _) (vS vv t.ss.length k1) (vI kI t.lim) (vI kI t.status) (vI kI t.next) (vI kI t.began) (vI kI t.asked) (vI kI t.taken) (vB t.fresh) (vS uu t.jobs.length k2) (vS cc9 t.clocks.length k3) (vB t.cancel) (vB t.overdue))
      have HO5:=hid (hO5.at ht5.hX (by decide) (((((((((((((At.refl w.heap.size w5).set 0 (vS vv t.ss.length k1)).set 1 (vI kI t.lim)).set 2 (vI kI t.status)).set 3 (vI kI t.next)).set 4 (vI kI t.began)).set 5 (vI kI t.asked)).set 6 (vI kI t.taken)).set 7 (vB t.fresh)).set 8 (vS uu t.jobs.length k2)).set 9 (vS cc9 t.clocks.length k3)).set 10 (vB t.cancel)).set 11 (vB t.overdue)))
      clear ht4 ht5 hbk hO5
      go_wp2_with fail
      go_meet
      exact⟨rfl,rfl,rfl,rfl,.yes HR.out HP12.out HO5.out⟩
  case rest =>
   obtain⟨rfl,rfl,rfl,rfl,hcut⟩:=hcut
   rcases hcut with ⟨hR,rfl,X',ht5⟩ | ⟨t,vv,uu,cc9,k1,k2,k3,hR,rfl,ht5,hO5⟩
   · have HA:=hid (hA1.out hR)
     clear hR hA1 hA2 y1
     obtain⟨z0,z1,z2,z3,z4,z5,z6,z7,z8,z9,z10,z11⟩:=cA (ht5).hZ
     obtain⟨zf0,zf1,zf2,zf3,zf4,zf5,zf6,zf7,zf8,zf9,zf10,zf11⟩:=fA (ht5).hZ
     have HB:=hid ((ht5).hb.at (((((((((((((At.refl (w.heap.size+1+1) wc).set 0 (vS none 0 0)).set 1 (vI kI 0)).set 2 (vI kI 0)).set 3 (vI kI 0)).set 4 (vI kI 0)).set 5 (vI kI 0)).set 6 (vI kI 0)).set 7 (vB false)).set 8 (vS none 0 0)).set 9 (vS none 0 0)).set 10 (vB false)).set 11 (vB false)) (ht5).hs (Nat.le_refl _) (by omega)).below
     go_wp2_with fail
     refine bodyPost_ret (v:=.tuple #[.agg #[vS none 0 0,vI kI 0,vI kI 0,vI kI 0,vI kI 0,vI kI 0,vI kI 0,vB false,vS none 0 0,vS none 0 0,vB false,vB false],vI kI 120]) ?_ rfl (by rw[HA.out];exact⟨HB.out,none,none,none,0,0,0,rfl,StO.none _ _ s0 rfl rfl rfl⟩)
     rw[results_cell_tmp rfl]
     go_simp
   · clear y1
     have hnext:t.next=id:=zEg hR
     have HA:=hid (hA2.out t hR)
     have x3:wc.cell? ⟨w.heap.size,3,none⟩=some (vI kI id):=by
      have:=ht5.x (j:=3) (v:=vI kI t.next) rfl
      rw[hnext] at this
      exact this
     have xz3:=(ht5).fx 3
     have a6:At w.heap.size wc (wc.setCell ⟨w.heap.size,3,none⟩ (vI kI (id+1))):=(At.refl _ wc).set 3 _
     have hO6:=hO5.at ht5.hX (by decide) a6
     have ht6:T3 w.heap.size w (wc.setCell ⟨w.heap.size,3,none⟩ (vI kI (id+1))) w.heap.size #[vS vv t.ss.length k1,vI kI t.lim,vI kI t.status,vI kI (id+1),vI kI t.began,vI kI t.asked,vI kI t.taken,vB t.fresh,vS uu t.jobs.length k2,vS cc9 t.clocks.length k3,vB t.cancel,vB t.overdue] #[vI kI id,vI kI kd,vI kI tk,vI kI rf,vI kI sp,vI kI ty,vB ud,.string ⟨dt.toArray⟩] #[vS none 0 0,vI kI 0,vI kI 0,vI kI 0,vI kI 0,vI kI 0,vI kI 0,vB false,vS none 0 0,vS none 0 0,vB false,vB false] 59 52:=(ht5.set (Nat.le_refl _) 3 (vI kI (id+1))).row (by kernel_rfl)
     clear hR hnext hA1 hA2
     obtain⟨w0x,w1x,w2x,w3x,w4x,w5x,w6x,w7x,w8x,w9x,w10x,w11x⟩:=cA (ht6).hX
     obtain⟨z0,z1,z2,z3,z4,z5,z6,z7,z8,z9,z10,z11⟩:=cA (ht6).hZ
     obtain⟨zf0,zf1,zf2,zf3,zf4,zf5,zf6,zf7,zf8,zf9,zf10,zf11⟩:=fA (ht6).hZ
     have HB:=hid (ht6.hb.at (((((((((((((At.refl (w.heap.size+1+1) (wc.setCell ⟨w.heap.size,3,none⟩ (vI kI (id+1)))).set 0 (vS vv t.ss.length k1)).set 1 (vI kI t.lim)).set 2 (vI kI t.status)).set 3 (vI kI (id+1))).set 4 (vI kI t.began)).set 5 (vI kI t.asked)).set 6 (vI kI t.taken)).set 7 (vB t.fresh)).set 8 (vS uu t.jobs.length k2)).set 9 (vS cc9 t.clocks.length k3)).set 10 (vB t.cancel)).set 11 (vB t.overdue)) ht6.hs (Nat.le_refl _) (by omega)).below
     have HO:=hid ((hO6.at ht6.hZ (by decide) (((((((((((((At.refl (w.heap.size+1+1) (wc.setCell ⟨w.heap.size,3,none⟩ (vI kI (id+1)))).set 0 (vS vv t.ss.length k1)).set 1 (vI kI t.lim)).set 2 (vI kI t.status)).set 3 (vI kI (id+1))).set 4 (vI kI t.began)).set 5 (vI kI t.asked)).set 6 (vI kI t.taken)).set 7 (vB t.fresh)).set 8 (vS uu t.jobs.length k2)).set 9 (vS cc9 t.clocks.length k3)).set 10 (vB t.cancel)).set 11 (vB t.overdue))).like (s':={ t with next:=id+1 }) rfl rfl rfl)
     clear ht5 ht6 hO5 hO6 a6
     go_wp2_with fail
     refine bodyPost_ret (v:=.tuple #[.agg #[vS vv t.ss.length k1,vI kI t.lim,vI kI t.status,vI kI (id+1),vI kI t.began,vI kI t.asked,vI kI t.taken,vB t.fresh,vS uu t.jobs.length k2,vS cc9 t.clocks.length k3,vB t.cancel,vB t.overdue],vI kI 0]) ?_ rfl (by rw[HA.out];exact⟨HB.out,vv,uu,cc9,k1,k2,k3,rfl,HO.out⟩)
     rw[results_cell_tmp rfl]
     go_simp
theorem zRr(ss:List St)(lim st nx bg ak tn:Int)(fr:Bool)(js:List Jb)(cs:List Ck)(cn ov:Bool)(va ua ca:Option Addr)(vc uc cc:Nat)(id kd tk rf sp ty:Int)(ud:Bool)(dt:List UInt8)(w:World)(hr:StR w ⟨ss,lim,st,nx,bg,ak,tn,fr,js,cs,cn,ov⟩ (vS va ss.length vc) (vS ua js.length uc) (vS ca cs.length cc))(hok:SOK ⟨ss,lim,st,nx,bg,ak,tn,fr,js,cs,cn,ov⟩)(hdt:dt.length≤140737488355328)(hkk:15≤kd∧kd≤18)(hP:EvP (id,kd,tk,rf,sp,ty,ud,dt))(hn:¬nx=0)(hs:st=0)(hi:id=nx) :
 Calls Tryz.prog 31 #[.agg #[vS va ss.length vc,vI kI lim,vI kI st,vI kI nx,vI kI bg,vI kI ak,vI kI tn,vB fr,vS ua js.length uc,vS ca cs.length cc,vB cn,vB ov],.agg #[vI kI id,vI kI kd,vI kI tk,vI kI rf,vI kI sp,vI kI ty,vB ud,.string ⟨dt.toArray⟩]] w fun e' w'=>zHv w.heap.size w (zA0 ⟨ss,lim,st,nx,bg,ak,tn,fr,js,cs,cn,ov⟩ (id,kd,tk,rf,sp,ty,ud,dt)) e' w':=by
 obtain⟨⟨hl1,hl2,hl3⟩,hj9,⟨hbg,hlm⟩,hwt,hnx⟩:=hok
 simp only at hl1 hl2 hl3 hj9 hbg hlm hwt hnx
 have htk:0≤tk∧tk≤1099511627776:=hP.2.2.1
 have hkd:1≤kd∧kd≤18:=hP.1
 have hEV:=hid (show evV (id,kd,tk,rf,sp,ty,ud,dt)=0 by unfold evV;rw[if_pos hP])
 have hqn:(nx==0)=false:=by simpa using hn
 have hA1:=hid (fun(hk:zA1 ⟨ss,lim,st,nx,bg,ak,tn,fr,js,cs,cn,ov⟩ (id,kd,tk,rf,sp,ty,ud,dt)=none)=>(show zA0 ⟨ss,lim,st,nx,bg,ak,tn,fr,js,cs,cn,ov⟩ (id,kd,tk,rf,sp,ty,ud,dt)=(s0,120) by
  unfold zA0
  rw[if_neg (not_not_intro hP),if_neg (show ¬(⟨ss,lim,st,nx,bg,ak,tn,fr,js,cs,cn,ov⟩:Sta).next=0 from hn),if_neg (not_not_intro (show(⟨ss,lim,st,nx,bg,ak,tn,fr,js,cs,cn,ov⟩:Sta).status=0 from hs)),if_neg (not_not_intro (show Ev.id (id,kd,tk,rf,sp,ty,ud,dt)=(⟨ss,lim,st,nx,bg,ak,tn,fr,js,cs,cn,ov⟩:Sta).next from hi)),hk]))
 have hA2:=hid (fun(t:Sta) (hk:zA1 ⟨ss,lim,st,nx,bg,ak,tn,fr,js,cs,cn,ov⟩ (id,kd,tk,rf,sp,ty,ud,dt)=some t)=>(show zA0 ⟨ss,lim,st,nx,bg,ak,tn,fr,js,cs,cn,ov⟩ (id,kd,tk,rf,sp,ty,ud,dt)=({ t with next:=nx+1 },0) by
  unfold zA0
  rw[if_neg (not_not_intro hP),if_neg (show ¬(⟨ss,lim,st,nx,bg,ak,tn,fr,js,cs,cn,ov⟩:Sta).next=0 from hn),if_neg (not_not_intro (show(⟨ss,lim,st,nx,bg,ak,tn,fr,js,cs,cn,ov⟩:Sta).status=0 from hs)),if_neg (not_not_intro (show Ev.id (id,kd,tk,rf,sp,ty,ud,dt)=(⟨ss,lim,st,nx,bg,ak,tn,fr,js,cs,cn,ov⟩:Sta).next from hi)),hk]))
 clear hP hn
 subst hs
 subst hi
 obtain⟨W,hW,hS,hE,hR,bW,sW⟩:=lay3 w #[vS va ss.length vc,vI kI lim,vI kI 0,vI kI id,vI kI bg,vI kI ak,vI kI tn,vB fr,vS ua js.length uc,vS ca cs.length cc,vB cn,vB ov] #[vI kI id,vI kI kd,vI kI tk,vI kI rf,vI kI sp,vI kI ty,vB ud,.string ⟨dt.toArray⟩] #[vS none 0 0,vI kI 0,vI kI 0,vI kI 0,vI kI 0,vI kI 0,vI kI 0,vB false,vS none 0 0,vS none 0 0,vB false,vB false] 59 52 59
 have ht:T3 w.heap.size w W w.heap.size #[vS va ss.length vc,vI kI lim,vI kI 0,vI kI id,vI kI bg,vI kI ak,vI kI tn,vB fr,vS ua js.length uc,vS ca cs.length cc,vB cn,vB ov] #[vI kI id,vI kI kd,vI kI tk,vI kI rf,vI kI sp,vI kI ty,vB ud,.string ⟨dt.toArray⟩] #[vS none 0 0,vI kI 0,vI kI 0,vI kI 0,vI kI 0,vI kI 0,vI kI 0,vB false,vS none 0 0,vS none 0 0,vB false,vB false] 59 52:=⟨hS,hE,hR,BK.of (Nat.le_refl _) bW,by omega⟩
 have HW:=hid hW
 clear hW hS hE hR sW bW
 go_enter Tryz.func31,Tryz.ntmps31
 go_wp2_with fail
 rw[← HW.out]
 clear HW
 refine(zBx id kd tk rf sp ty ud dt hdt W).mono ?_
 rintro _ w1 ⟨rfl,b1⟩
 rw[hEV.out]
 have ht1:=ht.below b1
 clear ht b1
 obtain⟨-,-,x2,x3,-,-,-,-,x8,x9,-⟩:=cA (ht1).hX
 obtain⟨-,-,-,-,-,-,-,-,xz8,xz9,-⟩:=fA (ht1).hX
 have y0:w1.cell? ⟨w.heap.size+1,0,none⟩=some (vI kI id):=(ht1).y rfl
 have hr0:=hr
 have hr1:=hr.below (ht1.hb.below)
 have hbs:=ht1.hs
 have hX1:=ht1.hX
 clear hr
 go_upto_region 12 with (fail)
 go_cut [2,3,4,5] (fun s2 s3 s4 s5 wx=>s2=.pointer (some ⟨w.heap.size,0,none⟩)∧s3=.pointer (some ⟨w.heap.size+1,0,none⟩)∧s4=.pointer (some ⟨w.heap.size+1+1,0,none⟩)∧s5=vI kI 0∧∃(a1 a2:Option Addr) (c1 c2:Nat),T3 w.heap.size w wx w.heap.size #[vS va ss.length vc,vI kI lim,vI kI 0,vI kI id,vI kI bg,vI kI ak,vI kI tn,vB fr,vS a1 js.length c1,vS a2 cs.length c2,vB cn,vB ov] #[vI kI id,vI kI kd,vI kI tk,vI kI rf,vI kI sp,vI kI ty,vB ud,.string ⟨dt.toArray⟩] #[vS none 0 0,vI kI 0,vI kI 0,vI kI 0,vI kI 0,vI kI 0,vI kI 0,vB false,vS none 0 0,vS none 0 0,vB false,vB false] 59 52 ∧ wx.ownsRow w.heap.size 100 4 (vS a1 js.length c1) js.length (js.flatMap jbC)∧wx.ownsRow w.heap.size 103 3 (vS a2 cs.length c2) cs.length (cs.flatMap ckC))
 case first =>
  go_region_law (first
   | (go_simp;go_at_call 39;refine(zDm ua uc js hl2 _ (by first | exact StR.hj (by assumption) | exact Sl.below (StR.hj (by assumption)) (zAa _ _ 1))).mono ?_;rintro _ wz ⟨q1,q2,rfl,own0,bz0⟩;have htz:=T3.below (by assumption) (by first | exact bz0 | exact zAb (n:=1) bz0);have hrz:=StR.below (by assumption) (by first | exact bz0 | exact zAb (n:=1) bz0);have hoj:=zAw own0 (by first | exact hbs | exact T3.hs (by assumption));(try (have hoc:=zAf hoc (by first | exact bz0 | exact zAb (n:=1) bz0)));obtain⟨-,-,-,-,-,-,-,-,x8,x9,-⟩:=cA (htz).hX;obtain⟨-,-,-,-,-,-,-,-,xz8,xz9,-⟩:=fA (htz).hX)
   | (go_simp;go_at_call 40;refine(zDl ca cc cs hl3 _ (by first | exact StR.hc (by assumption) | exact Sl.below (StR.hc (by assumption)) (zAa _ _ 1))).mono ?_;rintro _ wz ⟨q1,q2,rfl,own0,bz0⟩;have htz:=T3.below (by assumption) (by first | exact bz0 | exact zAb (n:=1) bz0);have hrz:=StR.below (by assumption) (by first | exact bz0 | exact zAb (n:=1) bz0);have hoc:=zAw own0 (by first | exact hbs | exact T3.hs (by assumption));(try (have hoj:=zAf hoj (by first | exact bz0 | exact zAb (n:=1) bz0)));obtain⟨-,-,-,-,-,-,-,-,x8,x9,-⟩:=cA (htz).hX;obtain⟨-,-,-,-,-,-,-,-,xz8,xz9,-⟩:=fA (htz).hX))
  all_goals first
   | (go_wp2_with fail;go_meet;exact⟨rfl,rfl,rfl,rfl,_,_,_,_,T3.set (T3.set (by assumption) (Nat.le_refl _) 8 _) (Nat.le_refl _) 9 _,zAh hoj (T3.hX (by assumption)) (by decide) (((At.refl _ _).set 8 _).set 9 _),zAh hoc (T3.hX (by assumption)) (by decide) (((At.refl _ _).set 8 _).set 9 _)⟩)
   | (go_wp2_with fail;go_meet;exact⟨rfl,rfl,rfl,rfl,_,_,_,_,T3.set (T3.set (by assumption) (Nat.le_refl _) 9 _) (Nat.le_refl _) 8 _,zAh hoj (T3.hX (by assumption)) (by decide) (((At.refl _ _).set 9 _).set 8 _),zAh hoc (T3.hX (by assumption)) (by decide) (((At.refl _ _).set 9 _).set 8 _)⟩)
 case rest =>
  obtain⟨rfl,rfl,rfl,rfl,a1,a2,c1,c2,ht2,hoj,hoc⟩:=hcut
  clear x2 x3 x8 x9 xz8 xz9 y0 ht1 hX1
  have hrs:=hr0.hs.below ht2.hb.below
  have x0:wc.cell? ⟨w.heap.size,0,none⟩=some (vS va ss.length vc):=(ht2).x rfl
  go_wp2_with fail
  refine(zDn va vc ss hl1 wc hrs).mono ?_
  rintro _ w3 ⟨a3,c3,rfl,hos,b3⟩
  have hos3:=zAw hos ht2.hs
  have ht3:=ht2.below b3
  have hoj3:=zAf hoj b3
  have hoc3:=zAf hoc b3
  clear hos ht2 hoj hoc b3 x0 hrs
  have x0:w3.cell? ⟨w.heap.size,0,none⟩=some (vS va ss.length vc):=(ht3).x rfl
  have xz0:=(ht3).fx 0
  have ht4:=ht3.set (Nat.le_refl _) 0 (vS a3 ss.length c3)
  have aw:At w.heap.size w3 (w3.setCell ⟨w.heap.size,0,none⟩ (vS a3 ss.length c3)):=(At.refl _ w3).set 0 _
  have hO4:StO (w3.setCell ⟨w.heap.size,0,none⟩ (vS a3 ss.length c3)) w.heap.size ⟨ss,lim,0,id,bg,ak,tn,fr,js,cs,cn,ov⟩ (vS a3 ss.length c3) (vS a1 js.length c1) (vS a2 cs.length c2):=⟨zAh hos3 ht3.hX (by decide) aw,zAh hoj3 ht3.hX (by decide) aw,zAh hoc3 ht3.hX (by decide) aw⟩
  go_upto_region 14 with (fail)
  obtain⟨w4,hw4⟩:∃x,x=w3.setCell ⟨w.heap.size,0,none⟩ (vS a3 ss.length c3):=⟨_,rfl⟩
  rw[← hw4] at ht4 hO4 ⊢
  clear hw4 aw hos3 hoj3 hoc3 ht3 x0 xz0
  have y1:w4.cell? ⟨w.heap.size+1,1,none⟩=some (vI kI kd):=(ht4).y rfl
  go_upto_block 0 with (fail)
  go_cut [2,3,4,5,8] (fun s2 s3 s4 s5 s8 wx=>s2=.pointer (some ⟨w.heap.size,0,none⟩)∧s3=.pointer (some ⟨w.heap.size+1,0,none⟩)∧s4=.pointer (some ⟨w.heap.size+1+1,0,none⟩)∧s5=vI kI 0∧AftP w ⟨ss,lim,0,id,bg,ak,tn,fr,js,cs,cn,ov⟩ (id,kd,tk,rf,sp,ty,ud,dt) #[vI kI id,vI kI kd,vI kI tk,vI kI rf,vI kI sp,vI kI ty,vB ud,.string ⟨dt.toArray⟩] s8 wx)
  case first =>
   obtain⟨x0,x1,x2,x3,x4,x5,x6,x7,x8,x9,x10,x11⟩:=cA (ht4).hX
   obtain⟨y0,-,y2,y3,y4,y5,y6,y7⟩:=cA (ht4).hY
   rcases(by omega:kd=15∨kd=16∨kd=17∨kd=18) with hk | hk | hk | hk
   ·
    have hk9:zA1 ⟨ss,lim,0,id,bg,ak,tn,fr,js,cs,cn,ov⟩ (id,kd,tk,rf,sp,ty,ud,dt)=zBw ⟨ss,lim,0,id,bg,ak,tn,fr,js,cs,cn,ov⟩ (id,kd,tk,rf,sp,ty,ud,dt):=by unfold zA1;simp only[Ev.kd];rw[if_neg (by omega),if_neg (by omega),if_neg (by omega)]
    have q2:(kd==2)=false:=by rw[hk];rfl
    have q3:(kd==3)=false:=by rw[hk];rfl
    have q4:(kd==4)=false:=by rw[hk];rfl
    have q5:(kd==5)=false:=by rw[hk];rfl
    have q6:(kd==6)=false:=by rw[hk];rfl
    have q7:(kd==7)=false:=by rw[hk];rfl
    have q8:(kd==8)=false:=by rw[hk];rfl
    have q9:(kd==9)=false:=by rw[hk];rfl
    have q10:(kd==10)=false:=by rw[hk];rfl
    have q11:(kd==11)=false:=by rw[hk];rfl
    have HKD:=hid hk
    clear hk
    have HK9:=hid hk9
    clear hk9
    go_wp2_with fail
    refine(zVb ss lim 0 id bg ak tn fr js cs cn ov a3 a1 a2 c3 c1 c2 id kd tk rf sp ty ud dt w.heap.size w4 ht4.hs hO4 HKD.out).mono ?_
    rintro e' w5 ⟨hbk,hm⟩
    rw[← HK9.out] at hm
    clear HK9
    cases hR:zA1 ⟨ss,lim,0,id,bg,ak,tn,fr,js,cs,cn,ov⟩ (id,kd,tk,rf,sp,ty,ud,dt) with
    | none =>
      rw[hR] at hm
      simp only at hm
      have HR:=hid hR
      clear hR hO4
      obtain⟨s9,vv,uu,cc9,n1,n2,n3,k1,k2,k3,rfl⟩:=hm
      rw[stvE]
      have ht5:=ht4.keep hbk (by decide)
      clear x0 x1 x2 x3 x4 x5 x6 x7 x8 x9 x10 x11 y0 y1 y2 y3 y4 y5 y6 y7
      obtain⟨x0,x1,x2,x3,x4,x5,x6,x7,x8,x9,x10,x11⟩:=cA (ht5).hX
      obtain⟨xz0,xz1,xz2,xz3,xz4,xz5,xz6,xz7,xz8,xz9,xz10,xz11⟩:=fA (ht5).hX
      have HP12:=hid (ht5.put12 (Nat.le_refl _) (Nat.le_refl _) (vS vv n1 k1) (vI kI s9.lim) (vI kI s9.status) (vI kI s9.next) (vI kI s9.began) (vI kI s9.asked) (vI kI s9.taken) (vB s9.fresh) (vS uu n2 k2) (vS cc9 n3 k3) (vB s9.cancel) (vB s9.overdue))
      clear ht4 ht5 hbk
      go_wp2_with fail
      go_meet
      exact⟨rfl,rfl,rfl,rfl,.no HR.out HP12.out⟩
    | some t =>
      rw[hR] at hm
      simp only at hm
      have HR:=hid hR
      clear hR hO4
      obtain⟨vv,uu,cc9,k1,k2,k3,rfl,hO5⟩:=hm
      rw[stvE]
      have ht5:=ht4.keep hbk (by decide)
      clear x0 x1 x2 x3 x4 x5 x6 x7 x8 x9 x10 x11 y0 y1 y2 y3 y4 y5 y6 y7
      obtain⟨x0,x1,x2,x3,x4,x5,x6,x7,x8,x9,x10,x11⟩:=cA (ht5).hX
      obtain⟨xz0,xz1,xz2,xz3,xz4,xz5,xz6,xz7,xz8,xz9,xz10,xz11⟩:=fA (ht5).hX
      have HP12:=hid (ht5.put12 (Nat.le_refl _) (Nat.le_refl _) (vS vv t.ss.length k1) (vI kI t.lim) (vI kI t.status) (vI kI t.next) (vI kI t.began) (vI kI t.asked) (vI kI t.taken) (vB t.fresh) (vS uu t.jobs.length k2) (vS cc9 t.clocks.length k3) (vB t.cancel) (vB t.overdue))
      have HO5:=hid (hO5.at ht5.hX (by decide) (((((((((((((At.refl w.heap.size w5).set 0 (vS vv t.ss.length k1)).set 1 (vI kI t.lim)).set 2 (vI kI t.status)).set 3 (vI kI t.next)).set 4 (vI kI t.began)).set 5 (vI kI t.asked)).set 6 (vI kI t.taken)).set 7 (vB t.fresh)).set 8 (vS uu t.jobs.length k2)).set 9 (vS cc9 t.clocks.length k3)).set 10 (vB t.cancel)).set 11 (vB t.overdue)))
      clear ht4 ht5 hbk hO5
      go_wp2_with fail
      go_meet
      exact⟨rfl,rfl,rfl,rfl,.yes HR.out HP12.out HO5.out⟩
   ·
    have hk9:zA1 ⟨ss,lim,0,id,bg,ak,tn,fr,js,cs,cn,ov⟩ (id,kd,tk,rf,sp,ty,ud,dt)=zBw ⟨ss,lim,0,id,bg,ak,tn,fr,js,cs,cn,ov⟩ (id,kd,tk,rf,sp,ty,ud,dt):=by unfold zA1;simp only[Ev.kd];rw[if_neg (by omega),if_neg (by omega),if_neg (by omega)]
    have q2:(kd==2)=false:=by rw[hk];rfl
    have q3:(kd==3)=false:=by rw[hk];rfl
    have q4:(kd==4)=false:=by rw[hk];rfl
    have q5:(kd==5)=false:=by rw[hk];rfl
    have q6:(kd==6)=false:=by rw[hk];rfl
    have q7:(kd==7)=false:=by rw[hk];rfl
    have q8:(kd==8)=false:=by rw[hk];rfl
    have q9:(kd==9)=false:=by rw[hk];rfl
    have q10:(kd==10)=false:=by rw[hk];rfl
    have q11:(kd==11)=false:=by rw[hk];rfl
    have HKD:=hid hk
    clear hk
    have HK9:=hid hk9
    clear hk9
    go_wp2_with fail
    refine(zVc ss lim 0 id bg ak tn fr js cs cn ov a3 a1 a2 c3 c1 c2 id kd tk rf sp ty ud dt w.heap.size w4 ht4.hs hO4 HKD.out).mono ?_
    rintro e' w5 ⟨hbk,hm⟩
    rw[← HK9.out] at hm
    clear HK9
    cases hR:zA1 ⟨ss,lim,0,id,bg,ak,tn,fr,js,cs,cn,ov⟩ (id,kd,tk,rf,sp,ty,ud,dt) with
    | none =>
      rw[hR] at hm
      simp only at hm
      have HR:=hid hR
      clear hR hO4
      obtain⟨s9,vv,uu,cc9,n1,n2,n3,k1,k2,k3,rfl⟩:=hm
      rw[stvE]
      have ht5:=ht4.keep hbk (by decide)
      clear x0 x1 x2 x3 x4 x5 x6 x7 x8 x9 x10 x11 y0 y1 y2 y3 y4 y5 y6 y7
      obtain⟨x0,x1,x2,x3,x4,x5,x6,x7,x8,x9,x10,x11⟩:=cA (ht5).hX
      obtain⟨xz0,xz1,xz2,xz3,xz4,xz5,xz6,xz7,xz8,xz9,xz10,xz11⟩:=fA (ht5).hX
      have HP12:=hid (ht5.put12 (Nat.le_refl _) (Nat.le_refl _) (vS vv n1 k1) (vI kI s9.lim) (vI kI s9.status) (vI kI s9.next) (vI kI s9.began) (vI kI s9.asked) (vI kI s9.taken) (vB s9.fresh) (vS uu n2 k2) (vS cc9 n3 k3) (vB s9.cancel) (vB s9.overdue))
      clear ht4 ht5 hbk
      go_wp2_with fail
      go_meet
      exact⟨rfl,rfl,rfl,rfl,.no HR.out HP12.out⟩
    | some t =>
      rw[hR] at hm
      simp only at hm
      have HR:=hid hR
      clear hR hO4
      obtain⟨vv,uu,cc9,k1,k2,k3,rfl,hO5⟩:=hm
      rw[stvE]
      have ht5:=ht4.keep hbk (by decide)
      clear x0 x1 x2 x3 x4 x5 x6 x7 x8 x9 x10 x11 y0 y1 y2 y3 y4 y5 y6 y7
      obtain⟨x0,x1,x2,x3,x4,x5,x6,x7,x8,x9,x10,x11⟩:=cA (ht5).hX
      obtain⟨xz0,xz1,xz2,xz3,xz4,xz5,xz6,xz7,xz8,xz9,xz10,xz11⟩:=fA (ht5).hX
      have HP12:=hid (ht5.put12 (Nat.le_refl _) (Nat.le_refl _) (vS vv t.ss.length k1) (vI kI t.lim) (vI kI t.status) (vI kI t.next) (vI kI t.began) (vI kI t.asked) (vI kI t.taken) (vB t.fresh) (vS uu t.jobs.length k2) (vS cc9 t.clocks.length k3) (vB t.cancel) (vB t.overdue))
      have HO5:=hid (hO5.at ht5.hX (by decide) (((((((((((((At.refl w.heap.size w5).set 0 (vS vv t.ss.length k1)).set 1 (vI kI t.lim)).set 2 (vI kI t.status)).set 3 (vI kI t.next)).set 4 (vI kI t.began)).set 5 (vI kI t.asked)).set 6 (vI kI t.taken)).set 7 (vB t.fresh)).set 8 (vS uu t.jobs.length k2)).set 9 (vS cc9 t.clocks.length k3)).set 10 (vB t.cancel)).set 11 (vB t.overdue)))
      clear ht4 ht5 hbk hO5
      go_wp2_with fail
      go_meet
      exact⟨rfl,rfl,rfl,rfl,.yes HR.out HP12.out HO5.out⟩
   ·
    have hk9:zA1 ⟨ss,lim,0,id,bg,ak,tn,fr,js,cs,cn,ov⟩ (id,kd,tk,rf,sp,ty,ud,dt)=zBw ⟨ss,lim,0,id,bg,ak,tn,fr,js,cs,cn,ov⟩ (id,kd,tk,rf,sp,ty,ud,dt):=by unfold zA1;simp only[Ev.kd];rw[if_neg (by omega),if_neg (by omega),if_neg (by omega)]
    have q2:(kd==2)=false:=by rw[hk];rfl
    have q3:(kd==3)=false:=by rw[hk];rfl
    have q4:(kd==4)=false:=by rw[hk];rfl
    have q5:(kd==5)=false:=by rw[hk];rfl
    have q6:(kd==6)=false:=by rw[hk];rfl
    have q7:(kd==7)=false:=by rw[hk];rfl
    have q8:(kd==8)=false:=by rw[hk];rfl
    have q9:(kd==9)=false:=by rw[hk];rfl
    have q10:(kd==10)=false:=by rw[hk];rfl
    have q11:(kd==11)=false:=by rw[hk];rfl
    have HKD:=hid hk
    clear hk
    have HK9:=hid hk9
    clear hk9
    go_wp2_with fail
    refine(zVd ss lim 0 id bg ak tn fr js cs cn ov a3 a1 a2 c3 c1 c2 id kd tk rf sp ty ud dt w.heap.size w4 ht4.hs hO4 HKD.out).mono ?_
    rintro e' w5 ⟨hbk,hm⟩
    rw[← HK9.out] at hm
    clear HK9
    cases hR:zA1 ⟨ss,lim,0,id,bg,ak,tn,fr,js,cs,cn,ov⟩ (id,kd,tk,rf,sp,ty,ud,dt) with
    | none =>
      rw[hR] at hm
      simp only at hm
      have HR:=hid hR
      clear hR hO4
      obtain⟨s9,vv,uu,cc9,n1,n2,n3,k1,k2,k3,rfl⟩:=hm
      rw[stvE]
      have ht5:=ht4.keep hbk (by decide)
      clear x0 x1 x2 x3 x4 x5 x6 x7 x8 x9 x10 x11 y0 y1 y2 y3 y4 y5 y6 y7
      obtain⟨x0,x1,x2,x3,x4,x5,x6,x7,x8,x9,x10,x11⟩:=cA (ht5).hX
      obtain⟨xz0,xz1,xz2,xz3,xz4,xz5,xz6,xz7,xz8,xz9,xz10,xz11⟩:=fA (ht5).hX
      have HP12:=hid (ht5.put12 (Nat.le_refl _) (Nat.le_refl _) (vS vv n1 k1) (vI kI s9.lim) (vI kI s9.status) (vI kI s9.next) (vI kI s9.began) (vI kI s9.asked) (vI kI s9.taken) (vB s9.fresh) (vS uu n2 k2) (vS cc9 n3 k3) (vB s9.cancel) (vB s9.overdue))
      clear ht4 ht5 hbk
      go_wp2_with fail
      go_meet
      exact⟨rfl,rfl,rfl,rfl,.no HR.out HP12.out⟩
    | some t =>
      rw[hR] at hm
      simp only at hm
      have HR:=hid hR
      clear hR hO4
      obtain⟨vv,uu,cc9,k1,k2,k3,rfl,hO5⟩:=hm
      rw[stvE]
      have ht5:=ht4.keep hbk (by decide)
      clear x0 x1 x2 x3 x4 x5 x6 x7 x8 x9 x10 x11 y0 y1 y2 y3 y4 y5 y6 y7
      obtain⟨x0,x1,x2,x3,x4,x5,x6,x7,x8,x9,x10,x11⟩:=cA (ht5).hX
      obtain⟨xz0,xz1,xz2,xz3,xz4,xz5,xz6,xz7,xz8,xz9,xz10,xz11⟩:=fA (ht5).hX
      have HP12:=hid (ht5.put12 (Nat.le_refl _) (Nat.le_refl _) (vS vv t.ss.length k1) (vI kI t.lim) (vI kI t.status) (vI kI t.next) (vI kI t.began) (vI kI t.asked) (vI kI t.taken) (vB t.fresh) (vS uu t.jobs.length k2) (vS cc9 t.clocks.length k3) (vB t.cancel) (vB t.overdue))
      have HO5:=hid (hO5.at ht5.hX (by decide) (((((((((((((At.refl w.heap.size w5).set 0 (vS vv t.ss.length k1)).set 1 (vI kI t.lim)).set 2 (vI kI t.status)).set 3 (vI kI t.next)).set 4 (vI kI t.began)).set 5 (vI kI t.asked)).set 6 (vI kI t.taken)).set 7 (vB t.fresh)).set 8 (vS uu t.jobs.length k2)).set 9 (vS cc9 t.clocks.length k3)).set 10 (vB t.cancel)).set 11 (vB t.overdue)))
      clear ht4 ht5 hbk hO5
      go_wp2_with fail
      go_meet
      exact⟨rfl,rfl,rfl,rfl,.yes HR.out HP12.out HO5.out⟩
   ·
    have hk9:zA1 ⟨ss,lim,0,id,bg,ak,tn,fr,js,cs,cn,ov⟩ (id,kd,tk,rf,sp,ty,ud,dt)=zBw ⟨ss,lim,0,id,bg,ak,tn,fr,js,cs,cn,ov⟩ (id,kd,tk,rf,sp,ty,ud,dt):=by unfold zA1;simp only[Ev.kd];rw[if_neg (by omega),if_neg (by omega),if_neg (by omega)]
    have q2:(kd==2)=false:=by rw[hk];rfl
    have q3:(kd==3)=false:=by rw[hk];rfl
    have q4:(kd==4)=false:=by rw[hk];rfl
    have q5:(kd==5)=false:=by rw[hk];rfl
    have q6:(kd==6)=false:=by rw[hk];rfl
    have q7:(kd==7)=false:=by rw[hk];rfl
    have q8:(kd==8)=false:=by rw[hk];rfl
    have q9:(kd==9)=false:=by rw[hk];rfl
    have q10:(kd==10)=false:=by rw[hk];rfl
    have q11:(kd==11)=false:=by rw[hk];rfl
    have HKD:=hid hk
    clear hk
    have HK9:=hid hk9
    clear hk9
    go_wp2_with fail
    refine(zV3 ss lim 0 id bg ak tn fr js cs cn ov a3 a1 a2 c3 c1 c2 id kd tk rf sp ty ud dt w.heap.size w4 ht4.hs hO4 HKD.out).mono ?_
    rintro e' w5 ⟨hbk,hm⟩
    rw[← HK9.out] at hm
    clear HK9
    cases hR:zA1 ⟨ss,lim,0,id,bg,ak,tn,fr,js,cs,cn,ov⟩ (id,kd,tk,rf,sp,ty,ud,dt) with
    | none =>
      rw[hR] at hm
      simp only at hm
      have HR:=hid hR
      clear hR hO4
      obtain⟨s9,vv,uu,cc9,n1,n2,n3,k1,k2,k3,rfl⟩:=hm
      rw[stvE]
      have ht5:=ht4.keep hbk (by decide)
      clear x0 x1 x2 x3 x4 x5 x6 x7 x8 x9 x10 x11 y0 y1 y2 y3 y4 y5 y6 y7
      obtain⟨x0,x1,x2,x3,x4,x5,x6,x7,x8,x9,x10,x11⟩:=cA (ht5).hX
      obtain⟨xz0,xz1,xz2,xz3,xz4,xz5,xz6,xz7,xz8,xz9,xz10,xz11⟩:=fA (ht5).hX
      have HP12:=hid (ht5.put12 (Nat.le_refl _) (Nat.le_refl _) (vS vv n1 k1) (vI kI s9.lim) (vI kI s9.status) (vI kI s9.next) (vI kI s9.began) (vI kI s9.asked) (vI kI s9.taken) (vB s9.fresh) (vS uu n2 k2) (vS cc9 n3 k3) (vB s9.cancel) (vB s9.overdue))
      clear ht4 ht5 hbk
      go_wp2_with fail
      go_meet
      exact⟨rfl,rfl,rfl,rfl,.no HR.out HP12.out⟩
    | some t =>
      rw[hR] at hm
      simp only at hm
      have HR:=hid hR
      clear hR hO4
      obtain⟨vv,uu,cc9,k1,k2,k3,rfl,hO5⟩:=hm
      rw[stvE]
      have ht5:=ht4.keep hbk (by decide)
      clear x0 x1 x2 x3 x4 x5 x6 x7 x8 x9 x10 x11 y0 y1 y2 y3 y4 y5 y6 y7
      obtain⟨x0,x1,x2,x3,x4,x5,x6,x7,x8,x9,x10,x11⟩:=cA (ht5).hX
      obtain⟨xz0,xz1,xz2,xz3,xz4,xz5,xz6,xz7,xz8,xz9,xz10,xz11⟩:=fA (ht5).hX
      have HP12:=hid (ht5.put12 (Nat.le_refl _) (Nat.le_refl _) (vS vv t.ss.length k1) (vI kI t.lim) (vI kI t.status) (vI kI t.next) (vI kI t.began) (vI kI t.asked) (vI kI t.taken) (vB t.fresh) (vS uu t.jobs.length k2) (vS cc9 t.clocks.length k3) (vB t.cancel) (vB t.overdue))
      have HO5:=hid (hO5.at ht5.hX (by decide) (((((((((((((At.refl w.heap.size w5).set 0 (vS vv t.ss.length k1)).set 1 (vI kI t.lim)).set 2 (vI kI t.status)).set 3 (vI kI t.next)).set 4 (vI kI t.began)).set 5 (vI kI t.asked)).set 6 (vI kI t.taken)).set 7 (vB t.fresh)).set 8 (vS uu t.jobs.length k2)).set 9 (vS cc9 t.clocks.length k3)).set 10 (vB t.cancel)).set 11 (vB t.overdue)))
      clear ht4 ht5 hbk hO5
      go_wp2_with fail
      go_meet
      exact⟨rfl,rfl,rfl,rfl,.yes HR.out HP12.out HO5.out⟩
  case rest =>
   obtain⟨rfl,rfl,rfl,rfl,hcut⟩:=hcut
   rcases hcut with ⟨hR,rfl,X',ht5⟩ | ⟨t,vv,uu,cc9,k1,k2,k3,hR,rfl,ht5,hO5⟩
   · have HA:=hid (hA1.out hR)
     clear hR hA1 hA2 y1
     obtain⟨z0,z1,z2,z3,z4,z5,z6,z7,z8,z9,z10,z11⟩:=cA (ht5).hZ
     obtain⟨zf0,zf1,zf2,zf3,zf4,zf5,zf6,zf7,zf8,zf9,zf10,zf11⟩:=fA (ht5).hZ
     have HB:=hid ((ht5).hb.at (((((((((((((At.refl (w.heap.size+1+1) wc).set 0 (vS none 0 0)).set 1 (vI kI 0)).set 2 (vI kI 0)).set 3 (vI kI 0)).set 4 (vI kI 0)).set 5 (vI kI 0)).set 6 (vI kI 0)).set 7 (vB false)).set 8 (vS none 0 0)).set 9 (vS none 0 0)).set 10 (vB false)).set 11 (vB false)) (ht5).hs (Nat.le_refl _) (by omega)).below
     go_wp2_with fail
     refine bodyPost_ret (v:=.tuple #[.agg #[vS none 0 0,vI kI 0,vI kI 0,vI kI 0,vI kI 0,vI kI 0,vI kI 0,vB false,vS none 0 0,vS none 0 0,vB false,vB false],vI kI 120]) ?_ rfl (by rw[HA.out];exact⟨HB.out,none,none,none,0,0,0,rfl,StO.none _ _ s0 rfl rfl rfl⟩)
     rw[results_cell_tmp rfl]
     go_simp
   · clear y1
     have hnext:t.next=id:=zEg hR
     have HA:=hid (hA2.out t hR)
     have x3:wc.cell? ⟨w.heap.size,3,none⟩=some (vI kI id):=by
      have:=ht5.x (j:=3) (v:=vI kI t.next) rfl
      rw[hnext] at this
      exact this
     have xz3:=(ht5).fx 3
     have a6:At w.heap.size wc (wc.setCell ⟨w.heap.size,3,none⟩ (vI kI (id+1))):=(At.refl _ wc).set 3 _
     have hO6:=hO5.at ht5.hX (by decide) a6
     have ht6:T3 w.heap.size w (wc.setCell ⟨w.heap.size,3,none⟩ (vI kI (id+1))) w.heap.size #[vS vv t.ss.length k1,vI kI t.lim,vI kI t.status,vI kI (id+1),vI kI t.began,vI kI t.asked,vI kI t.taken,vB t.fresh,vS uu t.jobs.length k2,vS cc9 t.clocks.length k3,vB t.cancel,vB t.overdue] #[vI kI id,vI kI kd,vI kI tk,vI kI rf,vI kI sp,vI kI ty,vB ud,.string ⟨dt.toArray⟩] #[vS none 0 0,vI kI 0,vI kI 0,vI kI 0,vI kI 0,vI kI 0,vI kI 0,vB false,vS none 0 0,vS none 0 0,vB false,vB false] 59 52:=(ht5.set (Nat.le_refl _) 3 (vI kI (id+1))).row (by kernel_rfl)
     clear hR hnext hA1 hA2
     obtain⟨w0x,w1x,w2x,w3x,w4x,w5x,w6x,w7x,w8x,w9x,w10x,w11x⟩:=cA (ht6).hX
     obtain⟨z0,z1,z2,z3,z4,z5,z6,z7,z8,z9,z10,z11⟩:=cA (ht6).hZ
     obtain⟨zf0,zf1,zf2,zf3,zf4,zf5,zf6,zf7,zf8,zf9,zf10,zf11⟩:=fA (ht6).hZ
     have HB:=hid (ht6.hb.at (((((((((((((At.refl (w.heap.size+1+1) (wc.setCell ⟨w.heap.size,3,none⟩ (vI kI (id+1)))).set 0 (vS vv t.ss.length k1)).set 1 (vI kI t.lim)).set 2 (vI kI t.status)).set 3 (vI kI (id+1))).set 4 (vI kI t.began)).set 5 (vI kI t.asked)).set 6 (vI kI t.taken)).set 7 (vB t.fresh)).set 8 (vS uu t.jobs.length k2)).set 9 (vS cc9 t.clocks.length k3)).set 10 (vB t.cancel)).set 11 (vB t.overdue)) ht6.hs (Nat.le_refl _) (by omega)).below
     have HO:=hid ((hO6.at ht6.hZ (by decide) (((((((((((((At.refl (w.heap.size+1+1) (wc.setCell ⟨w.heap.size,3,none⟩ (vI kI (id+1)))).set 0 (vS vv t.ss.length k1)).set 1 (vI kI t.lim)).set 2 (vI kI t.status)).set 3 (vI kI (id+1))).set 4 (vI kI t.began)).set 5 (vI kI t.asked)).set 6 (vI kI t.taken)).set 7 (vB t.fresh)).set 8 (vS uu t.jobs.length k2)).set 9 (vS cc9 t.clocks.length k3)).set 10 (vB t.cancel)).set 11 (vB t.overdue))).like (s':={ t with next:=id+1 }) rfl rfl rfl)
     clear ht5 ht6 hO5 hO6 a6
     go_wp2_with fail
     refine bodyPost_ret (v:=.tuple #[.agg #[vS vv t.ss.length k1,vI kI t.lim,vI kI t.status,vI kI (id+1),vI kI t.began,vI kI t.asked,vI kI t.taken,vB t.fresh,vS uu t.jobs.length k2,vS cc9 t.clocks.length k3,vB t.cancel,vB t.overdue],vI kI 0]) ?_ rfl (by rw[HA.out];exact⟨HB.out,vv,uu,cc9,k1,k2,k3,rfl,HO.out⟩)
     rw[results_cell_tmp rfl]
     go_simp
theorem zO6(ss:List St)(lim st nx bg ak tn:Int)(fr:Bool)(js:List Jb)(cs:List Ck)(cn ov:Bool)(va ua ca:Option Addr)(vc uc cc:Nat)(id kd tk rf sp ty:Int)(ud:Bool)(dt:List UInt8)(w:World)(hr:StR w ⟨ss,lim,st,nx,bg,ak,tn,fr,js,cs,cn,ov⟩ (vS va ss.length vc) (vS ua js.length uc) (vS ca cs.length cc))(hok:SOK ⟨ss,lim,st,nx,bg,ak,tn,fr,js,cs,cn,ov⟩)(hdt:dt.length≤140737488355328) :
 Calls Tryz.prog 31 #[.agg #[vS va ss.length vc,vI kI lim,vI kI st,vI kI nx,vI kI bg,vI kI ak,vI kI tn,vB fr,vS ua js.length uc,vS ca cs.length cc,vB cn,vB ov],.agg #[vI kI id,vI kI kd,vI kI tk,vI kI rf,vI kI sp,vI kI ty,vB ud,.string ⟨dt.toArray⟩]] w fun e' w'=>zHv w.heap.size w (zA0 ⟨ss,lim,st,nx,bg,ak,tn,fr,js,cs,cn,ov⟩ (id,kd,tk,rf,sp,ty,ud,dt)) e' w':=by
 by_cases hP:EvP (id,kd,tk,rf,sp,ty,ud,dt)
 case neg=>exact zO7 ss lim st nx bg ak tn fr js cs cn ov va ua ca vc uc cc id kd tk rf sp ty ud dt w hr hok hdt hP
 by_cases hn:nx=0
 case pos=>exact zNx ss lim st nx bg ak tn fr js cs cn ov va ua ca vc uc cc id kd tk rf sp ty ud dt w hr hok hdt hP hn
 by_cases hs:st=0
 case neg=>exact zKf ss lim st nx bg ak tn fr js cs cn ov va ua ca vc uc cc id kd tk rf sp ty ud dt w hr hok hdt hP hn hs
 by_cases hi:id=nx
 case neg=>exact zRs ss lim st nx bg ak tn fr js cs cn ov va ua ca vc uc cc id kd tk rf sp ty ud dt w hr hok hdt hP hn hs hi
 have hkd:1≤kd∧kd≤18:=hP.1
 rcases(by omega:(2≤kd∧kd≤5)∨(6≤kd∧kd≤7)∨(8≤kd∧kd≤9)∨(10≤kd∧kd≤11)∨(kd=1∨(12≤kd∧kd≤14))∨(15≤kd∧kd≤18)) with h | h | h | h | h | h
 · exact zRm ss lim st nx bg ak tn fr js cs cn ov va ua ca vc uc cc id kd tk rf sp ty ud dt w hr hok hdt h hP hn hs hi
 · exact zRn ss lim st nx bg ak tn fr js cs cn ov va ua ca vc uc cc id kd tk rf sp ty ud dt w hr hok hdt h hP hn hs hi
 · exact zRo ss lim st nx bg ak tn fr js cs cn ov va ua ca vc uc cc id kd tk rf sp ty ud dt w hr hok hdt h hP hn hs hi
 · exact zRp ss lim st nx bg ak tn fr js cs cn ov va ua ca vc uc cc id kd tk rf sp ty ud dt w hr hok hdt h hP hn hs hi
 · exact zRq ss lim st nx bg ak tn fr js cs cn ov va ua ca vc uc cc id kd tk rf sp ty ud dt w hr hok hdt h hP hn hs hi
 · exact zRr ss lim st nx bg ak tn fr js cs cn ov va ua ca vc uc cc id kd tk rf sp ty ud dt w hr hok hdt h hP hn hs hi
end Go.Proofs.YtkedafopdkhnfaaGreat
