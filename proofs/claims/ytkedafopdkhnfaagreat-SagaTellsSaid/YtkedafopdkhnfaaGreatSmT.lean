/- CONTRACT: told. WHAT STANDS in state.work and state.clock: the state's, the event's and the answer's block; what is owned beside. -/
import Derived.Test.YtkedafopdkhnfaaGreatSmM
import Derived.Deep.RegionLaw
import Derived.Deep.DeepCutAuto
namespace Go.Proofs.YtkedafopdkhnfaaGreat
open Go.Value renaming int → vI, bool → vB, slice → vS
open Go.IntKind renaming i64 → kI
set_option maxHeartbeats 3200000
set_option maxRecDepth 100000
open Go.RowKit
set_option linter.unusedVariables false
set_option linter.unusedSimpArgs false
theorem zHt{w:World}{g j:Nat}{row:Array Value}{t:TypeId}(h:w.heap[g]?=some (.cells row t (0,0))):w.cell? ⟨g,j,none⟩=row[j]?:=by
 rw[cell_of_row w _ j _ _ (0,0) h]
theorem zWk(r0 r1 r2 r3 r4 r5 r6 r7 r8 r9 r10 r11:Value):((((((((((((#[vS none 0 0,vI kI 0,vI kI 0,vI kI 0,vI kI 0,vI kI 0,vI kI 0,vB false,vS none 0 0,vS none 0 0,vB false,vB false].setIfInBounds 0 r0).setIfInBounds 1 r1).setIfInBounds 2 r2).setIfInBounds 3 r3).setIfInBounds 4 r4).setIfInBounds 5 r5).setIfInBounds 6 r6).setIfInBounds 7 r7).setIfInBounds 8 r8).setIfInBounds 9 r9).setIfInBounds 10 r10).setIfInBounds 11 r11)=#[r0,r1,r2,r3,r4,r5,r6,r7,r8,r9,r10,r11]:=by
 kernel_rfl
structure T2 (w0 w:World) (g:Nat) (X Z:Array Value) (t:TypeId):Prop where
 hX:w.heap[g]?=some (.cells X t (0,0))
 hZ:w.heap[g+1+1]?=some (.cells Z t (0,0))
 hb:Below w0.heap.size w0 w
theorem T2.below{w0 w w':World}{g:Nat}{X Z:Array Value}{t:TypeId}(h:T2 w0 w g X Z t)(k:Below w.heap.size w w'):T2 w0 w' g X Z t :=
 ⟨(k.block _ (gL h.hX)).trans h.hX,(k.block _ (gL h.hZ)).trans h.hZ,zAl h.hb k⟩
theorem T2.drew{w0 w:World}{g:Nat}{X Z:Array Value}{t:TypeId}(h:T2 w0 w g X Z t):T2 w0 w.drew g X Z t:=⟨h.hX,h.hZ,zF7 h.hb⟩
theorem T2.x{w0 w:World}{g:Nat}{X Z:Array Value}{t:TypeId}(h:T2 w0 w g X Z t){j:Nat}{v:Value}(hv:X[j]?=some v):w.cell? ⟨g,j,none⟩=some v:=by rw[zHt h.hX];exact hv
theorem T2.stored{w0 w:World}{g:Nat}{X:Array Value}{t:TypeId}(h:T2 w0 w g X #[vS none 0 0,vI kI 0,vI kI 0,vI kI 0,vI kI 0,vI kI 0,vI kI 0,vB false,vS none 0 0,vS none 0 0,vB false,vB false] t)(hg:w0.heap.size≤g)(r0 r1 r2 r3 r4 r5 r6 r7 r8 r9 r10 r11:Value) :
 T2 w0 ((((((((((((w.setCell ⟨g+1+1,0,none⟩ r0).setCell ⟨g+1+1,1,none⟩ r1).setCell ⟨g+1+1,2,none⟩ r2).setCell ⟨g+1+1,3,none⟩ r3).setCell ⟨g+1+1,4,none⟩ r4).setCell ⟨g+1+1,5,none⟩ r5).setCell ⟨g+1+1,6,none⟩ r6).setCell ⟨g+1+1,7,none⟩ r7).setCell ⟨g+1+1,8,none⟩ r8).setCell ⟨g+1+1,9,none⟩ r9).setCell ⟨g+1+1,10,none⟩ r10).setCell ⟨g+1+1,11,none⟩ r11) g X #[r0,r1,r2,r3,r4,r5,r6,r7,r8,r9,r10,r11] t:=by
 have a:=(((((((((((((At.refl (g+1+1) w).set 0 r0).set 1 r1).set 2 r2).set 3 r3).set 4 r4).set 5 r5).set 6 r6).set 7 r7).set 8 r8).set 9 r9).set 10 r10).set 11 r11)
 have y0:=heap_setCell_same w (g+1+1) 0 _ _ r0 h.hZ
 have y1:=heap_setCell_same _ (g+1+1) 1 _ _ r1 y0
 have y2:=heap_setCell_same _ (g+1+1) 2 _ _ r2 y1
 have y3:=heap_setCell_same _ (g+1+1) 3 _ _ r3 y2
 have y4:=heap_setCell_same _ (g+1+1) 4 _ _ r4 y3
 have y5:=heap_setCell_same _ (g+1+1) 5 _ _ r5 y4
 have y6:=heap_setCell_same _ (g+1+1) 6 _ _ r6 y5
 have y7:=heap_setCell_same _ (g+1+1) 7 _ _ r7 y6
 have y8:=heap_setCell_same _ (g+1+1) 8 _ _ r8 y7
 have y9:=heap_setCell_same _ (g+1+1) 9 _ _ r9 y8
 have y10:=heap_setCell_same _ (g+1+1) 10 _ _ r10 y9
 have y11:=heap_setCell_same _ (g+1+1) 11 _ _ r11 y10
 exact⟨(a.block g (gL h.hX) (by simp;omega)).trans h.hX,y11.trans (by rw[zWk]),At.below h.hb a (by omega)⟩
theorem zNt(ss:List St)(lim st nx bg ak tn:Int)(fr:Bool)(js:List Jb)(cs:List Ck)(cn ov:Bool)(va ua ca:Option Addr)(vc uc cc:Nat)(id kd tk rf sp ty:Int)(ud:Bool)(dt:List UInt8)(B:Nat)(w:World)(hB:B≤w.heap.size)(h0:StO w B ⟨ss,lim,st,nx,bg,ak,tn,fr,js,cs,cn,ov⟩ (vS va ss.length vc) (vS ua js.length uc) (vS ca cs.length cc))(hn:(0≤bg∧bg≤1099511627776)∧0≤lim∧lim≤16000)(hk:kd=1∨kd=12∨kd=13∨kd=14) :
 Calls Tryz.prog 45 #[.agg #[vS va ss.length vc,vI kI lim,vI kI st,vI kI nx,vI kI bg,vI kI ak,vI kI tn,vB fr,vS ua js.length uc,vS ca cs.length cc,vB cn,vB ov],.agg #[vI kI id,vI kI kd,vI kI tk,vI kI rf,vI kI sp,vI kI ty,vB ud,.string ⟨dt.toArray⟩]] w fun e' w'=>zHn B w (zBw ⟨ss,lim,st,nx,bg,ak,tn,fr,js,cs,cn,ov⟩ (id,kd,tk,rf,sp,ty,ud,dt)) e' w':=by
 have ho:=hid h0
 clear h0
 have bel:=hid (fun(r1 r2 r3:Array Value)=>BK.of hB ((((Below.refl w.heap.size w).alloc (Nat.le_refl _) (.cells r1 59)).alloc (by simp) (.cells r2 52)).alloc (by simp;omega) (.cells r3 59)))
 have beo:=hid (fun(r1 r2 r3:Array Value)=>((((Below.refl w.heap.size w).alloc (Nat.le_refl _) (.cells r1 59)).alloc (by simp) (.cells r2 52)).alloc (by simp;omega) (.cells r3 59)))
 rcases hk with rfl | rfl | rfl | rfl
 · rw[show zBw ⟨ss,lim,st,nx,bg,ak,tn,fr,js,cs,cn,ov⟩ (id,1,tk,rf,sp,ty,ud,dt)=none from by unfold zBw;simp[Ev.kd,Ev.tk]]
   go_enter Tryz.func45,Tryz.ntmps45
   go_wp2_with fail
   refine bodyPost_ret (v:=.tuple #[.agg #[vS va ss.length vc,vI kI lim,vI kI st,vI kI nx,vI kI bg,vI kI ak,vI kI tn,vB fr,vS ua js.length uc,vS ca cs.length cc,vB cn,vB ov],vB false]) ?_ rfl ⟨bel.out _ _ _,⟨ss,lim,st,nx,bg,ak,tn,fr,js,cs,cn,ov⟩,va,ua,ca,_,_,_,vc,uc,cc,rfl⟩
   rw[results_cell_tmp rfl]
   go_simp
 · rw[show zBw ⟨ss,lim,st,nx,bg,ak,tn,fr,js,cs,cn,ov⟩ (id,12,tk,rf,sp,ty,ud,dt)=some ⟨ss,lim,st,nx,bg,ak,tn,true,js,cs,cn,ov⟩ from by unfold zBw;simp[Ev.kd,Ev.tk]]
   go_enter Tryz.func45,Tryz.ntmps45
   go_wp2_with fail
   refine bodyPost_ret (v:=.tuple #[.agg #[vS va ss.length vc,vI kI lim,vI kI st,vI kI nx,vI kI bg,vI kI ak,vI kI tn,vB true,vS ua js.length uc,vS ca cs.length cc,vB cn,vB ov],vB true]) ?_ rfl ⟨bel.out _ _ _,va,ua,ca,vc,uc,cc,rfl,zAf ho.out.hs (beo.out _ _ _),zAf ho.out.hj (beo.out _ _ _),zAf ho.out.hc (beo.out _ _ _)⟩
   rw[results_cell_tmp rfl]
   go_simp
 · cases cn
   · rw[show zBw ⟨ss,lim,st,nx,bg,ak,tn,fr,js,cs,false,ov⟩ (id,13,tk,rf,sp,ty,ud,dt)=some ⟨ss,lim,st,nx,bg,ak,tn,true,js,cs,true,ov⟩ from by unfold zBw;simp[Ev.kd,Ev.tk]]
     go_enter Tryz.func45,Tryz.ntmps45
     go_wp2_with fail
     refine bodyPost_ret (v:=.tuple #[.agg #[vS va ss.length vc,vI kI lim,vI kI st,vI kI nx,vI kI bg,vI kI ak,vI kI tn,vB true,vS ua js.length uc,vS ca cs.length cc,vB true,vB ov],vB true]) ?_ rfl ⟨bel.out _ _ _,va,ua,ca,vc,uc,cc,rfl,zAf ho.out.hs (beo.out _ _ _),zAf ho.out.hj (beo.out _ _ _),zAf ho.out.hc (beo.out _ _ _)⟩
     rw[results_cell_tmp rfl]
     go_simp
   · rw[show zBw ⟨ss,lim,st,nx,bg,ak,tn,fr,js,cs,true,ov⟩ (id,13,tk,rf,sp,ty,ud,dt)=none from by unfold zBw;simp[Ev.kd,Ev.tk]]
     go_enter Tryz.func45,Tryz.ntmps45
     go_wp2_with fail
     refine bodyPost_ret (v:=.tuple #[.agg #[vS va ss.length vc,vI kI lim,vI kI st,vI kI nx,vI kI bg,vI kI ak,vI kI tn,vB fr,vS ua js.length uc,vS ca cs.length cc,vB true,vB ov],vB false]) ?_ rfl ⟨bel.out _ _ _,⟨ss,lim,st,nx,bg,ak,tn,fr,js,cs,true,ov⟩,va,ua,ca,_,_,_,vc,uc,cc,rfl⟩
     rw[results_cell_tmp rfl]
     go_simp
 · cases ov
   case true =>
    rw[show zBw ⟨ss,lim,st,nx,bg,ak,tn,fr,js,cs,cn,true⟩ (id,14,tk,rf,sp,ty,ud,dt)=none from by unfold zBw;simp[Ev.kd,Ev.tk]]
    go_enter Tryz.func45,Tryz.ntmps45
    go_wp2_with fail
    refine bodyPost_ret (v:=.tuple #[.agg #[vS va ss.length vc,vI kI lim,vI kI st,vI kI nx,vI kI bg,vI kI ak,vI kI tn,vB fr,vS ua js.length uc,vS ca cs.length cc,vB cn,vB true],vB false]) ?_ rfl ⟨bel.out _ _ _,⟨ss,lim,st,nx,bg,ak,tn,fr,js,cs,cn,true⟩,va,ua,ca,_,_,_,vc,uc,cc,rfl⟩
    rw[results_cell_tmp rfl]
    go_simp
   by_cases h1:lim=0
   case pos =>
    subst h1
    rw[show zBw ⟨ss,0,st,nx,bg,ak,tn,fr,js,cs,cn,false⟩ (id,14,tk,rf,sp,ty,ud,dt)=none from by unfold zBw;simp[Ev.kd,Ev.tk]]
    go_enter Tryz.func45,Tryz.ntmps45
    go_wp2_with fail
    refine bodyPost_ret (v:=.tuple #[.agg #[vS va ss.length vc,vI kI 0,vI kI st,vI kI nx,vI kI bg,vI kI ak,vI kI tn,vB fr,vS ua js.length uc,vS ca cs.length cc,vB cn,vB false],vB false]) ?_ rfl ⟨bel.out _ _ _,⟨ss,0,st,nx,bg,ak,tn,fr,js,cs,cn,false⟩,va,ua,ca,_,_,_,vc,uc,cc,rfl⟩
    rw[results_cell_tmp rfl]
    go_simp
   have hq:(lim==0)=false:=by simpa using h1
   by_cases h2:tk<bg+lim
   case pos =>
    rw[show zBw ⟨ss,lim,st,nx,bg,ak,tn,fr,js,cs,cn,false⟩ (id,14,tk,rf,sp,ty,ud,dt)=none from by unfold zBw;simp[Ev.kd,Ev.tk,h2]]
    go_enter Tryz.func45,Tryz.ntmps45
    go_wp2_with fail
    refine bodyPost_ret (v:=.tuple #[.agg #[vS va ss.length vc,vI kI lim,vI kI st,vI kI nx,vI kI bg,vI kI ak,vI kI tn,vB fr,vS ua js.length uc,vS ca cs.length cc,vB cn,vB false],vB false]) ?_ rfl ⟨bel.out _ _ _,⟨ss,lim,st,nx,bg,ak,tn,fr,js,cs,cn,false⟩,va,ua,ca,_,_,_,vc,uc,cc,rfl⟩
    rw[results_cell_tmp rfl]
    go_simp
   rw[show zBw ⟨ss,lim,st,nx,bg,ak,tn,fr,js,cs,cn,false⟩ (id,14,tk,rf,sp,ty,ud,dt)=some ⟨ss,lim,st,nx,bg,ak,tn,true,js,cs,cn,true⟩ from by unfold zBw;simp[Ev.kd,Ev.tk,h1,h2]]
   go_enter Tryz.func45,Tryz.ntmps45
   go_wp2_with fail
   refine bodyPost_ret (v:=.tuple #[.agg #[vS va ss.length vc,vI kI lim,vI kI st,vI kI nx,vI kI bg,vI kI ak,vI kI tn,vB true,vS ua js.length uc,vS ca cs.length cc,vB cn,vB true],vB true]) ?_ rfl ⟨bel.out _ _ _,va,ua,ca,vc,uc,cc,rfl,zAf ho.out.hs (beo.out _ _ _),zAf ho.out.hj (beo.out _ _ _),zAf ho.out.hc (beo.out _ _ _)⟩
   rw[results_cell_tmp rfl]
   go_simp
theorem zV3(ss:List St)(lim st nx bg ak tn:Int)(fr:Bool)(js:List Jb)(cs:List Ck)(cn ov:Bool)(va ua ca:Option Addr)(vc uc cc:Nat)(id kd tk rf sp ty:Int)(ud:Bool)(dt:List UInt8)(B:Nat)(w:World)(hB:B≤w.heap.size)(h0:StO w B ⟨ss,lim,st,nx,bg,ak,tn,fr,js,cs,cn,ov⟩ (vS va ss.length vc) (vS ua js.length uc) (vS ca cs.length cc))(hk:kd=18) :
 Calls Tryz.prog 45 #[.agg #[vS va ss.length vc,vI kI lim,vI kI st,vI kI nx,vI kI bg,vI kI ak,vI kI tn,vB fr,vS ua js.length uc,vS ca cs.length cc,vB cn,vB ov],.agg #[vI kI id,vI kI kd,vI kI tk,vI kI rf,vI kI sp,vI kI ty,vB ud,.string ⟨dt.toArray⟩]] w fun e' w'=>zHn B w (zBw ⟨ss,lim,st,nx,bg,ak,tn,fr,js,cs,cn,ov⟩ (id,kd,tk,rf,sp,ty,ud,dt)) e' w':=by
 have ho:=hid h0
 clear h0
 have bel:=hid (fun(r1 r2 r3:Array Value)=>BK.of hB ((((Below.refl w.heap.size w).alloc (Nat.le_refl _) (.cells r1 59)).alloc (by simp) (.cells r2 52)).alloc (by simp;omega) (.cells r3 59)))
 have beo:=hid (fun(r1 r2 r3:Array Value)=>((((Below.refl w.heap.size w).alloc (Nat.le_refl _) (.cells r1 59)).alloc (by simp) (.cells r2 52)).alloc (by simp;omega) (.cells r3 59)))
 subst hk
 rw[show zBw ⟨ss,lim,st,nx,bg,ak,tn,fr,js,cs,cn,ov⟩ (id,18,tk,rf,sp,ty,ud,dt)=some ⟨ss,lim,4,nx,bg,0,0,false,[],[],cn,ov⟩ from by unfold zBw zJq;simp[Ev.kd]]
 obtain⟨W,hW,hS,hE,hR,bW,sW⟩:=lay3 w #[vS va ss.length vc,vI kI lim,vI kI st,vI kI nx,vI kI bg,vI kI ak,vI kI tn,vB fr,vS ua js.length uc,vS ca cs.length cc,vB cn,vB ov] #[vI kI id,vI kI 18,vI kI tk,vI kI rf,vI kI sp,vI kI ty,vB ud,.string ⟨dt.toArray⟩] #[vS none 0 0,vI kI 0,vI kI 0,vI kI 0,vI kI 0,vI kI 0,vI kI 0,vB false,vS none 0 0,vS none 0 0,vB false,vB false] 59 52 59
 have hst:T2 w W w.heap.size #[vS va ss.length vc,vI kI lim,vI kI st,vI kI nx,vI kI bg,vI kI ak,vI kI tn,vB fr,vS ua js.length uc,vS ca cs.length cc,vB cn,vB ov] #[vS none 0 0,vI kI 0,vI kI 0,vI kI 0,vI kI 0,vI kI 0,vI kI 0,vB false,vS none 0 0,vS none 0 0,vB false,vB false] 59:=⟨hS,hR,bW⟩
 have HW:=hid hW
 clear hW hS hE hR bW sW
 go_enter Tryz.func45,Tryz.ntmps45
 go_wp2_with fail
 rw[← HW.out]
 clear HW
 refine(zEp lim st nx bg ak tn fr va ua ca ss.length js.length cs.length vc uc cc cn ov 4 _).mono ?_
 rintro _ wz ⟨rfl,bz⟩
 have hst1:=hst.below bz
 clear hst bz
 have x0:wz.cell? ⟨w.heap.size,0,none⟩=some (vS va ss.length vc):=hst1.x rfl;obtain⟨-,x1,x2,x3,x4,x5,x6,x7,x8,x9,x10,x11⟩:=cA (hst1).hX;obtain⟨z0,z1,z2,z3,z4,z5,z6,z7,z8,z9,z10,z11⟩:=cA (hst1).hZ;obtain⟨zf0,zf1,zf2,zf3,zf4,zf5,zf6,zf7,zf8,zf9,zf10,zf11⟩:=fA (hst1).hZ
 have HST:=hid (hst1.stored (Nat.le_refl _) (vS va ss.length vc) (vI kI lim) (vI kI 4) (vI kI nx) (vI kI bg) (vI kI 0) (vI kI 0) (vB false) (vS none 0 0) (vS none 0 0) (vB cn) (vB ov))
 clear hst1
 go_wp2_with fail
 refine bodyPost_ret (v:=.tuple #[.agg #[vS va ss.length vc,vI kI lim,vI kI 4,vI kI nx,vI kI bg,vI kI 0,vI kI 0,vB false,vS none 0 0,vS none 0 0,vB cn,vB ov],vB true]) ?_ rfl ⟨BK.of hB (HST.out).hb,va,none,none,vc,0,0,rfl,zAf ho.out.hs (HST.out).hb,World.ownsRow_nil _ _ _ _,World.ownsRow_nil _ _ _ _⟩
 rw[results_cell_tmp rfl]
 go_simp
theorem zVb(ss:List St)(lim st nx bg ak tn:Int)(fr:Bool)(js:List Jb)(cs:List Ck)(cn ov:Bool)(va ua ca:Option Addr)(vc uc cc:Nat)(id kd tk rf sp ty:Int)(ud:Bool)(dt:List UInt8)(B:Nat)(w:World)(hB:B≤w.heap.size)(h0:StO w B ⟨ss,lim,st,nx,bg,ak,tn,fr,js,cs,cn,ov⟩ (vS va ss.length vc) (vS ua js.length uc) (vS ca cs.length cc))(hk:kd=15) :
 Calls Tryz.prog 45 #[.agg #[vS va ss.length vc,vI kI lim,vI kI st,vI kI nx,vI kI bg,vI kI ak,vI kI tn,vB fr,vS ua js.length uc,vS ca cs.length cc,vB cn,vB ov],.agg #[vI kI id,vI kI kd,vI kI tk,vI kI rf,vI kI sp,vI kI ty,vB ud,.string ⟨dt.toArray⟩]] w fun e' w'=>zHn B w (zBw ⟨ss,lim,st,nx,bg,ak,tn,fr,js,cs,cn,ov⟩ (id,kd,tk,rf,sp,ty,ud,dt)) e' w':=by
 have ho:=hid h0
 clear h0
 have bel:=hid (fun(r1 r2 r3:Array Value)=>BK.of hB ((((Below.refl w.heap.size w).alloc (Nat.le_refl _) (.cells r1 59)).alloc (by simp) (.cells r2 52)).alloc (by simp;omega) (.cells r3 59)))
 have beo:=hid (fun(r1 r2 r3:Array Value)=>((((Below.refl w.heap.size w).alloc (Nat.le_refl _) (.cells r1 59)).alloc (by simp) (.cells r2 52)).alloc (by simp;omega) (.cells r3 59)))
 subst hk
 by_cases hi:ak=0∧tn=0∧js.length=0
 · have hib:(decide (ak=0)&&(decide (tn=0)&&decide (js.length=0)))=true:=by simp[hi.1,hi.2.1,hi.2.2]
   rw[show zBw ⟨ss,lim,st,nx,bg,ak,tn,fr,js,cs,cn,ov⟩ (id,15,tk,rf,sp,ty,ud,dt)=some ⟨ss,lim,1,nx,bg,0,0,false,[],[],cn,ov⟩ from by unfold zBw zJq zIa;simp[Ev.kd,hi.1,hi.2.1,hi.2.2]]
   clear hi
   obtain⟨W,hW,hS,hE,hR,bW,sW⟩:=lay3 w #[vS va ss.length vc,vI kI lim,vI kI st,vI kI nx,vI kI bg,vI kI ak,vI kI tn,vB fr,vS ua js.length uc,vS ca cs.length cc,vB cn,vB ov] #[vI kI id,vI kI 15,vI kI tk,vI kI rf,vI kI sp,vI kI ty,vB ud,.string ⟨dt.toArray⟩] #[vS none 0 0,vI kI 0,vI kI 0,vI kI 0,vI kI 0,vI kI 0,vI kI 0,vB false,vS none 0 0,vS none 0 0,vB false,vB false] 59 52 59
   have hst:T2 w W w.heap.size #[vS va ss.length vc,vI kI lim,vI kI st,vI kI nx,vI kI bg,vI kI ak,vI kI tn,vB fr,vS ua js.length uc,vS ca cs.length cc,vB cn,vB ov] #[vS none 0 0,vI kI 0,vI kI 0,vI kI 0,vI kI 0,vI kI 0,vI kI 0,vB false,vS none 0 0,vS none 0 0,vB false,vB false] 59:=⟨hS,hR,bW⟩
   have HW:=hid hW
   clear hW hS hE hR bW sW
   go_enter Tryz.func45,Tryz.ntmps45
   go_upto_region 16 with (fail)
   rw[← HW.out]
   clear HW
   obtain⟨x0,x1,x2,x3,x4,x5,x6,x7,x8,x9,x10,x11⟩:=cA (hst).hX
   obtain⟨z0,z1,z2,z3,z4,z5,z6,z7,z8,z9,z10,z11⟩:=cA (hst).hZ
   obtain⟨zf0,zf1,zf2,zf3,zf4,zf5,zf6,zf7,zf8,zf9,zf10,zf11⟩:=fA (hst).hZ
   go_region_law (first
    | (go_simp;go_at_call 74;refine(zEp lim st nx bg ak tn fr va ua ca ss.length js.length cs.length vc uc cc cn ov 1 _).mono ?_;rintro _ wz ⟨rfl,bz⟩;have hstz:=T2.below (by first | assumption | exact T2.drew (by assumption)) bz;obtain⟨x0,x1,x2,x3,x4,x5,x6,x7,x8,x9,x10,x11⟩:=cA (hstz).hX;obtain⟨z0,z1,z2,z3,z4,z5,z6,z7,z8,z9,z10,z11⟩:=cA (hstz).hZ;obtain⟨zf0,zf1,zf2,zf3,zf4,zf5,zf6,zf7,zf8,zf9,zf10,zf11⟩:=fA (hstz).hZ)
    | (go_simp;go_at_call 75;refine(zCv lim st nx bg ak tn fr va ua ca ss.length js.length cs.length vc uc cc cn ov _).mono ?_;rintro _ wy ⟨rfl,by9⟩;rw[hib];have hsty:=T2.below (by first | assumption | exact T2.drew (by assumption)) by9;obtain⟨x0,x1,x2,x3,x4,x5,x6,x7,x8,x9,x10,x11⟩:=cA (hsty).hX;obtain⟨z0,z1,z2,z3,z4,z5,z6,z7,z8,z9,z10,z11⟩:=cA (hsty).hZ;obtain⟨zf0,zf1,zf2,zf3,zf4,zf5,zf6,zf7,zf8,zf9,zf10,zf11⟩:=fA (hsty).hZ)
    | (go_simp;go_at_call 75;refine(zCv lim st nx bg ak tn fr va ua ca ss.length js.length cs.length vc uc cc cn ov _).mono ?_;rintro _ wy ⟨rfl,by9⟩;rw[hib];have hsty:=T2.below (T2.stored (by assumption) (Nat.le_refl _) _ _ _ _ _ _ _ _ _ _ _ _) by9;obtain⟨x0,x1,x2,x3,x4,x5,x6,x7,x8,x9,x10,x11⟩:=cA (hsty).hX;obtain⟨z0,z1,z2,z3,z4,z5,z6,z7,z8,z9,z10,z11⟩:=cA (hsty).hZ;obtain⟨zf0,zf1,zf2,zf3,zf4,zf5,zf6,zf7,zf8,zf9,zf10,zf11⟩:=fA (hsty).hZ))
   all_goals
    first
     | (go_wp2_with fail;refine bodyPost_ret (v:=.tuple #[.agg #[vS va ss.length vc,vI kI lim,vI kI 1,vI kI nx,vI kI bg,vI kI 0,vI kI 0,vB false,vS none 0 0,vS none 0 0,vB cn,vB ov],vB true]) ?_ rfl ⟨BK.of hB ((T2.stored (by assumption) (Nat.le_refl _) (vS va ss.length vc) (vI kI lim) (vI kI 1) (vI kI nx) (vI kI bg) (vI kI 0) (vI kI 0) (vB false) (vS none 0 0) (vS none 0 0) (vB cn) (vB ov):T2 w _ w.heap.size #[vS va ss.length vc,vI kI lim,vI kI st,vI kI nx,vI kI bg,vI kI ak,vI kI tn,vB fr,vS ua js.length uc,vS ca cs.length cc,vB cn,vB ov] #[vS va ss.length vc,vI kI lim,vI kI 1,vI kI nx,vI kI bg,vI kI 0,vI kI 0,vB false,vS none 0 0,vS none 0 0,vB cn,vB ov] 59)).hb,va,none,none,vc,0,0,rfl,zAf ho.out.hs ((T2.stored (by assumption) (Nat.le_refl _) (vS va ss.length vc) (vI kI lim) (vI kI 1) (vI kI nx) (vI kI bg) (vI kI 0) (vI kI 0) (vB false) (vS none 0 0) (vS none 0 0) (vB cn) (vB ov):T2 w _ w.heap.size #[vS va ss.length vc,vI kI lim,vI kI st,vI kI nx,vI kI bg,vI kI ak,vI kI tn,vB fr,vS ua js.length uc,vS ca cs.length cc,vB cn,vB ov] #[vS va ss.length vc,vI kI lim,vI kI 1,vI kI nx,vI kI bg,vI kI 0,vI kI 0,vB false,vS none 0 0,vS none 0 0,vB cn,vB ov] 59)).hb,World.ownsRow_nil _ _ _ _,World.ownsRow_nil _ _ _ _⟩;rw[results_cell_tmp rfl];go_simp)
     | (go_wp2_with fail;refine bodyPost_ret (v:=.tuple #[.agg #[vS va ss.length vc,vI kI lim,vI kI 1,vI kI nx,vI kI bg,vI kI 0,vI kI 0,vB false,vS none 0 0,vS none 0 0,vB cn,vB ov],vB true]) ?_ rfl ⟨BK.of hB ((by assumption:T2 w _ w.heap.size #[vS va ss.length vc,vI kI lim,vI kI st,vI kI nx,vI kI bg,vI kI ak,vI kI tn,vB fr,vS ua js.length uc,vS ca cs.length cc,vB cn,vB ov] #[vS va ss.length vc,vI kI lim,vI kI 1,vI kI nx,vI kI bg,vI kI 0,vI kI 0,vB false,vS none 0 0,vS none 0 0,vB cn,vB ov] 59)).hb,va,none,none,vc,0,0,rfl,zAf ho.out.hs ((by assumption:T2 w _ w.heap.size #[vS va ss.length vc,vI kI lim,vI kI st,vI kI nx,vI kI bg,vI kI ak,vI kI tn,vB fr,vS ua js.length uc,vS ca cs.length cc,vB cn,vB ov] #[vS va ss.length vc,vI kI lim,vI kI 1,vI kI nx,vI kI bg,vI kI 0,vI kI 0,vB false,vS none 0 0,vS none 0 0,vB cn,vB ov] 59)).hb,World.ownsRow_nil _ _ _ _,World.ownsRow_nil _ _ _ _⟩;rw[results_cell_tmp rfl];go_simp)
 · have hib:(decide (ak=0)&&(decide (tn=0)&&decide (js.length=0)))=false:=by
    cases hb:(decide (ak=0)&&(decide (tn=0)&&decide (js.length=0))) with
    | false=>rfl
    | true=>simp only[Bool.and_eq_true,decide_eq_true_eq] at hb;exact absurd hb hi
   rw[show zBw ⟨ss,lim,st,nx,bg,ak,tn,fr,js,cs,cn,ov⟩ (id,15,tk,rf,sp,ty,ud,dt)=none from by unfold zBw zIa;simp only[Ev.kd];rw[hib];simp]
   clear hi
   obtain⟨W,hW,hS,hE,hR,bW,sW⟩:=lay3 w #[vS va ss.length vc,vI kI lim,vI kI st,vI kI nx,vI kI bg,vI kI ak,vI kI tn,vB fr,vS ua js.length uc,vS ca cs.length cc,vB cn,vB ov] #[vI kI id,vI kI 15,vI kI tk,vI kI rf,vI kI sp,vI kI ty,vB ud,.string ⟨dt.toArray⟩] #[vS none 0 0,vI kI 0,vI kI 0,vI kI 0,vI kI 0,vI kI 0,vI kI 0,vB false,vS none 0 0,vS none 0 0,vB false,vB false] 59 52 59
   have hst:T2 w W w.heap.size #[vS va ss.length vc,vI kI lim,vI kI st,vI kI nx,vI kI bg,vI kI ak,vI kI tn,vB fr,vS ua js.length uc,vS ca cs.length cc,vB cn,vB ov] #[vS none 0 0,vI kI 0,vI kI 0,vI kI 0,vI kI 0,vI kI 0,vI kI 0,vB false,vS none 0 0,vS none 0 0,vB false,vB false] 59:=⟨hS,hR,bW⟩
   have HW:=hid hW
   clear hW hS hE hR bW sW
   go_enter Tryz.func45,Tryz.ntmps45
   go_upto_region 16 with (fail)
   rw[← HW.out]
   clear HW
   obtain⟨x0,x1,x2,x3,x4,x5,x6,x7,x8,x9,x10,x11⟩:=cA (hst).hX
   obtain⟨z0,z1,z2,z3,z4,z5,z6,z7,z8,z9,z10,z11⟩:=cA (hst).hZ
   obtain⟨zf0,zf1,zf2,zf3,zf4,zf5,zf6,zf7,zf8,zf9,zf10,zf11⟩:=fA (hst).hZ
   go_region_law (first
    | (go_simp;go_at_call 74;refine(zEp lim st nx bg ak tn fr va ua ca ss.length js.length cs.length vc uc cc cn ov 1 _).mono ?_;rintro _ wz ⟨rfl,bz⟩;have hstz:=T2.below (by first | assumption | exact T2.drew (by assumption)) bz;obtain⟨x0,x1,x2,x3,x4,x5,x6,x7,x8,x9,x10,x11⟩:=cA (hstz).hX;obtain⟨z0,z1,z2,z3,z4,z5,z6,z7,z8,z9,z10,z11⟩:=cA (hstz).hZ;obtain⟨zf0,zf1,zf2,zf3,zf4,zf5,zf6,zf7,zf8,zf9,zf10,zf11⟩:=fA (hstz).hZ)
    | (go_simp;go_at_call 75;refine(zCv lim st nx bg ak tn fr va ua ca ss.length js.length cs.length vc uc cc cn ov _).mono ?_;rintro _ wy ⟨rfl,by9⟩;rw[hib];have hsty:=T2.below (by first | assumption | exact T2.drew (by assumption)) by9;obtain⟨x0,x1,x2,x3,x4,x5,x6,x7,x8,x9,x10,x11⟩:=cA (hsty).hX;obtain⟨z0,z1,z2,z3,z4,z5,z6,z7,z8,z9,z10,z11⟩:=cA (hsty).hZ;obtain⟨zf0,zf1,zf2,zf3,zf4,zf5,zf6,zf7,zf8,zf9,zf10,zf11⟩:=fA (hsty).hZ)
    | (go_simp;go_at_call 75;refine(zCv lim st nx bg ak tn fr va ua ca ss.length js.length cs.length vc uc cc cn ov _).mono ?_;rintro _ wy ⟨rfl,by9⟩;rw[hib];have hsty:=T2.below (T2.stored (by assumption) (Nat.le_refl _) _ _ _ _ _ _ _ _ _ _ _ _) by9;obtain⟨x0,x1,x2,x3,x4,x5,x6,x7,x8,x9,x10,x11⟩:=cA (hsty).hX;obtain⟨z0,z1,z2,z3,z4,z5,z6,z7,z8,z9,z10,z11⟩:=cA (hsty).hZ;obtain⟨zf0,zf1,zf2,zf3,zf4,zf5,zf6,zf7,zf8,zf9,zf10,zf11⟩:=fA (hsty).hZ))
   all_goals
    first
     | (go_wp2_with fail;refine bodyPost_ret (v:=.tuple #[.agg #[vS va ss.length vc,vI kI lim,vI kI 1,vI kI nx,vI kI bg,vI kI 0,vI kI 0,vB false,vS none 0 0,vS none 0 0,vB cn,vB ov],vB false]) ?_ rfl ⟨BK.of hB ((T2.stored (by assumption) (Nat.le_refl _) (vS va ss.length vc) (vI kI lim) (vI kI 1) (vI kI nx) (vI kI bg) (vI kI 0) (vI kI 0) (vB false) (vS none 0 0) (vS none 0 0) (vB cn) (vB ov):T2 w _ w.heap.size #[vS va ss.length vc,vI kI lim,vI kI st,vI kI nx,vI kI bg,vI kI ak,vI kI tn,vB fr,vS ua js.length uc,vS ca cs.length cc,vB cn,vB ov] #[vS va ss.length vc,vI kI lim,vI kI 1,vI kI nx,vI kI bg,vI kI 0,vI kI 0,vB false,vS none 0 0,vS none 0 0,vB cn,vB ov] 59)).hb,⟨ss,lim,1,nx,bg,0,0,false,[],[],cn,ov⟩,va,none,none,_,0,0,vc,0,0,rfl⟩;rw[results_cell_tmp rfl];go_simp)
     | (go_wp2_with fail;refine bodyPost_ret (v:=.tuple #[.agg #[vS va ss.length vc,vI kI lim,vI kI 1,vI kI nx,vI kI bg,vI kI 0,vI kI 0,vB false,vS none 0 0,vS none 0 0,vB cn,vB ov],vB false]) ?_ rfl ⟨BK.of hB ((by assumption:T2 w _ w.heap.size #[vS va ss.length vc,vI kI lim,vI kI st,vI kI nx,vI kI bg,vI kI ak,vI kI tn,vB fr,vS ua js.length uc,vS ca cs.length cc,vB cn,vB ov] #[vS va ss.length vc,vI kI lim,vI kI 1,vI kI nx,vI kI bg,vI kI 0,vI kI 0,vB false,vS none 0 0,vS none 0 0,vB cn,vB ov] 59)).hb,⟨ss,lim,1,nx,bg,0,0,false,[],[],cn,ov⟩,va,none,none,_,0,0,vc,0,0,rfl⟩;rw[results_cell_tmp rfl];go_simp)
theorem zVc(ss:List St)(lim st nx bg ak tn:Int)(fr:Bool)(js:List Jb)(cs:List Ck)(cn ov:Bool)(va ua ca:Option Addr)(vc uc cc:Nat)(id kd tk rf sp ty:Int)(ud:Bool)(dt:List UInt8)(B:Nat)(w:World)(hB:B≤w.heap.size)(h0:StO w B ⟨ss,lim,st,nx,bg,ak,tn,fr,js,cs,cn,ov⟩ (vS va ss.length vc) (vS ua js.length uc) (vS ca cs.length cc))(hk:kd=16) :
 Calls Tryz.prog 45 #[.agg #[vS va ss.length vc,vI kI lim,vI kI st,vI kI nx,vI kI bg,vI kI ak,vI kI tn,vB fr,vS ua js.length uc,vS ca cs.length cc,vB cn,vB ov],.agg #[vI kI id,vI kI kd,vI kI tk,vI kI rf,vI kI sp,vI kI ty,vB ud,.string ⟨dt.toArray⟩]] w fun e' w'=>zHn B w (zBw ⟨ss,lim,st,nx,bg,ak,tn,fr,js,cs,cn,ov⟩ (id,kd,tk,rf,sp,ty,ud,dt)) e' w':=by
 have ho:=hid h0
 clear h0
 have bel:=hid (fun(r1 r2 r3:Array Value)=>BK.of hB ((((Below.refl w.heap.size w).alloc (Nat.le_refl _) (.cells r1 59)).alloc (by simp) (.cells r2 52)).alloc (by simp;omega) (.cells r3 59)))
 have beo:=hid (fun(r1 r2 r3:Array Value)=>((((Below.refl w.heap.size w).alloc (Nat.le_refl _) (.cells r1 59)).alloc (by simp) (.cells r2 52)).alloc (by simp;omega) (.cells r3 59)))
 subst hk
 by_cases hi:ak=0∧tn=0∧js.length=0
 · have hib:(decide (ak=0)&&(decide (tn=0)&&decide (js.length=0)))=true:=by simp[hi.1,hi.2.1,hi.2.2]
   rw[show zBw ⟨ss,lim,st,nx,bg,ak,tn,fr,js,cs,cn,ov⟩ (id,16,tk,rf,sp,ty,ud,dt)=some ⟨ss,lim,2,nx,bg,0,0,false,[],[],cn,ov⟩ from by unfold zBw zJq zIa;simp[Ev.kd,hi.1,hi.2.1,hi.2.2]]
   clear hi
   obtain⟨W,hW,hS,hE,hR,bW,sW⟩:=lay3 w #[vS va ss.length vc,vI kI lim,vI kI st,vI kI nx,vI kI bg,vI kI ak,vI kI tn,vB fr,vS ua js.length uc,vS ca cs.length cc,vB cn,vB ov] #[vI kI id,vI kI 16,vI kI tk,vI kI rf,vI kI sp,vI kI ty,vB ud,.string ⟨dt.toArray⟩] #[vS none 0 0,vI kI 0,vI kI 0,vI kI 0,vI kI 0,vI kI 0,vI kI 0,vB false,vS none 0 0,vS none 0 0,vB false,vB false] 59 52 59
   have hst:T2 w W w.heap.size #[vS va ss.length vc,vI kI lim,vI kI st,vI kI nx,vI kI bg,vI kI ak,vI kI tn,vB fr,vS ua js.length uc,vS ca cs.length cc,vB cn,vB ov] #[vS none 0 0,vI kI 0,vI kI 0,vI kI 0,vI kI 0,vI kI 0,vI kI 0,vB false,vS none 0 0,vS none 0 0,vB false,vB false] 59:=⟨hS,hR,bW⟩
   have HW:=hid hW
   clear hW hS hE hR bW sW
   go_enter Tryz.func45,Tryz.ntmps45
   go_upto_region 18 with (fail)
   rw[← HW.out]
   clear HW
   obtain⟨x0,x1,x2,x3,x4,x5,x6,x7,x8,x9,x10,x11⟩:=cA (hst).hX
   obtain⟨z0,z1,z2,z3,z4,z5,z6,z7,z8,z9,z10,z11⟩:=cA (hst).hZ
   obtain⟨zf0,zf1,zf2,zf3,zf4,zf5,zf6,zf7,zf8,zf9,zf10,zf11⟩:=fA (hst).hZ
   go_region_law (first
    | (go_simp;go_at_call 74;refine(zEp lim st nx bg ak tn fr va ua ca ss.length js.length cs.length vc uc cc cn ov 2 _).mono ?_;rintro _ wz ⟨rfl,bz⟩;have hstz:=T2.below (by first | assumption | exact T2.drew (by assumption)) bz;obtain⟨x0,x1,x2,x3,x4,x5,x6,x7,x8,x9,x10,x11⟩:=cA (hstz).hX;obtain⟨z0,z1,z2,z3,z4,z5,z6,z7,z8,z9,z10,z11⟩:=cA (hstz).hZ;obtain⟨zf0,zf1,zf2,zf3,zf4,zf5,zf6,zf7,zf8,zf9,zf10,zf11⟩:=fA (hstz).hZ)
    | (go_simp;go_at_call 75;refine(zCv lim st nx bg ak tn fr va ua ca ss.length js.length cs.length vc uc cc cn ov _).mono ?_;rintro _ wy ⟨rfl,by9⟩;rw[hib];have hsty:=T2.below (by first | assumption | exact T2.drew (by assumption)) by9;obtain⟨x0,x1,x2,x3,x4,x5,x6,x7,x8,x9,x10,x11⟩:=cA (hsty).hX;obtain⟨z0,z1,z2,z3,z4,z5,z6,z7,z8,z9,z10,z11⟩:=cA (hsty).hZ;obtain⟨zf0,zf1,zf2,zf3,zf4,zf5,zf6,zf7,zf8,zf9,zf10,zf11⟩:=fA (hsty).hZ)
    | (go_simp;go_at_call 75;refine(zCv lim st nx bg ak tn fr va ua ca ss.length js.length cs.length vc uc cc cn ov _).mono ?_;rintro _ wy ⟨rfl,by9⟩;rw[hib];have hsty:=T2.below (T2.stored (by assumption) (Nat.le_refl _) _ _ _ _ _ _ _ _ _ _ _ _) by9;obtain⟨x0,x1,x2,x3,x4,x5,x6,x7,x8,x9,x10,x11⟩:=cA (hsty).hX;obtain⟨z0,z1,z2,z3,z4,z5,z6,z7,z8,z9,z10,z11⟩:=cA (hsty).hZ;obtain⟨zf0,zf1,zf2,zf3,zf4,zf5,zf6,zf7,zf8,zf9,zf10,zf11⟩:=fA (hsty).hZ))
   all_goals
    first
     | (go_wp2_with fail;refine bodyPost_ret (v:=.tuple #[.agg #[vS va ss.length vc,vI kI lim,vI kI 2,vI kI nx,vI kI bg,vI kI 0,vI kI 0,vB false,vS none 0 0,vS none 0 0,vB cn,vB ov],vB true]) ?_ rfl ⟨BK.of hB ((T2.stored (by assumption) (Nat.le_refl _) (vS va ss.length vc) (vI kI lim) (vI kI 2) (vI kI nx) (vI kI bg) (vI kI 0) (vI kI 0) (vB false) (vS none 0 0) (vS none 0 0) (vB cn) (vB ov):T2 w _ w.heap.size #[vS va ss.length vc,vI kI lim,vI kI st,vI kI nx,vI kI bg,vI kI ak,vI kI tn,vB fr,vS ua js.length uc,vS ca cs.length cc,vB cn,vB ov] #[vS va ss.length vc,vI kI lim,vI kI 2,vI kI nx,vI kI bg,vI kI 0,vI kI 0,vB false,vS none 0 0,vS none 0 0,vB cn,vB ov] 59)).hb,va,none,none,vc,0,0,rfl,zAf ho.out.hs ((T2.stored (by assumption) (Nat.le_refl _) (vS va ss.length vc) (vI kI lim) (vI kI 2) (vI kI nx) (vI kI bg) (vI kI 0) (vI kI 0) (vB false) (vS none 0 0) (vS none 0 0) (vB cn) (vB ov):T2 w _ w.heap.size #[vS va ss.length vc,vI kI lim,vI kI st,vI kI nx,vI kI bg,vI kI ak,vI kI tn,vB fr,vS ua js.length uc,vS ca cs.length cc,vB cn,vB ov] #[vS va ss.length vc,vI kI lim,vI kI 2,vI kI nx,vI kI bg,vI kI 0,vI kI 0,vB false,vS none 0 0,vS none 0 0,vB cn,vB ov] 59)).hb,World.ownsRow_nil _ _ _ _,World.ownsRow_nil _ _ _ _⟩;rw[results_cell_tmp rfl];go_simp)
     | (go_wp2_with fail;refine bodyPost_ret (v:=.tuple #[.agg #[vS va ss.length vc,vI kI lim,vI kI 2,vI kI nx,vI kI bg,vI kI 0,vI kI 0,vB false,vS none 0 0,vS none 0 0,vB cn,vB ov],vB true]) ?_ rfl ⟨BK.of hB ((by assumption:T2 w _ w.heap.size #[vS va ss.length vc,vI kI lim,vI kI st,vI kI nx,vI kI bg,vI kI ak,vI kI tn,vB fr,vS ua js.length uc,vS ca cs.length cc,vB cn,vB ov] #[vS va ss.length vc,vI kI lim,vI kI 2,vI kI nx,vI kI bg,vI kI 0,vI kI 0,vB false,vS none 0 0,vS none 0 0,vB cn,vB ov] 59)).hb,va,none,none,vc,0,0,rfl,zAf ho.out.hs ((by assumption:T2 w _ w.heap.size #[vS va ss.length vc,vI kI lim,vI kI st,vI kI nx,vI kI bg,vI kI ak,vI kI tn,vB fr,vS ua js.length uc,vS ca cs.length cc,vB cn,vB ov] #[vS va ss.length vc,vI kI lim,vI kI 2,vI kI nx,vI kI bg,vI kI 0,vI kI 0,vB false,vS none 0 0,vS none 0 0,vB cn,vB ov] 59)).hb,World.ownsRow_nil _ _ _ _,World.ownsRow_nil _ _ _ _⟩;rw[results_cell_tmp rfl];go_simp)
 · have hib:(decide (ak=0)&&(decide (tn=0)&&decide (js.length=0)))=false:=by
    cases hb:(decide (ak=0)&&(decide (tn=0)&&decide (js.length=0))) with
    | false=>rfl
    | true=>simp only[Bool.and_eq_true,decide_eq_true_eq] at hb;exact absurd hb hi
   rw[show zBw ⟨ss,lim,st,nx,bg,ak,tn,fr,js,cs,cn,ov⟩ (id,16,tk,rf,sp,ty,ud,dt)=none from by unfold zBw zIa;simp only[Ev.kd];rw[hib];simp]
   clear hi
   obtain⟨W,hW,hS,hE,hR,bW,sW⟩:=lay3 w #[vS va ss.length vc,vI kI lim,vI kI st,vI kI nx,vI kI bg,vI kI ak,vI kI tn,vB fr,vS ua js.length uc,vS ca cs.length cc,vB cn,vB ov] #[vI kI id,vI kI 16,vI kI tk,vI kI rf,vI kI sp,vI kI ty,vB ud,.string ⟨dt.toArray⟩] #[vS none 0 0,vI kI 0,vI kI 0,vI kI 0,vI kI 0,vI kI 0,vI kI 0,vB false,vS none 0 0,vS none 0 0,vB false,vB false] 59 52 59
   have hst:T2 w W w.heap.size #[vS va ss.length vc,vI kI lim,vI kI st,vI kI nx,vI kI bg,vI kI ak,vI kI tn,vB fr,vS ua js.length uc,vS ca cs.length cc,vB cn,vB ov] #[vS none 0 0,vI kI 0,vI kI 0,vI kI 0,vI kI 0,vI kI 0,vI kI 0,vB false,vS none 0 0,vS none 0 0,vB false,vB false] 59:=⟨hS,hR,bW⟩
   have HW:=hid hW
   clear hW hS hE hR bW sW
   go_enter Tryz.func45,Tryz.ntmps45
   go_upto_region 18 with (fail)
   rw[← HW.out]
   clear HW
   obtain⟨x0,x1,x2,x3,x4,x5,x6,x7,x8,x9,x10,x11⟩:=cA (hst).hX
   obtain⟨z0,z1,z2,z3,z4,z5,z6,z7,z8,z9,z10,z11⟩:=cA (hst).hZ
   obtain⟨zf0,zf1,zf2,zf3,zf4,zf5,zf6,zf7,zf8,zf9,zf10,zf11⟩:=fA (hst).hZ
   go_region_law (first
    | (go_simp;go_at_call 74;refine(zEp lim st nx bg ak tn fr va ua ca ss.length js.length cs.length vc uc cc cn ov 2 _).mono ?_;rintro _ wz ⟨rfl,bz⟩;have hstz:=T2.below (by first | assumption | exact T2.drew (by assumption)) bz;obtain⟨x0,x1,x2,x3,x4,x5,x6,x7,x8,x9,x10,x11⟩:=cA (hstz).hX;obtain⟨z0,z1,z2,z3,z4,z5,z6,z7,z8,z9,z10,z11⟩:=cA (hstz).hZ;obtain⟨zf0,zf1,zf2,zf3,zf4,zf5,zf6,zf7,zf8,zf9,zf10,zf11⟩:=fA (hstz).hZ)
    | (go_simp;go_at_call 75;refine(zCv lim st nx bg ak tn fr va ua ca ss.length js.length cs.length vc uc cc cn ov _).mono ?_;rintro _ wy ⟨rfl,by9⟩;rw[hib];have hsty:=T2.below (by first | assumption | exact T2.drew (by assumption)) by9;obtain⟨x0,x1,x2,x3,x4,x5,x6,x7,x8,x9,x10,x11⟩:=cA (hsty).hX;obtain⟨z0,z1,z2,z3,z4,z5,z6,z7,z8,z9,z10,z11⟩:=cA (hsty).hZ;obtain⟨zf0,zf1,zf2,zf3,zf4,zf5,zf6,zf7,zf8,zf9,zf10,zf11⟩:=fA (hsty).hZ)
    | (go_simp;go_at_call 75;refine(zCv lim st nx bg ak tn fr va ua ca ss.length js.length cs.length vc uc cc cn ov _).mono ?_;rintro _ wy ⟨rfl,by9⟩;rw[hib];have hsty:=T2.below (T2.stored (by assumption) (Nat.le_refl _) _ _ _ _ _ _ _ _ _ _ _ _) by9;obtain⟨x0,x1,x2,x3,x4,x5,x6,x7,x8,x9,x10,x11⟩:=cA (hsty).hX;obtain⟨z0,z1,z2,z3,z4,z5,z6,z7,z8,z9,z10,z11⟩:=cA (hsty).hZ;obtain⟨zf0,zf1,zf2,zf3,zf4,zf5,zf6,zf7,zf8,zf9,zf10,zf11⟩:=fA (hsty).hZ))
   all_goals
    first
     | (go_wp2_with fail;refine bodyPost_ret (v:=.tuple #[.agg #[vS va ss.length vc,vI kI lim,vI kI 2,vI kI nx,vI kI bg,vI kI 0,vI kI 0,vB false,vS none 0 0,vS none 0 0,vB cn,vB ov],vB false]) ?_ rfl ⟨BK.of hB ((T2.stored (by assumption) (Nat.le_refl _) (vS va ss.length vc) (vI kI lim) (vI kI 2) (vI kI nx) (vI kI bg) (vI kI 0) (vI kI 0) (vB false) (vS none 0 0) (vS none 0 0) (vB cn) (vB ov):T2 w _ w.heap.size #[vS va ss.length vc,vI kI lim,vI kI st,vI kI nx,vI kI bg,vI kI ak,vI kI tn,vB fr,vS ua js.length uc,vS ca cs.length cc,vB cn,vB ov] #[vS va ss.length vc,vI kI lim,vI kI 2,vI kI nx,vI kI bg,vI kI 0,vI kI 0,vB false,vS none 0 0,vS none 0 0,vB cn,vB ov] 59)).hb,⟨ss,lim,2,nx,bg,0,0,false,[],[],cn,ov⟩,va,none,none,_,0,0,vc,0,0,rfl⟩;rw[results_cell_tmp rfl];go_simp)
     | (go_wp2_with fail;refine bodyPost_ret (v:=.tuple #[.agg #[vS va ss.length vc,vI kI lim,vI kI 2,vI kI nx,vI kI bg,vI kI 0,vI kI 0,vB false,vS none 0 0,vS none 0 0,vB cn,vB ov],vB false]) ?_ rfl ⟨BK.of hB ((by assumption:T2 w _ w.heap.size #[vS va ss.length vc,vI kI lim,vI kI st,vI kI nx,vI kI bg,vI kI ak,vI kI tn,vB fr,vS ua js.length uc,vS ca cs.length cc,vB cn,vB ov] #[vS va ss.length vc,vI kI lim,vI kI 2,vI kI nx,vI kI bg,vI kI 0,vI kI 0,vB false,vS none 0 0,vS none 0 0,vB cn,vB ov] 59)).hb,⟨ss,lim,2,nx,bg,0,0,false,[],[],cn,ov⟩,va,none,none,_,0,0,vc,0,0,rfl⟩;rw[results_cell_tmp rfl];go_simp)
theorem zVd(ss:List St)(lim st nx bg ak tn:Int)(fr:Bool)(js:List Jb)(cs:List Ck)(cn ov:Bool)(va ua ca:Option Addr)(vc uc cc:Nat)(id kd tk rf sp ty:Int)(ud:Bool)(dt:List UInt8)(B:Nat)(w:World)(hB:B≤w.heap.size)(h0:StO w B ⟨ss,lim,st,nx,bg,ak,tn,fr,js,cs,cn,ov⟩ (vS va ss.length vc) (vS ua js.length uc) (vS ca cs.length cc))(hk:kd=17) :
 Calls Tryz.prog 45 #[.agg #[vS va ss.length vc,vI kI lim,vI kI st,vI kI nx,vI kI bg,vI kI ak,vI kI tn,vB fr,vS ua js.length uc,vS ca cs.length cc,vB cn,vB ov],.agg #[vI kI id,vI kI kd,vI kI tk,vI kI rf,vI kI sp,vI kI ty,vB ud,.string ⟨dt.toArray⟩]] w fun e' w'=>zHn B w (zBw ⟨ss,lim,st,nx,bg,ak,tn,fr,js,cs,cn,ov⟩ (id,kd,tk,rf,sp,ty,ud,dt)) e' w':=by
 have ho:=hid h0
 clear h0
 have bel:=hid (fun(r1 r2 r3:Array Value)=>BK.of hB ((((Below.refl w.heap.size w).alloc (Nat.le_refl _) (.cells r1 59)).alloc (by simp) (.cells r2 52)).alloc (by simp;omega) (.cells r3 59)))
 have beo:=hid (fun(r1 r2 r3:Array Value)=>((((Below.refl w.heap.size w).alloc (Nat.le_refl _) (.cells r1 59)).alloc (by simp) (.cells r2 52)).alloc (by simp;omega) (.cells r3 59)))
 subst hk
 by_cases hi:ak=0∧tn=0∧js.length=0
 · have hib:(decide (ak=0)&&(decide (tn=0)&&decide (js.length=0)))=true:=by simp[hi.1,hi.2.1,hi.2.2]
   rw[show zBw ⟨ss,lim,st,nx,bg,ak,tn,fr,js,cs,cn,ov⟩ (id,17,tk,rf,sp,ty,ud,dt)=some ⟨ss,lim,3,nx,bg,0,0,false,[],[],cn,ov⟩ from by unfold zBw zJq zIa;simp[Ev.kd,hi.1,hi.2.1,hi.2.2]]
   clear hi
   obtain⟨W,hW,hS,hE,hR,bW,sW⟩:=lay3 w #[vS va ss.length vc,vI kI lim,vI kI st,vI kI nx,vI kI bg,vI kI ak,vI kI tn,vB fr,vS ua js.length uc,vS ca cs.length cc,vB cn,vB ov] #[vI kI id,vI kI 17,vI kI tk,vI kI rf,vI kI sp,vI kI ty,vB ud,.string ⟨dt.toArray⟩] #[vS none 0 0,vI kI 0,vI kI 0,vI kI 0,vI kI 0,vI kI 0,vI kI 0,vB false,vS none 0 0,vS none 0 0,vB false,vB false] 59 52 59
   have hst:T2 w W w.heap.size #[vS va ss.length vc,vI kI lim,vI kI st,vI kI nx,vI kI bg,vI kI ak,vI kI tn,vB fr,vS ua js.length uc,vS ca cs.length cc,vB cn,vB ov] #[vS none 0 0,vI kI 0,vI kI 0,vI kI 0,vI kI 0,vI kI 0,vI kI 0,vB false,vS none 0 0,vS none 0 0,vB false,vB false] 59:=⟨hS,hR,bW⟩
   have HW:=hid hW
   clear hW hS hE hR bW sW
   go_enter Tryz.func45,Tryz.ntmps45
   go_upto_region 20 with (fail)
   rw[← HW.out]
   clear HW
   obtain⟨x0,x1,x2,x3,x4,x5,x6,x7,x8,x9,x10,x11⟩:=cA (hst).hX
   obtain⟨z0,z1,z2,z3,z4,z5,z6,z7,z8,z9,z10,z11⟩:=cA (hst).hZ
   obtain⟨zf0,zf1,zf2,zf3,zf4,zf5,zf6,zf7,zf8,zf9,zf10,zf11⟩:=fA (hst).hZ
   go_region_law (first
    | (go_simp;go_at_call 74;refine(zEp lim st nx bg ak tn fr va ua ca ss.length js.length cs.length vc uc cc cn ov 3 _).mono ?_;rintro _ wz ⟨rfl,bz⟩;have hstz:=T2.below (by first | assumption | exact T2.drew (by assumption)) bz;obtain⟨x0,x1,x2,x3,x4,x5,x6,x7,x8,x9,x10,x11⟩:=cA (hstz).hX;obtain⟨z0,z1,z2,z3,z4,z5,z6,z7,z8,z9,z10,z11⟩:=cA (hstz).hZ;obtain⟨zf0,zf1,zf2,zf3,zf4,zf5,zf6,zf7,zf8,zf9,zf10,zf11⟩:=fA (hstz).hZ)
    | (go_simp;go_at_call 75;refine(zCv lim st nx bg ak tn fr va ua ca ss.length js.length cs.length vc uc cc cn ov _).mono ?_;rintro _ wy ⟨rfl,by9⟩;rw[hib];have hsty:=T2.below (by first | assumption | exact T2.drew (by assumption)) by9;obtain⟨x0,x1,x2,x3,x4,x5,x6,x7,x8,x9,x10,x11⟩:=cA (hsty).hX;obtain⟨z0,z1,z2,z3,z4,z5,z6,z7,z8,z9,z10,z11⟩:=cA (hsty).hZ;obtain⟨zf0,zf1,zf2,zf3,zf4,zf5,zf6,zf7,zf8,zf9,zf10,zf11⟩:=fA (hsty).hZ)
    | (go_simp;go_at_call 75;refine(zCv lim st nx bg ak tn fr va ua ca ss.length js.length cs.length vc uc cc cn ov _).mono ?_;rintro _ wy ⟨rfl,by9⟩;rw[hib];have hsty:=T2.below (T2.stored (by assumption) (Nat.le_refl _) _ _ _ _ _ _ _ _ _ _ _ _) by9;obtain⟨x0,x1,x2,x3,x4,x5,x6,x7,x8,x9,x10,x11⟩:=cA (hsty).hX;obtain⟨z0,z1,z2,z3,z4,z5,z6,z7,z8,z9,z10,z11⟩:=cA (hsty).hZ;obtain⟨zf0,zf1,zf2,zf3,zf4,zf5,zf6,zf7,zf8,zf9,zf10,zf11⟩:=fA (hsty).hZ))
   all_goals
    first
     | (go_wp2_with fail;refine bodyPost_ret (v:=.tuple #[.agg #[vS va ss.length vc,vI kI lim,vI kI 3,vI kI nx,vI kI bg,vI kI 0,vI kI 0,vB false,vS none 0 0,vS none 0 0,vB cn,vB ov],vB true]) ?_ rfl ⟨BK.of hB ((T2.stored (by assumption) (Nat.le_refl _) (vS va ss.length vc) (vI kI lim) (vI kI 3) (vI kI nx) (vI kI bg) (vI kI 0) (vI kI 0) (vB false) (vS none 0 0) (vS none 0 0) (vB cn) (vB ov):T2 w _ w.heap.size #[vS va ss.length vc,vI kI lim,vI kI st,vI kI nx,vI kI bg,vI kI ak,vI kI tn,vB fr,vS ua js.length uc,vS ca cs.length cc,vB cn,vB ov] #[vS va ss.length vc,vI kI lim,vI kI 3,vI kI nx,vI kI bg,vI kI 0,vI kI 0,vB false,vS none 0 0,vS none 0 0,vB cn,vB ov] 59)).hb,va,none,none,vc,0,0,rfl,zAf ho.out.hs ((T2.stored (by assumption) (Nat.le_refl _) (vS va ss.length vc) (vI kI lim) (vI kI 3) (vI kI nx) (vI kI bg) (vI kI 0) (vI kI 0) (vB false) (vS none 0 0) (vS none 0 0) (vB cn) (vB ov):T2 w _ w.heap.size #[vS va ss.length vc,vI kI lim,vI kI st,vI kI nx,vI kI bg,vI kI ak,vI kI tn,vB fr,vS ua js.length uc,vS ca cs.length cc,vB cn,vB ov] #[vS va ss.length vc,vI kI lim,vI kI 3,vI kI nx,vI kI bg,vI kI 0,vI kI 0,vB false,vS none 0 0,vS none 0 0,vB cn,vB ov] 59)).hb,World.ownsRow_nil _ _ _ _,World.ownsRow_nil _ _ _ _⟩;rw[results_cell_tmp rfl];go_simp)
     | (go_wp2_with fail;refine bodyPost_ret (v:=.tuple #[.agg #[vS va ss.length vc,vI kI lim,vI kI 3,vI kI nx,vI kI bg,vI kI 0,vI kI 0,vB false,vS none 0 0,vS none 0 0,vB cn,vB ov],vB true]) ?_ rfl ⟨BK.of hB ((by assumption:T2 w _ w.heap.size #[vS va ss.length vc,vI kI lim,vI kI st,vI kI nx,vI kI bg,vI kI ak,vI kI tn,vB fr,vS ua js.length uc,vS ca cs.length cc,vB cn,vB ov] #[vS va ss.length vc,vI kI lim,vI kI 3,vI kI nx,vI kI bg,vI kI 0,vI kI 0,vB false,vS none 0 0,vS none 0 0,vB cn,vB ov] 59)).hb,va,none,none,vc,0,0,rfl,zAf ho.out.hs ((by assumption:T2 w _ w.heap.size #[vS va ss.length vc,vI kI lim,vI kI st,vI kI nx,vI kI bg,vI kI ak,vI kI tn,vB fr,vS ua js.length uc,vS ca cs.length cc,vB cn,vB ov] #[vS va ss.length vc,vI kI lim,vI kI 3,vI kI nx,vI kI bg,vI kI 0,vI kI 0,vB false,vS none 0 0,vS none 0 0,vB cn,vB ov] 59)).hb,World.ownsRow_nil _ _ _ _,World.ownsRow_nil _ _ _ _⟩;rw[results_cell_tmp rfl];go_simp)
 · have hib:(decide (ak=0)&&(decide (tn=0)&&decide (js.length=0)))=false:=by
    cases hb:(decide (ak=0)&&(decide (tn=0)&&decide (js.length=0))) with
    | false=>rfl
    | true=>simp only[Bool.and_eq_true,decide_eq_true_eq] at hb;exact absurd hb hi
   rw[show zBw ⟨ss,lim,st,nx,bg,ak,tn,fr,js,cs,cn,ov⟩ (id,17,tk,rf,sp,ty,ud,dt)=none from by unfold zBw zIa;simp only[Ev.kd];rw[hib];simp]
   clear hi
   obtain⟨W,hW,hS,hE,hR,bW,sW⟩:=lay3 w #[vS va ss.length vc,vI kI lim,vI kI st,vI kI nx,vI kI bg,vI kI ak,vI kI tn,vB fr,vS ua js.length uc,vS ca cs.length cc,vB cn,vB ov] #[vI kI id,vI kI 17,vI kI tk,vI kI rf,vI kI sp,vI kI ty,vB ud,.string ⟨dt.toArray⟩] #[vS none 0 0,vI kI 0,vI kI 0,vI kI 0,vI kI 0,vI kI 0,vI kI 0,vB false,vS none 0 0,vS none 0 0,vB false,vB false] 59 52 59
   have hst:T2 w W w.heap.size #[vS va ss.length vc,vI kI lim,vI kI st,vI kI nx,vI kI bg,vI kI ak,vI kI tn,vB fr,vS ua js.length uc,vS ca cs.length cc,vB cn,vB ov] #[vS none 0 0,vI kI 0,vI kI 0,vI kI 0,vI kI 0,vI kI 0,vI kI 0,vB false,vS none 0 0,vS none 0 0,vB false,vB false] 59:=⟨hS,hR,bW⟩
   have HW:=hid hW
   clear hW hS hE hR bW sW
   go_enter Tryz.func45,Tryz.ntmps45
   go_upto_region 20 with (fail)
   rw[← HW.out]
   clear HW
   obtain⟨x0,x1,x2,x3,x4,x5,x6,x7,x8,x9,x10,x11⟩:=cA (hst).hX
   obtain⟨z0,z1,z2,z3,z4,z5,z6,z7,z8,z9,z10,z11⟩:=cA (hst).hZ
   obtain⟨zf0,zf1,zf2,zf3,zf4,zf5,zf6,zf7,zf8,zf9,zf10,zf11⟩:=fA (hst).hZ
   go_region_law (first
    | (go_simp;go_at_call 74;refine(zEp lim st nx bg ak tn fr va ua ca ss.length js.length cs.length vc uc cc cn ov 3 _).mono ?_;rintro _ wz ⟨rfl,bz⟩;have hstz:=T2.below (by first | assumption | exact T2.drew (by assumption)) bz;obtain⟨x0,x1,x2,x3,x4,x5,x6,x7,x8,x9,x10,x11⟩:=cA (hstz).hX;obtain⟨z0,z1,z2,z3,z4,z5,z6,z7,z8,z9,z10,z11⟩:=cA (hstz).hZ;obtain⟨zf0,zf1,zf2,zf3,zf4,zf5,zf6,zf7,zf8,zf9,zf10,zf11⟩:=fA (hstz).hZ)
    | (go_simp;go_at_call 75;refine(zCv lim st nx bg ak tn fr va ua ca ss.length js.length cs.length vc uc cc cn ov _).mono ?_;rintro _ wy ⟨rfl,by9⟩;rw[hib];have hsty:=T2.below (by first | assumption | exact T2.drew (by assumption)) by9;obtain⟨x0,x1,x2,x3,x4,x5,x6,x7,x8,x9,x10,x11⟩:=cA (hsty).hX;obtain⟨z0,z1,z2,z3,z4,z5,z6,z7,z8,z9,z10,z11⟩:=cA (hsty).hZ;obtain⟨zf0,zf1,zf2,zf3,zf4,zf5,zf6,zf7,zf8,zf9,zf10,zf11⟩:=fA (hsty).hZ)
    | (go_simp;go_at_call 75;refine(zCv lim st nx bg ak tn fr va ua ca ss.length js.length cs.length vc uc cc cn ov _).mono ?_;rintro _ wy ⟨rfl,by9⟩;rw[hib];have hsty:=T2.below (T2.stored (by assumption) (Nat.le_refl _) _ _ _ _ _ _ _ _ _ _ _ _) by9;obtain⟨x0,x1,x2,x3,x4,x5,x6,x7,x8,x9,x10,x11⟩:=cA (hsty).hX;obtain⟨z0,z1,z2,z3,z4,z5,z6,z7,z8,z9,z10,z11⟩:=cA (hsty).hZ;obtain⟨zf0,zf1,zf2,zf3,zf4,zf5,zf6,zf7,zf8,zf9,zf10,zf11⟩:=fA (hsty).hZ))
   all_goals
    first
     | (go_wp2_with fail;refine bodyPost_ret (v:=.tuple #[.agg #[vS va ss.length vc,vI kI lim,vI kI 3,vI kI nx,vI kI bg,vI kI 0,vI kI 0,vB false,vS none 0 0,vS none 0 0,vB cn,vB ov],vB false]) ?_ rfl ⟨BK.of hB ((T2.stored (by assumption) (Nat.le_refl _) (vS va ss.length vc) (vI kI lim) (vI kI 3) (vI kI nx) (vI kI bg) (vI kI 0) (vI kI 0) (vB false) (vS none 0 0) (vS none 0 0) (vB cn) (vB ov):T2 w _ w.heap.size #[vS va ss.length vc,vI kI lim,vI kI st,vI kI nx,vI kI bg,vI kI ak,vI kI tn,vB fr,vS ua js.length uc,vS ca cs.length cc,vB cn,vB ov] #[vS va ss.length vc,vI kI lim,vI kI 3,vI kI nx,vI kI bg,vI kI 0,vI kI 0,vB false,vS none 0 0,vS none 0 0,vB cn,vB ov] 59)).hb,⟨ss,lim,3,nx,bg,0,0,false,[],[],cn,ov⟩,va,none,none,_,0,0,vc,0,0,rfl⟩;rw[results_cell_tmp rfl];go_simp)
     | (go_wp2_with fail;refine bodyPost_ret (v:=.tuple #[.agg #[vS va ss.length vc,vI kI lim,vI kI 3,vI kI nx,vI kI bg,vI kI 0,vI kI 0,vB false,vS none 0 0,vS none 0 0,vB cn,vB ov],vB false]) ?_ rfl ⟨BK.of hB ((by assumption:T2 w _ w.heap.size #[vS va ss.length vc,vI kI lim,vI kI st,vI kI nx,vI kI bg,vI kI ak,vI kI tn,vB fr,vS ua js.length uc,vS ca cs.length cc,vB cn,vB ov] #[vS va ss.length vc,vI kI lim,vI kI 3,vI kI nx,vI kI bg,vI kI 0,vI kI 0,vB false,vS none 0 0,vS none 0 0,vB cn,vB ov] 59)).hb,⟨ss,lim,3,nx,bg,0,0,false,[],[],cn,ov⟩,va,none,none,_,0,0,vc,0,0,rfl⟩;rw[results_cell_tmp rfl];go_simp)
structure T3 (B:Nat) (w0 w:World) (g:Nat) (X Y Z:Array Value) (t te:TypeId):Prop where
 hX:w.heap[g]?=some (.cells X t (0,0))
 hY:w.heap[g+1]?=some (.cells Y te (0,0))
 hZ:w.heap[g+1+1]?=some (.cells Z t (0,0))
 hb:BK B w0 w
 hs:B≤w.heap.size
section
variable {B : Nat} {w0 w w' : World} {g : Nat} {X Y Z : Array Value} {t te : TypeId}
theorem T3.below(h:T3 B w0 w g X Y Z t te)(k:Below w.heap.size w w'):T3 B w0 w' g X Y Z t te :=
 ⟨(k.block _ (gL h.hX)).trans h.hX,(k.block _ (gL h.hY)).trans h.hY,(k.block _ (gL h.hZ)).trans h.hZ,h.hb.then k h.hs,Nat.le_trans h.hs k.size⟩
theorem T3.x(h:T3 B w0 w g X Y Z t te){j:Nat}{v:Value}(hv:X[j]?=some v):w.cell? ⟨g,j,none⟩=some v:=by rw[zHt h.hX];exact hv
theorem T3.y(h:T3 B w0 w g X Y Z t te){j:Nat}{v:Value}(hv:Y[j]?=some v):w.cell? ⟨g+1,j,none⟩=some v:=by rw[zHt h.hY];exact hv
theorem T3.fx(h:T3 B w0 w g X Y Z t te)(j:Nat):w.frozen? ⟨g,j,none⟩=false:=frozen_of_row w _ j _ _ h.hX
theorem T3.grown(h:T3 B w0 w g X Y Z t te){e:TypeId}{k n:Nat}{u:Value}{xs:List Value}(ho:w.ownsRow B e k u n xs)(hg:w.grownBy w' u.ownBlock)(he:t≠e∧te≠e∧(e = 100 ∨ e = 103)):T3 B w0 w' g X Y Z t te:=by
 have key:∀(j:Nat) (R:Array Value) (T:TypeId) (f:Nat×Nat),T≠e→w.heap[j]?=some (.cells R T f)→w'.heap[j]?=some (.cells R T f):=fun j R T f hT hj=>by
  refine(hg.block j (gL hj) ?_).trans hj
  rcases ho.2 with ⟨rfl,_⟩ | ⟨b,cap,cur,rfl,_,hb,_⟩
  · simp[Value.ownBlock]
  · simp only[Value.ownBlock,ne_eq,Option.some.injEq]
    rintro rfl
    rw[hj] at hb
    cases hb
    exact hT rfl
 exact⟨key _ _ _ _ he.1 h.hX,key _ _ _ _ he.2.1 h.hY,key _ _ _ _ he.1 h.hZ,⟨h.hb.below.grown hg h.hs (fun j hj=>(ho.lt j hj).1),fun j R T f hj h1 h2=>key _ _ _ _ (by rcases he.2.2 with q | q <;> rw[q] <;> assumption) (h.hb.keep j R T f hj h1 h2)⟩,Nat.le_trans h.hs hg.size⟩
theorem T3.set(h:T3 B w0 w g X Y Z t te)(hB:B≤w0.heap.size)(j:Nat)(v:Value)(hg:w0.heap.size≤g:=by omega):T3 B w0 (w.setCell ⟨g,j,none⟩ v) g (X.setIfInBounds j v) Y Z t te:=by
 have a:=(At.refl g w).set j v
 exact⟨heap_setCell_same w g j _ _ v h.hX,(a.block _ (gL h.hY) (by simp)).trans h.hY,(a.block _ (gL h.hZ) (by simp;omega)).trans h.hZ,h.hb.at a h.hs hB hg,Nat.le_trans h.hs a.size⟩
theorem T3.row{X':Array Value}(h:T3 B w0 w g X Y Z t te)(e:X=X'):T3 B w0 w g X' Y Z t te:=e ▸ h
end
theorem zAh{w w':World}{B g n k:Nat}{e T:TypeId}{v:Value}{xs:List Value}{R:Array Value}{f:Nat×Nat}(h:w.ownsRow B e k v n xs)(ho:w.heap[g]?=some (.cells R T f))(hT:T≠e)(a:At g w w'):w'.ownsRow B e k v n xs:=by
 refine h.kept a ?_
 rcases h.2 with ⟨rfl,_⟩ | ⟨b,cap,cur,rfl,_,hb,_⟩
 · exact .inl rfl
 · right
   simp only[Value.ownBlock,ne_eq,Option.some.injEq]
   rintro rfl
   rw[ho] at hb
   cases hb
   exact hT rfl
theorem zGk{w w':World}{B B' n k n' k':Nat}{e e':TypeId}{v u:Value}{xs xs':List Value}(h:w.ownsRow B e k v n xs)(hu:w.ownsRow B' e' k' u n' xs')(hT:e'≠e)(hg:w.grownBy w' u.ownBlock):w'.ownsRow B e k v n xs:=by
 refine h.kept hg ?_
 rcases h.2 with ⟨rfl,_⟩ | ⟨b,cap,cur,rfl,_,hb,_⟩
 · exact .inl rfl
 · right
   rcases hu.2 with ⟨rfl,_⟩ | ⟨b',cap',cur',rfl,_,hb',_⟩
   · simp[Value.ownBlock]
   · simp only[Value.ownBlock,ne_eq,Option.some.injEq]
     rintro rfl
     rw[hb] at hb'
     cases hb'
     exact hT rfl
theorem StO.at{w w':World}{B g:Nat}{s:Sta}{v u c:Value}{T:TypeId}{R:Array Value}{f:Nat×Nat}(h:StO w B s v u c)(ho:w.heap[g]?=some (.cells R T f))(hT:T ≠ 77 ∧ T ≠ 100 ∧ T ≠ 103)(a:At g w w'):StO w' B s v u c :=
 ⟨zAh h.hs ho hT.1 a,zAh h.hj ho hT.2.1 a,zAh h.hc ho hT.2.2 a⟩
theorem StO.jobs{w w':World}{B:Nat}{s:Sta}{v u c u':Value}{L:List Jb}(h:StO w B s v u c)(hg:w.grownBy w' u.ownBlock)(hn:w'.ownsRow B 100 4 u' L.length (L.flatMap jbC))(s':Sta)(e1:s'.ss=s.ss)(e2:s'.jobs=L)(e3:s'.clocks=s.clocks):StO w' B s' v u' c:=by
 refine⟨?_,?_,?_⟩
 · rw[e1];exact zGk h.hs h.hj (by decide) hg
 · rw[e2];exact hn
 · rw[e3];exact zGk h.hc h.hj (by decide) hg
theorem StO.clocks{w w':World}{B:Nat}{s:Sta}{v u c c':Value}{L:List Ck}(h:StO w B s v u c)(hg:w.grownBy w' c.ownBlock)(hn:w'.ownsRow B 103 3 c' L.length (L.flatMap ckC))(s':Sta)(e1:s'.ss=s.ss)(e2:s'.jobs=s.jobs)(e3:s'.clocks=L):StO w' B s' v u c':=by
 refine⟨?_,?_,?_⟩
 · rw[e1];exact zGk h.hs h.hc (by decide) hg
 · rw[e2];exact zGk h.hj h.hc (by decide) hg
 · rw[e3];exact hn
theorem StO.like{w:World}{B:Nat}{s s':Sta}{v u c:Value}(h:StO w B s v u c)(e1:s'.ss=s.ss)(e2:s'.jobs=s.jobs)(e3:s'.clocks=s.clocks):StO w B s' v u c:=by
 refine⟨?_,?_,?_⟩
 · rw[e1];exact h.hs
 · rw[e2];exact h.hj
 · rw[e3];exact h.hc
theorem zUm{w:World}{B b c:Nat}{L:List Jb}{i:Nat}(hi:i<L.length)(h:w.ownsRow B 100 4 (vS (some ⟨b,0,none⟩) L.length c) L.length (L.flatMap jbC)) :
 (w.setCell ⟨b,i*4+3,none⟩ (vI kI ((L[i]).2.2.2+1))).ownsRow B 100 4 (vS (some ⟨b,0,none⟩) L.length c) L.length ((L.set i (inc L[i])).flatMap jbC):=by
 obtain⟨hl,hd | ⟨g,cap,cur,e1,hB,hg,hnc,hm,hcs,htk⟩⟩:=h
 · exact absurd hd.1 (by simp)
 · cases e1
   have hlen:∀M:List Jb,(M.flatMap jbC).length=M.length*4:=fun M=>zAx zCk M
   refine⟨by rw[hlen,List.length_set],.inr ⟨b,c,_,rfl,hB,heap_setCell_same w b (i*4+3) _ _ _ hg,hnc,hm,by simpa using hcs,?_⟩⟩
   apply List.ext_getElem?
   intro j
   by_cases hj:j<L.length*4
   · rw [List.getElem?_take,if_pos hj,Array.getElem?_toList]
     have hold:cur[j]?=(L.flatMap jbC)[j]?:=by
      rw[← htk,List.getElem?_take,if_pos hj,Array.getElem?_toList]
     have hq:j / 4<L.length:=by omega
     have e0:∀(M:List Jb) (hM:j / 4<M.length),(M.flatMap jbC)[j]?=(jbC M[j / 4])[j % 4]?:=fun M hM=>by
      have:=zAq zCk M (j / 4) (j % 4) (by omega) hM
      rw[show j / 4*4+j % 4=j by omega] at this
      exact this
     rw[e0 _ (by simpa using hq)]
     by_cases hji:j=i*4+3
     · subst hji
       rw[Array.getElem?_setIfInBounds_self_of_lt (by omega)]
       have e1:(i*4+3) / 4=i:=by omega
       have e2:(i*4+3) % 4=3:=by omega
       simp only[e1,e2,List.getElem_set_self]
       rfl
     · rw[Array.getElem?_setIfInBounds_ne (by omega),hold,e0 L hq]
       by_cases hqi:j / 4=i
       · have h3:j % 4≠3:=by omega
         simp only[hqi,List.getElem_set_self]
         rcases(by omega:j % 4=0∨j % 4=1∨j % 4=2) with q | q | q <;> rw[q] <;> rfl
       · simp only[List.getElem_set_ne (fun q=>hqi q.symm)]
   · rw[List.getElem?_take,if_neg hj,List.getElem?_eq_none (by rw[hlen,List.length_set];omega)]
end Go.Proofs.YtkedafopdkhnfaaGreat
