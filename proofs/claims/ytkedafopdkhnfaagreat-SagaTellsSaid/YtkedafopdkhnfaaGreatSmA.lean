/- CONTRACT: Apply. WHAT IS LEFT BEHIND one of the four functions in Apply. -/
import Derived.Test.YtkedafopdkhnfaaGreatSmW
import Derived.Test.YtkedafopdkhnfaaGreatEvtCheck
namespace Go.Proofs.YtkedafopdkhnfaaGreat
open Go.Value renaming int → vI, bool → vB, slice → vS
open Go.IntKind renaming i64 → kI
set_option maxHeartbeats 3200000
set_option maxRecDepth 100000
open Go.RowKit
set_option linter.unusedVariables false
set_option linter.unusedSimpArgs false
def SOK(s:Sta):Prop:=(s.ss.length≤1000∧s.jobs.length≤1000∧s.clocks.length≤1000)∧(∀j∈s.jobs,0≤j.2.2.2∧j.2.2.2≤100)∧((0≤s.began∧s.began≤1099511627776)∧0≤s.lim∧s.lim≤16000)∧(∀x∈s.ss,0≤x.2.2.2.2.2∧x.2.2.2.2.2≤1000)∧(0≤s.next∧s.next≤1000)
def zHv(B:Nat)(w:World)(r:Sta×Int)(e':Ending)(w':World):Prop:=Below B w w'∧∃(va ua ca:Option Addr)(vc uc cc:Nat),e'=.returned (.tuple #[staV r.1 (vS va r.1.ss.length vc) (vS ua r.1.jobs.length uc) (vS ca r.1.clocks.length cc),vI kI r.2])∧StO w' B r.1 (vS va r.1.ss.length vc) (vS ua r.1.jobs.length uc) (vS ca r.1.clocks.length cc)
theorem T3.keep{B:Nat}{w0 w w':World}{g:Nat}{X Y Z:Array Value}{t te:TypeId}(h:T3 B w0 w g X Y Z t te)(k:BK B w w')(ht:t ≠ 100 ∧ t ≠ 103 ∧ te ≠ 100 ∧ te ≠ 103):T3 B w0 w' g X Y Z t te :=
 ⟨k.keep _ _ _ _ h.hX ht.1 ht.2.1,k.keep _ _ _ _ h.hY ht.2.2.1 ht.2.2.2,k.keep _ _ _ _ h.hZ ht.1 ht.2.1,⟨h.hb.below.trans k.below,fun j R T f hj h1 h2=>k.keep j R T f (h.hb.keep j R T f hj h1 h2) h1 h2⟩,Nat.le_trans h.hs k.below.size⟩
theorem zTo(a0 a1 a2 a3 a4 a5 a6 a7 a8 a9 a10 a11 r0 r1 r2 r3 r4 r5 r6 r7 r8 r9 r10 r11:Value):((((((((((((#[a0,a1,a2,a3,a4,a5,a6,a7,a8,a9,a10,a11].setIfInBounds 0 r0).setIfInBounds 1 r1).setIfInBounds 2 r2).setIfInBounds 3 r3).setIfInBounds 4 r4).setIfInBounds 5 r5).setIfInBounds 6 r6).setIfInBounds 7 r7).setIfInBounds 8 r8).setIfInBounds 9 r9).setIfInBounds 10 r10).setIfInBounds 11 r11)=#[r0,r1,r2,r3,r4,r5,r6,r7,r8,r9,r10,r11]:=by
 kernel_rfl
theorem T3.put12{B:Nat}{w0 w:World}{g:Nat}{Y Z:Array Value}{t te:TypeId}{a0 a1 a2 a3 a4 a5 a6 a7 a8 a9 a10 a11:Value}(h:T3 B w0 w g #[a0,a1,a2,a3,a4,a5,a6,a7,a8,a9,a10,a11] Y Z t te)(hB:B≤w0.heap.size)(hg:w0.heap.size≤g)(r0 r1 r2 r3 r4 r5 r6 r7 r8 r9 r10 r11:Value):T3 B w0 ((((((((((((w.setCell ⟨g,0,none⟩ r0).setCell ⟨g,1,none⟩ r1).setCell ⟨g,2,none⟩ r2).setCell ⟨g,3,none⟩ r3).setCell ⟨g,4,none⟩ r4).setCell ⟨g,5,none⟩ r5).setCell ⟨g,6,none⟩ r6).setCell ⟨g,7,none⟩ r7).setCell ⟨g,8,none⟩ r8).setCell ⟨g,9,none⟩ r9).setCell ⟨g,10,none⟩ r10).setCell ⟨g,11,none⟩ r11) g #[r0,r1,r2,r3,r4,r5,r6,r7,r8,r9,r10,r11] Y Z t te:=by
 have h12:=((((((((((((h.set hB 0 r0 hg).set hB 1 r1 hg).set hB 2 r2 hg).set hB 3 r3 hg).set hB 4 r4 hg).set hB 5 r5 hg).set hB 6 r6 hg).set hB 7 r7 hg).set hB 8 r8 hg).set hB 9 r9 hg).set hB 10 r10 hg).set hB 11 r11 hg)
 rw[zTo] at h12
 exact h12
theorem zR1{s t:Sta}{e:Ev}(h:zAu s e=some t):t.next=s.next:=by
 unfold zAu at h
 repeat' split at h
 all_goals first | (cases h;rfl) | (cases h;done)
theorem zRg{s t:Sta}{e:Ev}(h:zC2 s e=some t):t.next=s.next:=by
 unfold zC2 at h
 repeat' split at h
 all_goals first | (cases h;rfl) | (cases h;done)
theorem zN3{s t:Sta}{e:Ev}(h:zDb s e=some t):t.next=s.next:=by
 unfold zDb at h
 repeat' split at h
 all_goals first | (cases h;rfl) | (cases h;done)
theorem zQ3{s t:Sta}{e:Ev}(h:zBw s e=some t):t.next=s.next:=by
 unfold zBw zJq at h
 repeat' split at h
 all_goals first | (cases h;rfl) | (cases h;done)
theorem zEg{s t:Sta}{e:Ev}(h:zA1 s e=some t):t.next=s.next:=by
 unfold zA1 at h
 split at h
 · exact zR1 h
 · split at h
   · exact zRg h
   · split at h
     · exact zN3 h
     · exact zQ3 h
theorem zO7(ss:List St)(lim st nx bg ak tn:Int)(fr:Bool)(js:List Jb)(cs:List Ck)(cn ov:Bool)(va ua ca:Option Addr)(vc uc cc:Nat)(id kd tk rf sp ty:Int)(ud:Bool)(dt:List UInt8)(w:World)(hr:StR w ⟨ss,lim,st,nx,bg,ak,tn,fr,js,cs,cn,ov⟩ (vS va ss.length vc) (vS ua js.length uc) (vS ca cs.length cc))(hok:SOK ⟨ss,lim,st,nx,bg,ak,tn,fr,js,cs,cn,ov⟩)(hdt:dt.length≤140737488355328)(hP:¬EvP (id,kd,tk,rf,sp,ty,ud,dt)) :
 Calls Tryz.prog 31 #[.agg #[vS va ss.length vc,vI kI lim,vI kI st,vI kI nx,vI kI bg,vI kI ak,vI kI tn,vB fr,vS ua js.length uc,vS ca cs.length cc,vB cn,vB ov],.agg #[vI kI id,vI kI kd,vI kI tk,vI kI rf,vI kI sp,vI kI ty,vB ud,.string ⟨dt.toArray⟩]] w fun e' w'=>zHv w.heap.size w (zA0 ⟨ss,lim,st,nx,bg,ak,tn,fr,js,cs,cn,ov⟩ (id,kd,tk,rf,sp,ty,ud,dt)) e' w':=by
 have hEV:=hid (show evV (id,kd,tk,rf,sp,ty,ud,dt)=120 by unfold evV;rw[if_neg hP])
 rw[show zA0 ⟨ss,lim,st,nx,bg,ak,tn,fr,js,cs,cn,ov⟩ (id,kd,tk,rf,sp,ty,ud,dt)=(s0,120) from by unfold zA0;rw[if_pos hP]]
 clear hP
 obtain⟨W,hW,hS,hE,hR,bW,sW⟩:=lay3 w #[vS va ss.length vc,vI kI lim,vI kI st,vI kI nx,vI kI bg,vI kI ak,vI kI tn,vB fr,vS ua js.length uc,vS ca cs.length cc,vB cn,vB ov] #[vI kI id,vI kI kd,vI kI tk,vI kI rf,vI kI sp,vI kI ty,vB ud,.string ⟨dt.toArray⟩] #[vS none 0 0,vI kI 0,vI kI 0,vI kI 0,vI kI 0,vI kI 0,vI kI 0,vB false,vS none 0 0,vS none 0 0,vB false,vB false] 59 52 59
 have ht:T3 w.heap.size w W w.heap.size #[vS va ss.length vc,vI kI lim,vI kI st,vI kI nx,vI kI bg,vI kI ak,vI kI tn,vB fr,vS ua js.length uc,vS ca cs.length cc,vB cn,vB ov] #[vI kI id,vI kI kd,vI kI tk,vI kI rf,vI kI sp,vI kI ty,vB ud,.string ⟨dt.toArray⟩] #[vS none 0 0,vI kI 0,vI kI 0,vI kI 0,vI kI 0,vI kI 0,vI kI 0,vB false,vS none 0 0,vS none 0 0,vB false,vB false] 59 52:=⟨hS,hE,hR,BK.of (Nat.le_refl _) bW,by omega⟩
 have HW:=hid hW
 clear hW hS hE hR sW bW
 go_enter Tryz.func31,Tryz.ntmps31
 go_wp2_with fail
 rw[← HW.out]
 clear HW
 refine(zBx id kd tk rf sp ty ud dt hdt W).mono ?_
 rintro _ w1 ⟨rfl,b1⟩
 rw[hEV.out]
 have ht1:=ht.below b1
 clear ht b1
 obtain⟨z0,z1,z2,z3,z4,z5,z6,z7,z8,z9,z10,z11⟩:=cA (ht1).hZ
 obtain⟨zf0,zf1,zf2,zf3,zf4,zf5,zf6,zf7,zf8,zf9,zf10,zf11⟩:=fA (ht1).hZ
 have HB:=hid ((ht1).hb.at (((((((((((((At.refl (w.heap.size+1+1) w1).set 0 (vS none 0 0)).set 1 (vI kI 0)).set 2 (vI kI 0)).set 3 (vI kI 0)).set 4 (vI kI 0)).set 5 (vI kI 0)).set 6 (vI kI 0)).set 7 (vB false)).set 8 (vS none 0 0)).set 9 (vS none 0 0)).set 10 (vB false)).set 11 (vB false)) (ht1).hs (Nat.le_refl _) (by omega)).below
 go_wp2_with fail
 refine bodyPost_ret (v:=.tuple #[.agg #[vS none 0 0,vI kI 0,vI kI 0,vI kI 0,vI kI 0,vI kI 0,vI kI 0,vB false,vS none 0 0,vS none 0 0,vB false,vB false],vI kI 120]) ?_ rfl ⟨HB.out,none,none,none,0,0,0,rfl,StO.none _ _ s0 rfl rfl rfl⟩
 rw[results_cell_tmp rfl]
 go_simp
theorem zNx(ss:List St)(lim st nx bg ak tn:Int)(fr:Bool)(js:List Jb)(cs:List Ck)(cn ov:Bool)(va ua ca:Option Addr)(vc uc cc:Nat)(id kd tk rf sp ty:Int)(ud:Bool)(dt:List UInt8)(w:World)(hr:StR w ⟨ss,lim,st,nx,bg,ak,tn,fr,js,cs,cn,ov⟩ (vS va ss.length vc) (vS ua js.length uc) (vS ca cs.length cc))(hok:SOK ⟨ss,lim,st,nx,bg,ak,tn,fr,js,cs,cn,ov⟩)(hdt:dt.length≤140737488355328)(hP:EvP (id,kd,tk,rf,sp,ty,ud,dt))(hn:nx=0) :
 Calls Tryz.prog 31 #[.agg #[vS va ss.length vc,vI kI lim,vI kI st,vI kI nx,vI kI bg,vI kI ak,vI kI tn,vB fr,vS ua js.length uc,vS ca cs.length cc,vB cn,vB ov],.agg #[vI kI id,vI kI kd,vI kI tk,vI kI rf,vI kI sp,vI kI ty,vB ud,.string ⟨dt.toArray⟩]] w fun e' w'=>zHv w.heap.size w (zA0 ⟨ss,lim,st,nx,bg,ak,tn,fr,js,cs,cn,ov⟩ (id,kd,tk,rf,sp,ty,ud,dt)) e' w':=by
 subst hn
 have hEV:=hid (show evV (id,kd,tk,rf,sp,ty,ud,dt)=0 by unfold evV;rw[if_pos hP])
 by_cases h1:kd=1
 case neg =>
  have hq:(kd==1)=false:=by simpa using h1
  rw[show zA0 ⟨ss,lim,st,0,bg,ak,tn,fr,js,cs,cn,ov⟩ (id,kd,tk,rf,sp,ty,ud,dt)=(s0,120) from by unfold zA0;rw[if_neg (not_not_intro hP),if_pos rfl,if_neg (fun q=>h1 q.1)]]
  obtain⟨W,hW,hS,hE,hR,bW,sW⟩:=lay3 w #[vS va ss.length vc,vI kI lim,vI kI st,vI kI 0,vI kI bg,vI kI ak,vI kI tn,vB fr,vS ua js.length uc,vS ca cs.length cc,vB cn,vB ov] #[vI kI id,vI kI kd,vI kI tk,vI kI rf,vI kI sp,vI kI ty,vB ud,.string ⟨dt.toArray⟩] #[vS none 0 0,vI kI 0,vI kI 0,vI kI 0,vI kI 0,vI kI 0,vI kI 0,vB false,vS none 0 0,vS none 0 0,vB false,vB false] 59 52 59
  have ht:T3 w.heap.size w W w.heap.size #[vS va ss.length vc,vI kI lim,vI kI st,vI kI 0,vI kI bg,vI kI ak,vI kI tn,vB fr,vS ua js.length uc,vS ca cs.length cc,vB cn,vB ov] #[vI kI id,vI kI kd,vI kI tk,vI kI rf,vI kI sp,vI kI ty,vB ud,.string ⟨dt.toArray⟩] #[vS none 0 0,vI kI 0,vI kI 0,vI kI 0,vI kI 0,vI kI 0,vI kI 0,vB false,vS none 0 0,vS none 0 0,vB false,vB false] 59 52:=⟨hS,hE,hR,BK.of (Nat.le_refl _) bW,by omega⟩
  have HW:=hid hW
  clear hW hS hE hR sW bW
  go_enter Tryz.func31,Tryz.ntmps31
  go_wp2_with fail
  rw[← HW.out]
  clear HW
  refine(zBx id kd tk rf sp ty ud dt hdt W).mono ?_
  rintro _ w1 ⟨rfl,b1⟩
  rw[hEV.out]
  have ht1:=ht.below b1
  clear ht b1
  have x3:w1.cell? ⟨w.heap.size,3,none⟩=some (vI kI 0):=(ht1).x rfl
  obtain⟨y0,y1,-⟩:=cA (ht1).hY
  obtain⟨z0,z1,z2,z3,z4,z5,z6,z7,z8,z9,z10,z11⟩:=cA (ht1).hZ
  obtain⟨zf0,zf1,zf2,zf3,zf4,zf5,zf6,zf7,zf8,zf9,zf10,zf11⟩:=fA (ht1).hZ
  have HB:=hid ((ht1).hb.at (((((((((((((At.refl (w.heap.size+1+1) w1).set 0 (vS none 0 0)).set 1 (vI kI 0)).set 2 (vI kI 0)).set 3 (vI kI 0)).set 4 (vI kI 0)).set 5 (vI kI 0)).set 6 (vI kI 0)).set 7 (vB false)).set 8 (vS none 0 0)).set 9 (vS none 0 0)).set 10 (vB false)).set 11 (vB false)) (ht1).hs (Nat.le_refl _) (by omega)).below
  go_wp2_with fail
  refine bodyPost_ret (v:=.tuple #[.agg #[vS none 0 0,vI kI 0,vI kI 0,vI kI 0,vI kI 0,vI kI 0,vI kI 0,vB false,vS none 0 0,vS none 0 0,vB false,vB false],vI kI 120]) ?_ rfl ⟨HB.out,none,none,none,0,0,0,rfl,StO.none _ _ s0 rfl rfl rfl⟩
  rw[results_cell_tmp rfl]
  go_simp
 by_cases h2:id=1
 case neg =>
  have hq9:(kd==1)=true:=by simpa using h1
  have hq8:(kd != 1)=false:=by simp[h1]
  clear h1
  have hq:(id==1)=false:=by simpa using h2
  rw[show zA0 ⟨ss,lim,st,0,bg,ak,tn,fr,js,cs,cn,ov⟩ (id,kd,tk,rf,sp,ty,ud,dt)=(s0,120) from by unfold zA0;rw[if_neg (not_not_intro hP),if_pos rfl,if_neg (fun q=>h2 q.2)]]
  obtain⟨W,hW,hS,hE,hR,bW,sW⟩:=lay3 w #[vS va ss.length vc,vI kI lim,vI kI st,vI kI 0,vI kI bg,vI kI ak,vI kI tn,vB fr,vS ua js.length uc,vS ca cs.length cc,vB cn,vB ov] #[vI kI id,vI kI kd,vI kI tk,vI kI rf,vI kI sp,vI kI ty,vB ud,.string ⟨dt.toArray⟩] #[vS none 0 0,vI kI 0,vI kI 0,vI kI 0,vI kI 0,vI kI 0,vI kI 0,vB false,vS none 0 0,vS none 0 0,vB false,vB false] 59 52 59
  have ht:T3 w.heap.size w W w.heap.size #[vS va ss.length vc,vI kI lim,vI kI st,vI kI 0,vI kI bg,vI kI ak,vI kI tn,vB fr,vS ua js.length uc,vS ca cs.length cc,vB cn,vB ov] #[vI kI id,vI kI kd,vI kI tk,vI kI rf,vI kI sp,vI kI ty,vB ud,.string ⟨dt.toArray⟩] #[vS none 0 0,vI kI 0,vI kI 0,vI kI 0,vI kI 0,vI kI 0,vI kI 0,vB false,vS none 0 0,vS none 0 0,vB false,vB false] 59 52:=⟨hS,hE,hR,BK.of (Nat.le_refl _) bW,by omega⟩
  have HW:=hid hW
  clear hW hS hE hR sW bW
  go_enter Tryz.func31,Tryz.ntmps31
  go_wp2_with fail
  rw[← HW.out]
  clear HW
  refine(zBx id kd tk rf sp ty ud dt hdt W).mono ?_
  rintro _ w1 ⟨rfl,b1⟩
  rw[hEV.out]
  have ht1:=ht.below b1
  clear ht b1
  have x3:w1.cell? ⟨w.heap.size,3,none⟩=some (vI kI 0):=(ht1).x rfl
  obtain⟨y0,y1,-⟩:=cA (ht1).hY
  obtain⟨z0,z1,z2,z3,z4,z5,z6,z7,z8,z9,z10,z11⟩:=cA (ht1).hZ
  obtain⟨zf0,zf1,zf2,zf3,zf4,zf5,zf6,zf7,zf8,zf9,zf10,zf11⟩:=fA (ht1).hZ
  have HB:=hid ((ht1).hb.at (((((((((((((At.refl (w.heap.size+1+1) w1).set 0 (vS none 0 0)).set 1 (vI kI 0)).set 2 (vI kI 0)).set 3 (vI kI 0)).set 4 (vI kI 0)).set 5 (vI kI 0)).set 6 (vI kI 0)).set 7 (vB false)).set 8 (vS none 0 0)).set 9 (vS none 0 0)).set 10 (vB false)).set 11 (vB false)) (ht1).hs (Nat.le_refl _) (by omega)).below
  go_wp2_with fail
  refine bodyPost_ret (v:=.tuple #[.agg #[vS none 0 0,vI kI 0,vI kI 0,vI kI 0,vI kI 0,vI kI 0,vI kI 0,vB false,vS none 0 0,vS none 0 0,vB false,vB false],vI kI 120]) ?_ rfl ⟨HB.out,none,none,none,0,0,0,rfl,StO.none _ _ s0 rfl rfl rfl⟩
  rw[results_cell_tmp rfl]
  go_simp
 subst h1
 subst h2
 obtain⟨lim',ss',hp⟩:∃lim ss,zDf dt=some (lim,ss):=hP.2.2.2.2.2.2.2.1 rfl
 rw[show zA0 ⟨ss,lim,st,0,bg,ak,tn,fr,js,cs,cn,ov⟩ (1,1,tk,rf,sp,ty,ud,dt)=(⟨ss',lim',0,2,tk,0,0,true,[],[],false,false⟩,0) from by
  unfold zA0
  rw[if_neg (not_not_intro hP),if_pos rfl,if_pos ⟨rfl,rfl⟩]
  unfold zM0 prgF
  simp only[Ev.dt,Ev.tk]
  rw[hp];rfl]
 have HP:=hid hp
 clear hp hP
 obtain⟨W,hW,hS,hE,hR,bW,sW⟩:=lay3 w #[vS va ss.length vc,vI kI lim,vI kI st,vI kI 0,vI kI bg,vI kI ak,vI kI tn,vB fr,vS ua js.length uc,vS ca cs.length cc,vB cn,vB ov] #[vI kI 1,vI kI 1,vI kI tk,vI kI rf,vI kI sp,vI kI ty,vB ud,.string ⟨dt.toArray⟩] #[vS none 0 0,vI kI 0,vI kI 0,vI kI 0,vI kI 0,vI kI 0,vI kI 0,vB false,vS none 0 0,vS none 0 0,vB false,vB false] 59 52 59
 have ht:T3 w.heap.size w W w.heap.size #[vS va ss.length vc,vI kI lim,vI kI st,vI kI 0,vI kI bg,vI kI ak,vI kI tn,vB fr,vS ua js.length uc,vS ca cs.length cc,vB cn,vB ov] #[vI kI 1,vI kI 1,vI kI tk,vI kI rf,vI kI sp,vI kI ty,vB ud,.string ⟨dt.toArray⟩] #[vS none 0 0,vI kI 0,vI kI 0,vI kI 0,vI kI 0,vI kI 0,vI kI 0,vB false,vS none 0 0,vS none 0 0,vB false,vB false] 59 52:=⟨hS,hE,hR,BK.of (Nat.le_refl _) bW,by omega⟩
 have HW:=hid hW
 clear hW hS hE hR sW bW
 go_enter Tryz.func31,Tryz.ntmps31
 go_wp2_with fail
 rw[← HW.out]
 clear HW
 refine(zBx 1 1 tk rf sp ty ud dt hdt W).mono ?_
 rintro _ w1 ⟨rfl,b1⟩
 rw[hEV.out]
 have ht1:=ht.below b1
 clear ht b1
 have x3:w1.cell? ⟨w.heap.size,3,none⟩=some (vI kI 0):=(ht1).x rfl
 obtain⟨y0,y1,-,-,-,-,-,y7⟩:=cA (ht1).hY
 go_wp2_with fail
 refine(zIy dt hdt w1).mono ?_
 rintro _ w2 ⟨v,lim2,ss2,er,rfl,ho,b2,hres⟩
 rcases hres with ⟨hpp,rfl⟩ | ⟨hpp,-⟩
 case inr=>rw[HP.out] at hpp;cases hpp
 rw[HP.out] at hpp
 injection hpp with hpp
 rw[Prod.mk.injEq] at hpp
 obtain⟨rfl,rfl⟩:=hpp
 obtain⟨a,c,rfl⟩:=zCc ho
 have ho2:=zAw ho ht1.hs
 have ht2:=ht1.below b2
 have b3:Below w2.heap.size w2 (w2.alloc (.cells #[vS a ss'.length c,vI kI lim'] 32)):=(Below.refl _ _).alloc (Nat.le_refl _) _
 have ht3:=ht2.below b3
 have ho3:=zAf ho2 b3
 clear ho b2 ht1 x3 y0 y1 y7
 have y2:(w2.alloc (.cells #[vS a ss'.length c,vI kI lim'] 32)).cell? ⟨w.heap.size+1,2,none⟩=some (vI kI tk):=(ht3).y rfl
 obtain⟨z0,z1,z2,z3,z4,z5,z6,z7,z8,z9,z10,z11⟩:=cA (ht3).hZ
 obtain⟨zf0,zf1,zf2,zf3,zf4,zf5,zf6,zf7,zf8,zf9,zf10,zf11⟩:=fA (ht3).hZ
 have HB:=hid (ht3.hb.at (((((((((((((At.refl (w.heap.size+1+1) (w2.alloc (.cells #[vS a ss'.length c,vI kI lim'] 32))).set 0 (vS a ss'.length c)).set 1 (vI kI lim')).set 2 (vI kI 0)).set 3 (vI kI 2)).set 4 (vI kI tk)).set 5 (vI kI 0)).set 6 (vI kI 0)).set 7 (vB true)).set 8 (vS none 0 0)).set 9 (vS none 0 0)).set 10 (vB false)).set 11 (vB false)) ht3.hs (Nat.le_refl _) (by omega)).below
 have HO:=hid (zAh ho3 ht3.hZ (by decide) (((((((((((((At.refl (w.heap.size+1+1) (w2.alloc (.cells #[vS a ss'.length c,vI kI lim'] 32))).set 0 (vS a ss'.length c)).set 1 (vI kI lim')).set 2 (vI kI 0)).set 3 (vI kI 2)).set 4 (vI kI tk)).set 5 (vI kI 0)).set 6 (vI kI 0)).set 7 (vB true)).set 8 (vS none 0 0)).set 9 (vS none 0 0)).set 10 (vB false)).set 11 (vB false)))
 clear ht2 ht3 ho2 ho3 b3
 go_wp2_with fail
 refine bodyPost_ret (v:=.tuple #[.agg #[vS a ss'.length c,vI kI lim',vI kI 0,vI kI 2,vI kI tk,vI kI 0,vI kI 0,vB true,vS none 0 0,vS none 0 0,vB false,vB false],vI kI 0]) ?_ rfl ⟨HB.out,a,none,none,c,0,0,rfl,HO.out,World.ownsRow_nil _ _ _ _,World.ownsRow_nil _ _ _ _⟩
 rw[results_cell_tmp rfl]
 go_simp
theorem zKf(ss:List St)(lim st nx bg ak tn:Int)(fr:Bool)(js:List Jb)(cs:List Ck)(cn ov:Bool)(va ua ca:Option Addr)(vc uc cc:Nat)(id kd tk rf sp ty:Int)(ud:Bool)(dt:List UInt8)(w:World)(hr:StR w ⟨ss,lim,st,nx,bg,ak,tn,fr,js,cs,cn,ov⟩ (vS va ss.length vc) (vS ua js.length uc) (vS ca cs.length cc))(hok:SOK ⟨ss,lim,st,nx,bg,ak,tn,fr,js,cs,cn,ov⟩)(hdt:dt.length≤140737488355328)(hP:EvP (id,kd,tk,rf,sp,ty,ud,dt))(hn:¬nx=0)(hs:¬st=0) :
 Calls Tryz.prog 31 #[.agg #[vS va ss.length vc,vI kI lim,vI kI st,vI kI nx,vI kI bg,vI kI ak,vI kI tn,vB fr,vS ua js.length uc,vS ca cs.length cc,vB cn,vB ov],.agg #[vI kI id,vI kI kd,vI kI tk,vI kI rf,vI kI sp,vI kI ty,vB ud,.string ⟨dt.toArray⟩]] w fun e' w'=>zHv w.heap.size w (zA0 ⟨ss,lim,st,nx,bg,ak,tn,fr,js,cs,cn,ov⟩ (id,kd,tk,rf,sp,ty,ud,dt)) e' w':=by
 have hEV:=hid (show evV (id,kd,tk,rf,sp,ty,ud,dt)=0 by unfold evV;rw[if_pos hP])
 have hqs:(st==0)=false:=by simpa using hs
 have hqn:(nx==0)=false:=by simpa using hn
 rw[show zA0 ⟨ss,lim,st,nx,bg,ak,tn,fr,js,cs,cn,ov⟩ (id,kd,tk,rf,sp,ty,ud,dt)=(s0,182) from by unfold zA0;rw[if_neg (not_not_intro hP),if_neg (show ¬(⟨ss,lim,st,nx,bg,ak,tn,fr,js,cs,cn,ov⟩:Sta).next=0 from hn),if_pos (show(⟨ss,lim,st,nx,bg,ak,tn,fr,js,cs,cn,ov⟩:Sta).status≠0 from hs)]]
 clear hP hn hs
 obtain⟨W,hW,hS,hE,hR,bW,sW⟩:=lay3 w #[vS va ss.length vc,vI kI lim,vI kI st,vI kI nx,vI kI bg,vI kI ak,vI kI tn,vB fr,vS ua js.length uc,vS ca cs.length cc,vB cn,vB ov] #[vI kI id,vI kI kd,vI kI tk,vI kI rf,vI kI sp,vI kI ty,vB ud,.string ⟨dt.toArray⟩] #[vS none 0 0,vI kI 0,vI kI 0,vI kI 0,vI kI 0,vI kI 0,vI kI 0,vB false,vS none 0 0,vS none 0 0,vB false,vB false] 59 52 59
 have ht:T3 w.heap.size w W w.heap.size #[vS va ss.length vc,vI kI lim,vI kI st,vI kI nx,vI kI bg,vI kI ak,vI kI tn,vB fr,vS ua js.length uc,vS ca cs.length cc,vB cn,vB ov] #[vI kI id,vI kI kd,vI kI tk,vI kI rf,vI kI sp,vI kI ty,vB ud,.string ⟨dt.toArray⟩] #[vS none 0 0,vI kI 0,vI kI 0,vI kI 0,vI kI 0,vI kI 0,vI kI 0,vB false,vS none 0 0,vS none 0 0,vB false,vB false] 59 52:=⟨hS,hE,hR,BK.of (Nat.le_refl _) bW,by omega⟩
 have HW:=hid hW
 clear hW hS hE hR sW bW
 go_enter Tryz.func31,Tryz.ntmps31
 go_wp2_with fail
 rw[← HW.out]
 clear HW
 refine(zBx id kd tk rf sp ty ud dt hdt W).mono ?_
 rintro _ w1 ⟨rfl,b1⟩
 rw[hEV.out]
 have ht1:=ht.below b1
 clear ht b1
 obtain⟨-,-,x2,x3,-⟩:=cA (ht1).hX
 obtain⟨z0,z1,z2,z3,z4,z5,z6,z7,z8,z9,z10,z11⟩:=cA (ht1).hZ
 obtain⟨zf0,zf1,zf2,zf3,zf4,zf5,zf6,zf7,zf8,zf9,zf10,zf11⟩:=fA (ht1).hZ
 have HB:=hid ((ht1).hb.at (((((((((((((At.refl (w.heap.size+1+1) w1).set 0 (vS none 0 0)).set 1 (vI kI 0)).set 2 (vI kI 0)).set 3 (vI kI 0)).set 4 (vI kI 0)).set 5 (vI kI 0)).set 6 (vI kI 0)).set 7 (vB false)).set 8 (vS none 0 0)).set 9 (vS none 0 0)).set 10 (vB false)).set 11 (vB false)) (ht1).hs (Nat.le_refl _) (by omega)).below
 go_wp2_with fail
 refine bodyPost_ret (v:=.tuple #[.agg #[vS none 0 0,vI kI 0,vI kI 0,vI kI 0,vI kI 0,vI kI 0,vI kI 0,vB false,vS none 0 0,vS none 0 0,vB false,vB false],vI kI 182]) ?_ rfl ⟨HB.out,none,none,none,0,0,0,rfl,StO.none _ _ s0 rfl rfl rfl⟩
 rw[results_cell_tmp rfl]
 go_simp
theorem zRs(ss:List St)(lim st nx bg ak tn:Int)(fr:Bool)(js:List Jb)(cs:List Ck)(cn ov:Bool)(va ua ca:Option Addr)(vc uc cc:Nat)(id kd tk rf sp ty:Int)(ud:Bool)(dt:List UInt8)(w:World)(hr:StR w ⟨ss,lim,st,nx,bg,ak,tn,fr,js,cs,cn,ov⟩ (vS va ss.length vc) (vS ua js.length uc) (vS ca cs.length cc))(hok:SOK ⟨ss,lim,st,nx,bg,ak,tn,fr,js,cs,cn,ov⟩)(hdt:dt.length≤140737488355328)(hP:EvP (id,kd,tk,rf,sp,ty,ud,dt))(hn:¬nx=0)(hs:st=0)(hi:¬id=nx) :
 Calls Tryz.prog 31 #[.agg #[vS va ss.length vc,vI kI lim,vI kI st,vI kI nx,vI kI bg,vI kI ak,vI kI tn,vB fr,vS ua js.length uc,vS ca cs.length cc,vB cn,vB ov],.agg #[vI kI id,vI kI kd,vI kI tk,vI kI rf,vI kI sp,vI kI ty,vB ud,.string ⟨dt.toArray⟩]] w fun e' w'=>zHv w.heap.size w (zA0 ⟨ss,lim,st,nx,bg,ak,tn,fr,js,cs,cn,ov⟩ (id,kd,tk,rf,sp,ty,ud,dt)) e' w':=by
 have hEV:=hid (show evV (id,kd,tk,rf,sp,ty,ud,dt)=0 by unfold evV;rw[if_pos hP])
 have hqs:(st==0)=true:=by simpa using hs
 have hqi:(id==nx)=false:=by simpa using hi
 have hqn:(nx==0)=false:=by simpa using hn
 rw[show zA0 ⟨ss,lim,st,nx,bg,ak,tn,fr,js,cs,cn,ov⟩ (id,kd,tk,rf,sp,ty,ud,dt)=(s0,120) from by unfold zA0;rw[if_neg (not_not_intro hP),if_neg (show ¬(⟨ss,lim,st,nx,bg,ak,tn,fr,js,cs,cn,ov⟩:Sta).next=0 from hn),if_neg (not_not_intro (show(⟨ss,lim,st,nx,bg,ak,tn,fr,js,cs,cn,ov⟩:Sta).status=0 from hs)),if_pos (show Ev.id (id,kd,tk,rf,sp,ty,ud,dt)≠(⟨ss,lim,st,nx,bg,ak,tn,fr,js,cs,cn,ov⟩:Sta).next from hi)]]
 clear hP hn hs
 obtain⟨W,hW,hS,hE,hR,bW,sW⟩:=lay3 w #[vS va ss.length vc,vI kI lim,vI kI st,vI kI nx,vI kI bg,vI kI ak,vI kI tn,vB fr,vS ua js.length uc,vS ca cs.length cc,vB cn,vB ov] #[vI kI id,vI kI kd,vI kI tk,vI kI rf,vI kI sp,vI kI ty,vB ud,.string ⟨dt.toArray⟩] #[vS none 0 0,vI kI 0,vI kI 0,vI kI 0,vI kI 0,vI kI 0,vI kI 0,vB false,vS none 0 0,vS none 0 0,vB false,vB false] 59 52 59
 have ht:T3 w.heap.size w W w.heap.size #[vS va ss.length vc,vI kI lim,vI kI st,vI kI nx,vI kI bg,vI kI ak,vI kI tn,vB fr,vS ua js.length uc,vS ca cs.length cc,vB cn,vB ov] #[vI kI id,vI kI kd,vI kI tk,vI kI rf,vI kI sp,vI kI ty,vB ud,.string ⟨dt.toArray⟩] #[vS none 0 0,vI kI 0,vI kI 0,vI kI 0,vI kI 0,vI kI 0,vI kI 0,vB false,vS none 0 0,vS none 0 0,vB false,vB false] 59 52:=⟨hS,hE,hR,BK.of (Nat.le_refl _) bW,by omega⟩
 have HW:=hid hW
 clear hW hS hE hR sW bW
 go_enter Tryz.func31,Tryz.ntmps31
 go_wp2_with fail
 rw[← HW.out]
 clear HW
 refine(zBx id kd tk rf sp ty ud dt hdt W).mono ?_
 rintro _ w1 ⟨rfl,b1⟩
 rw[hEV.out]
 have ht1:=ht.below b1
 clear ht b1
 obtain⟨-,-,x2,x3,-⟩:=cA (ht1).hX
 have y0:w1.cell? ⟨w.heap.size+1,0,none⟩=some (vI kI id):=(ht1).y rfl
 obtain⟨z0,z1,z2,z3,z4,z5,z6,z7,z8,z9,z10,z11⟩:=cA (ht1).hZ
 obtain⟨zf0,zf1,zf2,zf3,zf4,zf5,zf6,zf7,zf8,zf9,zf10,zf11⟩:=fA (ht1).hZ
 have HB:=hid ((ht1).hb.at (((((((((((((At.refl (w.heap.size+1+1) w1).set 0 (vS none 0 0)).set 1 (vI kI 0)).set 2 (vI kI 0)).set 3 (vI kI 0)).set 4 (vI kI 0)).set 5 (vI kI 0)).set 6 (vI kI 0)).set 7 (vB false)).set 8 (vS none 0 0)).set 9 (vS none 0 0)).set 10 (vB false)).set 11 (vB false)) (ht1).hs (Nat.le_refl _) (by omega)).below
 go_wp2_with fail
 refine bodyPost_ret (v:=.tuple #[.agg #[vS none 0 0,vI kI 0,vI kI 0,vI kI 0,vI kI 0,vI kI 0,vI kI 0,vB false,vS none 0 0,vS none 0 0,vB false,vB false],vI kI 120]) ?_ rfl ⟨HB.out,none,none,none,0,0,0,rfl,StO.none _ _ s0 rfl rfl rfl⟩
 rw[results_cell_tmp rfl]
 go_simp
def AftP(w:World)(s:Sta)(e:Ev)(Y:Array Value)(s8:Value)(wx:World):Prop :=
 (zA1 s e=none∧s8=vB false∧∃X',T3 w.heap.size w wx w.heap.size X' Y #[vS none 0 0,vI kI 0,vI kI 0,vI kI 0,vI kI 0,vI kI 0,vI kI 0,vB false,vS none 0 0,vS none 0 0,vB false,vB false] 59 52)∨(∃(t:Sta) (ta tb td:Option Addr) (tc1 tc2 tc3:Nat),zA1 s e=some t∧s8=vB true∧T3 w.heap.size w wx w.heap.size #[vS ta t.ss.length tc1,vI kI t.lim,vI kI t.status,vI kI t.next,vI kI t.began,vI kI t.asked,vI kI t.taken,vB t.fresh,vS tb t.jobs.length tc2,vS td t.clocks.length tc3,vB t.cancel,vB t.overdue] Y #[vS none 0 0,vI kI 0,vI kI 0,vI kI 0,vI kI 0,vI kI 0,vI kI 0,vB false,vS none 0 0,vS none 0 0,vB false,vB false] 59 52 ∧ StO wx w.heap.size t (vS ta t.ss.length tc1) (vS tb t.jobs.length tc2) (vS td t.clocks.length tc3))
theorem AftP.no{w wx:World}{s:Sta}{e:Ev}{X' Y:Array Value}(h:zA1 s e=none)(ht:T3 w.heap.size w wx w.heap.size X' Y #[vS none 0 0,vI kI 0,vI kI 0,vI kI 0,vI kI 0,vI kI 0,vI kI 0,vB false,vS none 0 0,vS none 0 0,vB false,vB false] 59 52):AftP w s e Y (vB false) wx:=.inl ⟨h,rfl,_,ht⟩
theorem AftP.yes{w wx:World}{s t:Sta}{e:Ev}{Y:Array Value}{ta tb td:Option Addr}{tc1 tc2 tc3:Nat}(h:zA1 s e=some t)(ht:T3 w.heap.size w wx w.heap.size #[vS ta t.ss.length tc1,vI kI t.lim,vI kI t.status,vI kI t.next,vI kI t.began,vI kI t.asked,vI kI t.taken,vB t.fresh,vS tb t.jobs.length tc2,vS td t.clocks.length tc3,vB t.cancel,vB t.overdue] Y #[vS none 0 0,vI kI 0,vI kI 0,vI kI 0,vI kI 0,vI kI 0,vI kI 0,vB false,vS none 0 0,vS none 0 0,vB false,vB false] 59 52)(ho:StO wx w.heap.size t (vS ta t.ss.length tc1) (vS tb t.jobs.length tc2) (vS td t.clocks.length tc3)):AftP w s e Y (vB true) wx:=.inr ⟨t,ta,tb,td,tc1,tc2,tc3,h,rfl,ht,ho⟩
end Go.Proofs.YtkedafopdkhnfaaGreat
