/- CONTRACT of the reference: can. CONTRACT of the reference: Comes. CONTRACT of the reference: State. CONTRACT of the reference: Build. CONTRACT of the reference: Same, at two states that are the same. -/
import Derived.Test.YtkedafopdkhnfaaGreatSmR
import Derived.Deep.RegionHeld3
import Derived.Deep.DeepCutAuto
import Derived.Deep.QuietTactic
import Derived.BigQuiet
import Derived.IntWalk
import Derived.Test.YtkedafopdkhnfaaGreatEvtRight
import Derived.Test.YtkedafopdkhnfaaGreatSmT
import Derived.Test.YtkedafopdkhnfaaGreatPgmSame
namespace Go.Proofs.YtkedafopdkhnfaaGreat
open Go.Value renaming int → vI, bool → vB, slice → vS
open Go.IntKind renaming i64 → kI
set_option maxHeartbeats 32000000
set_option maxRecDepth 100000
open Go.RowKit
set_option linter.unusedVariables false
set_option linter.unusedSimpArgs false
theorem Hs.beg{l:List Ev}(h:Hs l)(hne:l≠[]):(0≤zBo l∧zBo l≤1099511627776)∧0≤(prgL l).1∧(prgL l).1≤16000:=by
 refine⟨?_,(h.prog hne).2.1⟩
 cases l with
 | nil=>exact absurd rfl hne
 | cons x r=>exact h.tick (List.mem_cons_self ..)
theorem zJi{w:World}{g j:Nat}{v:Value}(h:w.cell? ⟨g,j,none⟩=some v):g<w.heap.size:=by
 apply Classical.byContradiction
 intro hn
 have:w.heap[g]?=none:=Array.getElem?_eq_none (by omega)
 simp[World.cell?,this] at h
theorem zQ6{w:World}{pa:Option Addr}{pc:Nat}{ss:List St}(h:Sl w (vS pa ss.length pc) 6 ss.length (ss.flatMap stC)){m:Nat}{x:St}(hx:ss[m]?=some x):∃pb po,pa=some ⟨pb,po,none⟩∧pb<w.heap.size∧w.cell? ⟨pb,po+m*6+2,none⟩=some (.string ⟨x.un.toArray⟩):=by
 obtain⟨hm,rfl⟩:=List.getElem?_eq_some_iff.1 hx
 obtain⟨_,_,a',cap,hv,hc⟩:=h
 rw[Value.slice.injEq] at hv
 obtain⟨rfl,-,rfl⟩:=hv
 obtain⟨b,off,rfl,hblt,hc⟩:=hc.resolve_left (by omega)
 exact⟨b,off,rfl,hblt,zAp hc m 2 (by decide) hm _ rfl⟩
theorem zNa{w:World}{a:Option Addr}{c:Nat}{l:List Ev}(h:Sl w (vS a l.length c) 8 l.length (l.flatMap evc))(hp:0<l.length):∃b off,a=some ⟨b,off,none⟩∧w.cell? ⟨b,off+2,none⟩=some (vI kI (zBo l)):=by
 obtain⟨_,_,a',cap,hv,hc⟩:=h
 rw[Value.slice.injEq] at hv
 obtain⟨rfl,-,rfl⟩:=hv
 obtain⟨b,off,rfl,hblt,hc⟩:=hc.resolve_left (by omega)
 have k:=zAd hc 0 2 (by decide) hp _ rfl
 cases l with
 | nil=>exact absurd hp (Nat.not_lt_zero _)
 | cons x r=>exact⟨b,off,rfl,(by rw[Nat.zero_mul,Nat.add_zero] at k;exact k)⟩
theorem zSz(a:Option Addr)(c:Nat)(l:List Ev)(id kd tk rf sp ty:Int)(ud:Bool)(dt:List UInt8)(w:World)(hs:Sl w (vS a l.length c) 8 l.length (l.flatMap evc))(hH:Hs l)(hne:l≠[])(hP:EvP (id,kd,tk,rf,sp,ty,ud,dt)) :
 Calls Tryz.prog 47 #[vS a l.length c,.agg #[vI kI id,vI kI kd,vI kI tk,vI kI rf,vI kI sp,vI kI ty,vB ud,.string ⟨dt.toArray⟩]] w fun e' w'=>e'=.returned (vB (canF l (id,kd,tk,rf,sp,ty,ud,dt)))∧Below w.heap.size w w':=by
 have hkd:=hP.1
 simp only[Ev.kd] at hkd
 have hsp:0≤sp:=zFj hP
 have htk:0≤tk∧tk≤1099511627776:=hP.2.2.1
 have hbl:=hH.beg hne
 have hL:=hH.short
 have hm:l.length≤9223372036854775807:=hs.2.1.1
 obtain⟨w0,hw0⟩:∃x,x=w.alloc (.cells #[vI kI id,vI kI kd,vI kI tk,vI kI rf,vI kI sp,vI kI ty,vB ud,.string ⟨dt.toArray⟩] 52):=⟨_,rfl⟩
 have b0:Below w.heap.size w w0:=by rw[hw0];exact(Below.refl _ _).alloc (Nat.le_refl _) _
 have he0:w0.heap[w.heap.size]?=some (.cells #[vI kI id,vI kI kd,vI kI tk,vI kI rf,vI kI sp,vI kI ty,vB ud,.string ⟨dt.toArray⟩] 52 (0,0)):=by rw[hw0];exact heap_alloc_new w _
 have hs0:=hs.below b0
 have HW:=hid hw0
 have HP:=hid hP
 obtain⟨R,hR⟩:∃R,R=canF l (id,kd,tk,rf,sp,ty,ud,dt):=⟨_,rfl⟩
 rw[← hR]
 have HR:=hid hR
 clear hw0 hs hP hR
 go_enter Tryz.func47,Tryz.ntmps47
 go_wp2_with fail
 rw[← HW.out]
 refine(zD3 a c l w0 hs0 hne hH.fit).mono ?_
 rintro _ w1 ⟨pa,pc,rfl,hps,b1⟩
 go_upto_region 2 with (fail)
 obtain⟨w2,hw2⟩:∃x,x=w1.alloc (.cells #[vS pa (prgL l).2.length pc,vI kI (prgL l).1] 32):=⟨_,rfl⟩
 have b2:Below w1.heap.size w1 w2:=by rw[hw2];exact(Below.refl _ _).alloc (Nat.le_refl _) _
 have hp2:w2.heap[w1.heap.size]?=some (.cells #[vS pa (prgL l).2.length pc,vI kI (prgL l).1] 32 (0,0)):=by rw[hw2];exact heap_alloc_new w1 _
 rw[← hw2]
 have hs2:=(hs0.below b1).below b2
 have hps2:=hps.below b2
 have he2:=(b2.block _ (gL ((b1.block _ (Array.getElem?_eq_some_iff.1 he0).1).trans he0))).trans ((b1.block _ (gL he0)).trans he0)
 have HB:=hid (zAl (zAl b0 b1) b2)
 clear hs0 hps he0 b0 b1 b2 hw2 HW
 generalize w1.heap.size=gp at *
 have y0:w2.cell? ⟨w.heap.size,0,none⟩=some (vI kI id):=cR he2 rfl
 have y1:w2.cell? ⟨w.heap.size,1,none⟩=some (vI kI kd):=cR he2 rfl
 have y2:w2.cell? ⟨w.heap.size,2,none⟩=some (vI kI tk):=cR he2 rfl
 have y3:w2.cell? ⟨w.heap.size,3,none⟩=some (vI kI rf):=cR he2 rfl
 have y4:w2.cell? ⟨w.heap.size,4,none⟩=some (vI kI sp):=cR he2 rfl
 have y5:w2.cell? ⟨w.heap.size,5,none⟩=some (vI kI ty):=cR he2 rfl
 have y6:w2.cell? ⟨w.heap.size,6,none⟩=some (vB ud):=cR he2 rfl
 have y7:w2.cell? ⟨w.heap.size,7,none⟩=some (.string ⟨dt.toArray⟩):=cR he2 rfl
 obtain⟨p0,p1⟩:=cA hp2
 clear he2 hp2
 have HH:=hid hH
 have HNE:=hid hne
 have HBL:=hid hbl
 clear hH hne hbl
 rcases(by omega:kd=1∨kd=2∨kd=3∨kd=4∨kd=5∨kd=6∨kd=7∨kd=8∨kd=9∨kd=10∨kd=11∨kd=12∨kd=13∨kd=14∨kd=15∨kd=16∨kd=17∨kd=18) with rfl | rfl | rfl | rfl | rfl | rfl | rfl | rfl | rfl | rfl | rfl | rfl | rfl | rfl | rfl | rfl | rfl | rfl
 · as_aux_lemma =>
    have hE:R=false:=HR.out
    go_wp2_with fail
    go_ret
    exact⟨by rw[hE];rfl,HB.out⟩
 · as_aux_lemma =>
    by_cases ha:zAt l=0
    case neg =>
     have hE:R=(decide (zAt l=0)&&decide (zAj l=0)&&zB8 l):=HR.out
     rw[decide_eq_false ha,Bool.false_and,Bool.false_and] at hE
     have hq:(zAt l==0)=false:=by simpa using ha
     clear ha
     go_wp2_with fail
     refine(zBm a c l w2 hs2 ).mono ?_
     rintro _ w9 ⟨rfl,hw9⟩
     rw[hw9]
     clear hw9 w9
     go_wp2_with fail
     go_ret
     exact⟨by rw[hE];rfl,HB.out⟩
    by_cases ht:zAj l=0
    case neg =>
     have hE:R=(decide (zAt l=0)&&decide (zAj l=0)&&zB8 l):=HR.out
     rw[decide_eq_false ht,Bool.and_false,Bool.false_and] at hE
     have hq:(zAj l==0)=false:=by simpa using ht
     have HA:=hid ha
     clear ha ht
     go_wp2_with fail
     refine(zBm a c l w2 hs2 ).mono ?_
     rintro _ w9 ⟨rfl,hw9⟩
     rw[hw9]
     clear hw9 w9
     rw[HA.out]
     go_wp2_with fail
     refine(zBv a c l w2 hs2 ).mono ?_
     rintro _ w9 ⟨rfl,hw9⟩
     rw[hw9]
     clear hw9 w9
     go_wp2_with fail
     go_ret
     exact⟨by rw[hE];rfl,HB.out⟩
    have hE:R=(decide (zAt l=0)&&decide (zAj l=0)&&zB8 l):=HR.out
    rw[decide_eq_true ha,decide_eq_true ht,Bool.true_and,Bool.true_and] at hE
    have HA:=hid ha
    have HT:=hid ht
    clear ha ht
    go_wp2_with fail
    refine(zBm a c l w2 hs2 ).mono ?_
    rintro _ w9 ⟨rfl,hw9⟩
    rw[hw9]
    clear hw9 w9
    rw[HA.out]
    go_wp2_with fail
    refine(zBv a c l w2 hs2 ).mono ?_
    rintro _ w9 ⟨rfl,hw9⟩
    rw[hw9]
    clear hw9 w9
    rw[HT.out]
    go_wp2_with fail
    refine(zI9 a c l w2 hs2 ).mono ?_
    rintro _ w9 ⟨rfl,hw9⟩
    rw[hw9]
    clear hw9 w9
    go_wp2_with fail
    go_ret
    exact⟨by rw[hE];rfl,HB.out⟩
 · as_aux_lemma =>
    have hE:R=decide (zAt l=rf):=HR.out
    by_cases ha:zAt l=rf
    case pos =>
     rw[decide_eq_true ha] at hE
     have hq:(zAt l==rf)=true:=by simpa using ha
     clear ha
     go_wp2_with fail
     go_quiet ((go_at_call 49;exact Calls.quiet_of_same (zBm a c l _ (hs2.below (zAa _ _ _)))))
     go_wp2_with fail
     go_ret
     exact⟨by rw[hE];first | rfl | (show Ending.returned (vB (decide (zBo l+(prgL l).1≤tk)))=_;rw[decide_eq_false (by omega)]),zAl HB.out ⟨rfl,rfl,rfl,Nat.le_refl _,fun _ _=>rfl⟩⟩
    case neg =>
     rw[decide_eq_false ha] at hE
     have hq:(zAt l==rf)=false:=by simpa using ha
     clear ha
     go_wp2_with fail
     go_quiet ((go_at_call 49;exact Calls.quiet_of_same (zBm a c l _ (hs2.below (zAa _ _ _)))))
     go_wp2_with fail
     go_ret
     exact⟨by rw[hE];first | rfl | (show Ending.returned (vB (decide (zBo l+(prgL l).1≤tk)))=_;rw[decide_eq_false (by omega)]),zAl HB.out ⟨rfl,rfl,rfl,Nat.le_refl _,fun _ _=>rfl⟩⟩
 · as_aux_lemma =>
    have hE:R=decide (zAj l=rf):=HR.out
    by_cases ha:zAj l=rf
    case pos =>
     rw[decide_eq_true ha] at hE
     have hq:(zAj l==rf)=true:=by simpa using ha
     clear ha
     go_wp2_with fail
     go_quiet ((go_at_call 50;exact Calls.quiet_of_same (zBv a c l _ (hs2.below (zAa _ _ _)))))
     go_wp2_with fail
     go_ret
     exact⟨by rw[hE];first | rfl | (show Ending.returned (vB (decide (zBo l+(prgL l).1≤tk)))=_;rw[decide_eq_false (by omega)]),zAl HB.out ⟨rfl,rfl,rfl,Nat.le_refl _,fun _ _=>rfl⟩⟩
    case neg =>
     rw[decide_eq_false ha] at hE
     have hq:(zAj l==rf)=false:=by simpa using ha
     clear ha
     go_wp2_with fail
     go_quiet ((go_at_call 50;exact Calls.quiet_of_same (zBv a c l _ (hs2.below (zAa _ _ _)))))
     go_wp2_with fail
     go_ret
     exact⟨by rw[hE];first | rfl | (show Ending.returned (vB (decide (zBo l+(prgL l).1≤tk)))=_;rw[decide_eq_false (by omega)]),zAl HB.out ⟨rfl,rfl,rfl,Nat.le_refl _,fun _ _=>rfl⟩⟩
 · as_aux_lemma =>
    have hE:R=decide (zAj l=rf):=HR.out
    by_cases ha:zAj l=rf
    case pos =>
     rw[decide_eq_true ha] at hE
     have hq:(zAj l==rf)=true:=by simpa using ha
     clear ha
     go_wp2_with fail
     go_quiet ((go_at_call 50;exact Calls.quiet_of_same (zBv a c l _ (hs2.below (zAa _ _ _)))))
     go_wp2_with fail
     go_ret
     exact⟨by rw[hE];first | rfl | (show Ending.returned (vB (decide (zBo l+(prgL l).1≤tk)))=_;rw[decide_eq_false (by omega)]),zAl HB.out ⟨rfl,rfl,rfl,Nat.le_refl _,fun _ _=>rfl⟩⟩
    case neg =>
     rw[decide_eq_false ha] at hE
     have hq:(zAj l==rf)=false:=by simpa using ha
     clear ha
     go_wp2_with fail
     go_quiet ((go_at_call 50;exact Calls.quiet_of_same (zBv a c l _ (hs2.below (zAa _ _ _)))))
     go_wp2_with fail
     go_ret
     exact⟨by rw[hE];first | rfl | (show Ending.returned (vB (decide (zBo l+(prgL l).1≤tk)))=_;rw[decide_eq_false (by omega)]),zAl HB.out ⟨rfl,rfl,rfl,Nat.le_refl _,fun _ _=>rfl⟩⟩
 · as_aux_lemma =>
    have hwl:w.heap.size<w2.heap.size:=zJi y0
    have hgl:gp<w2.heap.size:=zJi p0
    have hE:R=(zCy (prgL l).2 sp 1&&(!ud||decide (zB2 (prgL l).2 sp≠[]))):=HR.out
    go_wp2_with fail
    refine(zLe pa pc (prgL l).2 (prgL l).1 w2 hps2 sp 1 hsp).mono ?_
    rintro _ w9 ⟨rfl,b9⟩
    have HB9:=hid (zAl HB.out b9)
    have z4:w9.cell? ⟨w.heap.size,4,none⟩=some (vI kI sp):=(b9.cell (p:=⟨w.heap.size,4,none⟩) hwl).trans y4
    have z6:w9.cell? ⟨w.heap.size,6,none⟩=some (vB ud):=(b9.cell (p:=⟨w.heap.size,6,none⟩) hwl).trans y6
    have q0:w9.cell? ⟨gp,0,none⟩=some (vS pa (prgL l).2.length pc):=(b9.cell (p:=⟨gp,0,none⟩) hgl).trans p0
    have hps9:=hps2.below b9
    clear y0 y1 y2 y3 y4 y5 y6 y7 p0 p1 hps2 hs2 b9
    have hhk:=zEe (ss:=(prgL l).2) (k:=1) hsp
    cases hk:zB1 (prgL l).2 sp 1 with
    | none =>
      rw[hk] at hhk
      rw[hhk] at hE
      replace hE:R=false:=hE
      replace hhk:zCy (prgL l).2 sp 1=false:=hhk
      clear hk
      go_wp2_with fail
      go_ret
      exact⟨by rw[hE];rfl,HB9.out⟩
    | some x =>
      rw[hk] at hhk
      rw[hhk,zIn hk] at hE
      obtain⟨-,hxm,-⟩:=zCj hk
      obtain⟨m,rfl⟩:=Int.eq_ofNat_of_zero_le hsp
      rw[Int.toNat_natCast] at hxm
      obtain⟨pb,po,rfl,hpl,hcu⟩:=zQ6 hps9 hxm
      have hml:=(List.getElem?_eq_some_iff.1 hxm).1
      have hmI:(m:Int)<((prgL l).2.length:Int):=by omega
      replace hhk:zCy (prgL l).2 (m:Int) 1=true:=hhk
      clear hk hxm hps9
      generalize x.un=un at *
      cases ud
      · replace hE:R=true:=hE
        go_wp2_with fail
        go_ret
        exact⟨by rw[hE];rfl,HB9.out⟩
      · by_cases hu:un=[]
        · rw[hu] at hcu hE
          replace hE:R=false:=hE
          go_wp2_with fail
          go_ret
          exact⟨by rw[hE];rfl,HB9.out⟩
        · replace hE:R=true:=by rw[hE];simp[hu]
          have hq1:(un == [])=false:=by cases un with | nil=>exact absurd rfl hu | cons _ _=>rfl
          have hq2:([]==un)=false:=by cases un with | nil=>exact absurd rfl hu | cons _ _=>rfl
          have hq3:¬un.length=0:=fun h=>hu (List.eq_nil_of_length_eq_zero h)
          clear hu
          go_wp2_with fail
          go_ret
          exact⟨by rw[hE];rfl,HB9.out⟩
 · as_aux_lemma =>
    have hE:R=zFs l (id,7,tk,rf,sp,ty,ud,dt):=HR.out
    go_wp2_with fail
    refine(zHa a c l id 7 tk rf sp ty ud dt w2 hs2 HH.out HNE.out).mono ?_
    rintro _ w9 ⟨rfl,b9⟩
    have HB9:=hid (zAl HB.out b9)
    go_wp2_with fail
    go_ret
    exact⟨by rw[hE];rfl,HB9.out⟩
 · as_aux_lemma =>
    have hE:R=zFs l (id,8,tk,rf,sp,ty,ud,dt):=HR.out
    go_wp2_with fail
    refine(zHa a c l id 8 tk rf sp ty ud dt w2 hs2 HH.out HNE.out).mono ?_
    rintro _ w9 ⟨rfl,b9⟩
    have HB9:=hid (zAl HB.out b9)
    go_wp2_with fail
    go_ret
    exact⟨by rw[hE];rfl,HB9.out⟩
 · as_aux_lemma =>
    have hE:R=zFs l (id,9,tk,rf,sp,ty,ud,dt):=HR.out
    go_wp2_with fail
    refine(zHa a c l id 9 tk rf sp ty ud dt w2 hs2 HH.out HNE.out).mono ?_
    rintro _ w9 ⟨rfl,b9⟩
    have HB9:=hid (zAl HB.out b9)
    go_wp2_with fail
    go_ret
    exact⟨by rw[hE];rfl,HB9.out⟩
 · as_aux_lemma =>
    have hE:R=zCy (prgL l).2 sp 2:=HR.out
    go_wp2_with fail
    refine(zLe pa pc (prgL l).2 (prgL l).1 w2 hps2 sp 2 hsp).mono ?_
    rintro _ w9 ⟨rfl,b9⟩
    have HB9:=hid (zAl HB.out b9)
    go_wp2_with fail
    go_ret
    exact⟨by rw[hE];rfl,HB9.out⟩
 · as_aux_lemma =>
    have hE:R=zH6 l (id,11,tk,rf,sp,ty,ud,dt):=HR.out
    go_wp2_with fail
    refine(zOm a c l id 11 tk rf sp ty ud dt w2 hs2 HH.out).mono ?_
    rintro _ w9 ⟨rfl,b9⟩
    have HB9:=hid (zAl HB.out b9)
    go_wp2_with fail
    go_ret
    exact⟨by rw[hE];rfl,HB9.out⟩
 · as_aux_lemma =>
    have hE:R=true:=HR.out
    go_wp2_with fail
    go_ret
    exact⟨by rw[hE];rfl,HB.out⟩
 · as_aux_lemma =>
    have hE:R=decide (zAy l 13=0):=HR.out
    by_cases ha:zAy l 13=0
    case pos =>
     rw[decide_eq_true ha] at hE
     have hq:((zAy l 13:Int)==0)=true:=by simpa using ha
     clear ha
     go_wp2_with fail
     refine(zBz a c l w2 hs2 13 ).mono ?_
     rintro _ w9 ⟨rfl,hw9⟩
     rw[hw9]
     clear hw9 w9
     go_wp2_with fail
     go_ret
     exact⟨by rw[hE];rfl,HB.out⟩
    case neg =>
     rw[decide_eq_false ha] at hE
     have hq:((zAy l 13:Int)==0)=false:=by simpa using ha
     clear ha
     go_wp2_with fail
     refine(zBz a c l w2 hs2 13 ).mono ?_
     rintro _ w9 ⟨rfl,hw9⟩
     rw[hw9]
     clear hw9 w9
     go_wp2_with fail
     go_ret
     exact⟨by rw[hE];rfl,HB.out⟩
 · as_aux_lemma =>
    have hpos:0<l.length:=List.length_pos_iff.2 HNE.out
    have hposI:(0:Int)<(l.length:Int):=by omega
    obtain⟨sb,so,rfl,y8⟩:=zNa hs2 hpos
    have WB:=IntWalk.i64_in (zBo l+(prgL l).1) (by have:=HBL.out;omega)
    have hE:R=(decide (zAy l 14=0)&&decide ((prgL l).1≠0)&&decide (zBo l+(prgL l).1≤tk)):=HR.out
    by_cases ha:zAy l 14=0
    case neg =>
     rw[decide_eq_false ha,Bool.false_and,Bool.false_and] at hE
     have hq:((zAy l 14:Int)==0)=false:=by simpa using ha
     clear ha
     go_wp2_with fail
     go_quiet ((go_at_call 54;exact Calls.quiet_of_same (zBz _ _ l _ (hs2.below (zAa _ _ _)) 14)))
     go_wp2_with fail
     go_ret
     exact⟨by rw[hE];first | rfl | (show Ending.returned (vB (decide (zBo l+(prgL l).1≤tk)))=_;rw[decide_eq_false (by omega)]),zAl HB.out ⟨rfl,rfl,rfl,Nat.le_refl _,fun _ _=>rfl⟩⟩
    have hq:((zAy l 14:Int)==0)=true:=by simpa using ha
    by_cases hl:(prgL l).1=0
    case pos =>
     rw[decide_eq_true ha,decide_eq_false (show ¬(prgL l).1≠0 from not_not_intro hl),Bool.and_false,Bool.false_and] at hE
     have hl1:((prgL l).1 != 0)=false:=by simp[hl]
     have hl2:((prgL l).1==0)=true:=by simp[hl]
     clear ha hl
     go_wp2_with fail
     go_quiet ((go_at_call 54;exact Calls.quiet_of_same (zBz _ _ l _ (hs2.below (zAa _ _ _)) 14)))
     go_wp2_with fail
     go_ret
     exact⟨by rw[hE];first | rfl | (show Ending.returned (vB (decide (zBo l+(prgL l).1≤tk)))=_;rw[decide_eq_false (by omega)]),zAl HB.out ⟨rfl,rfl,rfl,Nat.le_refl _,fun _ _=>rfl⟩⟩
    have hl1:((prgL l).1 != 0)=true:=by simpa using hl
    have hl2:((prgL l).1==0)=false:=by simpa using hl
    rw[decide_eq_true ha,decide_eq_true (show(prgL l).1≠0 from hl),Bool.true_and,Bool.true_and] at hE
    clear ha hl
    by_cases ht:zBo l+(prgL l).1≤tk
    case pos =>
     rw[decide_eq_true ht] at hE
     go_wp2_with fail
     go_quiet ((go_at_call 54;exact Calls.quiet_of_same (zBz _ _ l _ (hs2.below (zAa _ _ _)) 14)))
     go_wp2_with fail
     go_ret
     exact⟨by rw[hE];first | rfl | (show Ending.returned (vB (decide (zBo l+(prgL l).1≤tk)))=_;rw[decide_eq_false (by omega)]),zAl HB.out ⟨rfl,rfl,rfl,Nat.le_refl _,fun _ _=>rfl⟩⟩
    case neg =>
     rw[decide_eq_false ht] at hE
     go_wp2_with fail
     go_quiet ((go_at_call 54;exact Calls.quiet_of_same (zBz _ _ l _ (hs2.below (zAa _ _ _)) 14)))
     go_wp2_with fail
     go_ret
     exact⟨by rw[hE];first | rfl | (show Ending.returned (vB (decide (zBo l+(prgL l).1≤tk)))=_;rw[decide_eq_false (by omega)]),zAl HB.out ⟨rfl,rfl,rfl,Nat.le_refl _,fun _ _=>rfl⟩⟩
 · as_aux_lemma =>
    by_cases ha:zAt l=0
    case neg =>
     have hE:R=(decide (zAt l=0)&&decide (zAj l=0)&&decide ((zAn l).length=0)):=HR.out
     rw[decide_eq_false ha,Bool.false_and,Bool.false_and] at hE
     have hq:(zAt l==0)=false:=by simpa using ha
     clear ha
     go_wp2_with fail
     refine(zBm a c l w2 hs2 ).mono ?_
     rintro _ w9 ⟨rfl,hw9⟩
     rw[hw9]
     clear hw9 w9
     go_wp2_with fail
     go_ret
     exact⟨by rw[hE];rfl,HB.out⟩
    by_cases ht:zAj l=0
    case neg =>
     have hE:R=(decide (zAt l=0)&&decide (zAj l=0)&&decide ((zAn l).length=0)):=HR.out
     rw[decide_eq_false ht,Bool.and_false,Bool.false_and] at hE
     have hq:(zAj l==0)=false:=by simpa using ht
     have HA:=hid ha
     clear ha ht
     go_wp2_with fail
     refine(zBm a c l w2 hs2 ).mono ?_
     rintro _ w9 ⟨rfl,hw9⟩
     rw[hw9]
     clear hw9 w9
     rw[HA.out]
     go_wp2_with fail
     refine(zBv a c l w2 hs2 ).mono ?_
     rintro _ w9 ⟨rfl,hw9⟩
     rw[hw9]
     clear hw9 w9
     go_wp2_with fail
     go_ret
     exact⟨by rw[hE];rfl,HB.out⟩
    have hE:R=(decide (zAt l=0)&&decide (zAj l=0)&&decide ((zAn l).length=0)):=HR.out
    rw[decide_eq_true ha,decide_eq_true ht,Bool.true_and,Bool.true_and] at hE
    have HA:=hid ha
    have HT:=hid ht
    clear ha ht
    go_wp2_with fail
    refine(zBm a c l w2 hs2 ).mono ?_
    rintro _ w9 ⟨rfl,hw9⟩
    rw[hw9]
    clear hw9 w9
    rw[HA.out]
    go_wp2_with fail
    refine(zBv a c l w2 hs2 ).mono ?_
    rintro _ w9 ⟨rfl,hw9⟩
    rw[hw9]
    clear hw9 w9
    rw[HT.out]
    go_wp2_with fail
    refine(zFc a c l w2 hs2 (by omega)).mono ?_
    rintro _ w9 ⟨av,cv,rfl,ho,b9⟩
    have HB9:=hid (zAl HB.out b9)
    clear ho b9
    by_cases hj:(zAn l).length=0
    · rw[decide_eq_true hj] at hE
      have hq:(((zAn l).length:Int)==0)=true:=by simpa using hj
      clear hj
      go_wp2_with fail
      go_ret
      exact⟨by rw[hE];rfl,HB9.out⟩
    · rw[decide_eq_false hj] at hE
      have hq:(((zAn l).length:Int)==0)=false:=by simpa using hj
      clear hj
      go_wp2_with fail
      go_ret
      exact⟨by rw[hE];rfl,HB9.out⟩
 · as_aux_lemma =>
    by_cases ha:zAt l=0
    case neg =>
     have hE:R=(decide (zAt l=0)&&decide (zAj l=0)&&decide ((zAn l).length=0)):=HR.out
     rw[decide_eq_false ha,Bool.false_and,Bool.false_and] at hE
     have hq:(zAt l==0)=false:=by simpa using ha
     clear ha
     go_wp2_with fail
     refine(zBm a c l w2 hs2 ).mono ?_
     rintro _ w9 ⟨rfl,hw9⟩
     rw[hw9]
     clear hw9 w9
     go_wp2_with fail
     go_ret
     exact⟨by rw[hE];rfl,HB.out⟩
    by_cases ht:zAj l=0
    case neg =>
     have hE:R=(decide (zAt l=0)&&decide (zAj l=0)&&decide ((zAn l).length=0)):=HR.out
     rw[decide_eq_false ht,Bool.and_false,Bool.false_and] at hE
     have hq:(zAj l==0)=false:=by simpa using ht
     have HA:=hid ha
     clear ha ht
     go_wp2_with fail
     refine(zBm a c l w2 hs2 ).mono ?_
     rintro _ w9 ⟨rfl,hw9⟩
     rw[hw9]
     clear hw9 w9
     rw[HA.out]
     go_wp2_with fail
     refine(zBv a c l w2 hs2 ).mono ?_
     rintro _ w9 ⟨rfl,hw9⟩
     rw[hw9]
     clear hw9 w9
     go_wp2_with fail
     go_ret
     exact⟨by rw[hE];rfl,HB.out⟩
    have hE:R=(decide (zAt l=0)&&decide (zAj l=0)&&decide ((zAn l).length=0)):=HR.out
    rw[decide_eq_true ha,decide_eq_true ht,Bool.true_and,Bool.true_and] at hE
    have HA:=hid ha
    have HT:=hid ht
    clear ha ht
    go_wp2_with fail
    refine(zBm a c l w2 hs2 ).mono ?_
    rintro _ w9 ⟨rfl,hw9⟩
    rw[hw9]
    clear hw9 w9
    rw[HA.out]
    go_wp2_with fail
    refine(zBv a c l w2 hs2 ).mono ?_
    rintro _ w9 ⟨rfl,hw9⟩
    rw[hw9]
    clear hw9 w9
    rw[HT.out]
    go_wp2_with fail
    refine(zFc a c l w2 hs2 (by omega)).mono ?_
    rintro _ w9 ⟨av,cv,rfl,ho,b9⟩
    have HB9:=hid (zAl HB.out b9)
    clear ho b9
    by_cases hj:(zAn l).length=0
    · rw[decide_eq_true hj] at hE
      have hq:(((zAn l).length:Int)==0)=true:=by simpa using hj
      clear hj
      go_wp2_with fail
      go_ret
      exact⟨by rw[hE];rfl,HB9.out⟩
    · rw[decide_eq_false hj] at hE
      have hq:(((zAn l).length:Int)==0)=false:=by simpa using hj
      clear hj
      go_wp2_with fail
      go_ret
      exact⟨by rw[hE];rfl,HB9.out⟩
 · as_aux_lemma =>
    by_cases ha:zAt l=0
    case neg =>
     have hE:R=(decide (zAt l=0)&&decide (zAj l=0)&&decide ((zAn l).length=0)):=HR.out
     rw[decide_eq_false ha,Bool.false_and,Bool.false_and] at hE
     have hq:(zAt l==0)=false:=by simpa using ha
     clear ha
     go_wp2_with fail
     refine(zBm a c l w2 hs2 ).mono ?_
     rintro _ w9 ⟨rfl,hw9⟩
     rw[hw9]
     clear hw9 w9
     go_wp2_with fail
     go_ret
     exact⟨by rw[hE];rfl,HB.out⟩
    by_cases ht:zAj l=0
    case neg =>
     have hE:R=(decide (zAt l=0)&&decide (zAj l=0)&&decide ((zAn l).length=0)):=HR.out
     rw[decide_eq_false ht,Bool.and_false,Bool.false_and] at hE
     have hq:(zAj l==0)=false:=by simpa using ht
     have HA:=hid ha
     clear ha ht
     go_wp2_with fail
     refine(zBm a c l w2 hs2 ).mono ?_
     rintro _ w9 ⟨rfl,hw9⟩
     rw[hw9]
     clear hw9 w9
     rw[HA.out]
     go_wp2_with fail
     refine(zBv a c l w2 hs2 ).mono ?_
     rintro _ w9 ⟨rfl,hw9⟩
     rw[hw9]
     clear hw9 w9
     go_wp2_with fail
     go_ret
     exact⟨by rw[hE];rfl,HB.out⟩
    have hE:R=(decide (zAt l=0)&&decide (zAj l=0)&&decide ((zAn l).length=0)):=HR.out
    rw[decide_eq_true ha,decide_eq_true ht,Bool.true_and,Bool.true_and] at hE
    have HA:=hid ha
    have HT:=hid ht
    clear ha ht
    go_wp2_with fail
    refine(zBm a c l w2 hs2 ).mono ?_
    rintro _ w9 ⟨rfl,hw9⟩
    rw[hw9]
    clear hw9 w9
    rw[HA.out]
    go_wp2_with fail
    refine(zBv a c l w2 hs2 ).mono ?_
    rintro _ w9 ⟨rfl,hw9⟩
    rw[hw9]
    clear hw9 w9
    rw[HT.out]
    go_wp2_with fail
    refine(zFc a c l w2 hs2 (by omega)).mono ?_
    rintro _ w9 ⟨av,cv,rfl,ho,b9⟩
    have HB9:=hid (zAl HB.out b9)
    clear ho b9
    by_cases hj:(zAn l).length=0
    · rw[decide_eq_true hj] at hE
      have hq:(((zAn l).length:Int)==0)=true:=by simpa using hj
      clear hj
      go_wp2_with fail
      go_ret
      exact⟨by rw[hE];rfl,HB9.out⟩
    · rw[decide_eq_false hj] at hE
      have hq:(((zAn l).length:Int)==0)=false:=by simpa using hj
      clear hj
      go_wp2_with fail
      go_ret
      exact⟨by rw[hE];rfl,HB9.out⟩
 · as_aux_lemma =>
    have hE:R=true:=HR.out
    go_wp2_with fail
    go_ret
    exact⟨by rw[hE];rfl,HB.out⟩
theorem zOk(a:Option Addr)(c:Nat)(l:List Ev)(id kd tk rf sp ty:Int)(ud:Bool)(dt:List UInt8)(hdt:dt.length≤140737488355328)(w:World)(hs:Sl w (vS a l.length c) 8 l.length (l.flatMap evc))(hH:Hs l) :
 Calls Tryz.prog 32 #[vS a l.length c,.agg #[vI kI id,vI kI kd,vI kI tk,vI kI rf,vI kI sp,vI kI ty,vB ud,.string ⟨dt.toArray⟩]] w fun e' w'=>e'=.returned (vI kI (zA5 l (id,kd,tk,rf,sp,ty,ud,dt)))∧Below w.heap.size w w':=by
 have hL:=hH.short
 have hm:l.length≤9223372036854775807:=hs.2.1.1
 obtain⟨w0,hw0⟩:∃x,x=w.alloc (.cells #[vI kI id,vI kI kd,vI kI tk,vI kI rf,vI kI sp,vI kI ty,vB ud,.string ⟨dt.toArray⟩] 52):=⟨_,rfl⟩
 have b0:Below w.heap.size w w0:=by rw[hw0];exact(Below.refl _ _).alloc (Nat.le_refl _) _
 have he0:w0.heap[w.heap.size]?=some (.cells #[vI kI id,vI kI kd,vI kI tk,vI kI rf,vI kI sp,vI kI ty,vB ud,.string ⟨dt.toArray⟩] 52 (0,0)):=by rw[hw0];exact heap_alloc_new w _
 have hs0:=hs.below b0
 have HW:=hid hw0
 obtain⟨R,hR⟩:∃R,R=zA5 l (id,kd,tk,rf,sp,ty,ud,dt):=⟨_,rfl⟩
 rw[← hR]
 have HR:=hid hR
 clear hw0 hs hR
 obtain⟨y0,y1,y2,y3,y4,y5,y6,y7⟩:=cA he0
 have hwl:=zJi y0
 clear he0
 go_enter Tryz.func32,Tryz.ntmps32
 go_wp2_with fail
 rw[← HW.out]
 go_wp2_with fail
 refine(zN7 id kd tk rf sp ty ud dt hdt w0).mono ?_
 rintro _ w1 ⟨rfl,b1⟩
 have hs1:=hs0.below b1
 have HB:=hid (zAl b0 b1)
 have z0:w1.cell? ⟨w.heap.size,0,none⟩=some (vI kI id):=(b1.cell (p:=⟨w.heap.size,0,none⟩) hwl).trans y0
 have z1:w1.cell? ⟨w.heap.size,1,none⟩=some (vI kI kd):=(b1.cell (p:=⟨w.heap.size,1,none⟩) hwl).trans y1
 have z2:w1.cell? ⟨w.heap.size,2,none⟩=some (vI kI tk):=(b1.cell (p:=⟨w.heap.size,2,none⟩) hwl).trans y2
 have z3:w1.cell? ⟨w.heap.size,3,none⟩=some (vI kI rf):=(b1.cell (p:=⟨w.heap.size,3,none⟩) hwl).trans y3
 have z4:w1.cell? ⟨w.heap.size,4,none⟩=some (vI kI sp):=(b1.cell (p:=⟨w.heap.size,4,none⟩) hwl).trans y4
 have z5:w1.cell? ⟨w.heap.size,5,none⟩=some (vI kI ty):=(b1.cell (p:=⟨w.heap.size,5,none⟩) hwl).trans y5
 have z6:w1.cell? ⟨w.heap.size,6,none⟩=some (vB ud):=(b1.cell (p:=⟨w.heap.size,6,none⟩) hwl).trans y6
 have z7:w1.cell? ⟨w.heap.size,7,none⟩=some (.string ⟨dt.toArray⟩):=(b1.cell (p:=⟨w.heap.size,7,none⟩) hwl).trans y7
 clear y0 y1 y2 y3 y4 y5 y6 y7 b0 b1 hs0 HW
 by_cases hP:EvP (id,kd,tk,rf,sp,ty,ud,dt)
 case neg =>
  rw[decide_eq_false hP]
  have hE:R=120:=by rw[HR.out];unfold zA5;rw[if_pos hP]
  clear hP
  go_wp2_with fail
  go_ret
  exact⟨by rw[hE];rfl,HB.out⟩
 rw[decide_eq_true hP]
 have HP:=hid hP
 have hA:R=if l=[] then(if kd=1∧id=1 then 0 else 120) else if zAg l≠0 then 182 else if id=l.length+1∧canF l (id,kd,tk,rf,sp,ty,ud,dt)=true then 0 else 120:=by rw[HR.out];unfold zA5;rw[if_neg (not_not_intro hP)]
 clear hP
 by_cases hl:l=[]
 · rw[if_pos hl] at hA
   subst hl
   have hz:((([]:List Ev).length:Nat):Int)=0:=rfl
   by_cases h1:kd=1
   case neg =>
    have hE:R=120:=by rw[hA,if_neg (fun q=>h1 q.1)]
    have hq:(kd==1)=false:=by simpa using h1
    have hq':(kd != 1)=true:=by simpa using h1
    clear h1 hA
    go_wp2_with fail
    go_ret
    exact⟨by rw[hE];rfl,HB.out⟩
   by_cases h2:id=1
   case neg =>
    have hE:R=120:=by rw[hA,if_neg (fun q=>h2 q.2)]
    have hq:(id==1)=false:=by simpa using h2
    have hq':(id != 1)=true:=by simpa using h2
    clear h2 hA
    subst h1
    go_wp2_with fail
    go_ret
    exact⟨by rw[hE];rfl,HB.out⟩
   have hE:R=0:=by rw[hA,if_pos ⟨h1,h2⟩]
   clear hA
   subst h1
   subst h2
   go_wp2_with fail
   go_ret
   exact⟨by rw[hE];rfl,HB.out⟩
 rw[if_neg hl] at hA
 have hpos:0<l.length:=List.length_pos_iff.2 hl
 have hposI:(0:Int)<(l.length:Int):=by omega
 have hq0:((l.length:Int)==0)=false:=by rw[beq_eq_false_iff_ne];omega
 by_cases hst:zAg l=0
 case neg =>
  rw[if_pos hst] at hA
  have hq:(zAg l==0)=false:=by simpa using hst
  have hq':(zAg l != 0)=true:=by simpa using hst
  clear hst
  go_wp2_with fail
  refine(zBd a c l w1 hs1).mono ?_
  rintro _ w9 ⟨rfl,hw9⟩
  rw[hw9]
  clear hw9 w9
  go_wp2_with fail
  go_ret
  exact⟨by rw[hA];rfl,HB.out⟩
 rw[if_neg (not_not_intro hst)] at hA
 have HST:=hid hst
 clear hst
 by_cases hi:id=l.length+1
 case neg =>
  rw[if_neg (fun q=>hi q.1)] at hA
  have hq:(id==(l.length:Int)+1)=false:=by simpa using hi
  have hq':(id != (l.length:Int)+1)=true:=by simpa using hi
  clear hi
  go_wp2_with fail
  refine(zBd a c l w1 hs1).mono ?_
  rintro _ w9 ⟨rfl,hw9⟩
  rw[hw9,HST.out]
  clear hw9 w9
  go_wp2_with fail
  go_ret
  exact⟨by rw[hA];rfl,HB.out⟩
 have hq:(id==(l.length:Int)+1)=true:=by simpa using hi
 have hq':(id != (l.length:Int)+1)=false:=by simp[hi]
 have hA2:R=if canF l (id,kd,tk,rf,sp,ty,ud,dt)=true then 0 else 120:=by
  rw[hA]
  by_cases hc:canF l (id,kd,tk,rf,sp,ty,ud,dt)=true
  · rw[if_pos ⟨hi,hc⟩,if_pos hc]
  · rw[if_neg (fun q=>hc q.2),if_neg hc]
 clear hi hA
 have HNE:=hid hl
 clear hl
 go_wp2_with fail
 refine(zBd a c l w1 hs1).mono ?_
 rintro _ w9 ⟨rfl,hw9⟩
 rw[hw9,HST.out]
 clear hw9 w9
 go_wp2_with fail
 refine(zSz a c l id kd tk rf sp ty ud dt w1 hs1 hH HNE.out HP.out).mono ?_
 rintro _ w9 ⟨rfl,b9⟩
 have HB9:=hid (zAl HB.out b9)
 clear b9
 cases hc:canF l (id,kd,tk,rf,sp,ty,ud,dt) with
 | false =>
   rw[hc,if_neg (by decide)] at hA2
   clear hc
   go_wp2_with fail
   go_ret
   exact⟨by rw[hA2];rfl,HB9.out⟩
 | true =>
   rw[hc,if_pos rfl] at hA2
   clear hc
   go_wp2_with fail
   go_ret
   exact⟨by rw[hA2];rfl,HB9.out⟩
theorem zHl{w:World}{g:Nat}{l:List St}{t:TypeId}(h:w.heap[g]?=some (.cells #[vS none 0 0,vI kI 0,vI kI 0,vI kI 0,vI kI 0,vI kI 0,vI kI 0,vB false,vS none 0 0,vS none 0 0,vB false,vB false] t (0,0))) :
 l.length≠0→∀off,¬(∀j (_:j<(l.flatMap stC).length),w.cell? ⟨g,off+j,none⟩=some (l.flatMap stC)[j]):=by
 intro hn off hall
 cases l with
 | nil=>exact hn rfl
 | cons x r =>
   have hl:6≤((x :: r:List St).flatMap stC).length:=by rw[List.flatMap_cons,List.length_append];simp[stC]
   have h1:=hall 1 (by omega)
   rw[cell_of_row w g _ _ _ (0,0) h] at h1
   have hlt:off+1<12:=(gL h1)
   have:((x :: r:List St).flatMap stC)[1]'(by omega)=.string ⟨x.nm.toArray⟩:=by simp[stC,List.flatMap_cons]
   rw[this] at h1
   rcases(by omega:off=0∨off=1∨off=2∨off=3∨off=4∨off=5∨off=6∨off=7∨off=8∨off=9∨off=10) with rfl | rfl | rfl | rfl | rfl | rfl | rfl | rfl | rfl | rfl | rfl <;> simp at h1
theorem zOo(a:Option Addr)(c:Nat)(l:List Ev)(w:World)(hs:Sl w (vS a l.length c) 8 l.length (l.flatMap evc))(hH:Hs l) :
 Calls Tryz.prog 33 #[vS a l.length c] w fun e' w'=>∃(va ua ca:Option Addr)(vc uc cc:Nat),e'=.returned (staV (stOf l) (vS va (stOf l).ss.length vc) (vS ua (stOf l).jobs.length uc) (vS ca (stOf l).clocks.length cc))∧StR w' (stOf l) (vS va (stOf l).ss.length vc) (vS ua (stOf l).jobs.length uc) (vS ca (stOf l).clocks.length cc)∧Below w.heap.size w w':=by
 have hL:=hH.short
 have hm:l.length≤9223372036854775807:=hs.2.1.1
 obtain⟨w0,hw0⟩:∃x,x=w.alloc (.cells #[vS none 0 0,vI kI 0,vI kI 0,vI kI 0,vI kI 0,vI kI 0,vI kI 0,vB false,vS none 0 0,vS none 0 0,vB false,vB false] 59):=⟨_,rfl⟩
 have b0:Below w.heap.size w w0:=by rw[hw0];exact(Below.refl _ _).alloc (Nat.le_refl _) _
 have he0:w0.heap[w.heap.size]?=some (.cells #[vS none 0 0,vI kI 0,vI kI 0,vI kI 0,vI kI 0,vI kI 0,vI kI 0,vB false,vS none 0 0,vS none 0 0,vB false,vB false] 59 (0,0)):=by rw[hw0];exact heap_alloc_new w _
 have hs0:=hs.below b0
 have HW:=hid hw0
 clear hw0
 by_cases hl:l=[]
 · subst hl
   have hz:((([]:List Ev).length:Nat):Int)=0:=rfl
   obtain⟨q0,q1,q2,q3,q4,q5,q6,q7,q8,q9,q10,q11⟩:=cA he0
   obtain⟨qf0,qf1,qf2,qf3,qf4,qf5,qf6,qf7,qf8,qf9,qf10,qf11⟩:=fA he0
   have HB:=hid b0
   rw[show stOf []=s0 from rfl]
   clear he0 b0 hs hs0
   go_enter Tryz.func33,Tryz.ntmps33
   go_wp2_with fail
   rw[← HW.out]
   go_wp2_with fail
   refine bodyPost_ret (v:=.agg #[vS none 0 0,vI kI 0,vI kI 0,vI kI 0,vI kI 0,vI kI 0,vI kI 0,vB false,vS none 0 0,vS none 0 0,vB false,vB false]) ?_ rfl ⟨none,none,none,0,0,0,rfl,⟨Sl.none _ _,Sl.none _ _,Sl.none _ _⟩,HB.out⟩
   rw[zBn rfl]
   go_simp
 have hpos:0<l.length:=List.length_pos_iff.2 hl
 have hposI:(0:Int)<(l.length:Int):=by omega
 have hq0:((l.length:Int)==0)=false:=by rw[beq_eq_false_iff_ne];omega
 have hst:=zC5 hl
 obtain⟨sb,so,rfl,y2⟩:=zNa hs hpos
 have hbl:=zJi y2
 have HNE:=hid hl
 have HST:=hid hst
 have WL:=IntWalk.i64_in ((l.length:Int)+1) (by omega)
 have hbd:Below w.heap.size w (w0.drewN 1):=b0.trans ⟨rfl,rfl,rfl,Nat.le_refl _,fun _ _=>rfl⟩
 have hsd:=hs.below hbd
 have hed:(w0.drewN 1).heap[w.heap.size]?=some (.cells #[vS none 0 0,vI kI 0,vI kI 0,vI kI 0,vI kI 0,vI kI 0,vI kI 0,vB false,vS none 0 0,vS none 0 0,vB false,vB false] 59 (0,0)):=he0
 have SC:=hid (fun(w':World) (q:Below w.heap.size w w')=>(⟨q,(q.cell (p:=⟨sb,so+2,none⟩) hbl).trans y2⟩:Below w.heap.size w w'∧w'.cell? ⟨sb,so+2,none⟩=some (vI kI (zBo l))))
 clear hl hst he0 b0 hs hs0 y2
 go_enter Tryz.func33,Tryz.ntmps33
 go_wp2_with fail
 rw[← HW.out]
 clear HW
 go_wp2_with fail
 go_region_held3 (fun w'=>Below w.heap.size w w'∧w'.cell? ⟨sb,so+2,none⟩=some (vI kI (zBo l))) (first | with_reducible exact SC.out _ hbk | with_reducible exact SC.out _ hbj | with_reducible exact SC.out _ hbp | exact SC.out _ (At.below hbk (((((((((((((At.refl w.heap.size _).set 0 (_)).set 1 (_)).set 2 (_)).set 3 (_)).set 4 (_)).set 5 (_)).set 6 (_)).set 7 (_)).set 8 (_)).set 9 (_)).set 10 (_)).set 11 (_)) (Nat.le_refl _)) | exact SC.out _ hbd) (first
  | ((go_at_call 48;refine(zD3 _ _ l _ (by assumption) HNE.out hH.fit).mono ?_;rintro _ wp ⟨pa,pc,rfl,hps,bp⟩;have hbp:=hbd.trans (bp.mono hbd.size);have hsp:=hsd.below bp;have hep:=(bp.block _ (gL hed)).trans hed;clear hsd))
  | ((go_at_call 24;refine(zBd _ _ l _ (by assumption)).mono ?_;rintro _ w9 ⟨rfl,hw9⟩;rw[hw9];clear hw9 w9))
  | ((go_at_call 49;refine(zBm _ _ l _ (by assumption)).mono ?_;rintro _ w9 ⟨rfl,hw9⟩;rw[hw9];clear hw9 w9))
  | ((go_at_call 50;refine(zBv _ _ l _ (by assumption)).mono ?_;rintro _ w9 ⟨rfl,hw9⟩;rw[hw9];clear hw9 w9))
  | ((go_at_call 51;refine(zI9 _ _ l _ (by assumption)).mono ?_;rintro _ w9 ⟨rfl,hw9⟩;rw[hw9];clear hw9 w9))
  | ((go_at_call 52;refine(zFc _ _ l _ (by assumption) (by omega)).mono ?_;rintro _ wj ⟨ja,jc,rfl,hoj,bj⟩;have hbj:=hbp.trans (bj.mono hbp.size);have hsj:=hsp.below bj;have hej:=(bj.block _ (gL hep)).trans hep;have hpj:=hps.below bj;clear hsp))
  | ((go_at_call 53;refine(zIe _ _ l _ (by assumption) hH).mono ?_;rintro _ wk ⟨ka,kc,rfl,hok,bk⟩;have hbk:=hbj.trans (bk.mono hbj.size);have hsk:=hsj.below bk;have hek:=(bk.block _ (gL hej)).trans hej;have hpk:=hpj.below bk;have hojk:=zAf hoj bk;clear hsj;have q0:wk.cell? ⟨w.heap.size,0,none⟩=some (vS none 0 0):=cR hek rfl;have q1:wk.cell? ⟨w.heap.size,1,none⟩=some (vI kI 0):=cR hek rfl;have q2:wk.cell? ⟨w.heap.size,2,none⟩=some (vI kI 0):=cR hek rfl;have q3:wk.cell? ⟨w.heap.size,3,none⟩=some (vI kI 0):=cR hek rfl;have q4:wk.cell? ⟨w.heap.size,4,none⟩=some (vI kI 0):=cR hek rfl;have q5:wk.cell? ⟨w.heap.size,5,none⟩=some (vI kI 0):=cR hek rfl;have q6:wk.cell? ⟨w.heap.size,6,none⟩=some (vI kI 0):=cR hek rfl;have q7:wk.cell? ⟨w.heap.size,7,none⟩=some (vB false):=cR hek rfl;have q8:wk.cell? ⟨w.heap.size,8,none⟩=some (vS none 0 0):=cR hek rfl;have q9:wk.cell? ⟨w.heap.size,9,none⟩=some (vS none 0 0):=cR hek rfl;have q10:wk.cell? ⟨w.heap.size,10,none⟩=some (vB false):=cR hek rfl;have q11:wk.cell? ⟨w.heap.size,11,none⟩=some (vB false):=cR hek rfl;have qf0:=frozen_of_row wk _ 0 _ _ hek;have qf1:=frozen_of_row wk _ 1 _ _ hek;have qf2:=frozen_of_row wk _ 2 _ _ hek;have qf3:=frozen_of_row wk _ 3 _ _ hek;have qf4:=frozen_of_row wk _ 4 _ _ hek;have qf5:=frozen_of_row wk _ 5 _ _ hek;have qf6:=frozen_of_row wk _ 6 _ _ hek;have qf7:=frozen_of_row wk _ 7 _ _ hek;have qf8:=frozen_of_row wk _ 8 _ _ hek;have qf9:=frozen_of_row wk _ 9 _ _ hek;have qf10:=frozen_of_row wk _ 10 _ _ hek;have qf11:=frozen_of_row wk _ 11 _ _ hek))
  | ((go_at_call 54;refine(zBz _ _ l _ (by assumption) _).mono ?_;rintro _ w9 ⟨rfl,hw9⟩;rw[hw9];clear hw9 w9)))
 have HBF:=hid (At.below hbk (((((((((((((At.refl w.heap.size wk).set 0 (vS pa (prgL l).2.length pc)).set 1 (vI kI (prgL l).1)).set 2 (vI kI (zAg l))).set 3 (vI kI ((l.length:Int)+1))).set 4 (vI kI (zBo l))).set 5 (vI kI (zAt l))).set 6 (vI kI (zAj l))).set 7 (vB (zB8 l))).set 8 (vS ja (zAn l).length jc)).set 9 (vS ka (zAi l).length kc)).set 10 (vB (decide (0<zAy l 13)))).set 11 (vB (decide (0<zAy l 14)))) (Nat.le_refl _))
 have HS:=hid (hpk.at (((((((((((((At.refl w.heap.size wk).set 0 (vS pa (prgL l).2.length pc)).set 1 (vI kI (prgL l).1)).set 2 (vI kI (zAg l))).set 3 (vI kI ((l.length:Int)+1))).set 4 (vI kI (zBo l))).set 5 (vI kI (zAt l))).set 6 (vI kI (zAj l))).set 7 (vB (zB8 l))).set 8 (vS ja (zAn l).length jc)).set 9 (vS ka (zAi l).length kc)).set 10 (vB (decide (0<zAy l 13)))).set 11 (vB (decide (0<zAy l 14)))) (zHl hek))
 have HJ:=hid (Sl.of_own (zAh hojk hek (by decide) (((((((((((((At.refl w.heap.size wk).set 0 (vS pa (prgL l).2.length pc)).set 1 (vI kI (prgL l).1)).set 2 (vI kI (zAg l))).set 3 (vI kI ((l.length:Int)+1))).set 4 (vI kI (zBo l))).set 5 (vI kI (zAt l))).set 6 (vI kI (zAj l))).set 7 (vB (zB8 l))).set 8 (vS ja (zAn l).length jc)).set 9 (vS ka (zAi l).length kc)).set 10 (vB (decide (0<zAy l 13)))).set 11 (vB (decide (0<zAy l 14))))) (zEu hojk))
 have HC:=hid (Sl.of_own (zAh hok hek (by decide) (((((((((((((At.refl w.heap.size wk).set 0 (vS pa (prgL l).2.length pc)).set 1 (vI kI (prgL l).1)).set 2 (vI kI (zAg l))).set 3 (vI kI ((l.length:Int)+1))).set 4 (vI kI (zBo l))).set 5 (vI kI (zAt l))).set 6 (vI kI (zAj l))).set 7 (vB (zB8 l))).set 8 (vS ja (zAn l).length jc)).set 9 (vS ka (zAi l).length kc)).set 10 (vB (decide (0<zAy l 13)))).set 11 (vB (decide (0<zAy l 14))))) (zEu hok))
 have H13:=hid (show decide (0<zAy l 13)=decide (zAy l 13≠0) from decide_eq_decide.2 (by omega))
 have H14:=hid (show decide (0<zAy l 14)=decide (zAy l 14≠0) from decide_eq_decide.2 (by omega))
 clear hbd hbp hbj hbk hed hep hej hek hps hpj hpk hoj hok hojk bp bj bk
 go_wp2_with fail
 refine bodyPost_ret (v:=.agg #[vS pa (prgL l).2.length pc,vI kI (prgL l).1,vI kI (zAg l),vI kI ((l.length:Int)+1),vI kI (zBo l),vI kI (zAt l),vI kI (zAj l),vB (zB8 l),vS ja (zAn l).length jc,vS ka (zAi l).length kc,vB (decide (0<zAy l 13)),vB (decide (0<zAy l 14))]) ?_ rfl (by rw[HST.out];exact⟨pa,ja,ka,pc,jc,kc,by rw[H13.out,H14.out];rfl,⟨HS.out,HJ.out,HC.out⟩,HBF.out⟩)
 rw[zBn rfl]
 go_simp
theorem Sl.take{w:World}{a:Option Addr}{c k:Nat}{l:List Ev}(h:Sl w (vS a l.length c) 8 l.length (l.flatMap evc))(hk:k≤l.length):Sl w (vS a k c) 8 k ((l.take k).flatMap evc):=by
 obtain⟨h1,⟨h2,h3⟩,a',cap,hv,hc⟩:=h
 rw[Value.slice.injEq] at hv
 obtain⟨rfl,-,rfl⟩:=hv
 have hl:∀m:List Ev,(m.flatMap evc).length=m.length*8:=fun m=>zAx zL4 m
 refine⟨by rw[hl,List.length_take,Nat.min_eq_left hk],⟨Nat.le_trans hk h2,fun n c e=>by rw[Value.slice.injEq] at e;obtain⟨rfl,-,rfl⟩:=e;exact h3 _ _ rfl⟩,a,c,rfl,?_⟩
 by_cases hz:k=0
 · exact .inl hz
 · obtain⟨b,off,rfl,hb,hcc⟩:=hc.resolve_left (by omega)
   refine .inr ⟨b,off,rfl,hb,fun j hj=>?_⟩
   have hj2:j<(l.flatMap evc).length:=by rw[hl] at hj ⊢;rw[List.length_take] at hj;omega
   rw[hcc j hj2]
   congr 1
   have e:l.flatMap evc=(l.take k).flatMap evc++(l.drop k).flatMap evc:=by rw[← List.flatMap_append,List.take_append_drop]
   simp only[e]
   rw[List.getElem_append_left hj]
theorem zLb{l:List Ev}{k:Nat}(hlt:k<l.length):zA9 (l.take k) (l.drop k)=if zA5 (l.take k) l[k]≠0 then some (k,zA5 (l.take k) l[k]) else zA9 (l.take (k+1)) (l.drop (k+1)):=by
 rw[List.drop_eq_getElem_cons hlt,zCu hlt]
 simp only[zA9]
 rw[List.length_take,Nat.min_eq_left (by omega)]
theorem zEw{fn:Func}{p t u:Tmp}{ty:TypeId}(h:fn.results=#[.cell p ty,.tmp t,.tmp u])(tmps:Array Value)(P:Program)(w:World) :
 (results fn tmps).run P w=((asAddr (tmps.getD p undef)).run P w).andThen fun a w₁=>((loadVar ty a).run P w₁).andThen fun v w₂=>.ok (.tuple #[v,tmps.getD t undef,tmps.getD u undef]) w₂:=by
 simp only[results,h]
 simp[Sem.run_bind,Result.andThen]
def ZRow:Array Value:=#[vS none 0 0,vI kI 0,vI kI 0,vI kI 0,vI kI 0,vI kI 0,vI kI 0,vB false,vS none 0 0,vS none 0 0,vB false,vB false]
theorem zRi(o:Nat)(ho:o<12):ZRow[o]?=some (if o=0∨o=8∨o=9 then vS none 0 0 else if o=7∨o=10∨o=11 then vB false else vI kI 0):=by
 rcases(by omega:o=0∨o=1∨o=2∨o=3∨o=4∨o=5∨o=6∨o=7∨o=8∨o=9∨o=10∨o=11) with rfl | rfl | rfl | rfl | rfl | rfl | rfl | rfl | rfl | rfl | rfl | rfl <;> rfl
theorem zMa{w:World}{g:Nat}{l:List Jb}{t:TypeId}(h:w.heap[g]?=some (.cells #[vS none 0 0,vI kI 0,vI kI 0,vI kI 0,vI kI 0,vI kI 0,vI kI 0,vB false,vS none 0 0,vS none 0 0,vB false,vB false] t (0,0)))(hid0:∀j∈l,0<j.id) :
 l.length≠0→∀off,¬(∀j (_:j<(l.flatMap jbC).length),w.cell? ⟨g,off+j,none⟩=some (l.flatMap jbC)[j]):=by
 intro hn off hall
 cases l with
 | nil=>exact hn rfl
 | cons x r =>
   have hl:4≤((x :: r:List Jb).flatMap jbC).length:=by rw[List.flatMap_cons,List.length_append];simp[jbC]
   have h0:=hall 0 (by omega)
   rw[cell_of_row w g _ _ _ (0,0) h] at h0
   have hlt:off+0<12:=(gL h0)
   have e0:((x :: r:List Jb).flatMap jbC)[0]'(by omega)=vI kI x.1:=by simp[jbC,List.flatMap_cons]
   rw[e0] at h0
   have hz:=zRi (off+0) hlt
   have h0':ZRow[off+0]?=some (vI kI x.1):=h0
   rw[hz] at h0'
   have hx:=hid0 x (List.mem_cons_self ..)
   simp only[Jb.id] at hx
   split at h0'
   · cases h0'
   · split at h0'
     · cases h0'
     · injection h0' with h0'
       injection h0' with _ h0'
       omega
theorem zJn{w:World}{g:Nat}{l:List Ck}{t:TypeId}(h:w.heap[g]?=some (.cells #[vS none 0 0,vI kI 0,vI kI 0,vI kI 0,vI kI 0,vI kI 0,vI kI 0,vB false,vS none 0 0,vS none 0 0,vB false,vB false] t (0,0)))(hid0:∀j∈l,0<j.id) :
 l.length≠0→∀off,¬(∀j (_:j<(l.flatMap ckC).length),w.cell? ⟨g,off+j,none⟩=some (l.flatMap ckC)[j]):=by
 intro hn off hall
 cases l with
 | nil=>exact hn rfl
 | cons x r =>
   have hl:3≤((x :: r:List Ck).flatMap ckC).length:=by rw[List.flatMap_cons,List.length_append];simp[ckC]
   have h0:=hall 0 (by omega)
   rw[cell_of_row w g _ _ _ (0,0) h] at h0
   have hlt:off+0<12:=(gL h0)
   have e0:((x :: r:List Ck).flatMap ckC)[0]'(by omega)=vI kI x.1:=by simp[ckC,List.flatMap_cons]
   rw[e0] at h0
   have hz:=zRi (off+0) hlt
   have h0':ZRow[off+0]?=some (vI kI x.1):=h0
   rw[hz] at h0'
   have hx:=hid0 x (List.mem_cons_self ..)
   simp only[Ck.id] at hx
   split at h0'
   · cases h0'
   · split at h0'
     · cases h0'
     · injection h0' with h0'
       injection h0' with _ h0'
       omega
theorem zS8(l:List Ev):(∀j∈(stOf l).jobs,0<j.id)∧(∀j∈(stOf l).clocks,0<j.id):=by
 by_cases hl:l=[]
 · subst hl
   exact⟨(fun j hj=>by cases hj),(fun j hj=>by cases hj)⟩
 · rw[zC5 hl]
   exact⟨fun j hj=>((zGg l).1 j hj).1,fun j hj=>((zEo l).1 j hj).1⟩
theorem zI7(a:Option Addr)(c:Nat)(l:List Ev)(w:World)(hs:Sl w (vS a l.length c) 8 l.length (l.flatMap evc))(hcap:l.length≤c)(hfit:FitE l) :
 Calls Tryz.prog 19 #[vS a l.length c] w fun e' w'=>∃(va ua ca:Option Addr)(vc uc cc:Nat),e'=.returned (.tuple #[staV (zAm l).1 (vS va (zAm l).1.ss.length vc) (vS ua (zAm l).1.jobs.length uc) (vS ca (zAm l).1.clocks.length cc),vI kI (zAm l).2.1,vI kI (zAm l).2.2])∧StR w' (zAm l).1 (vS va (zAm l).1.ss.length vc) (vS ua (zAm l).1.jobs.length uc) (vS ca (zAm l).1.clocks.length cc)∧Below w.heap.size w w':=by
 have hm:l.length≤9223372036854775807:=hs.2.1.1
 obtain⟨w0,hw0⟩:∃x,x=w.alloc (.cells #[vS none 0 0,vI kI 0,vI kI 0,vI kI 0,vI kI 0,vI kI 0,vI kI 0,vB false,vS none 0 0,vS none 0 0,vB false,vB false] 59):=⟨_,rfl⟩
 have b0:Below w.heap.size w w0:=by rw[hw0];exact(Below.refl _ _).alloc (Nat.le_refl _) _
 have he0:w0.heap[w.heap.size]?=some (.cells #[vS none 0 0,vI kI 0,vI kI 0,vI kI 0,vI kI 0,vI kI 0,vI kI 0,vB false,vS none 0 0,vS none 0 0,vB false,vB false] 59 (0,0)):=by rw[hw0];exact heap_alloc_new w _
 have hs0:=hs.below b0
 have HW:=hid hw0
 have HFB:=hid (show zA9 [] l=zA9 (l.take 0) (l.drop 0) by rw[List.take_zero,List.drop_zero])
 clear hw0 hs
 go_enter Tryz.func19,Tryz.ntmps19
 go_wp2_with fail
 rw[← HW.out]
 clear HW
 go_wp2_with fail
 go_loopw [5] (fun n0 wr=>∃k:Nat,k≤l.length∧n0=vI kI (k:Int)∧Hs (l.take k)∧zA9 [] l=zA9 (l.take k) (l.drop k)∧Below w0.heap.size w0 wr) (fun n0 _=>l.length - (intOf n0).toNat)
 case atStart=>exact⟨0,by omega,rfl,by rw[List.take_zero];exact .nil,HFB.out,Below.refl _ _⟩
 case round =>
  obtain⟨k,hk,rfl,hH,hfb,hb⟩:=hrel
  have hsr:=hs0.below hb
  have her:=(hb.block _ (gL he0)).trans he0
  have hbr:=zAl b0 hb
  clear hs0 he0 b0
  by_cases hlt:k<l.length
  case neg =>
   obtain rfl:k=l.length:=by omega
   rw[List.take_length] at hH
   rw[List.take_length,List.drop_length] at hfb
   have hR:zAm l=(stOf l,0,0):=by unfold zAm;rw[hfb];rfl
   have HR:=hid hR
   clear hR hfb
   go_wp2_with fail
   refine(zOo a c l wr hsr hH).mono ?_
   rintro _ w2 ⟨va,ua,ca,vc,uc,cc,rfl,hst,b2⟩
   have he2:=(b2.block _ (gL her)).trans her
   have hb2:=zAl hbr b2
   have hids:=zS8 l
   obtain⟨s,hsq⟩:∃s,s=stOf l:=⟨_,rfl⟩
   rw[← hsq] at hst hids ⊢
   rw[stvE]
   have HBF:=hid (At.below hb2 (((((((((((((At.refl w.heap.size w2).set 0 (vS va s.ss.length vc)).set 1 (vI kI s.lim)).set 2 (vI kI s.status)).set 3 (vI kI s.next)).set 4 (vI kI s.began)).set 5 (vI kI s.asked)).set 6 (vI kI s.taken)).set 7 (vB s.fresh)).set 8 (vS ua s.jobs.length uc)).set 9 (vS ca s.clocks.length cc)).set 10 (vB s.cancel)).set 11 (vB s.overdue)) (Nat.le_refl _))
   have HS:=hid (hst.hs.at (((((((((((((At.refl w.heap.size w2).set 0 (vS va s.ss.length vc)).set 1 (vI kI s.lim)).set 2 (vI kI s.status)).set 3 (vI kI s.next)).set 4 (vI kI s.began)).set 5 (vI kI s.asked)).set 6 (vI kI s.taken)).set 7 (vB s.fresh)).set 8 (vS ua s.jobs.length uc)).set 9 (vS ca s.clocks.length cc)).set 10 (vB s.cancel)).set 11 (vB s.overdue)) (zHl he2))
   have HJ:=hid (hst.hj.at (((((((((((((At.refl w.heap.size w2).set 0 (vS va s.ss.length vc)).set 1 (vI kI s.lim)).set 2 (vI kI s.status)).set 3 (vI kI s.next)).set 4 (vI kI s.began)).set 5 (vI kI s.asked)).set 6 (vI kI s.taken)).set 7 (vB s.fresh)).set 8 (vS ua s.jobs.length uc)).set 9 (vS ca s.clocks.length cc)).set 10 (vB s.cancel)).set 11 (vB s.overdue)) (zMa he2 hids.1))
   have HC:=hid (hst.hc.at (((((((((((((At.refl w.heap.size w2).set 0 (vS va s.ss.length vc)).set 1 (vI kI s.lim)).set 2 (vI kI s.status)).set 3 (vI kI s.next)).set 4 (vI kI s.began)).set 5 (vI kI s.asked)).set 6 (vI kI s.taken)).set 7 (vB s.fresh)).set 8 (vS ua s.jobs.length uc)).set 9 (vS ca s.clocks.length cc)).set 10 (vB s.cancel)).set 11 (vB s.overdue)) (zJn he2 hids.2))
   have HSQ:=hid hsq
   have q0:w2.cell? ⟨w.heap.size,0,none⟩=some (vS none 0 0):=cR he2 rfl
   have q1:w2.cell? ⟨w.heap.size,1,none⟩=some (vI kI 0):=cR he2 rfl
   have q2:w2.cell? ⟨w.heap.size,2,none⟩=some (vI kI 0):=cR he2 rfl
   have q3:w2.cell? ⟨w.heap.size,3,none⟩=some (vI kI 0):=cR he2 rfl
   have q4:w2.cell? ⟨w.heap.size,4,none⟩=some (vI kI 0):=cR he2 rfl
   have q5:w2.cell? ⟨w.heap.size,5,none⟩=some (vI kI 0):=cR he2 rfl
   have q6:w2.cell? ⟨w.heap.size,6,none⟩=some (vI kI 0):=cR he2 rfl
   have q7:w2.cell? ⟨w.heap.size,7,none⟩=some (vB false):=cR he2 rfl
   have q8:w2.cell? ⟨w.heap.size,8,none⟩=some (vS none 0 0):=cR he2 rfl
   have q9:w2.cell? ⟨w.heap.size,9,none⟩=some (vS none 0 0):=cR he2 rfl
   have q10:w2.cell? ⟨w.heap.size,10,none⟩=some (vB false):=cR he2 rfl
   have q11:w2.cell? ⟨w.heap.size,11,none⟩=some (vB false):=cR he2 rfl
   have qf0:=frozen_of_row w2 _ 0 _ _ he2
   have qf1:=frozen_of_row w2 _ 1 _ _ he2
   have qf2:=frozen_of_row w2 _ 2 _ _ he2
   have qf3:=frozen_of_row w2 _ 3 _ _ he2
   have qf4:=frozen_of_row w2 _ 4 _ _ he2
   have qf5:=frozen_of_row w2 _ 5 _ _ he2
   have qf6:=frozen_of_row w2 _ 6 _ _ he2
   have qf7:=frozen_of_row w2 _ 7 _ _ he2
   have qf8:=frozen_of_row w2 _ 8 _ _ he2
   have qf9:=frozen_of_row w2 _ 9 _ _ he2
   have qf10:=frozen_of_row w2 _ 10 _ _ he2
   have qf11:=frozen_of_row w2 _ 11 _ _ he2
   clear her hsr hbr hb hH hst b2 he2 hb2 hsq hids
   go_wp2_with fail
   refine bodyPost_ret (v:=.tuple #[.agg #[vS va s.ss.length vc,vI kI s.lim,vI kI s.status,vI kI s.next,vI kI s.began,vI kI s.asked,vI kI s.taken,vB s.fresh,vS ua s.jobs.length uc,vS ca s.clocks.length cc,vB s.cancel,vB s.overdue],vI kI 0,vI kI 0]) ?_ rfl (by rw[HR.out,← HSQ.out];exact⟨va,ua,ca,vc,uc,cc,rfl,⟨HS.out,HJ.out,HC.out⟩,HBF.out⟩)
   rw[zEw rfl]
   go_simp
  have hgo:=zLb hlt
  obtain⟨_,_,a',cap,hv,hc⟩:=hsr
  rw[Value.slice.injEq] at hv
  obtain⟨rfl,-,rfl⟩:=hv
  have hsk:=Sl.take (show Sl wr (vS a l.length c) 8 l.length (l.flatMap evc) from⟨by assumption,by assumption,a,c,rfl,hc⟩) hk
  obtain⟨b,off,rfl,hblt,hc⟩:=hc.resolve_left (by omega)
  have c0:wr.cell? ⟨b,off+k*8,none⟩=some (vI kI (l[k]).1):=zAd hc k 0 (by decide) hlt _ rfl
  have c1:wr.cell? ⟨b,off+k*8+1,none⟩=some (vI kI (l[k]).2.1):=zAd hc k 1 (by decide) hlt _ rfl
  have c2:wr.cell? ⟨b,off+k*8+2,none⟩=some (vI kI (l[k]).2.2.1):=zAd hc k 2 (by decide) hlt _ rfl
  have c3:wr.cell? ⟨b,off+k*8+3,none⟩=some (vI kI (l[k]).2.2.2.1):=zAd hc k 3 (by decide) hlt _ rfl
  have c4:wr.cell? ⟨b,off+k*8+4,none⟩=some (vI kI (l[k]).2.2.2.2.1):=zAd hc k 4 (by decide) hlt _ rfl
  have c5:wr.cell? ⟨b,off+k*8+5,none⟩=some (vI kI (l[k]).2.2.2.2.2.1):=zAd hc k 5 (by decide) hlt _ rfl
  have c6:wr.cell? ⟨b,off+k*8+6,none⟩=some (vB (l[k]).2.2.2.2.2.2.1):=zAd hc k 6 (by decide) hlt _ rfl
  have c7:wr.cell? ⟨b,off+k*8+7,none⟩=some (.string ⟨(l[k]).2.2.2.2.2.2.2.toArray⟩):=zAd hc k 7 (by decide) hlt _ rfl
  have hdt:(l[k]).2.2.2.2.2.2.2.length≤140737488355328:=hfit _ (List.getElem_mem hlt)
  clear hc
  obtain⟨X,hX⟩:∃X,X=l[k]:=⟨_,rfl⟩
  rw[← hX] at hgo hdt c0 c1 c2 c3 c4 c5 c6 c7
  have HX:=hid hX
  clear hX
  obtain⟨id,kd,tk,rf,sp,ty,ud,dt⟩:=X
  simp only at hdt c0 c1 c2 c3 c4 c5 c6 c7
  have hlk:(l.take k).length=k:=by rw[List.length_take,Nat.min_eq_left hk]
  have hCC:∀w':World,Sl w' (vS (some ⟨b,off,none⟩) k c) 8 k ((l.take k).flatMap evc)→Calls Tryz.prog 32 #[vS (some ⟨b,off,none⟩) k c,.agg #[vI kI id,vI kI kd,vI kI tk,vI kI rf,vI kI sp,vI kI ty,vB ud,.string ⟨dt.toArray⟩]] w' fun e' w''=>e'=.returned (vI kI (zA5 (l.take k) (id,kd,tk,rf,sp,ty,ud,dt)))∧Below w'.heap.size w' w'':=fun w' h=>by
   have:=zOk (some ⟨b,off,none⟩) c (l.take k) id kd tk rf sp ty ud dt hdt w' (by rw[hlk];exact h) hH
   rw[hlk] at this
   exact this
  have HCC:=hid hCC
  have hkI:(k:Int)<(l.length:Int):=by omega
  have hkc:(k:Int)≤(c:Int):=by omega
  have hc0:¬c=0:=by omega
  have hbd:Below w.heap.size w (wr.drewN 1):=hbr.trans ⟨rfl,rfl,rfl,Nat.le_refl _,fun _ _=>rfl⟩
  have hskd:=hsk.below (zAa _ wr 1)
  have SC:=hid (fun(w':World) (q:Below wr.heap.size wr w')=>(⟨q,(q.cell (p:=⟨b,off+k*8,none⟩) hblt).trans c0,(q.cell (p:=⟨b,off+k*8+1,none⟩) hblt).trans c1,(q.cell (p:=⟨b,off+k*8+2,none⟩) hblt).trans c2,(q.cell (p:=⟨b,off+k*8+3,none⟩) hblt).trans c3,(q.cell (p:=⟨b,off+k*8+4,none⟩) hblt).trans c4,(q.cell (p:=⟨b,off+k*8+5,none⟩) hblt).trans c5,(q.cell (p:=⟨b,off+k*8+6,none⟩) hblt).trans c6,(q.cell (p:=⟨b,off+k*8+7,none⟩) hblt).trans c7⟩:Below wr.heap.size wr w'∧w'.cell? ⟨b,off+k*8,none⟩=some (vI kI id)∧w'.cell? ⟨b,off+k*8+1,none⟩=some (vI kI kd)∧w'.cell? ⟨b,off+k*8+2,none⟩=some (vI kI tk)∧w'.cell? ⟨b,off+k*8+3,none⟩=some (vI kI rf)∧w'.cell? ⟨b,off+k*8+4,none⟩=some (vI kI sp)∧w'.cell? ⟨b,off+k*8+5,none⟩=some (vI kI ty)∧w'.cell? ⟨b,off+k*8+6,none⟩=some (vB ud)∧w'.cell? ⟨b,off+k*8+7,none⟩=some (.string ⟨dt.toArray⟩)))
  have bd:=zAa wr.heap.size wr 1
  clear c0 c1 c2 c3 c4 c5 c6 c7 hCC hlk hsk
  go_wp2_with fail
  go_region_held3 (fun w'=>Below wr.heap.size wr w'∧w'.cell? ⟨b,off+k*8,none⟩=some (vI kI id)∧w'.cell? ⟨b,off+k*8+1,none⟩=some (vI kI kd)∧w'.cell? ⟨b,off+k*8+2,none⟩=some (vI kI tk)∧w'.cell? ⟨b,off+k*8+3,none⟩=some (vI kI rf)∧w'.cell? ⟨b,off+k*8+4,none⟩=some (vI kI sp)∧w'.cell? ⟨b,off+k*8+5,none⟩=some (vI kI ty)∧w'.cell? ⟨b,off+k*8+6,none⟩=some (vB ud)∧w'.cell? ⟨b,off+k*8+7,none⟩=some (.string ⟨dt.toArray⟩)) (first | with_reducible exact SC.out _ bwz | exact SC.out _ bd) (first
   | ((go_at_call 32;refine(HCC.out _ hskd).mono ?_;rintro _ wz ⟨rfl,bz⟩;have bwz:=zAl bd bz)))
  have hez:=(bwz.block _ (gL her)).trans her
  have hbz:=zAl hbr bwz
  by_cases hcm:zA5 (l.take k) (id,kd,tk,rf,sp,ty,ud,dt)=0
  · rw[if_neg (not_not_intro hcm)] at hgo
    have HN:=hid (And.intro (show Hs (l.take (k+1)) from by rw[zCu hlt];exact .snoc hH (by rw[← HX.out];exact hcm)) (hfb.trans hgo))
    clear hfb hgo HFB her hez SC HCC
    rw[hcm]
    go_wp2_with fail
    go_roundw
    case rel=>first
     | exact⟨k+1,by omega,by go_num,HN.out.1,HN.out.2,zAl hb bwz⟩
     | ((repeat apply Exists.intro);exact⟨⟨k+1,by omega,by go_num,HN.out.1,HN.out.2,zAl hb bwz⟩,rfl⟩)
    case measure=>simp[intOf];omega
  · rw[if_pos hcm] at hgo
    have hR:zAm l=(s0,(k:Int),zA5 (l.take k) (id,kd,tk,rf,sp,ty,ud,dt)):=by unfold zAm;rw[hfb,hgo]
    have HR:=hid hR
    have hq:(zA5 (l.take k) (id,kd,tk,rf,sp,ty,ud,dt)==0)=false:=by simpa using hcm
    have hq':(zA5 (l.take k) (id,kd,tk,rf,sp,ty,ud,dt) != 0)=true:=by simpa using hcm
    have HBF:=hid (At.below hbz (((((((((((((At.refl w.heap.size wz).set 0 (vS none 0 0)).set 1 (vI kI 0)).set 2 (vI kI 0)).set 3 (vI kI 0)).set 4 (vI kI 0)).set 5 (vI kI 0)).set 6 (vI kI 0)).set 7 (vB false)).set 8 (vS none 0 0)).set 9 (vS none 0 0)).set 10 (vB false)).set 11 (vB false)) (Nat.le_refl _))
    have q0:wz.cell? ⟨w.heap.size,0,none⟩=some (vS none 0 0):=cR hez rfl
    have q1:wz.cell? ⟨w.heap.size,1,none⟩=some (vI kI 0):=cR hez rfl
    have q2:wz.cell? ⟨w.heap.size,2,none⟩=some (vI kI 0):=cR hez rfl
    have q3:wz.cell? ⟨w.heap.size,3,none⟩=some (vI kI 0):=cR hez rfl
    have q4:wz.cell? ⟨w.heap.size,4,none⟩=some (vI kI 0):=cR hez rfl
    have q5:wz.cell? ⟨w.heap.size,5,none⟩=some (vI kI 0):=cR hez rfl
    have q6:wz.cell? ⟨w.heap.size,6,none⟩=some (vI kI 0):=cR hez rfl
    have q7:wz.cell? ⟨w.heap.size,7,none⟩=some (vB false):=cR hez rfl
    have q8:wz.cell? ⟨w.heap.size,8,none⟩=some (vS none 0 0):=cR hez rfl
    have q9:wz.cell? ⟨w.heap.size,9,none⟩=some (vS none 0 0):=cR hez rfl
    have q10:wz.cell? ⟨w.heap.size,10,none⟩=some (vB false):=cR hez rfl
    have q11:wz.cell? ⟨w.heap.size,11,none⟩=some (vB false):=cR hez rfl
    have qf0:=frozen_of_row wz _ 0 _ _ hez
    have qf1:=frozen_of_row wz _ 1 _ _ hez
    have qf2:=frozen_of_row wz _ 2 _ _ hez
    have qf3:=frozen_of_row wz _ 3 _ _ hez
    have qf4:=frozen_of_row wz _ 4 _ _ hez
    have qf5:=frozen_of_row wz _ 5 _ _ hez
    have qf6:=frozen_of_row wz _ 6 _ _ hez
    have qf7:=frozen_of_row wz _ 7 _ _ hez
    have qf8:=frozen_of_row wz _ 8 _ _ hez
    have qf9:=frozen_of_row wz _ 9 _ _ hez
    have qf10:=frozen_of_row wz _ 10 _ _ hez
    have qf11:=frozen_of_row wz _ 11 _ _ hez
    clear hfb hgo HFB her hez SC HCC hR hcm hbz bwz bz
    generalize zA5 (l.take k) (id,kd,tk,rf,sp,ty,ud,dt)=cm at *
    go_wp2_with fail
    refine bodyPost_ret (v:=.tuple #[.agg #[vS none 0 0,vI kI 0,vI kI 0,vI kI 0,vI kI 0,vI kI 0,vI kI 0,vB false,vS none 0 0,vS none 0 0,vB false,vB false],vI kI (k:Int),vI kI cm]) ?_ rfl (by rw[HR.out];exact⟨none,none,none,0,0,0,rfl,⟨Sl.none _ _,Sl.none _ _,Sl.none _ _⟩,HBF.out⟩)
    rw[zEw rfl]
    go_simp
end Go.Proofs.YtkedafopdkhnfaaGreat
