/- CONTRACTS of the reference: Status, last, ended, Asked, Taken, Fresh. CONTRACTS of the reference: program, kind, Tries. CONTRACT of the reference: Jobs. CONTRACT of the reference: Clocks. CONTRACTS of the reference: tried, fired. CONTRACT of the reference: fired. -/
import Derived.Test.YtkedafopdkhnfaaGreatSmM
import Derived.Test.YtkedafopdkhnfaaGreatPgmRDec
import Derived.Deep.RegionLaw
import Derived.WalkSpells
import Derived.IntWalk
import Derived.Deep.RegionHeld3
import Derived.BigQuiet
namespace Go.Proofs.YtkedafopdkhnfaaGreat
open Go.Value renaming int → vI, bool → vB, slice → vS
open Go.IntKind renaming i64 → kI
set_option maxHeartbeats 3200000
set_option maxRecDepth 100000
open Go.RowKit
set_option linter.unusedVariables false
set_option linter.unusedSimpArgs false
def evc(x:Ev):List Value:=[vI kI x.id,vI kI x.kd,vI kI x.tk,vI kI x.rf,vI kI x.sp,vI kI x.ty,vB x.ud,.string ⟨x.dt.toArray⟩]
theorem zL4(x:Ev):(evc x).length=8:=rfl
def FitE(l:List Ev):Prop:=∀x∈l,x.dt.length≤140737488355328
theorem zAd{w:World}{l:List Ev}{b off:Nat}(hc:∀j (_:j<(l.flatMap evc).length),w.cell? ⟨b,off+j,none⟩=some (l.flatMap evc)[j])(k j:Nat)(hj:j<8)(hk:k<l.length)(v:Value)(hv:(evc l[k])[j]?=some v):w.cell? ⟨b,off+k*8+j,none⟩=some v:=by
 rw[Nat.add_assoc];exact Sl.cell zL4 hc k j hj hk v hv
theorem zCu{α:Type}{l:List α}{k:Nat}(h:k<l.length):l.take (k+1)=l.take k ++ [l[k]]:=by
 rw[List.take_add_one,List.getElem?_eq_getElem h];rfl
theorem zBd(a:Option Addr)(c:Nat)(l:List Ev)(w:World)(hs:Sl w (vS a l.length c) 8 l.length (l.flatMap evc)) :
 Calls Tryz.prog 24 #[vS a l.length c] w fun e w'=>e=.returned (vI kI (zAg l))∧w'=w:=by
 have hm:l.length≤9223372036854775807:=hs.2.1.1
 obtain⟨_,_,a',cap,hv,hc⟩:=hs
 rw[Value.slice.injEq] at hv
 obtain⟨rfl,-,rfl⟩:=hv
 have C1:=hid hc
 clear hc
 by_cases h0:l.length=0
 · have hl:l=[]:=List.eq_nil_of_length_eq_zero h0
   subst hl
   go_enter Tryz.func24,Tryz.ntmps24
   go_wp2_with fail
   go_ret
   exact⟨rfl,rfl⟩
 obtain⟨k,hk⟩:∃k,l.length=k+1:=⟨l.length - 1,by omega⟩
 have hlt:k<l.length:=by omega
 have hst:zAg l=zB3 (l[k]).kd:=by
  unfold zAg
  rw[List.getLast?_eq_getElem?,hk,Nat.add_sub_cancel,List.getElem?_eq_getElem hlt]
 obtain⟨b,off,rfl,hblt,hc⟩:=C1.out.resolve_left (by omega)
 have k1:w.cell? ⟨b,off+k*8+1,none⟩=some (vI kI (l[k]).2.1):=zAd hc k 1 (by decide) hlt _ rfl
 clear hc C1
 rw[hst]
 clear hst
 unfold Ev.kd
 generalize (l[k]).2.1=kd at *
 rw[hk]
 have e1:((k+1:Nat):Int) - 1=(k:Int):=by omega
 have e2:¬((k+1:Nat):Int)=0:=by omega
 clear hlt
 by_cases h1:kd=15
 · subst h1
   rw[show zB3 15=1 from rfl]
   go_enter Tryz.func24,Tryz.ntmps24
   go_wp2_with fail
   go_ret
   exact⟨rfl,rfl⟩
 by_cases h2:kd=16
 · subst h2
   rw[show zB3 16=2 from rfl]
   go_enter Tryz.func24,Tryz.ntmps24
   go_wp2_with fail
   go_ret
   exact⟨rfl,rfl⟩
 by_cases h3:kd=17
 · subst h3
   rw[show zB3 17=3 from rfl]
   go_enter Tryz.func24,Tryz.ntmps24
   go_wp2_with fail
   go_ret
   exact⟨rfl,rfl⟩
 by_cases h4:kd=18
 · subst h4
   rw[show zB3 18=4 from rfl]
   go_enter Tryz.func24,Tryz.ntmps24
   go_wp2_with fail
   go_ret
   exact⟨rfl,rfl⟩
 rw[show zB3 kd=0 from by unfold zB3;rw[if_neg h1,if_neg h2,if_neg h3,if_neg h4]]
 have q1:(kd==15)=false:=by simpa using h1
 have q2:(kd==16)=false:=by simpa using h2
 have q3:(kd==17)=false:=by simpa using h3
 have q4:(kd==18)=false:=by simpa using h4
 go_enter Tryz.func24,Tryz.ntmps24
 go_wp2_with fail
 go_ret
 exact⟨rfl,rfl⟩
theorem zBz(a:Option Addr)(c:Nat)(l:List Ev)(w:World)(hs:Sl w (vS a l.length c) 8 l.length (l.flatMap evc))(kd:Int) :
 Calls Tryz.prog 54 #[vS a l.length c,vI kI kd] w fun e w'=>e=.returned (vI kI (zAy l kd))∧w'=w:=by
 have hm:l.length≤9223372036854775807:=hs.2.1.1
 obtain⟨_,_,a',cap,hv,hc⟩:=hs
 rw[Value.slice.injEq] at hv
 obtain⟨rfl,-,rfl⟩:=hv
 have C1:=hid hc
 clear hc
 obtain⟨R,hR⟩:∃R,R=zAy l kd:=⟨_,rfl⟩
 rw[← hR]
 have HR:=hid hR
 clear hR
 go_enter Tryz.func54,Tryz.ntmps54
 go_wp2_with fail
 go_loopw [5] (fun n0 wr=>∃k:Nat,k≤l.length∧n0=vI kI ((k:Int) - 1)∧R=zAy (l.take k) kd∧wr=w) (fun n0 _=>(intOf n0+1).toNat)
 case atStart=>exact⟨l.length,by omega,rfl,by rw[List.take_length];exact HR.out,rfl⟩
 case round =>
  obtain⟨k,hk,rfl,hrk,rfl⟩:=hrel
  have HK:=hid hrk
  clear hrk
  cases k with
  | zero =>
    go_wp2_with fail
    go_ret
    exact⟨by rw[HK.out];rfl,rfl⟩
  | succ k =>
    have hlt:k<l.length:=by omega
    obtain⟨b,off,rfl,hblt,hc⟩:=C1.out.resolve_left (by omega)
    have k1:wr.cell? ⟨b,off+k*8+1,none⟩=some (vI kI (l[k]).2.1):=zAd hc k 1 (by decide) hlt _ rfl
    clear hc
    have e1:((k+1:Nat):Int) - 1=(k:Int):=by omega
    have hT:=HK.out
    rw[zCu hlt,zCd,List.length_take,Nat.min_eq_left (by omega)] at hT
    have HT:=hid hT
    clear hT HK
    unfold Ev.kd at HT
    generalize (l[k]).2.1=q at *
    rw[e1]
    by_cases h:q=kd
    · have hR2:=hid (show R=k+1 by rw[HT.out,if_pos h])
      subst h
      go_wp2_with fail
      go_ret
      exact⟨by rw[hR2.out];rfl,rfl⟩
    · have hq:(q==kd)=false:=by simpa using h
      go_wp2_with fail
      go_roundw
      case rel=>exact⟨k,by omega,by first | rfl | trivial,by rw[HT.out,if_neg h],by first | rfl | trivial⟩
      case measure=>simp[intOf];try omega
theorem zCf(a:Option Addr)(c:Nat)(l:List Ev)(w:World)(hs:Sl w (vS a l.length c) 8 l.length (l.flatMap evc))(r x y:Int) :
 Calls Tryz.prog 83 #[vS a l.length c,vI kI r,vI kI x,vI kI y] w fun e w'=>e=.returned (vB (zBy l r x y))∧w'=w:=by
 have hm:l.length≤9223372036854775807:=hs.2.1.1
 obtain⟨_,_,a',cap,hv,hc⟩:=hs
 rw[Value.slice.injEq] at hv
 obtain⟨rfl,-,rfl⟩:=hv
 have C1:=hid hc
 clear hc
 generalize hR:zBy l r x y=R
 have HR:=hid hR
 clear hR
 go_enter Tryz.func83,Tryz.ntmps83
 go_wp2_with fail
 go_loopw [9] (fun n0 wr=>∃k:Nat,k≤l.length∧n0=vI kI (k:Int)∧(∀j (hj:j<l.length),j<k→zE2 r x y l[j]=false)∧wr=w) (fun n0 _=>l.length - (intOf n0).toNat)
 case atStart=>exact⟨0,by omega,rfl,fun j _ h=>absurd h (Nat.not_lt_zero _),rfl⟩
 case round =>
  obtain⟨k,hk,rfl,hall,rfl⟩:=hrel
  have HA:=hid hall
  clear hall
  by_cases hlt:k<l.length
  · obtain⟨b,off,rfl,hblt,hc⟩:=C1.out.resolve_left (by omega)
    have k1:wr.cell? ⟨b,off+k*8+1,none⟩=some (vI kI (l[k]).2.1):=zAd hc k 1 (by decide) hlt _ rfl
    have k3:wr.cell? ⟨b,off+k*8+3,none⟩=some (vI kI (l[k]).2.2.2.1):=zAd hc k 3 (by decide) hlt _ rfl
    clear hc
    have hyes:zE2 r x y l[k]=true→R=true:=fun h=>by rw[← HR.out];exact List.any_eq_true.2 ⟨_,List.getElem_mem hlt,h⟩
    have hno:zE2 r x y l[k]=false→∀j (hj:j<l.length),j<k+1→zE2 r x y l[j]=false:=fun h j hj hjk=>by
     by_cases ej:j=k
     · subst ej;exact h
     · exact HA.out j hj (by omega)
    obtain⟨z,hz⟩:∃z,z=l[k]:=⟨_,rfl⟩
    rw[← hz] at k1 k3 hyes hno
    clear hz
    obtain⟨id,kd,tk,rf,sp,ty,ud,dt⟩:=z
    simp only at k1 k3
    rw[show zE2 r x y (id,kd,tk,rf,sp,ty,ud,dt)=(decide (rf=r)&&(decide (kd=x)||decide (kd=y))) from rfl] at hyes hno
    have HY:=hid hyes
    have HN:=hid hno
    clear hyes hno
    by_cases h1:rf=r
    case neg =>
     have hq:(rf==r)=false:=by simpa using h1
     go_wp2_with fail
     go_roundw
     case rel=>exact⟨k+1,by omega,by go_num,HN.out (by simp[h1]),by first | rfl | trivial⟩
     case measure=>simp[intOf];omega
    subst h1
    by_cases h2:kd=x
    · subst h2
      go_wp2_with fail
      go_ret
      exact⟨by rw[HY.out (by simp)];rfl,rfl⟩
    · have hq2:(kd==x)=false:=by simpa using h2
      by_cases h3:kd=y
      · subst h3
        go_wp2_with fail
        go_ret
        exact⟨by rw[HY.out (by simp)];rfl,rfl⟩
      · have hq3:(kd==y)=false:=by simpa using h3
        go_wp2_with fail
        go_roundw
        case rel=>exact⟨k+1,by omega,by go_num,HN.out (by simp[h2,h3]),by first | rfl | trivial⟩
        case measure=>simp[intOf];omega
  · obtain rfl:k=l.length:=by omega
    have hF:R=false:=by
     rw[← HR.out]
     unfold zBy
     rw[List.any_eq_false]
     intro z hz
     obtain⟨j,hj,rfl⟩:=List.getElem_of_mem hz
     rw[HA.out j hj hj];simp
    have HF:=hid hF
    clear hF
    go_wp2_with fail
    go_ret
    exact⟨by rw[HF.out];rfl,rfl⟩
theorem zBm(a:Option Addr)(c:Nat)(l:List Ev)(w:World)(hs:Sl w (vS a l.length c) 8 l.length (l.flatMap evc)) :
 Calls Tryz.prog 49 #[vS a l.length c] w fun e w'=>e=.returned (vI kI (zAt l))∧w'=w:=by
 by_cases he:zBy l (zAy l 2) 3 3=true
 · rw[show zAt l=0 from by unfold zAt;rw[if_pos (.inl he)]]
   have HE:=hid he
   clear he
   go_enter Tryz.func49,Tryz.ntmps49
   go_wp2_with fail
   refine(zBz a c l w hs 2).mono ?_
   rintro _ w9 ⟨rfl,hw9⟩
   rw[hw9]
   clear hw9 w9
   go_wp2_with fail
   refine(zCf a c l w hs (zAy l 2) 3 3).mono ?_
   rintro _ w9 ⟨rfl,hw9⟩
   rw[hw9]
   clear hw9 w9
   rw[HE.out]
   go_wp2_with fail
   go_ret
   exact⟨rfl,rfl⟩
 have he':zBy l (zAy l 2) 3 3=false:=by simpa using he
 have HE:=hid he'
 by_cases hq:zAg l=0
 · rw[show zAt l=(zAy l 2:Int) from by unfold zAt;rw[if_neg (by rw[he',hq];simp)]]
   have HQ:=hid hq
   clear he he' hq
   go_enter Tryz.func49,Tryz.ntmps49
   go_wp2_with fail
   refine(zBz a c l w hs 2).mono ?_
   rintro _ w9 ⟨rfl,hw9⟩
   rw[hw9]
   clear hw9 w9
   go_wp2_with fail
   refine(zCf a c l w hs (zAy l 2) 3 3).mono ?_
   rintro _ w9 ⟨rfl,hw9⟩
   rw[hw9]
   clear hw9 w9
   rw[HE.out]
   go_wp2_with fail
   refine(zBd a c l w hs).mono ?_
   rintro _ w9 ⟨rfl,hw9⟩
   rw[hw9]
   clear hw9 w9
   rw[HQ.out]
   go_wp2_with fail
   go_ret
   exact⟨rfl,rfl⟩
 · rw[show zAt l=0 from by unfold zAt;rw[if_pos (.inr hq)]]
   have hq2:(zAg l==0)=false:=by simpa using hq
   clear he he'
   go_enter Tryz.func49,Tryz.ntmps49
   go_wp2_with fail
   refine(zBz a c l w hs 2).mono ?_
   rintro _ w9 ⟨rfl,hw9⟩
   rw[hw9]
   clear hw9 w9
   go_wp2_with fail
   refine(zCf a c l w hs (zAy l 2) 3 3).mono ?_
   rintro _ w9 ⟨rfl,hw9⟩
   rw[hw9]
   clear hw9 w9
   rw[HE.out]
   go_wp2_with fail
   refine(zBd a c l w hs).mono ?_
   rintro _ w9 ⟨rfl,hw9⟩
   rw[hw9]
   clear hw9 w9
   go_wp2_with fail
   go_ret
   exact⟨rfl,rfl⟩
theorem zBv(a:Option Addr)(c:Nat)(l:List Ev)(w:World)(hs:Sl w (vS a l.length c) 8 l.length (l.flatMap evc)) :
 Calls Tryz.prog 50 #[vS a l.length c] w fun e w'=>e=.returned (vI kI (zAj l))∧w'=w:=by
 by_cases he:zBy l (zAy l 3) 4 5=true
 · rw[show zAj l=0 from by unfold zAj;rw[if_pos (.inl he)]]
   have HE:=hid he
   clear he
   go_enter Tryz.func50,Tryz.ntmps50
   go_wp2_with fail
   refine(zBz a c l w hs 3).mono ?_
   rintro _ w9 ⟨rfl,hw9⟩
   rw[hw9]
   clear hw9 w9
   go_wp2_with fail
   refine(zCf a c l w hs (zAy l 3) 4 5).mono ?_
   rintro _ w9 ⟨rfl,hw9⟩
   rw[hw9]
   clear hw9 w9
   rw[HE.out]
   go_wp2_with fail
   go_ret
   exact⟨rfl,rfl⟩
 have he':zBy l (zAy l 3) 4 5=false:=by simpa using he
 have HE:=hid he'
 by_cases hq:zAg l=0
 · rw[show zAj l=(zAy l 3:Int) from by unfold zAj;rw[if_neg (by rw[he',hq];simp)]]
   have HQ:=hid hq
   clear he he' hq
   go_enter Tryz.func50,Tryz.ntmps50
   go_wp2_with fail
   refine(zBz a c l w hs 3).mono ?_
   rintro _ w9 ⟨rfl,hw9⟩
   rw[hw9]
   clear hw9 w9
   go_wp2_with fail
   refine(zCf a c l w hs (zAy l 3) 4 5).mono ?_
   rintro _ w9 ⟨rfl,hw9⟩
   rw[hw9]
   clear hw9 w9
   rw[HE.out]
   go_wp2_with fail
   refine(zBd a c l w hs).mono ?_
   rintro _ w9 ⟨rfl,hw9⟩
   rw[hw9]
   clear hw9 w9
   rw[HQ.out]
   go_wp2_with fail
   go_ret
   exact⟨rfl,rfl⟩
 · rw[show zAj l=0 from by unfold zAj;rw[if_pos (.inr hq)]]
   have hq2:(zAg l==0)=false:=by simpa using hq
   clear he he'
   go_enter Tryz.func50,Tryz.ntmps50
   go_wp2_with fail
   refine(zBz a c l w hs 3).mono ?_
   rintro _ w9 ⟨rfl,hw9⟩
   rw[hw9]
   clear hw9 w9
   go_wp2_with fail
   refine(zCf a c l w hs (zAy l 3) 4 5).mono ?_
   rintro _ w9 ⟨rfl,hw9⟩
   rw[hw9]
   clear hw9 w9
   rw[HE.out]
   go_wp2_with fail
   refine(zBd a c l w hs).mono ?_
   rintro _ w9 ⟨rfl,hw9⟩
   rw[hw9]
   clear hw9 w9
   go_wp2_with fail
   go_ret
   exact⟨rfl,rfl⟩
theorem zI9(a:Option Addr)(c:Nat)(l:List Ev)(w:World)(hs:Sl w (vS a l.length c) 8 l.length (l.flatMap evc)) :
 Calls Tryz.prog 51 #[vS a l.length c] w fun e w'=>e=.returned (vB (zB8 l))∧w'=w:=by
 by_cases hq:zAg l=0
 case neg =>
  rw[show zB8 l=false from by unfold zB8;rw[if_pos hq]]
  have hq2:(zAg l==0)=false:=by simpa using hq
  go_enter Tryz.func51,Tryz.ntmps51
  go_wp2_with fail
  refine(zBd a c l w hs).mono ?_
  rintro _ w9 ⟨rfl,hw9⟩
  rw[hw9]
  clear hw9 w9
  go_wp2_with fail
  go_ret
  exact⟨rfl,rfl⟩
 have hf:zB8 l=(l.drop (zAy l 3)).any zB7:=by unfold zB8;rw[if_neg (not_not_intro hq)]
 have hL:=zJ3 3 l
 rw[hf]
 have HQ:=hid hq
 clear hq hf
 have hs0:=hs
 have hm:l.length≤9223372036854775807:=hs.2.1.1
 obtain⟨_,_,a',cap,hv,hc⟩:=hs
 rw[Value.slice.injEq] at hv
 obtain⟨rfl,-,rfl⟩:=hv
 have C1:=hid hc
 clear hc
 generalize hR:(l.drop (zAy l 3)).any zB7=R
 have HR:=hid hR
 clear hR
 go_enter Tryz.func51,Tryz.ntmps51
 go_wp2_with fail
 refine(zBd a c l w hs0).mono ?_
 rintro _ w9 ⟨rfl,hw9⟩
 rw[hw9]
 clear hw9 w9
 rw[HQ.out]
 go_wp2_with fail
 refine(zBz a c l w hs0 3).mono ?_
 rintro _ w9 ⟨rfl,hw9⟩
 rw[hw9]
 clear hw9 w9
 generalize zAy l 3=n at *
 go_wp2_with fail
 go_loopw [3] (fun n0 wr=>∃k:Nat,k≤l.length∧n≤k∧n0=vI kI (k:Int)∧(∀j (hj:j<l.length),n≤j→j<k→zB7 l[j]=false)∧wr=w) (fun n0 _=>l.length - (intOf n0).toNat)
 case atStart=>exact⟨n,by omega,by omega,rfl,fun j _ h h'=>by omega,rfl⟩
 case round =>
  obtain⟨k,hk,hnk,rfl,hall,rfl⟩:=hrel
  have HA:=hid hall
  clear hall
  by_cases hlt:k<l.length
  · obtain⟨b,off,rfl,hblt,hc⟩:=C1.out.resolve_left (by omega)
    have k1:wr.cell? ⟨b,off+k*8+1,none⟩=some (vI kI (l[k]).2.1):=zAd hc k 1 (by decide) hlt _ rfl
    clear hc
    have hyes:zB7 l[k]=true→R=true:=fun h=>by
     rw[← HR.out]
     refine List.any_eq_true.2 ⟨l[k],?_,h⟩
     rw[List.mem_iff_getElem?]
     exact⟨k - n,by rw[List.getElem?_drop,show n+(k - n)=k by omega,List.getElem?_eq_getElem hlt]⟩
    have hno:zB7 l[k]=false→∀j (hj:j<l.length),n≤j→j<k+1→zB7 l[j]=false:=fun h j hj hnj hjk=>by
     by_cases ej:j=k
     · subst ej;exact h
     · exact HA.out j hj hnj (by omega)
    obtain⟨z,hz⟩:∃z,z=l[k]:=⟨_,rfl⟩
    rw[← hz] at k1 hyes hno
    clear hz
    obtain⟨id,kd,tk,rf,sp,ty,ud,dt⟩:=z
    simp only at k1
    rw[show zB7 (id,kd,tk,rf,sp,ty,ud,dt)=decide (kd=1∨kd=5∨kd=7∨kd=9∨kd=11∨kd=12∨kd=13∨kd=14) from rfl] at hyes hno
    have HY:=hid hyes
    have HN:=hid hno
    clear hyes hno
    by_cases hfr:kd=1∨kd=5∨kd=7∨kd=9∨kd=11∨kd=12∨kd=13∨kd=14
    · have hr1:R=true:=HY.out (decide_eq_true hfr)
      subst hr1
      rcases hfr with rfl | rfl | rfl | rfl | rfl | rfl | rfl | rfl
      all_goals
       go_wp2_with fail
       go_ret
       exact⟨rfl,rfl⟩
    · have hnn:=HN.out (decide_eq_false hfr)
      have HNN:=hid hnn
      clear hnn
      have q1:(kd==1)=false:=by rw[beq_eq_false_iff_ne];omega
      have q5:(kd==5)=false:=by rw[beq_eq_false_iff_ne];omega
      have q7:(kd==7)=false:=by rw[beq_eq_false_iff_ne];omega
      have q9:(kd==9)=false:=by rw[beq_eq_false_iff_ne];omega
      have q11:(kd==11)=false:=by rw[beq_eq_false_iff_ne];omega
      have q12:(kd==12)=false:=by rw[beq_eq_false_iff_ne];omega
      have q13:(kd==13)=false:=by rw[beq_eq_false_iff_ne];omega
      have q14:(kd==14)=false:=by rw[beq_eq_false_iff_ne];omega
      clear hfr
      go_wp2_with fail
      go_roundw
      case rel=>exact⟨k+1,by omega,by omega,by go_num,HNN.out,by first | rfl | trivial⟩
      case measure=>simp[intOf];omega
  · obtain rfl:k=l.length:=by omega
    have hF:R=false:=by
     rw[← HR.out,List.any_eq_false]
     intro z hz
     obtain⟨j,hj⟩:=List.mem_iff_getElem?.1 hz
     rw[List.getElem?_drop] at hj
     obtain⟨hj1,rfl⟩:=List.getElem?_eq_some_iff.1 hj
     rw[HA.out (n+j) hj1 (by omega) hj1];simp
    have HF:=hid hF
    clear hF
    go_wp2_with fail
    go_ret
    exact⟨by rw[HF.out];rfl,rfl⟩
theorem zLk{w:World}{g:Nat}{l:List St}{x y:Value}{t:TypeId}(h:w.heap[g]?=some (.cells #[x,y] t (0,0))) :
 l.length≠0→∀off,¬(∀j (_:j<(l.flatMap stC).length),w.cell? ⟨g,off+j,none⟩=some (l.flatMap stC)[j]):=by
 intro hn off hall
 cases l with
 | nil=>exact hn rfl
 | cons x r =>
   have hl:6≤((x :: r:List St).flatMap stC).length:=by rw[List.flatMap_cons,List.length_append];simp[stC]
   have h5:=hall 5 (by omega)
   rw[cell_of_row w g _ _ _ (0,0) h] at h5
   have:off+5<2:=(gL h5)
   omega
theorem Sl.at{w w':World}{v:Value}{k n g:Nat}{cells:List Value}(h:Sl w v k n cells)(a:At g w w')(hg:n≠0→∀off,¬(∀j (_:j<cells.length),w.cell? ⟨g,off+j,Option.none⟩=some cells[j])):Sl w' v k n cells:=by
 obtain⟨h1,h2,ad,cap,h3,h4⟩:=h
 refine⟨h1,h2,ad,cap,h3,?_⟩
 by_cases hn:n=0
 · exact .inl hn
 · obtain⟨b,off,rfl,hlt,hc⟩:=h4.resolve_left hn
   refine .inr ⟨b,off,rfl,Nat.lt_of_lt_of_le hlt a.size,fun j hj=>?_⟩
   have hb:b≠g:=by rintro rfl;exact hg hn off hc
   rw[← hc j hj]
   exact World.cell?_of_block (w:=w) (a.block b hlt (by simpa using hb))
theorem zD3(a:Option Addr)(c:Nat)(l:List Ev)(w:World)(hs:Sl w (vS a l.length c) 8 l.length (l.flatMap evc))(hne:l≠[])(hfit:FitE l) :
 Calls Tryz.prog 48 #[vS a l.length c] w fun e w'=>∃(av:Option Addr)(cv:Nat),e=.returned (.agg #[vS av (prgL l).2.length cv,vI kI (prgL l).1])∧Sl w' (vS av (prgL l).2.length cv) 6 (prgL l).2.length ((prgL l).2.flatMap stC)∧Below w.heap.size w w':=by
 have hm:l.length≤9223372036854775807:=hs.2.1.1
 obtain⟨_,_,a',cap,hv,hc⟩:=hs
 rw[Value.slice.injEq] at hv
 obtain⟨rfl,-,rfl⟩:=hv
 have hlen:0<l.length:=List.length_pos_iff.2 hne
 obtain⟨b,off,rfl,hblt,hc⟩:=hc.resolve_left (by omega)
 have k7:w.cell? ⟨b,off+7,none⟩=some (.string ⟨(l[0]).dt.toArray⟩):=by
  have:=zAd hc 0 7 (by decide) hlen _ rfl
  simpa using this
 clear hc
 have hpl:prgL l=prgF (l[0]).dt:=by
  cases l with
  | nil=>exact absurd rfl hne
  | cons x r=>rfl
 rw[hpl]
 have hd:=hfit l[0] (List.getElem_mem hlen)
 generalize (l[0]).dt=dt at *
 obtain⟨⟨lim',ss'⟩,hP⟩:∃x,prgF dt=x:=⟨_,rfl⟩
 rw[hP]
 have HP:=hid hP
 clear hP
 have b0:Below w.heap.size w (w.alloc (.cells #[vS none 0 0,vI kI 0] 32)):=(Below.refl _ _).alloc (Nat.le_refl _) _
 obtain⟨w0,hw0⟩:∃x,x=w.alloc (.cells #[vS none 0 0,vI kI 0] 32):=⟨_,rfl⟩
 have hq:w0.heap[w.heap.size]?=some (.cells #[vS none 0 0,vI kI 0] 32 (0,0)):=by rw[hw0];exact heap_alloc_new w _
 rw[← hw0] at b0
 have k7':w0.cell? ⟨b,off+7,none⟩=some (.string ⟨dt.toArray⟩):=(b0.cell (p:=⟨b,off+7,none⟩) hblt).trans k7
 rw[hw0] at k7'
 have HW:=hid hw0
 have ha0:0<(l.length:Int):=by omega
 clear hw0 k7 hpl hfit hne
 go_enter Tryz.func48,Tryz.ntmps48
 go_wp2_with fail
 rw[← HW.out]
 refine(zFy dt hd w0).mono ?_
 rintro _ w2 ⟨v,lim,ss,er,rfl,hsl,b2,hres⟩
 obtain⟨av,cv,rfl⟩:∃a c,v=vS a ss.length c:=by
  obtain⟨_,_,a,c,h,_⟩:=hsl
  exact⟨a,c,h⟩
 have hpp:prgF dt=(lim,ss):=by
  unfold prgF
  rw[zFa]
  rcases hres with ⟨h,-⟩ | ⟨h,-,-,rfl,rfl⟩ <;> rw[h] <;> rfl
 rw[HP.out,Prod.mk.injEq] at hpp
 obtain⟨rfl,rfl⟩:=hpp
 have hq2:=(b2.block _ (gL hq)).trans hq
 have b3:Below w2.heap.size w2 (w2.alloc (.cells #[vS av ss'.length cv,vI kI lim'] 32)):=(Below.refl _ _).alloc (Nat.le_refl _) _
 have hq3:=(b3.block _ (gL hq2)).trans hq2
 have q0:(w2.alloc (.cells #[vS av ss'.length cv,vI kI lim'] 32)).cell? ⟨w.heap.size,0,none⟩=some (vS none 0 0):=cR hq3 rfl
 have q1:(w2.alloc (.cells #[vS av ss'.length cv,vI kI lim'] 32)).cell? ⟨w.heap.size,1,none⟩=some (vI kI 0):=cR hq3 rfl
 have qf0:=frozen_of_row (w2.alloc (.cells #[vS av ss'.length cv,vI kI lim'] 32)) _ 0 _ _ hq3
 have qf1:=frozen_of_row (w2.alloc (.cells #[vS av ss'.length cv,vI kI lim'] 32)) _ 1 _ _ hq3
 have aw:At w.heap.size (w2.alloc (.cells #[vS av ss'.length cv,vI kI lim'] 32)) (((w2.alloc (.cells #[vS av ss'.length cv,vI kI lim'] 32)).setCell ⟨w.heap.size,0,none⟩ (vS av ss'.length cv)).setCell ⟨w.heap.size,1,none⟩ (vI kI lim')):=((At.refl _ _).set 0 _).set 1 _
 have HB:=hid (At.below (zAl (zAl b0 b2) b3) aw (Nat.le_refl _))
 have HS:=hid ((hsl.below b3).at aw (zLk hq3))
 clear hsl b0 b2 b3 aw hq hq2 hq3 hres HW
 go_wp2_with fail
 refine bodyPost_ret (v:=.agg #[vS av ss'.length cv,vI kI lim']) ?_ rfl ⟨av,cv,rfl,HS.out,HB.out⟩
 rw[zBn rfl]
 go_simp
theorem zLe(va:Option Addr)(vc:Nat)(ss:List St)(lim:Int)(w:World)(hs:Sl w (vS va ss.length vc) 6 ss.length (ss.flatMap stC))(n kd:Int)(hn:0≤n) :
 Calls Tryz.prog 80 #[.agg #[vS va ss.length vc,vI kI lim],vI kI n,vI kI kd] w fun e w'=>e=.returned (vB (zCy ss n kd))∧Below w.heap.size w w':=by
 have hm:ss.length≤9223372036854775807:=hs.2.1.1
 obtain⟨_,_,a',cap,hv,hc⟩:=hs
 rw[Value.slice.injEq] at hv
 obtain⟨rfl,-,rfl⟩:=hv
 have C1:=hid hc
 clear hc
 obtain⟨m,rfl⟩:=Int.eq_ofNat_of_zero_le hn
 have HB:=hid ((Below.refl w.heap.size w).alloc (Nat.le_refl _) (.cells #[vS va ss.length vc,vI kI lim] 32))
 by_cases h1:m<ss.length
 case neg =>
  rw[show zCy ss (m:Int) kd=false from by unfold zCy;rw[Int.toNat_natCast,List.getElem?_eq_none (by omega)];rfl]
  go_enter Tryz.func80,Tryz.ntmps80
  go_wp2_with fail
  go_ret
  exact⟨rfl,HB.out⟩
 obtain⟨b,off,rfl,hblt,hc⟩:=C1.out.resolve_left (by omega)
 have hk:zCy ss (m:Int) kd=decide ((ss[m]).1=kd):=by unfold zCy;rw[Int.toNat_natCast,List.getElem?_eq_getElem h1];rfl
 have bb:=(Below.refl w.heap.size w).alloc (Nat.le_refl _) (.cells #[vS (some ⟨b,off,none⟩) ss.length vc,vI kI lim] 32)
 have k0:(w.alloc (.cells #[vS (some ⟨b,off,none⟩) ss.length vc,vI kI lim] 32)).cell? ⟨b,off+m*6,none⟩=some (vI kI ss[m].1):=(bb.cell (p:=⟨b,off+m*6+0,none⟩) hblt).trans (zAp hc m 0 (by decide) h1 _ rfl)
 clear hc bb C1
 rw[hk]
 generalize ss[m].1=q at *
 by_cases h2:q=kd
 · subst h2
   rw[decide_eq_true rfl]
   go_enter Tryz.func80,Tryz.ntmps80
   go_wp2_with fail
   go_ret
   exact⟨by simp_all,HB.out⟩
 · have hq:(q==kd)=false:=by simpa using h2
   have hq3:(q != kd)=true:=by simpa using h2
   rw[decide_eq_false h2]
   go_enter Tryz.func80,Tryz.ntmps80
   go_wp2_with fail
   go_ret
   exact⟨by simp_all,HB.out⟩
theorem zOr(va:Option Addr)(vc:Nat)(ss:List St)(lim:Int)(w:World)(hs:Sl w (vS va ss.length vc) 6 ss.length (ss.flatMap stC))(ji jp:Int)(ju:Bool)(jt:Int) :
 Calls Tryz.prog 96 #[.agg #[vS va ss.length vc,vI kI lim],.agg #[vI kI ji,vI kI jp,vB ju,vI kI jt]] w fun e w'=>e=.returned (vI kI (zBc ss (ji,jp,ju,jt)))∧Below w.heap.size w w':=by
 have hm:ss.length≤9223372036854775807:=hs.2.1.1
 obtain⟨_,_,a',cap,hv,hc⟩:=hs
 rw[Value.slice.injEq] at hv
 obtain⟨rfl,-,rfl⟩:=hv
 have C1:=hid hc
 clear hc
 by_cases h0:0≤jp
 case neg =>
  have HB:=hid (((Below.refl w.heap.size w).alloc (Nat.le_refl _) (.cells #[vS va ss.length vc,vI kI lim] 32)).alloc (by simp) (.cells #[vI kI ji,vI kI jp,vB ju,vI kI jt] 100))
  have HZ:=hid (zIv (ss:=ss) (k:=1) h0)
  have h1:jp<0:=by omega
  rw[show zBc ss (ji,jp,ju,jt)=0 from by unfold zBc;simp only[Jb.sp];rw[HZ.out]]
  go_enter Tryz.func96,Tryz.ntmps96
  go_wp2_with fail
  go_ret
  exact⟨rfl,HB.out⟩
 obtain⟨m,rfl⟩:=Int.eq_ofNat_of_zero_le h0
 have HB:=hid (((Below.refl w.heap.size w).alloc (Nat.le_refl _) (.cells #[vS va ss.length vc,vI kI lim] 32)).alloc (by simp) (.cells #[vI kI ji,vI kI (m:Int),vB ju,vI kI jt] 100))
 by_cases h1:m<ss.length
 case neg =>
  have HZ:=hid (zIw (ss:=ss) (k:=1) h1)
  rw[show zBc ss (ji,(m:Int),ju,jt)=0 from by unfold zBc;simp only[Jb.sp];rw[HZ.out]]
  go_enter Tryz.func96,Tryz.ntmps96
  go_wp2_with fail
  go_ret
  exact⟨rfl,HB.out⟩
 obtain⟨b,off,rfl,hblt,hc⟩:=C1.out.resolve_left (by omega)
 have ha0:=zIu (k:=1) h1
 have bb:=((Below.refl w.heap.size w).alloc (Nat.le_refl _) (.cells #[vS (some ⟨b,off,none⟩) ss.length vc,vI kI lim] 32)).alloc (by simp) (.cells #[vI kI ji,vI kI (m:Int),vB ju,vI kI jt] 100)
 have k0:((w.alloc (.cells #[vS (some ⟨b,off,none⟩) ss.length vc,vI kI lim] 32)).alloc (.cells #[vI kI ji,vI kI (m:Int),vB ju,vI kI jt] 100)).cell? ⟨b,off+m*6,none⟩=some (vI kI ss[m].1):=(bb.cell (p:=⟨b,off+m*6+0,none⟩) hblt).trans (zAp hc m 0 (by decide) h1 _ rfl)
 have k3:((w.alloc (.cells #[vS (some ⟨b,off,none⟩) ss.length vc,vI kI lim] 32)).alloc (.cells #[vI kI ji,vI kI (m:Int),vB ju,vI kI jt] 100)).cell? ⟨b,off+m*6+3,none⟩=some (vI kI ss[m].2.2.2.1):=(bb.cell (p:=⟨b,off+m*6+3,none⟩) hblt).trans (zAp hc m 3 (by decide) h1 _ rfl)
 have k4:((w.alloc (.cells #[vS (some ⟨b,off,none⟩) ss.length vc,vI kI lim] 32)).alloc (.cells #[vI kI ji,vI kI (m:Int),vB ju,vI kI jt] 100)).cell? ⟨b,off+m*6+4,none⟩=some (vI kI ss[m].2.2.2.2.1):=(bb.cell (p:=⟨b,off+m*6+4,none⟩) hblt).trans (zAp hc m 4 (by decide) h1 _ rfl)
 clear hc bb C1
 generalize ss[m]=x at *
 obtain⟨kx,nm,un,tr,ut,wt⟩:=x
 simp only at k0 k3 k4 ha0
 by_cases hk:kx=1
 case neg =>
  rw[if_neg hk] at ha0
  have HZ:=hid ha0
  have hq:(kx==1)=false:=by simpa using hk
  have hq3:(kx != 1)=true:=by simpa using hk
  clear ha0
  rw[show zBc ss (ji,(m:Int),ju,jt)=0 from by unfold zBc;simp only[Jb.sp];rw[HZ.out]]
  go_enter Tryz.func96,Tryz.ntmps96
  go_wp2_with fail
  go_ret
  exact⟨rfl,HB.out⟩
 subst hk
 rw[if_pos rfl] at ha0
 rw[show zBc ss (ji,(m:Int),ju,jt)=zE0 (1,nm,un,tr,ut,wt) ju from by unfold zBc;simp only[Jb.sp,Jb.ud];rw[ha0]]
 clear ha0
 cases ju
 · go_enter Tryz.func96,Tryz.ntmps96
   go_wp2_with fail
   go_ret
   exact⟨rfl,HB.out⟩
 · go_enter Tryz.func96,Tryz.ntmps96
   go_wp2_with fail
   go_ret
   exact⟨rfl,HB.out⟩
theorem zOb{l:List Ev}{k:Nat}(h:k<l.length):zCb l 0 (l.take (k+1))=zCb l 0 (l.take k)++(zCp l k l[k]).toList:=by
 rw[zCu h,zEf,List.length_take,Nat.min_eq_left (by omega),Nat.zero_add]
theorem zKm{l:List Ev}{k:Nat}(h:k<l.length):zA8 l 0 (l.take (k+1))=zA8 l 0 (l.take k)++(zBl l k l[k]).toList:=by
 rw[zCu h,zDz,List.length_take,Nat.min_eq_left (by omega),Nat.zero_add]
theorem zU3(l:List Ev)(n:Int):retF l n≤l.length:=by unfold retF;exact List.length_filter_le _ _
theorem zFc(a:Option Addr)(c:Nat)(l:List Ev)(w:World)(hs:Sl w (vS a l.length c) 8 l.length (l.flatMap evc))(hL:l.length≤1000) :
 Calls Tryz.prog 52 #[vS a l.length c] w fun e w'=>∃(av:Option Addr)(cv:Nat),e=.returned (vS av (zAn l).length cv)∧w'.ownsRow w.heap.size 100 4 (vS av (zAn l).length cv) (zAn l).length ((zAn l).flatMap jbC)∧Below w.heap.size w w':=by
 by_cases hq:zAg l=0
 case neg =>
  rw[show zAn l=[] from by unfold zAn;rw[if_pos hq]]
  have hq2:(zAg l==0)=false:=by simpa using hq
  have hpos:0<l.length:=by
   rcases Nat.eq_zero_or_pos l.length with h | h
   · rw[List.eq_nil_of_length_eq_zero h] at hq;exact absurd rfl hq
   · exact h
  have hpos':(0:Int)<(l.length:Int):=by omega
  go_enter Tryz.func52,Tryz.ntmps52
  go_wp2_with fail
  go_loopw [3,4] (fun v0 n0 wr=>v0=vS none 0 0∧n0=vI kI 0∧wr=w) (fun _ _ _=>0)
  case atStart=>exact⟨rfl,rfl,rfl⟩
  case round =>
   obtain⟨rfl,rfl,rfl⟩:=hrel
   go_wp2_with fail
   refine(zBd a c l _ hs).mono ?_
   rintro _ w9 ⟨rfl,hw9⟩
   rw[hw9]
   clear hw9 w9
   go_wp2_with fail
   go_ret
   exact⟨none,0,rfl,World.ownsRow_nil _ _ _ _,Below.refl _ _⟩
 rw[show zAn l=zCb l 0 l from by unfold zAn;rw[if_neg (not_not_intro hq)]]
 have HQ:=hid hq
 clear hq
 have hs0:=hs
 have hm:l.length≤9223372036854775807:=hs.2.1.1
 clear hs
 have hinfo:(Tryz.prog.info? 100).map (fun i=>(i.zero,i.size,i.bytes))=some (some (.agg #[vI kI 0,vI kI 0,vB false,vI kI 0]),4,32):=by kernel_rfl
 have hmx:maxLen=9223372036854775807:=rfl
 go_enter Tryz.func52,Tryz.ntmps52
 go_wp2_with fail
 go_loopw [3,4] (fun v0 n0 wr=>∃(k:Nat) (av:Option Addr) (cv:Nat),k≤l.length∧n0=vI kI (k:Int)∧v0=vS av (zCb l 0 (l.take k)).length cv∧wr.ownsRow w.heap.size 100 4 (vS av (zCb l 0 (l.take k)).length cv) (zCb l 0 (l.take k)).length ((zCb l 0 (l.take k)).flatMap jbC)∧Below w.heap.size w wr) (fun _ n0 _=>l.length - (intOf n0).toNat)
 case atStart=>exact⟨0,none,0,by omega,rfl,rfl,World.ownsRow_nil _ _ _ _,Below.refl _ _⟩
 case round =>
  obtain⟨k,av,cv,hk,rfl,rfl,ho,hb⟩:=hrel
  have hsr:=hs0.below hb
  by_cases hlt:k<l.length
  case neg =>
   obtain rfl:k=l.length:=by omega
   rw[List.take_length] at ho ⊢
   have HO:=hid ho
   have HB:=hid hb
   clear ho hb hsr
   go_wp2_with fail
   go_ret
   exact⟨av,cv,rfl,HO.out,HB.out⟩
  have hst:=zOb hlt
  have hJl:(zCb l 0 (l.take k)).length≤k:=by
   have:=zIc l (l.take k) 0
   rw[List.length_take] at this;omega
  obtain⟨J,hJ⟩:∃J,J=zCb l 0 (l.take k):=⟨_,rfl⟩
  rw[← hJ] at ho hst hJl ⊢
  clear hJ
  have hsr0:=hsr
  obtain⟨_,_,a',cap,hv,hc⟩:=hsr
  rw[Value.slice.injEq] at hv
  obtain⟨rfl,-,rfl⟩:=hv
  have C1:=hid hc
  clear hc
  obtain⟨b,off,rfl,hblt,hc⟩:=C1.out.resolve_left (by omega)
  have k1:wr.cell? ⟨b,off+k*8+1,none⟩=some (vI kI (l[k]).2.1):=zAd hc k 1 (by decide) hlt _ rfl
  have k4:wr.cell? ⟨b,off+k*8+4,none⟩=some (vI kI (l[k]).2.2.2.2.1):=zAd hc k 4 (by decide) hlt _ rfl
  have k6:wr.cell? ⟨b,off+k*8+6,none⟩=some (vB (l[k]).2.2.2.2.2.2.1):=zAd hc k 6 (by decide) hlt _ rfl
  have hja:zCp l k l[k]=if(l[k]).2.1=6∧zBy l (k+1:Nat) 7 9=false then some (((k+1:Nat):Int),(l[k]).2.2.2.2.1,(l[k]).2.2.2.2.2.2.1,1+(retF l (k+1:Nat):Int)) else none:=rfl
  rw[hja] at hst
  have HC:=hid hc
  clear hja hc
  generalize (l[k]).2.1=kd at *
  generalize (l[k]).2.2.2.2.1=sp at *
  generalize (l[k]).2.2.2.2.2.2.1=ud at *
  have EK:=hid (show((k:Int)+1)=((k+1:Nat):Int) by omega)
  have HST:=hid hst
  clear hst
  go_wp2_with fail
  refine(zBd _ _ l _ hsr0).mono ?_
  rintro _ w9 ⟨rfl,hw9⟩
  rw[hw9,HQ.out]
  clear hw9 w9
  by_cases h6:kd=6
  case neg =>
   have hn:=HST.out
   rw[if_neg (fun q=>h6 q.1),Option.toList_none,List.append_nil] at hn
   have HN:=hid hn
   clear hn
   have hqk:(kd==6)=false:=by simpa using h6
   have hqk':(kd != 6)=true:=by simpa using h6
   clear h6
   go_wp2_with fail
   go_roundw
   case rel=>exact⟨k+1,av,cv,by omega,by go_num,by rw[HN.out],by rw[HN.out];exact ho,hb⟩
   case measure=>simp[intOf];omega
  subst h6
  by_cases he:zBy l (k+1:Nat) 7 9=true
  · have hn:=HST.out
    rw[if_neg (fun q=>by rw[he] at q;cases q.2),Option.toList_none,List.append_nil] at hn
    have HN:=hid hn
    have HE:=hid he
    clear hn he
    go_wp2_with fail
    rw[EK.out]
    refine(zCf _ _ l _ hsr0 _ 7 9).mono ?_
    rintro _ w9 ⟨rfl,hw9⟩
    rw[hw9,HE.out]
    clear hw9 w9
    go_wp2_with fail
    go_roundw
    case rel=>exact⟨k+1,av,cv,by omega,by go_num,by rw[HN.out],by rw[HN.out];exact ho,hb⟩
    case measure=>simp[intOf];omega
  have he':zBy l (k+1:Nat) 7 9=false:=by simpa using he
  have hn:=HST.out
  rw[if_pos ⟨rfl,he'⟩,Option.toList_some] at hn
  have HN:=hid hn
  have HE:=hid he'
  clear hn he he' HST
  go_wp2_with fail
  rw[EK.out]
  refine(zCf _ _ l _ hsr0 _ 7 9).mono ?_
  rintro _ w9 ⟨rfl,hw9⟩
  rw[hw9,HE.out]
  clear hw9 w9
  go_wp2_with fail
  go_loopw [5,6] (fun t0 m0 wx=>∃m:Nat,m≤l.length∧m0=vI kI (m:Int)∧t0=vI kI (1+(retF (l.take m) (k+1:Nat):Int))∧wx=wr) (fun _ m0 _=>l.length - (intOf m0).toNat)
  case atStart=>exact⟨0,by omega,rfl,by simp[retF],rfl⟩
  case round =>
   obtain⟨m,hm9,rfl,rfl,rfl⟩:=hrel
   have hrl:retF (l.take m) (k+1:Nat)≤1000:=Nat.le_trans (zU3 _ _) (by rw[List.length_take];omega)
   by_cases hmlt:m<l.length
   · have j1:wr.cell? ⟨b,off+m*8+1,none⟩=some (vI kI (l[m]).2.1):=zAd HC.out m 1 (by decide) hmlt _ rfl
     have j3:wr.cell? ⟨b,off+m*8+3,none⟩=some (vI kI (l[m]).2.2.2.1):=zAd HC.out m 3 (by decide) hmlt _ rfl
     have hrs:=zGn (l.take m) l[m] (k+1:Nat)
     rw[← zCu hmlt,show retB ((k+1:Nat):Int) l[m]=(decide ((l[m]).2.1=8)&&decide ((l[m]).2.2.2.1=((k+1:Nat):Int))) from rfl] at hrs
     generalize (l[m]).2.1=kq at *
     generalize (l[m]).2.2.2.1=rq at *
     have HR:=hid hrs
     clear hrs
     by_cases h8:kq=8
     case neg =>
      have hqq:(kq==8)=false:=by simpa using h8
      have hw:retF (l.take (m+1)) (k+1:Nat)=retF (l.take m) (k+1:Nat):=by rw[HR.out,decide_eq_false h8];simp
      have HW:=hid hw
      clear hw h8
      go_wp2_with fail
      go_roundw
      case rel=>exact⟨m+1,by omega,by go_num,by rw[HW.out],by first | rfl | trivial⟩
      case measure=>simp[intOf];omega
     subst h8
     by_cases h9:rq=(k:Int)+1
     case neg =>
      have hqq:(rq==(k:Int)+1)=false:=by simpa using h9
      have hw:retF (l.take (m+1)) (k+1:Nat)=retF (l.take m) (k+1:Nat):=by rw[HR.out,decide_eq_false (show ¬rq=((k+1:Nat):Int) by omega)];simp
      have HW:=hid hw
      clear hw h9
      go_wp2_with fail
      go_roundw
      case rel=>exact⟨m+1,by omega,by go_num,by rw[HW.out],by first | rfl | trivial⟩
      case measure=>simp[intOf];omega
     have hw:retF (l.take (m+1)) (k+1:Nat)=retF (l.take m) (k+1:Nat)+1:=by rw[HR.out,decide_eq_true (show rq=((k+1:Nat):Int) by omega)];simp
     have HW:=hid hw
     have hqq:(rq==(k:Int)+1)=true:=by simpa using h9
     clear hw HR
     generalize retF (l.take m) (k+1:Nat)=q at *
     subst h9
     go_wp2_with fail
     go_roundw
     case rel=>exact⟨m+1,by omega,by go_num,by rw[HW.out];first | rfl | (congr 1;omega),by first | rfl | trivial⟩
     case measure=>simp[intOf];omega
   · obtain rfl:m=l.length:=by omega
     rw[List.take_length] at hrl ⊢
     have hoD:=zAf ho (zAa _ wr 1)
     have hbD:=hb.trans (zAa _ wr 1 |>.mono hb.size)
     have d4:(wr.drewN 1).cell? ⟨b,off+k*8+4,none⟩=some (vI kI sp):=k4
     have d6:(wr.drewN 1).cell? ⟨b,off+k*8+6,none⟩=some (vB ud):=k6
     have hBs:w.heap.size≤((wr.drewN 1).alloc (.cells #[vI kI ((k:Int)+1),vI kI sp,vB ud,vI kI (1+(retF l (k+1:Nat):Int))] 100)).heap.size:=(zAl hbD ((Below.refl _ _).alloc (Nat.le_refl _) _)).size
     have WK:=hid (show IntKind.i64.wrap ((k:Int)+1)=((k+1:Nat):Int) by rw[IntWalk.i64_in _ (by omega)];rfl)
     have BA:=hid (fun(R:Array Value)=>zAl hbD ((Below.refl (wr.drewN 1).heap.size (wr.drewN 1)).alloc (Nat.le_refl _) (.cells R 100)))
     clear hb hsr0
     go_wp2_with fail
     go_region_law ((first
      | (refine zDv _ rfl _ _ 56 rfl jbC 4 (by decide) zCk zJ0 w.heap.size 100 (.agg #[vI kI 0,vI kI 0,vB false,vI kI 0]) 32 Tryz.underlying56 hinfo rfl _ J.length J rfl (zAf (by assumption) ((Below.refl _ _).alloc (Nat.le_refl _) _)) _ _ rfl (((k+1:Nat):Int),sp,ud,1+(retF l (k+1:Nat):Int)) (fun j q hq=>(World.cell?_alloc_at _ _ _ _ rfl).trans (by rw[← hq];first | exact List.getElem?_toArray | (rw[WK.out];exact List.getElem?_toArray))) (by omega) (by omega) (BA.out _).size ?_;intro a' c' wa hown hgrow;have hbz:=zB9 (BA.out _) (zAf (by assumption) ((Below.refl _ _).alloc (Nat.le_refl _) _)) hgrow (Nat.le_refl _))))
     all_goals
      have hlen:(J ++ [(((k+1:Nat):Int),sp,ud,1+(retF l (k+1:Nat):Int))]).length=J.length+1:=by simp
      have HL:=hid hlen
      have HO:=hid hown
      clear hown hlen
      go_wp2_with fail
      go_roundw
      case rel=>first
       | exact⟨k+1,a',c',by omega,by go_num,by rw[HN.out,HL.out],by rw[HN.out,HL.out];exact HO.out,hbz⟩
       | ((repeat apply Exists.intro);exact⟨⟨k+1,a',c',by omega,by go_num,by rw[HN.out,HL.out],by rw[HN.out,HL.out];exact HO.out,hbz⟩,rfl⟩)
      case measure=>simp[intOf];omega
theorem Hs.fit{l:List Ev}(h:Hs l):FitE l:=by
 intro x hx
 have:=(h.nth.rf hx).1
 have:=zGc this.2.2.2.2.2.2.2
 omega
theorem Hs.tick{l:List Ev}(h:Hs l){x:Ev}(hx:x∈l):0≤x.tk∧x.tk≤1099511627776:=(h.nth.rf hx).1.2.2.1
theorem Hs.waits{l:List Ev}(h:Hs l)(hl:l≠[]){x:St}(hx:x∈(prgL l).2)(hk:x.kd=2):0≤x.wt∧x.wt≤1000:=by
 rcases(h.prog hl).2.2 x hx with ⟨q,_⟩ | ⟨_,q⟩ | ⟨q,_⟩
 · omega
 · have:=q.2.2.2.2;omega
 · omega
theorem zOy{w:World}{pa:Option Addr}{pc:Nat}{ss:List St}(h:Sl w (vS pa ss.length pc) 6 ss.length (ss.flatMap stC)){m:Nat}{x:St}(hx:ss[m]?=some x):∃pb po,pa=some ⟨pb,po,none⟩∧pb<w.heap.size∧w.cell? ⟨pb,po+m*6+5,none⟩=some (vI kI x.wt):=by
 obtain⟨hm,rfl⟩:=List.getElem?_eq_some_iff.1 hx
 obtain⟨_,_,a',cap,hv,hc⟩:=h
 rw[Value.slice.injEq] at hv
 obtain⟨rfl,-,rfl⟩:=hv
 obtain⟨b,off,rfl,hblt,hc⟩:=hc.resolve_left (by omega)
 exact⟨b,off,rfl,hblt,zAp hc m 5 (by decide) hm _ rfl⟩
theorem zIe(a:Option Addr)(c:Nat)(l:List Ev)(w:World)(hs:Sl w (vS a l.length c) 8 l.length (l.flatMap evc))(hH:Hs l) :
 Calls Tryz.prog 53 #[vS a l.length c] w fun e w'=>∃(av:Option Addr)(cv:Nat),e=.returned (vS av (zAi l).length cv)∧w'.ownsRow w.heap.size 103 3 (vS av (zAi l).length cv) (zAi l).length ((zAi l).flatMap ckC)∧Below w.heap.size w w':=by
 have hL:=hH.short
 by_cases hq:zAg l=0
 case neg =>
  rw[show zAi l=[] from by unfold zAi;rw[if_pos hq]]
  have hq2:(zAg l==0)=false:=by simpa using hq
  have hpos:0<l.length:=by
   rcases Nat.eq_zero_or_pos l.length with h | h
   · rw[List.eq_nil_of_length_eq_zero h] at hq;exact absurd rfl hq
   · exact h
  have hpos':(0:Int)<(l.length:Int):=by omega
  go_enter Tryz.func53,Tryz.ntmps53
  go_wp2_with fail
  go_loopw [3,4] (fun v0 n0 wr=>v0=vS none 0 0∧n0=vI kI 0∧wr=w) (fun _ _ _=>0)
  case atStart=>exact⟨rfl,rfl,rfl⟩
  case round =>
   obtain⟨rfl,rfl,rfl⟩:=hrel
   go_wp2_with fail
   refine(zBd a c l _ hs).mono ?_
   rintro _ w9 ⟨rfl,hw9⟩
   rw[hw9]
   clear hw9 w9
   go_wp2_with fail
   go_ret
   exact⟨none,0,rfl,World.ownsRow_nil _ _ _ _,Below.refl _ _⟩
 rw[show zAi l=zA8 l 0 l from by unfold zAi;rw[if_neg (not_not_intro hq)]]
 have HQ:=hid hq
 clear hq
 have hs0:=hs
 have hm:l.length≤9223372036854775807:=hs.2.1.1
 clear hs
 have hinfo:(Tryz.prog.info? 103).map (fun i=>(i.zero,i.size,i.bytes))=some (some (.agg #[vI kI 0,vI kI 0,vI kI 0]),3,24):=by kernel_rfl
 have hmx:maxLen=9223372036854775807:=rfl
 go_enter Tryz.func53,Tryz.ntmps53
 go_wp2_with fail
 go_loopw [3,4] (fun v0 n0 wr=>∃(k:Nat) (av:Option Addr) (cv:Nat),k≤l.length∧n0=vI kI (k:Int)∧v0=vS av (zA8 l 0 (l.take k)).length cv∧wr.ownsRow w.heap.size 103 3 (vS av (zA8 l 0 (l.take k)).length cv) (zA8 l 0 (l.take k)).length ((zA8 l 0 (l.take k)).flatMap ckC)∧Below w.heap.size w wr) (fun _ n0 _=>l.length - (intOf n0).toNat)
 case atStart=>exact⟨0,none,0,by omega,rfl,rfl,World.ownsRow_nil _ _ _ _,Below.refl _ _⟩
 case round =>
  obtain⟨k,av,cv,hk,rfl,rfl,ho,hb⟩:=hrel
  have hsr:=hs0.below hb
  by_cases hlt:k<l.length
  case neg =>
   obtain rfl:k=l.length:=by omega
   rw[List.take_length] at ho ⊢
   have HO:=hid ho
   have HB:=hid hb
   clear ho hb hsr
   go_wp2_with fail
   go_ret
   exact⟨av,cv,rfl,HO.out,HB.out⟩
  have hst:=zKm hlt
  have hJl:(zA8 l 0 (l.take k)).length≤k:=by
   have:=zFu l (l.take k) 0
   rw[List.length_take] at this;omega
  obtain⟨J,hJ⟩:∃J,J=zA8 l 0 (l.take k):=⟨_,rfl⟩
  rw[← hJ] at ho hst hJl ⊢
  clear hJ
  obtain⟨_,_,a',cap,hv,hc⟩:=hs0
  rw[Value.slice.injEq] at hv
  obtain⟨rfl,-,rfl⟩:=hv
  obtain⟨b,off,rfl,hblt,hc⟩:=hc.resolve_left (by omega)
  have n1:w.cell? ⟨b,off+k*8+1,none⟩=some (vI kI (l[k]).2.1):=zAd hc k 1 (by decide) hlt _ rfl
  have n2:w.cell? ⟨b,off+k*8+2,none⟩=some (vI kI (l[k]).2.2.1):=zAd hc k 2 (by decide) hlt _ rfl
  have n4:w.cell? ⟨b,off+k*8+4,none⟩=some (vI kI (l[k]).2.2.2.2.1):=zAd hc k 4 (by decide) hlt _ rfl
  have hja:zBl l k l[k]=if(l[k]).2.1=10∧zBy l (k+1:Nat) 11 11=false then some (((k+1:Nat):Int),(l[k]).2.2.2.2.1,(l[k]).2.2.1+zIo (prgL l).2 (l[k]).2.2.2.2.1) else none:=rfl
  rw[hja] at hst
  have htk:=hH.tick (List.getElem_mem hlt)
  have hck:=hH.cok l[k] (List.getElem_mem hlt)
  simp only[Ev.tk,Ev.kd,Ev.sp] at htk hck
  clear hja hc
  generalize (l[k]).2.1=kd at *
  generalize (l[k]).2.2.1=tk at *
  generalize (l[k]).2.2.2.2.1=sp at *
  have EK:=hid (show((k:Int)+1)=((k+1:Nat):Int) by omega)
  have HST:=hid hst
  have k1:wr.cell? ⟨b,off+k*8+1,none⟩=some (vI kI kd):=(hb.cell (p:=⟨b,off+k*8+1,none⟩) hblt).trans n1
  clear hst n1
  go_wp2_with fail
  refine(zBd _ _ l _ hsr).mono ?_
  rintro _ w9 ⟨rfl,hw9⟩
  rw[hw9,HQ.out]
  clear hw9 w9
  by_cases h6:kd=10
  case neg =>
   have hn:=HST.out
   rw[if_neg (fun q=>h6 q.1),Option.toList_none,List.append_nil] at hn
   have HN:=hid hn
   clear hn
   have hqk:(kd==10)=false:=by simpa using h6
   clear h6 hck
   go_wp2_with fail
   go_roundw
   case rel=>exact⟨k+1,av,cv,by omega,by go_num,by rw[HN.out],by rw[HN.out];exact ho,hb⟩
   case measure=>simp[intOf];omega
  subst h6
  by_cases he:zBy l (k+1:Nat) 11 11=true
  · have hn:=HST.out
    rw[if_neg (fun q=>by rw[he] at q;cases q.2),Option.toList_none,List.append_nil] at hn
    have HN:=hid hn
    have HE:=hid he
    clear hn he hck
    go_wp2_with fail
    rw[EK.out]
    refine(zCf _ _ l _ hsr _ 11 11).mono ?_
    rintro _ w9 ⟨rfl,hw9⟩
    rw[hw9,HE.out]
    clear hw9 w9
    go_wp2_with fail
    go_roundw
    case rel=>exact⟨k+1,av,cv,by omega,by go_num,by rw[HN.out],by rw[HN.out];exact ho,hb⟩
    case measure=>simp[intOf];omega
  have he':zBy l (k+1:Nat) 11 11=false:=by simpa using he
  obtain⟨x,hx⟩:=Option.isSome_iff_exists.1 (hck rfl)
  obtain⟨hsp,hxm,hxk⟩:=zCj hx
  have hn:=HST.out
  rw[if_pos ⟨rfl,he'⟩,Option.toList_some,zLq hx] at hn
  have hne:l≠[]:=by intro h;rw[h] at hlt;exact Nat.not_lt_zero _ hlt
  have hwt:=hH.waits hne (List.mem_of_getElem? hxm) hxk
  obtain⟨m,rfl⟩:=Int.eq_ofNat_of_zero_le hsp
  rw[Int.toNat_natCast] at hxm
  obtain⟨hmlt,hxe⟩:=List.getElem?_eq_some_iff.1 hxm
  have hm16:=(hH.prog hne).1
  obtain⟨wv,hwv⟩:∃q,q=x.wt:=⟨_,rfl⟩
  rw[← hwv] at hn hwt
  have HWV:=hid hwv
  have WT:=hid (show IntKind.i64.wrap (tk+wv)=tk+wv from IntWalk.i64_in _ (by omega))
  have HN:=hid hn
  have HE:=hid he'
  have HNE:=hid hne
  have HX:=hid hxm
  clear hn he he' HST hck hx hxm hxk hne hxe hwv
  go_wp2_with fail
  rw[EK.out]
  refine(zCf _ _ l _ hsr _ 11 11).mono ?_
  rintro _ w9 ⟨rfl,hw9⟩
  rw[hw9,HE.out]
  clear hw9 w9
  have hbD:=hb.trans (zAa _ wr 1 |>.mono hb.size)
  have hoD:=zAf ho (zAa _ wr 1)
  have hsD:=hsr.below (zAa _ wr 1)
  have SC:=hid (fun(w':World) (q:Below w.heap.size w w')=>(⟨q,(q.cell (p:=⟨b,off+k*8+2,none⟩) hblt).trans n2,(q.cell (p:=⟨b,off+k*8+4,none⟩) hblt).trans n4⟩:Below w.heap.size w w'∧w'.cell? ⟨b,off+k*8+2,none⟩=some (vI kI tk)∧w'.cell? ⟨b,off+k*8+4,none⟩=some (vI kI (m:Int))))
  have WK:=hid (show IntKind.i64.wrap ((k:Int)+1)=((k+1:Nat):Int) by rw[IntWalk.i64_in _ (by omega)];rfl)
  have hmI:(m:Int)<((prgL l).2.length:Int):=by omega
  have hfd:∀(wx:World) (pa:Option Addr) (pn pc:Nat) (q:Int),(Instr.field 32 (.agg #[vS pa pn pc,vI kI q]) 0).run Tryz.prog wx=.ok (vS pa pn pc) wx:=fun _ _ _ _ _=>rfl
  have d2:wr.cell? ⟨b,off+k*8+2,none⟩=some (vI kI tk):=(SC.out _ hb).2.1
  have d4:wr.cell? ⟨b,off+k*8+4,none⟩=some (vI kI (m:Int)):=(SC.out _ hb).2.2
  clear hb hsr n2 n4
  go_wp2_with fail
  refine wp_region_noPanic ?_
  refine wp_region_held_drew (S:=(fun w'=>Below w.heap.size w w'∧w'.cell? ⟨b,off+k*8+2,none⟩=some (vI kI tk)∧w'.cell? ⟨b,off+k*8+4,none⟩=some (vI kI (m:Int)))) (by kernel_rfl) ?_ (fun hHeld=>?_)
  · exact SC.out _ hbD
  refine wpAnyH_take (i:=0) (oi:=?fo0) (v:=?fv0) ?fe0 (by kernel_rfl) (by kernel_rfl) (by kernel_rfl) (fun _ _ _ h=>h) (Or.inl ⟨?fw0,?fy0⟩) (by assumption) ?fr0
  case fe0=>((simp only[gZa,gZb,gZc]) <;> rfl)
  case fw0=>rfl
  case fy0=>(intro w hSw;(try dsimp only at hSw);go_simp;(try with_reducible rfl))
  try simp only[Act.put,sZa,sZb,sZc]
  refine wpAnyH_take (i:=1) (oi:=?fo1) (v:=?fv1) ?fe1 (by kernel_rfl) (by kernel_rfl) (by kernel_rfl) (fun _ _ _ h=>h) (Or.inl ⟨?fw1,?fy1⟩) (by assumption) ?fr1
  case fe1=>((simp only[gZa,gZb,gZc]) <;> rfl)
  case fw1=>rfl
  case fy1=>(intro w hSw;(try dsimp only at hSw);go_simp;(try with_reducible rfl))
  try simp only[Act.put,sZa,sZb,sZc]
  refine wpAnyH_take (i:=2) (oi:=?fo2) (v:=?fv2) ?fe2 (by kernel_rfl) (by kernel_rfl) (by kernel_rfl) (fun _ _ _ h=>h) (Or.inl ⟨?fw2,?fy2⟩) (by assumption) ?fr2
  case fe2=>((simp only[gZa,gZb,gZc]) <;> rfl)
  case fw2=>rfl
  case fy2=>(intro w hSw;(try dsimp only at hSw);go_simp;(try with_reducible rfl))
  try simp only[Act.put,sZa,sZb,sZc]
  refine wpAnyH_take (i:=3) (oi:=?fo3) (v:=?fv3) ?fe3 (by kernel_rfl) (by kernel_rfl) (by kernel_rfl) (fun _ _ _ h=>h) (Or.inl ⟨?fw3,?fy3⟩) (by assumption) ?fr3
  case fe3=>((simp only[gZa,gZb,gZc]) <;> rfl)
  case fw3=>rfl
  case fy3=>(intro w hSw;(try dsimp only at hSw);go_simp;(try with_reducible rfl))
  try simp only[Act.put,sZa,sZb,sZc]
  refine wpAnyH_take (i:=4) (oi:=?fo4) (v:=?fv4) ?fe4 (by kernel_rfl) (by kernel_rfl) (by kernel_rfl) (fun _ _ _ h=>h) (Or.inl ⟨?fw4,?fy4⟩) (by assumption) ?fr4
  case fe4=>((simp only[gZa,gZb,gZc]) <;> rfl)
  case fw4=>rfl
  case fy4=>(intro w hSw;(try dsimp only at hSw);go_simp;(try with_reducible rfl))
  try simp only[Act.put,sZa,sZb,sZc]
  refine wpAnyH_take (i:=5) (oi:=?fo5) (v:=?fv5) ?fe5 (by kernel_rfl) (by kernel_rfl) (by kernel_rfl) (fun _ _ _ h=>h) (Or.inl ⟨?fw5,?fy5⟩) (by assumption) ?fr5
  case fe5=>((simp only[gZa,gZb,gZc]) <;> rfl)
  case fw5=>rfl
  case fy5=>(intro w hSw;(try dsimp only at hSw);go_simp;(try with_reducible rfl))
  try simp only[Act.put,sZa,sZb,sZc]
  refine wpAnyH_take (i:=6) (oi:=?fo6) (v:=?fv6) ?fe6 (by kernel_rfl) (by kernel_rfl) (by kernel_rfl) (fun _ _ _ h=>h) (Or.inl ⟨?fw6,?fy6⟩) (by assumption) ?fr6
  case fe6=>((simp only[gZa,gZb,gZc]) <;> rfl)
  case fw6=>rfl
  case fy6=>(intro w hSw;(try dsimp only at hSw);go_simp;(try with_reducible rfl))
  try simp only[Act.put,sZa,sZb,sZc]
  refine wpAnyH_take (i:=7) (oi:=?fo7) (v:=?fv7) ?fe7 (by kernel_rfl) (by kernel_rfl) (by kernel_rfl) (fun _ _ _ h=>h) (Or.inl ⟨?fw7,?fy7⟩) (by assumption) ?fr7
  case fe7=>((simp only[gZa,gZb,gZc]) <;> rfl)
  case fw7=>rfl
  case fy7=>(intro w hSw;(try dsimp only at hSw);go_simp;(try with_reducible rfl))
  try simp only[Act.put,sZa,sZb,sZc]
  refine wpAnyH_take (i:=8) (oi:=?fo8) (v:=?fv8) ?fe8 (by kernel_rfl) (by kernel_rfl) (by kernel_rfl) (fun _ _ _ h=>h) (Or.inl ⟨?fw8,?fy8⟩) (by assumption) ?fr8
  case fe8=>((simp only[gZa,gZb,gZc]) <;> rfl)
  case fw8=>rfl
  case fy8=>(intro w hSw;(try dsimp only at hSw);go_simp;(try with_reducible rfl))
  try simp only[Act.put,sZa,sZb,sZc]
  refine wpAnyH_take (i:=9) (oi:=?fo9) (v:=?fv9) ?fe9 (by kernel_rfl) (by kernel_rfl) (by kernel_rfl) (fun _ _ _ h=>h) (Or.inl ⟨?fw9,?fy9⟩) (by assumption) ?fr9
  case fe9=>((simp only[gZa,gZb,gZc]) <;> rfl)
  case fw9=>rfl
  case fy9=>(intro w hSw;(try dsimp only at hSw);go_simp;(try with_reducible rfl))
  try simp only[Act.put,sZa,sZb,sZc]
  refine wpAnyH_take (i:=10) (oi:=?fo10) (v:=?fv10) ?fe10 (by kernel_rfl) (by kernel_rfl) (by kernel_rfl) (fun _ _ _ h=>h) (Or.inl ⟨?fw10,?fy10⟩) (by assumption) ?fr10
  case fe10=>((simp only[gZa,gZb,gZc]) <;> rfl)
  case fw10=>rfl
  case fy10=>(intro w hSw;(try dsimp only at hSw);go_simp;(try with_reducible rfl))
  try simp only[Act.put,sZa,sZb,sZc]
  refine wpAnyH_take (i:=11) (oi:=?fo11) (v:=?fv11) ?fe11 (by kernel_rfl) (by kernel_rfl) (by kernel_rfl) (fun _ _ _ h=>h) (Or.inl ⟨?fw11,?fy11⟩) (by assumption) ?fr11
  case fe11=>((simp only[gZa,gZb,gZc]) <;> rfl)
  case fw11=>rfl
  case fy11=>(intro w hSw;(try dsimp only at hSw);go_simp;(try with_reducible rfl))
  try simp only[Act.put,sZa,sZb,sZc]
  refine wpAnyH_take (i:=12) (oi:=?fo12) (v:=?fv12) ?fe12 (by kernel_rfl) (by kernel_rfl) (by kernel_rfl) (fun _ _ _ h=>h) (Or.inl ⟨?fw12,?fy12⟩) (by assumption) ?fr12
  case fe12=>((simp only[gZa,gZb,gZc]) <;> rfl)
  case fw12=>rfl
  case fy12=>(intro w hSw;(try dsimp only at hSw);go_simp;(try with_reducible rfl))
  try simp only[Act.put,sZa,sZb,sZc]
  refine wpAnyH_take (i:=13) (oi:=?fo13) (v:=?fv13) ?fe13 (by kernel_rfl) (by kernel_rfl) (by kernel_rfl) (fun _ _ _ h=>h) (Or.inl ⟨?fw13,?fy13⟩) (by assumption) ?fr13
  case fe13=>((simp only[gZa,gZb,gZc]) <;> rfl)
  case fw13=>rfl
  case fy13=>(intro w hSw;(try dsimp only at hSw);go_simp;(try with_reducible rfl))
  try simp only[Act.put,sZa,sZb,sZc]
  refine wpAnyH_take (i:=16) (oi:=?fo16) (v:=?fv16) ?fe16 (by kernel_rfl) (by kernel_rfl) (by kernel_rfl) (fun _ _ _ h=>h) (Or.inl ⟨?fw16,?fy16⟩) (by assumption) ?fr16
  case fe16=>((simp only[gZa,gZb,gZc]) <;> rfl)
  case fw16=>rfl
  case fy16=>(intro w hSw;(try dsimp only at hSw);go_simp;(try with_reducible rfl))
  try simp only[Act.put,sZa,sZb,sZc]
  refine wpAnyH_take (i:=17) (oi:=?fo17) (v:=?fv17) ?fe17 (by kernel_rfl) (by kernel_rfl) (by kernel_rfl) (fun _ _ _ h=>h) (Or.inl ⟨?fw17,?fy17⟩) (by assumption) ?fr17
  case fe17=>((simp only[gZa,gZb,gZc]) <;> rfl)
  case fw17=>rfl
  case fy17=>(intro w hSw;(try dsimp only at hSw);go_simp;(try with_reducible rfl))
  try simp only[Act.put,sZa,sZb,sZc]
  refine wpAnyH_take (i:=18) (oi:=?fo18) (v:=?fv18) ?fe18 (by kernel_rfl) (by kernel_rfl) (by kernel_rfl) (fun _ _ _ h=>h) (Or.inl ⟨?fw18,?fy18⟩) (by assumption) ?fr18
  case fe18=>((simp only[gZa,gZb,gZc]) <;> rfl)
  case fw18=>rfl
  case fy18=>(intro w hSw;(try dsimp only at hSw);go_simp;(try with_reducible rfl))
  try simp only[Act.put,sZa,sZb,sZc]
  refine wpAnyH_take (i:=19) (oi:=?fo19) (v:=?fv19) ?fe19 (by kernel_rfl) (by kernel_rfl) (by kernel_rfl) (fun _ _ _ h=>h) (Or.inl ⟨?fw19,?fy19⟩) (by assumption) ?fr19
  case fe19=>((simp only[gZa,gZb,gZc]) <;> rfl)
  case fw19=>rfl
  case fy19=>(intro w hSw;(try dsimp only at hSw);go_simp;(try with_reducible rfl))
  try simp only[Act.put,sZa,sZb,sZc]
  refine wpAnyH_take (i:=20) (oi:=?fo20) (v:=?fv20) ?fe20 (by kernel_rfl) (by kernel_rfl) (by kernel_rfl) (fun _ _ _ h=>h) (Or.inl ⟨?fw20,?fy20⟩) (by assumption) ?fr20
  case fe20=>((simp only[gZa,gZb,gZc]) <;> rfl)
  case fw20=>rfl
  case fy20=>(intro w hSw;(try dsimp only at hSw);go_simp;(try with_reducible rfl))
  try simp only[Act.put,sZa,sZb,sZc]
  refine wpAnyH_ready (rs:=[14]) (by kernel_rfl) (by simp) ?_
  refine AllReadyH.cons (o:=?fo14) ?fe14 (fun K hK=>?fc14) ?fn14
  case fn14=>exact AllReadyH.nil
  case fe14=>((simp only[gZa,gZb,gZc]) <;> rfl)
  go_simp
  go_at_call 48
  refine(zD3 _ _ l _ hsD HNE.out hH.fit).mono ?_
  rintro _ wz ⟨pa,pc,rfl,hps,bz⟩
  have hbZ:=zAl hbD bz
  have hoZ:=zAf hoD bz
  obtain⟨pb,po,rfl,hpl,hcz⟩:=zOy hps HX.out
  rw[← HWV.out] at hcz
  clear hps
  refine hK.out _ _ ?_ (fun hHeld14=>?_)
  · exact SC.out _ hbZ
  clear hK K
  try simp only[Act.put,sZa,sZb,sZc]
  refine wpAnyH_take (i:=15) (oi:=?fo15) (v:=?fv15) ?fe15 (by kernel_rfl) (by kernel_rfl) (by kernel_rfl) (fun _ _ _ h=>h) (Or.inl ⟨?fw15,?fy15⟩) (by assumption) ?fr15
  case fe15=>((simp only[gZa,gZb,gZc]) <;> rfl)
  case fw15=>rfl
  case fy15=>(intro w hSw;(try dsimp only at hSw);go_simp;(try with_reducible rfl))
  try simp only[Act.put,sZa,sZb,sZc]
  refine wpAnyH_take (i:=21) (oi:=?fo21) (v:=?fv21) ?fe21 (by kernel_rfl) (by kernel_rfl) (by kernel_rfl) (fun _ _ _ h=>h) (Or.inl ⟨?fw21,?fy21⟩) (by assumption) ?fr21
  case fe21=>((simp only[gZa,gZb,gZc]) <;> rfl)
  case fw21=>rfl
  case fy21=>(intro w hSw;(try dsimp only at hSw);go_simp;(try with_reducible rfl))
  try simp only[Act.put,sZa,sZb,sZc]
  refine wpAnyH_take (i:=22) (oi:=?fo22) (v:=?fv22) ?fe22 (by kernel_rfl) (by kernel_rfl) (by kernel_rfl) (fun _ _ _ h=>h) (Or.inl ⟨?fw22,?fy22⟩) (by assumption) ?fr22
  case fe22=>((simp only[gZa,gZb,gZc]) <;> rfl)
  case fw22=>rfl
  case fy22=>(intro w hSw;(try dsimp only at hSw);go_simp;(try with_reducible rfl))
  try simp only[Act.put,sZa,sZb,sZc]
  refine wpAnyH_ready (rs:=[23]) (by kernel_rfl) (by simp) ?_
  refine AllReadyH.cons (o:=?fo23) ?fe23 (fun K hK=>?fc23) ?fn23
  case fn23=>exact AllReadyH.nil
  case fe23=>((simp only[gZa,gZb,gZc]) <;> rfl)
  go_simp
  refine hK.out _ _ ?_ (fun hHeld23=>?_)
  · exact SC.out _ hbZ
  clear hK K
  try simp only[Act.put,sZa,sZb,sZc]
  refine wpAnyH_take (i:=24) (oi:=?fo24) (v:=?fv24) ?fe24 (by kernel_rfl) (by kernel_rfl) (by kernel_rfl) (fun _ _ _ h=>h) (Or.inl ⟨?fw24,?fy24⟩) (by assumption) ?fr24
  case fe24=>((simp only[gZa,gZb,gZc]) <;> rfl)
  case fw24=>rfl
  case fy24=>(intro w hSw;(try dsimp only at hSw);go_simp;(try with_reducible rfl))
  try simp only[Act.put,sZa,sZb,sZc]
  refine wpAnyH_take (i:=25) (oi:=?fo25) (v:=?fv25) ?fe25 (by kernel_rfl) (by kernel_rfl) (by kernel_rfl) (fun _ _ _ h=>h) (Or.inl ⟨?fw25,?fy25⟩) (by assumption) ?fr25
  case fe25=>((simp only[gZa,gZb,gZc]) <;> rfl)
  case fw25=>rfl
  case fy25=>(intro w hSw;(try dsimp only at hSw);go_simp;(try with_reducible rfl))
  try simp only[Act.put,sZa,sZb,sZc]
  refine wpAnyH_ready (rs:=[26]) (by kernel_rfl) (by simp) ?_
  refine AllReadyH.cons (o:=?fo26) ?fe26 (fun K hK=>?fc26) ?fn26
  case fn26=>exact AllReadyH.nil
  case fe26=>((simp only[gZa,gZb,gZc]) <;> rfl)
  go_simp
  refine hK.out _ _ ?_ (fun hHeld26=>?_)
  · exact SC.out _ (zAl hbZ ((Below.refl _ _).alloc (Nat.le_refl _) _))
  clear hK K
  try simp only[Act.put,sZa,sZb,sZc]
  refine wpAnyH_ready (rs:=[27]) (by kernel_rfl) (by simp) ?_
  refine AllReadyH.cons (o:=?fo27) ?fe27 (fun K hK=>?fc27) ?fn27
  case fn27=>exact AllReadyH.nil
  case fe27=>((simp only[gZa,gZb,gZc]) <;> rfl)
  refine zDv _ (by rfl) _ _ 57 (by rfl) ckC 3 (by decide) zFt zLy w.heap.size 103 (.agg #[vI kI 0,vI kI 0,vI kI 0]) 24 Tryz.underlying57 hinfo rfl _ J.length J (by rfl) (zAf hoZ ((Below.refl _ _).alloc (Nat.le_refl _) _)) _ _ (by rfl) (((k+1:Nat):Int),(m:Int),tk+wv) (fun j q hq=>(World.cell?_alloc_at _ _ _ _ rfl).trans (by rw[← hq];first | exact List.getElem?_toArray | (rw[WK.out];exact List.getElem?_toArray) | (rw[WT.out];exact List.getElem?_toArray) | (rw[WK.out,WT.out];exact List.getElem?_toArray))) (by omega) (by omega) (zAl hbZ ((Below.refl _ _).alloc (Nat.le_refl _) _)).size ?_
  intro a' c' wa hown hgrow
  have hbA:=zB9 (zAl hbZ ((Below.refl _ _).alloc (Nat.le_refl _) _)) (zAf hoZ ((Below.refl _ _).alloc (Nat.le_refl _) _)) hgrow (Nat.le_refl _)
  refine hK.out _ _ ?_ (fun hHeld27=>?_)
  · exact SC.out _ hbA
  clear hK K
  try simp only[Act.put,sZa,sZb,sZc]
  refine wpAnyH_take (i:=28) (oi:=?fo28) (v:=?fv28) ?fe28 (by kernel_rfl) (by kernel_rfl) (by kernel_rfl) (fun _ _ _ h=>h) (Or.inl ⟨?fw28,?fy28⟩) (by assumption) ?fr28
  case fe28=>((simp only[gZa,gZb,gZc]) <;> rfl)
  case fw28=>rfl
  case fy28=>(intro w hSw;(try dsimp only at hSw);go_simp;(try with_reducible rfl))
  try simp only[Act.put,sZa,sZb,sZc]
  refine wpAnyH_done (by kernel_rfl) ?_ _
  refine NoPanic.normal ?_
  have hlen:(J ++ [(((k+1:Nat):Int),(m:Int),tk+wv)]).length=J.length+1:=by simp
  have HL:=hid hlen
  have HO:=hid hown
  clear hown hlen
  go_wp2_with fail
  go_roundw
  case rel=>first
   | exact⟨k+1,a',c',by omega,by go_num,by rw[HN.out,HL.out],by rw[HN.out,HL.out];exact HO.out,hbA⟩
   | ((repeat apply Exists.intro);exact⟨⟨k+1,a',c',by omega,by go_num,by rw[HN.out,HL.out],by rw[HN.out,HL.out];exact HO.out,hbA⟩,rfl⟩)
  case measure=>simp[intOf];omega
theorem zJ1{w:World}{l:List Jb}{b off:Nat}(hc:∀j (_:j<(l.flatMap jbC).length),w.cell? ⟨b,off+j,none⟩=some (l.flatMap jbC)[j])(k j:Nat)(hj:j<4)(hk:k<l.length)(v:Value)(hv:(jbC l[k])[j]?=some v):w.cell? ⟨b,off+k*4+j,none⟩=some v:=by
 rw[Nat.add_assoc];exact Sl.cell zCk hc k j hj hk v hv
theorem zPf{w:World}{l:List Ck}{b off:Nat}(hc:∀j (_:j<(l.flatMap ckC).length),w.cell? ⟨b,off+j,none⟩=some (l.flatMap ckC)[j])(k j:Nat)(hj:j<3)(hk:k<l.length)(v:Value)(hv:(ckC l[k])[j]?=some v):w.cell? ⟨b,off+k*3+j,none⟩=some v:=by
 rw[Nat.add_assoc];exact Sl.cell zFt hc k j hj hk v hv
theorem zPs{α:Type}{p:α→Bool}{l:List α}{k:Nat}(hk:k<l.length)(hp:p l[k]=true)(h:∀j (hj:j<l.length),j<k→p l[j]=false):l.find? p=some l[k] :=
 List.find?_eq_some_iff_getElem.2 ⟨hp,k,hk,rfl,fun j hj=>by rw[h j (by omega) hj];rfl⟩
theorem zM7{α:Type}{p:α→Bool}{l:List α}(h:∀j (hj:j<l.length),p l[j]=false):l.find? p=none:=by
 rw[List.find?_eq_none]
 intro x hx
 obtain⟨j,hj,rfl⟩:=List.getElem_of_mem hx
 rw[h j hj];simp
theorem zMe{α:Type}{p:α→Bool}{l:List α}{k:Nat}(hk:k<l.length)(hp:p l[k]=false)(h:∀j (hj:j<l.length),j<k→p l[j]=false):∀j (hj:j<l.length),j<k+1→p l[j]=false:=fun j hj hjk=>by
 by_cases ej:j=k
 · subst ej;exact hp
 · exact h j hj (by omega)
def tryB(rf ty:Int)(j:Jb):Bool:=decide (j.id=rf)&&decide (j.ty=ty)
def endB(kd ty n:Int):Bool:=decide (kd=7)||(decide (kd=8)&&decide (ty<n))||(decide (kd=9)&&decide (ty=n))
theorem zNu(l:List Ev)(e:Ev):zFs l e=match (zAn l).find? (tryB e.rf e.ty) with | none=>false | some j=>endB e.kd e.ty (zBc (prgL l).2 j):=rfl
theorem zHa(a:Option Addr)(c:Nat)(l:List Ev)(id kd tk rf sp ty:Int)(ud:Bool)(dt:List UInt8)(w:World)(hs:Sl w (vS a l.length c) 8 l.length (l.flatMap evc))(hH:Hs l)(hne:l≠[]) :
 Calls Tryz.prog 81 #[vS a l.length c,.agg #[vI kI id,vI kI kd,vI kI tk,vI kI rf,vI kI sp,vI kI ty,vB ud,.string ⟨dt.toArray⟩]] w fun e' w'=>e'=.returned (vB (zFs l (id,kd,tk,rf,sp,ty,ud,dt)))∧Below w.heap.size w w':=by
 have hL:=hH.short
 obtain⟨J,hJ⟩:∃J,J=zAn l:=⟨_,rfl⟩
 obtain⟨R,hR⟩:∃R,R=zFs l (id,kd,tk,rf,sp,ty,ud,dt):=⟨_,rfl⟩
 have HT:Hid (∀k (hk:k<J.length),(∀j (hj:j<J.length),j<k→tryB rf ty J[j]=false)→tryB rf ty J[k]=true→R=endB kd ty (zBc (prgL l).2 J[k])):=hid (fun k hk h h'=>by rw[hR,zNu,← hJ];simp only[Ev.rf,Ev.ty,Ev.kd];rw[zPs hk h' h])
 have HF:Hid ((∀j (hj:j<J.length),tryB rf ty J[j]=false)→R=false):=hid (fun h=>by rw[hR,zNu,← hJ];simp only[Ev.rf,Ev.ty,Ev.kd];rw[zM7 h])
 rw[← hR]
 clear hR
 obtain⟨w0,hw0⟩:∃x,x=w.alloc (.cells #[vI kI id,vI kI kd,vI kI tk,vI kI rf,vI kI sp,vI kI ty,vB ud,.string ⟨dt.toArray⟩] 52):=⟨_,rfl⟩
 have b0:Below w.heap.size w w0:=by rw[hw0];exact(Below.refl _ _).alloc (Nat.le_refl _) _
 have he0:w0.heap[w.heap.size]?=some (.cells #[vI kI id,vI kI kd,vI kI tk,vI kI rf,vI kI sp,vI kI ty,vB ud,.string ⟨dt.toArray⟩] 52 (0,0)):=by rw[hw0];exact heap_alloc_new w _
 have hs0:=hs.below b0
 have HW:=hid hw0
 clear hw0 hs
 go_enter Tryz.func81,Tryz.ntmps81
 go_wp2_with fail
 rw[← HW.out]
 refine(zFc a c l w0 hs0 (by omega)).mono ?_
 rintro _ w1 ⟨av,cv,rfl,ho,b1⟩
 have hsl:=Sl.of_own ho (zEu ho)
 have hs1:=hs0.below b1
 have he1:=(b1.block _ (gL he0)).trans he0
 have b01:=zAl b0 b1
 have hmw:w.heap.size<w1.heap.size:=(gL he1)
 have y1:w1.cell? ⟨w.heap.size,1,none⟩=some (vI kI kd):=cR he1 rfl
 have y3:w1.cell? ⟨w.heap.size,3,none⟩=some (vI kI rf):=cR he1 rfl
 have y5:w1.cell? ⟨w.heap.size,5,none⟩=some (vI kI ty):=cR he1 rfl
 rw[← hJ] at hsl ho ⊢
 clear hJ
 have hm:J.length≤9223372036854775807:=hsl.2.1.1
 obtain⟨_,_,a',cap,hv,hc⟩:=hsl
 rw[Value.slice.injEq] at hv
 obtain⟨rfl,-,rfl⟩:=hv
 have C1:=hid hc
 have HO:=hid ho
 clear hc ho he0 he1 b0 b1 hs0 HW
 go_wp2_with fail
 go_loopw [6] (fun n0 wr=>∃k:Nat,k≤J.length∧n0=vI kI (k:Int)∧(∀j (hj:j<J.length),j<k→tryB rf ty J[j]=false)∧∃d,wr=w1.drewN d) (fun n0 _=>J.length - (intOf n0).toNat)
 case atStart=>exact⟨0,by omega,rfl,fun j _ h=>absurd h (Nat.not_lt_zero _),0,rfl⟩
 case round =>
  obtain⟨k,hk,rfl,hall,d,rfl⟩:=hrel
  have HA:=hid hall
  clear hall
  by_cases hlt:k<J.length
  case neg =>
   obtain rfl:k=J.length:=by omega
   have HR:=hid (HF.out fun j hj=>HA.out j hj hj)
   go_wp2_with fail
   go_ret
   exact⟨by rw[HR.out];rfl,zAl b01 (zAa _ _ _)⟩
  obtain⟨b,off,rfl,hblt,hc⟩:=C1.out.resolve_left (by omega)
  have j0:w1.cell? ⟨b,off+k*4,none⟩=some (vI kI (J[k]).1):=zJ1 hc k 0 (by decide) hlt _ rfl
  have j1:w1.cell? ⟨b,off+k*4+1,none⟩=some (vI kI (J[k]).2.1):=zJ1 hc k 1 (by decide) hlt _ rfl
  have j2:w1.cell? ⟨b,off+k*4+2,none⟩=some (vB (J[k]).2.2.1):=zJ1 hc k 2 (by decide) hlt _ rfl
  have j3:w1.cell? ⟨b,off+k*4+3,none⟩=some (vI kI (J[k]).2.2.2):=zJ1 hc k 3 (by decide) hlt _ rfl
  clear hc
  generalize hX:J[k]=X at j0 j1 j2 j3
  have HX:=hid hX
  clear hX
  obtain⟨ji,jp,ju,jt⟩:=X
  simp only at j0 j1 j2 j3
  have hkI:(k:Int)<(J.length:Int):=by omega
  by_cases h1:ji=rf
  case neg =>
   have HN:=hid (zMe hlt (by rw[HX.out];unfold tryB;rw[decide_eq_false (show ¬Jb.id (ji,jp,ju,jt)=rf from h1)];rfl) HA.out)
   have hq:(ji==rf)=false:=by simpa using h1
   clear h1
   go_wp2_with fail
   go_quiet (fail)
   go_wp2_with fail
   go_roundw
   case rel=>exact⟨k+1,by omega,by go_num,HN.out,by first | exact⟨_,rfl⟩ | exact⟨d+_,(World.drewN_drewN ..).symm⟩⟩
   case measure=>simp[intOf];omega
  by_cases h2:jt=ty
  case neg =>
   have HN:=hid (zMe hlt (by rw[HX.out];unfold tryB;rw[decide_eq_false (show ¬Jb.ty (ji,jp,ju,jt)=ty from h2),Bool.and_false]) HA.out)
   have hq:(jt==ty)=false:=by simpa using h2
   clear h2
   subst h1
   go_wp2_with fail
   go_quiet (fail)
   go_wp2_with fail
   go_roundw
   case rel=>exact⟨k+1,by omega,by go_num,HN.out,by first | exact⟨_,rfl⟩ | exact⟨d+_,(World.drewN_drewN ..).symm⟩⟩
   case measure=>simp[intOf];omega
  have hRe:=HT.out k hlt HA.out (by rw[HX.out];unfold tryB;rw[decide_eq_true (show Jb.id (ji,jp,ju,jt)=rf from h1),decide_eq_true (show Jb.ty (ji,jp,ju,jt)=ty from h2)];rfl)
  rw[HX.out] at hRe
  have HR:=hid hRe
  subst h1
  subst h2
  clear hRe HT HF HA HX C1
  go_wp2_with fail
  go_quiet (fail)
  go_wp2_with fail
  have hm':k≤9223372036854775807:=by omega
  have HNE:=hid hne
  obtain⟨wq,hwq⟩:∃x,x=(w1.drewN d).drewN nq:=⟨_,rfl⟩
  rw[← hwq]
  have bq:Below w1.heap.size w1 (wq.drewN 1):=by rw[hwq];exact⟨rfl,rfl,rfl,Nat.le_refl _,fun _ _=>rfl⟩
  have hsq:=hs1.below bq
  clear hwq
  have SC:=hid (fun(w':World) (q:Below w1.heap.size w1 w')=>(⟨q,(q.cell (p:=⟨b,off+k*4,none⟩) hblt).trans j0,(q.cell (p:=⟨b,off+k*4+1,none⟩) hblt).trans j1,(q.cell (p:=⟨b,off+k*4+2,none⟩) hblt).trans j2,(q.cell (p:=⟨b,off+k*4+3,none⟩) hblt).trans j3⟩:Below w1.heap.size w1 w'∧w'.cell? ⟨b,off+k*4,none⟩=some (vI kI ji)∧w'.cell? ⟨b,off+k*4+1,none⟩=some (vI kI jp)∧w'.cell? ⟨b,off+k*4+2,none⟩=some (vB ju)∧w'.cell? ⟨b,off+k*4+3,none⟩=some (vI kI jt)))
  clear hne j0 j1 j2 j3
  go_region_held3 (fun w'=>Below w1.heap.size w1 w'∧w'.cell? ⟨b,off+k*4,none⟩=some (vI kI ji)∧w'.cell? ⟨b,off+k*4+1,none⟩=some (vI kI jp)∧w'.cell? ⟨b,off+k*4+2,none⟩=some (vB ju)∧w'.cell? ⟨b,off+k*4+3,none⟩=some (vI kI jt)) (first | exact SC.out _ bq | exact SC.out _ (by assumption)) (first
   | ((go_at_call 48;refine(zD3 _ _ l _ hsq HNE.out hH.fit).mono ?_;rintro _ wz ⟨pa,pc,rfl,hps,bz⟩;have hbZ:=zAl bq bz))
   | ((go_at_call 96;refine(zOr pa pc (prgL l).2 _ _ hps _ _ _ _).mono ?_;rintro _ wt ⟨rfl,bt⟩;have hbT:=zAl hbZ bt)))
  have z1:wt.cell? ⟨w.heap.size,1,none⟩=some (vI kI kd):=(hbT.cell (p:=⟨w.heap.size,1,none⟩) hmw).trans y1
  have z5:wt.cell? ⟨w.heap.size,5,none⟩=some (vI kI jt):=(hbT.cell (p:=⟨w.heap.size,5,none⟩) hmw).trans y5
  have HBT:=hid (zAl b01 hbT)
  clear y1 y3 y5 hps bz hbZ bt hbT
  generalize zBc (prgL l).2 (ji,jp,ju,jt)=n at *
  by_cases k7:kd=7
  · subst k7
    go_wp2_with fail
    go_ret
    exact⟨by rw[HR.out];rfl,HBT.out⟩
  have q7:(kd==7)=false:=by simpa using k7
  by_cases k8:kd=8
  · subst k8
    by_cases hn:jt<n
    · have HD:=hid (show endB 8 jt n=true by unfold endB;simp[hn])
      go_wp2_with fail
      go_ret
      exact⟨by rw[HR.out,HD.out];rfl,HBT.out⟩
    · have HD:=hid (show endB 8 jt n=false by unfold endB;simp[hn])
      go_wp2_with fail
      go_ret
      exact⟨by rw[HR.out,HD.out];rfl,HBT.out⟩
  have q8:(kd==8)=false:=by simpa using k8
  by_cases k9:kd=9
  · subst k9
    by_cases hn:jt=n
    · have HD:=hid (show endB 9 jt n=true by unfold endB;simp[hn])
      have hq:(jt==n)=true:=by simpa using hn
      clear hn
      go_wp2_with fail
      go_ret
      exact⟨by rw[HR.out,HD.out];rfl,HBT.out⟩
    · have HD:=hid (show endB 9 jt n=false by unfold endB;simp[hn])
      have hq:(jt==n)=false:=by simpa using hn
      clear hn
      go_wp2_with fail
      go_ret
      exact⟨by rw[HR.out,HD.out];rfl,HBT.out⟩
  have q9:(kd==9)=false:=by simpa using k9
  have HD:=hid (show endB kd jt n=false by unfold endB;simp[k7,k8,k9])
  clear k7 k8 k9
  go_wp2_with fail
  go_ret
  exact⟨by rw[HR.out,HD.out];rfl,HBT.out⟩
def ckB(rf:Int)(c:Ck):Bool:=decide (c.id=rf)
theorem zM9(l:List Ev)(e:Ev):zH6 l e=match (zAi l).find? (ckB e.rf) with | none=>false | some c=>decide (c.tk≤e.tk):=rfl
theorem zOm(a:Option Addr)(c:Nat)(l:List Ev)(id kd tk rf sp ty:Int)(ud:Bool)(dt:List UInt8)(w:World)(hs:Sl w (vS a l.length c) 8 l.length (l.flatMap evc))(hH:Hs l) :
 Calls Tryz.prog 82 #[vS a l.length c,.agg #[vI kI id,vI kI kd,vI kI tk,vI kI rf,vI kI sp,vI kI ty,vB ud,.string ⟨dt.toArray⟩]] w fun e' w'=>e'=.returned (vB (zH6 l (id,kd,tk,rf,sp,ty,ud,dt)))∧Below w.heap.size w w':=by
 obtain⟨J,hJ⟩:∃J,J=zAi l:=⟨_,rfl⟩
 obtain⟨R,hR⟩:∃R,R=zH6 l (id,kd,tk,rf,sp,ty,ud,dt):=⟨_,rfl⟩
 have HT:Hid (∀k (hk:k<J.length),(∀j (hj:j<J.length),j<k→ckB rf J[j]=false)→ckB rf J[k]=true→R=decide ((J[k]).2.2≤tk)):=hid (fun k hk h h'=>by rw[hR,zM9,← hJ];simp only[Ev.rf,Ev.tk];rw[zPs hk h' h])
 have HF:Hid ((∀j (hj:j<J.length),ckB rf J[j]=false)→R=false):=hid (fun h=>by rw[hR,zM9,← hJ];simp only[Ev.rf,Ev.tk];rw[zM7 h])
 rw[← hR]
 clear hR
 obtain⟨w0,hw0⟩:∃x,x=w.alloc (.cells #[vI kI id,vI kI kd,vI kI tk,vI kI rf,vI kI sp,vI kI ty,vB ud,.string ⟨dt.toArray⟩] 52):=⟨_,rfl⟩
 have b0:Below w.heap.size w w0:=by rw[hw0];exact(Below.refl _ _).alloc (Nat.le_refl _) _
 have he0:w0.heap[w.heap.size]?=some (.cells #[vI kI id,vI kI kd,vI kI tk,vI kI rf,vI kI sp,vI kI ty,vB ud,.string ⟨dt.toArray⟩] 52 (0,0)):=by rw[hw0];exact heap_alloc_new w _
 have hs0:=hs.below b0
 have HW:=hid hw0
 clear hw0 hs
 go_enter Tryz.func82,Tryz.ntmps82
 go_wp2_with fail
 rw[← HW.out]
 refine(zIe a c l w0 hs0 hH).mono ?_
 rintro _ w1 ⟨av,cv,rfl,ho,b1⟩
 have hsl:=Sl.of_own ho (zEu ho)
 have he1:=(b1.block _ (gL he0)).trans he0
 have b01:=zAl b0 b1
 have y2:w1.cell? ⟨w.heap.size,2,none⟩=some (vI kI tk):=cR he1 rfl
 have y3:w1.cell? ⟨w.heap.size,3,none⟩=some (vI kI rf):=cR he1 rfl
 rw[← hJ] at hsl ho ⊢
 clear hJ
 have hm:J.length≤9223372036854775807:=hsl.2.1.1
 obtain⟨_,_,a',cap,hv,hc⟩:=hsl
 rw[Value.slice.injEq] at hv
 obtain⟨rfl,-,rfl⟩:=hv
 have C1:=hid hc
 clear hc ho he0 he1 b0 b1 hs0 HW
 go_wp2_with fail
 go_loopw [6] (fun n0 wr=>∃k:Nat,k≤J.length∧n0=vI kI (k:Int)∧(∀j (hj:j<J.length),j<k→ckB rf J[j]=false)∧∃d,wr=w1.drewN d) (fun n0 _=>J.length - (intOf n0).toNat)
 case atStart=>exact⟨0,by omega,rfl,fun j _ h=>absurd h (Nat.not_lt_zero _),0,rfl⟩
 case round =>
  obtain⟨k,hk,rfl,hall,d,rfl⟩:=hrel
  have HA:=hid hall
  clear hall
  by_cases hlt:k<J.length
  case neg =>
   obtain rfl:k=J.length:=by omega
   have HR:=hid (HF.out fun j hj=>HA.out j hj hj)
   go_wp2_with fail
   go_ret
   exact⟨by rw[HR.out];rfl,zAl b01 (zAa _ _ _)⟩
  obtain⟨b,off,rfl,hblt,hc⟩:=C1.out.resolve_left (by omega)
  have j0:w1.cell? ⟨b,off+k*3,none⟩=some (vI kI (J[k]).1):=zPf hc k 0 (by decide) hlt _ rfl
  have j2:w1.cell? ⟨b,off+k*3+2,none⟩=some (vI kI (J[k]).2.2):=zPf hc k 2 (by decide) hlt _ rfl
  clear hc
  generalize hX:J[k]=X at j0 j2
  have HX:=hid hX
  clear hX
  obtain⟨ji,jp,jt⟩:=X
  simp only at j0 j2
  have hkI:(k:Int)<(J.length:Int):=by omega
  by_cases h1:ji=rf
  case neg =>
   have HN:=hid (zMe hlt (by rw[HX.out];exact decide_eq_false (show ¬Ck.id (ji,jp,jt)=rf from h1)) HA.out)
   have hq:(ji==rf)=false:=by simpa using h1
   clear h1
   go_wp2_with fail
   go_quiet (fail)
   go_wp2_with fail
   go_roundw
   case rel=>exact⟨k+1,by omega,by go_num,HN.out,by first | exact⟨_,rfl⟩ | exact⟨d+_,(World.drewN_drewN ..).symm⟩⟩
   case measure=>simp[intOf];omega
  have hRe:=HT.out k hlt HA.out (by rw[HX.out];exact decide_eq_true (show Ck.id (ji,jp,jt)=rf from h1))
  rw[HX.out] at hRe
  have HR:=hid hRe
  subst h1
  clear hRe HT HF HA HX C1
  by_cases h2:jt≤tk
  · have HD:=hid (decide_eq_true h2)
    go_wp2_with fail
    go_quiet (fail)
    go_wp2_with fail
    go_quiet (fail)
    go_wp2_with fail
    go_ret
    exact⟨by rw[HR.out,HD.out];rfl,zAl b01 ⟨rfl,rfl,rfl,Nat.le_refl _,fun _ _=>rfl⟩⟩
  · have HD:=hid (decide_eq_false h2)
    go_wp2_with fail
    go_quiet (fail)
    go_wp2_with fail
    go_quiet (fail)
    go_wp2_with fail
    go_ret
    exact⟨by rw[HR.out,HD.out];rfl,zAl b01 ⟨rfl,rfl,rfl,Nat.le_refl _,fun _ _=>rfl⟩⟩
end Go.Proofs.YtkedafopdkhnfaaGreat
