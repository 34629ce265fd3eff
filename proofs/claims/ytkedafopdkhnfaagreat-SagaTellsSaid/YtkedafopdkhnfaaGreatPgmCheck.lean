/- CONTRACTS: prog.Check; the reference's Right. -/
import Derived.Test.YtkedafopdkhnfaaGreatPgmRight
import Derived.Test.YtkedafopdkhnfaaGreatSlices
namespace Go.Proofs.YtkedafopdkhnfaaGreat
set_option maxHeartbeats 1600000
open Go.RowKit
set_option linter.unusedVariables false
def stC(x:St):List Value:=[.int .i64 x.kd,.string ⟨x.nm.toArray⟩,.string ⟨x.un.toArray⟩,.int .i64 x.tr,.int .i64 x.ut,.int .i64 x.wt]
theorem zEy(x:St):(stC x).length=6:=rfl
theorem zAp{w:World}{ss:List St}{b off:Nat}(hc:∀j (_:j<(ss.flatMap stC).length),w.cell? ⟨b,off+j,none⟩=some (ss.flatMap stC)[j])(k j:Nat)(hj:j<6)(hk:k<ss.length)(v:Value)(hv:(stC ss[k])[j]?=some v):w.cell? ⟨b,off+k*6+j,none⟩=some v:=by
 rw[Nat.add_assoc];exact Sl.cell zEy hc k j hj hk v hv
def Fit(ss:List St):Prop:=∀x∈ss,x.nm.length≤maxLen∧x.un.length≤maxLen
theorem zQh{lim:Int}{ss:List St}{k:Nat}(hk:k<ss.length)(h:¬zBg ss[k]):¬zCr lim ss:=fun hp=>h (hp.2.2 _ (List.getElem_mem hk))
theorem zNn{lim:Int}{ss:List St}(h1:ss.length≤16)(h2:0≤lim∧lim≤16000)(h:∀j (hj:j<ss.length),zBg ss[j]):zCr lim ss:=⟨h1,h2,fun x hx=>by
 obtain⟨j,hj,rfl⟩:=List.getElem_of_mem hx
 exact h j hj⟩
def chkV(lim:Int)(ss:List St):Int:=if zCr lim ss then 0 else 130
theorem zPc(v:Value)(lim:Int)(ss:List St)(w:World)(hs:Sl w v 6 ss.length (ss.flatMap stC))(hf:Fit ss):Calls Tryz.prog 66 #[.agg #[v,.int .i64 lim]] w fun e w'=>e=.returned (.int .i64 (chkV lim ss))∧Below w.heap.size w w':=by
 have hm:=hs.2.1.1
 obtain⟨_,_,a,cap,rfl,hc⟩:=hs
 have C1:=hid hc
 clear hc
 by_cases h16:(16:Int)<(ss.length:Int)
 · have hv:chkV lim ss=130:=by unfold chkV;rw[if_neg (fun h=>by have:=h.1;omega)]
   rw[hv]
   clear hv
   go_enter Tryz.func66,Tryz.ntmps66
   go_wp2_with fail
   go_ret
   exact⟨rfl,(Below.refl _ _).alloc (Nat.le_refl _) _⟩
 · by_cases hl:0≤lim∧lim≤16000
   · have hd:decide (0≤lim∧lim≤16000)=true:=decide_eq_true hl
     have HL:=hid hl
     clear hl
     go_enter Tryz.func66,Tryz.ntmps66
     go_wp2_with fail
     refine(zDt _ _ _ _).mono ?_
     rintro _ _ ⟨rfl,rfl⟩
     rw[hd]
     go_wp2_with fail
     go_loopw [18] (fun i wr=>∃k:Nat,k≤ss.length∧i=.int .i64 k∧(∀j (hj:j<ss.length),j<k→zBg ss[j])∧Below w.heap.size w wr) (fun i _=>ss.length - (intOf i).toNat)
     case atStart=>exact⟨0,by omega,rfl,fun j _ h=>absurd h (Nat.not_lt_zero _),(Below.refl _ _).alloc (Nat.le_refl _) _⟩
     case round =>
      obtain⟨k,hk,rfl,hall,hb⟩:=hrel
      by_cases hlt:k<ss.length
      · obtain⟨b,off,rfl,hblt,hc⟩:=C1.out.resolve_left (by omega)
        have hk0:wr.cell? ⟨b,off+k*6,none⟩=some (.int .i64 ss[k].1):=(hb.cell (p:=⟨b,off+k*6+0,none⟩) hblt).trans (zAp hc k 0 (by decide) hlt _ rfl)
        have hk1:wr.cell? ⟨b,off+k*6+1,none⟩=some (.string ⟨ss[k].2.1.toArray⟩):=(hb.cell (p:=⟨b,off+k*6+1,none⟩) hblt).trans (zAp hc k 1 (by decide) hlt _ rfl)
        have hk2:wr.cell? ⟨b,off+k*6+2,none⟩=some (.string ⟨ss[k].2.2.1.toArray⟩):=(hb.cell (p:=⟨b,off+k*6+2,none⟩) hblt).trans (zAp hc k 2 (by decide) hlt _ rfl)
        have hk3:wr.cell? ⟨b,off+k*6+3,none⟩=some (.int .i64 ss[k].2.2.2.1):=(hb.cell (p:=⟨b,off+k*6+3,none⟩) hblt).trans (zAp hc k 3 (by decide) hlt _ rfl)
        have hk4:wr.cell? ⟨b,off+k*6+4,none⟩=some (.int .i64 ss[k].2.2.2.2.1):=(hb.cell (p:=⟨b,off+k*6+4,none⟩) hblt).trans (zAp hc k 4 (by decide) hlt _ rfl)
        have hk5:wr.cell? ⟨b,off+k*6+5,none⟩=some (.int .i64 ss[k].2.2.2.2.2):=(hb.cell (p:=⟨b,off+k*6+5,none⟩) hblt).trans (zAp hc k 5 (by decide) hlt _ rfl)
        clear hc
        have hfx:=hf ss[k] (List.getElem_mem hlt)
        have hno:¬zBg ss[k]→¬zCr lim ss:=fun h=>zQh hlt h
        have hall':zBg ss[k]→∀j (hj:j<ss.length),j<k+1→zBg ss[j]:=fun h j hj hjk=>by
         by_cases e:j=k
         · subst e;exact h
         · exact hall j hj (by omega)
        have HA:=hid hall'
        clear hall hall'
        generalize ss[k]=x at *
        obtain⟨kd,nm,un,tr,ut,wt⟩:=x
        simp only at hk0 hk1 hk2 hk3 hk4 hk5
        by_cases hx:zBg (kd,nm,un,tr,ut,wt)
        · have hd:decide (zBg (kd,nm,un,tr,ut,wt))=true:=decide_eq_true hx
          have HX:=hid hx
          clear hx hno
          go_wp2_with fail
          refine(zLd (kd,nm,un,tr,ut,wt) hfx.1 hfx.2 _).mono ?_
          rintro _ w2 ⟨rfl,hb2⟩
          rw[hd]
          go_wp2_with fail
          go_roundw
          case rel=>exact⟨k+1,by omega,by go_num,HA.out HX.out,zAl (hb.alloc (by have:=hb.size;omega) _) hb2⟩
          case measure=>simp[intOf];omega
        · have hd:decide (zBg (kd,nm,un,tr,ut,wt))=false:=decide_eq_false hx
          have hv:chkV lim ss=130:=by unfold chkV;rw[if_neg (hno hx)]
          have HV:=hid hv
          clear hv hx
          go_wp2_with fail
          refine(zLd (kd,nm,un,tr,ut,wt) hfx.1 hfx.2 _).mono ?_
          rintro _ w2 ⟨rfl,hb2⟩
          rw[hd]
          go_wp2_with fail
          go_ret
          exact⟨by rw[HV.out];rfl,zAl (hb.alloc (by have:=hb.size;omega) _) hb2⟩
      · obtain rfl:k=ss.length:=by omega
        have hp:zCr lim ss:=zNn (by omega) HL.out (fun j hj=>hall j hj hj)
        have hv:chkV lim ss=0:=by unfold chkV;rw[if_pos hp]
        have HV:=hid hv
        clear hv hp
        go_wp2_with fail
        go_ret
        exact⟨by rw[HV.out];rfl,hb⟩
   · have hv:chkV lim ss=130:=by unfold chkV;rw[if_neg (fun h=>hl h.2.1)]
     have hd:decide (0≤lim∧lim≤16000)=false:=decide_eq_false hl
     rw[hv]
     clear hv hl
     go_enter Tryz.func66,Tryz.ntmps66
     go_wp2_with fail
     refine(zDt _ _ _ _).mono ?_
     rintro _ _ ⟨rfl,rfl⟩
     rw[hd]
     go_wp2_with fail
     go_ret
     exact⟨rfl,(Below.refl _ _).alloc (Nat.le_refl _) _⟩
theorem zOn(v:Value)(lim:Int)(ss:List St)(w:World)(hs:Sl w v 6 ss.length (ss.flatMap stC))(hf:Fit ss):Calls Tryz.prog 102 #[.agg #[v,.int .i64 lim]] w fun e w'=>e=.returned (.bool (decide (zCr lim ss)))∧Below w.heap.size w w':=by
 have hm:=hs.2.1.1
 obtain⟨_,_,a,cap,rfl,hc⟩:=hs
 have C1:=hid hc
 clear hc
 unfold maxLen at hm
 by_cases h16:(16:Int)<(ss.length:Int)
 · have hv:decide (zCr lim ss)=false:=decide_eq_false (fun h=>by have:=h.1;omega)
   rw[hv]
   clear hv
   go_enter Tryz.func102,Tryz.ntmps102
   go_wp2_with fail
   go_ret
   exact⟨rfl,(Below.refl _ _).alloc (Nat.le_refl _) _⟩
 · by_cases hl:0≤lim∧lim≤16000
   · have hd:decide (0≤lim∧lim≤16000)=true:=decide_eq_true hl
     have HL:=hid hl
     clear hl
     go_enter Tryz.func102,Tryz.ntmps102
     go_wp2_with fail
     refine(zI0 _ _ _ _).mono ?_
     rintro _ _ ⟨rfl,rfl⟩
     rw[hd]
     go_wp2_with fail
     obtain⟨w1,hw1⟩:∃w1,w1=w.alloc (.cells #[.slice a ss.length cap,.int .i64 lim] 32):=⟨_,rfl⟩
     rw[← hw1]
     have bw1:Below w.heap.size w w1:=by rw[hw1];exact(Below.refl _ _).alloc (Nat.le_refl _) _
     have sw1:w1.heap.size=w.heap.size+1:=by rw[hw1];exact Array.size_push ..
     have hpc:w1.cell? ⟨w.heap.size,0,none⟩=some (.slice a ss.length cap):=by rw[hw1,World.cell?_alloc_at _ _ _ _ rfl];rfl
     clear hw1
     go_loopw [3] (fun i wr=>∃k:Nat,k≤ss.length∧i=.int .i64 k∧(∀j (hj:j<ss.length),j<k→zBg ss[j])∧Below w1.heap.size w1 wr) (fun i _=>ss.length - (intOf i).toNat)
     case atStart=>exact⟨0,by omega,rfl,fun j _ h=>absurd h (Nat.not_lt_zero _),Below.refl _ _⟩
     case round =>
      obtain⟨k,hk,rfl,hall,hb⟩:=hrel
      have hp0:wr.cell? ⟨w.heap.size,0,none⟩=some (.slice a ss.length cap):=(hb.cell (p:=⟨w.heap.size,0,none⟩) (by show w.heap.size<_;omega)).trans hpc
      have hbc:∀b o,b<w.heap.size→wr.cell? ⟨b,o,none⟩=w.cell? ⟨b,o,none⟩:=fun b o hlt=>(hb.cell (p:=⟨b,o,none⟩) (by show b<_;omega)).trans (bw1.cell (p:=⟨b,o,none⟩) hlt)
      by_cases hlt:k<ss.length
      · obtain⟨b,off,rfl,hblt,hc⟩:=C1.out.resolve_left (by omega)
        have hk0:wr.cell? ⟨b,off+k*6,none⟩=some (.int .i64 ss[k].1):=(hbc b (off+k*6+0) hblt).trans (zAp hc k 0 (by decide) hlt _ rfl)
        have hk1:wr.cell? ⟨b,off+k*6+1,none⟩=some (.string ⟨ss[k].2.1.toArray⟩):=(hbc b (off+k*6+1) hblt).trans (zAp hc k 1 (by decide) hlt _ rfl)
        have hk2:wr.cell? ⟨b,off+k*6+2,none⟩=some (.string ⟨ss[k].2.2.1.toArray⟩):=(hbc b (off+k*6+2) hblt).trans (zAp hc k 2 (by decide) hlt _ rfl)
        have hk3:wr.cell? ⟨b,off+k*6+3,none⟩=some (.int .i64 ss[k].2.2.2.1):=(hbc b (off+k*6+3) hblt).trans (zAp hc k 3 (by decide) hlt _ rfl)
        have hk4:wr.cell? ⟨b,off+k*6+4,none⟩=some (.int .i64 ss[k].2.2.2.2.1):=(hbc b (off+k*6+4) hblt).trans (zAp hc k 4 (by decide) hlt _ rfl)
        have hk5:wr.cell? ⟨b,off+k*6+5,none⟩=some (.int .i64 ss[k].2.2.2.2.2):=(hbc b (off+k*6+5) hblt).trans (zAp hc k 5 (by decide) hlt _ rfl)
        clear hc hbc
        have hfx:=hf ss[k] (List.getElem_mem hlt)
        have hno:¬zBg ss[k]→¬zCr lim ss:=fun h=>zQh hlt h
        have hall':zBg ss[k]→∀j (hj:j<ss.length),j<k+1→zBg ss[j]:=fun h j hj hjk=>by
         by_cases e:j=k
         · subst e;exact h
         · exact hall j hj (by omega)
        have HA:=hid hall'
        clear hall hall'
        generalize ss[k]=x at *
        obtain⟨kd,nm,un,tr,ut,wt⟩:=x
        simp only at hk0 hk1 hk2 hk3 hk4 hk5
        by_cases hx:zBg (kd,nm,un,tr,ut,wt)
        · have hd:decide (zBg (kd,nm,un,tr,ut,wt))=true:=decide_eq_true hx
          have HX:=hid hx
          clear hx hno
          go_wp2_with fail
          refine(zLf (kd,nm,un,tr,ut,wt) hfx.1 hfx.2 _).mono ?_
          rintro _ w2 ⟨rfl,hb2⟩
          rw[hd]
          go_wp2_with fail
          go_roundw
          case rel=>exact⟨k+1,by omega,by go_num,HA.out HX.out,zAl hb hb2⟩
          case measure=>simp[intOf];omega
        · have hd:decide (zBg (kd,nm,un,tr,ut,wt))=false:=decide_eq_false hx
          have hv:decide (zCr lim ss)=false:=decide_eq_false (hno hx)
          have HV:=hid hv
          clear hv hx
          go_wp2_with fail
          refine(zLf (kd,nm,un,tr,ut,wt) hfx.1 hfx.2 _).mono ?_
          rintro _ w2 ⟨rfl,hb2⟩
          rw[hd]
          go_wp2_with fail
          go_ret
          exact⟨by rw[HV.out];rfl,zAl bw1 (zAl hb hb2)⟩
      · obtain rfl:k=ss.length:=by omega
        clear hbc
        have hp:zCr lim ss:=zNn (by omega) HL.out (fun j hj=>hall j hj hj)
        have hv:decide (zCr lim ss)=true:=decide_eq_true hp
        have HV:=hid hv
        clear hv hp
        go_wp2_with fail
        go_ret
        exact⟨by rw[HV.out];rfl,zAl bw1 hb⟩
   · have hv:decide (zCr lim ss)=false:=decide_eq_false (fun h=>hl h.2.1)
     have hd:decide (0≤lim∧lim≤16000)=false:=decide_eq_false hl
     rw[hv]
     clear hv hl
     go_enter Tryz.func102,Tryz.ntmps102
     go_wp2_with fail
     refine(zI0 _ _ _ _).mono ?_
     rintro _ _ ⟨rfl,rfl⟩
     rw[hd]
     go_wp2_with fail
     go_ret
     exact⟨rfl,(Below.refl _ _).alloc (Nat.le_refl _) _⟩
end Go.Proofs.YtkedafopdkhnfaaGreat
