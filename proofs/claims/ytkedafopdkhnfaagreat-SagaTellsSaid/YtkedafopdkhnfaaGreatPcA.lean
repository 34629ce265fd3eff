/- PLAIN: the document's look at a history (wherryref15): what has come of a step. CONTRACTS: wherryref15: end, Went, come, Stops. PLAIN: the document's way on, and the way back (wherryref15). PLAIN: the document's Check (wherryref15): what is wanted at each place; which event it is. -/
import Derived.Test.YtkedafopdkhnfaaGreatPmP
import Derived.Test.YtkedafopdkhnfaaGreatSmR
import Derived.Test.YtkedafopdkhnfaaGreatPmM
import Derived.IntWalk
import Derived.Deep.DeepCutAuto
namespace Go.Proofs.YtkedafopdkhnfaaGreat
set_option maxHeartbeats 16000000
set_option maxRecDepth 100000
open Go.RowKit
set_option linter.unusedVariables false
def mtB(e:Ev)(n:Int)(u:Bool):Bool:=decide ((e.kd=6∨e.kd=10)∧e.sp=n∧e.ud=u)
def endK(id:Nat):List Ev→Int
 | []=>1
 | e :: r=>if e.rf=(id:Int)∧(e.kd=7∨e.kd=11) then 2 else if e.rf=(id:Int)∧e.kd=9 then 3 else endK id r
def endP(l:List Ev)(id:Nat):Int:=endK id (l.drop id)
def zDc(l:List Ev)(n:Int)(u:Bool):Nat→Option Nat
 | 0=>none
 | k+1=>match l[k]? with
   | some e=>if mtB e n u=true then some k else zDc l n u k
   | none=>zDc l n u k
def zF4(l:List Ev)(n:Int)(u:Bool)(k:Nat):Int:=match zDc l n u k with
 | none=>0
 | some i=>endP l (i+1)
def zDx(l:List Ev)(n:Int)(u:Bool):Int:=zF4 l n u l.length
theorem zO1{l:List Ev}{n:Int}{u:Bool}{k:Nat}(hk:k<l.length):zF4 l n u (k+1)=if mtB l[k] n u=true then endP l (k+1) else zF4 l n u k:=by
 unfold zF4
 show(match (match l[k]? with | some e=>if mtB e n u=true then some k else zDc l n u k | none=>zDc l n u k) with | none=>0 | some i=>endP l (i+1))=_
 rw[List.getElem?_eq_getElem hk]
 simp only
 split <;> rename_i h <;> split at h <;> simp_all
theorem zPn(id:Nat):∀r,endK id r=1∨endK id r=2∨endK id r=3
 | []=>.inl rfl
 | e :: r=>by
   unfold endK
   split
   · exact .inr (.inl rfl)
   · split
     · exact .inr (.inr rfl)
     · exact zPn id r
theorem zKt(id:Nat)(e:Ev):∀r,endK id (r ++ [e])=if endK id r=1 then endK id [e] else endK id r
 | []=>by simp[endK]
 | x :: r=>by
   rw[List.cons_append]
   unfold endK
   split
   · simp
   · split
     · simp
     · exact zKt id e r
theorem zPo{l:List Ev}(e:Ev){id:Nat}(h:id≤l.length):endP (l ++ [e]) id=if endP l id=1 then endK id [e] else endP l id:=by
 unfold endP
 rw[List.drop_append_of_le_length h]
 exact zKt id e _
theorem zSb(l:List Ev)(e:Ev):endP (l ++ [e]) (l.length+1)=1:=by
 unfold endP
 rw[List.drop_of_length_le (by simp)]
 rfl
theorem zDo{l:List Ev}{n:Int}{u:Bool}:∀ {k i:Nat},zDc l n u k=some i→i<k∧∃e,l[i]?=some e∧mtB e n u=true
 | 0,i,h=>by cases h
 | k + 1,i,h=>by
   unfold zDc at h
   split at h
   · rename_i e he
     split at h
     · rename_i hm
       cases h
       exact⟨Nat.lt_succ_self _,e,he,hm⟩
     · obtain⟨a,b⟩:=zDo h
       exact⟨by omega,b⟩
   · obtain⟨a,b⟩:=zDo h
     exact⟨by omega,b⟩
theorem zEh{l:List Ev}{n:Int}{u:Bool}:∀ {k:Nat},zDc l n u k=none→∀i,i<k→∀e,l[i]?=some e→mtB e n u=false
 | 0,h,i,hi,_,_=>by omega
 | k + 1,h,i,hi,e,he=>by
   unfold zDc at h
   rcases Nat.lt_succ_iff_lt_or_eq.1 hi with q | q
   · split at h
     · split at h
       · cases h
       · exact zEh h i q e he
     · exact zEh h i q e he
   · subst q
     rw[he] at h
     simp only at h
     split at h
     · cases h
     · rename_i hm;simpa using hm
theorem zI4{l:List Ev}(e:Ev){n:Int}{u:Bool}:∀ {k:Nat},k≤l.length→zDc (l ++ [e]) n u k=zDc l n u k
 | 0,_=>rfl
 | k+1,h=>by
   unfold zDc
   rw[List.getElem?_append_left (by omega),zI4 e (by omega)]
theorem zP6(l:List Ev)(e:Ev)(n:Int)(u:Bool):zDc (l ++ [e]) n u (l ++ [e]).length=if mtB e n u=true then some l.length else zDc l n u l.length:=by
 rw[List.length_append,List.length_singleton]
 rw[zDc]
 rw[List.getElem?_append_right (Nat.le_refl _),Nat.sub_self,zI4 e (Nat.le_refl _)]
 rfl
def OneP(l:List Ev):Prop:=∀(i j:Nat)(x y:Ev),l[i]?=some x→l[j]?=some y→(x.kd=6∨x.kd=10)→(y.kd=6∨y.kd=10)→x.sp=y.sp→x.ud=y.ud→i=j
theorem OneP.last{l:List Ev}(h:OneP l){n:Int}{u:Bool}{i:Nat}{x:Ev}(hx:l[i]?=some x)(hm:mtB x n u=true):zDc l n u l.length=some i:=by
 cases hq:zDc l n u l.length with
 | none =>
   have:=zEh hq i (List.getElem?_eq_some_iff.1 hx).1 x hx
   rw[hm] at this;cases this
 | some j =>
   obtain⟨_,y,hy,hmy⟩:=zDo hq
   have a:=of_decide_eq_true hm
   have b:=of_decide_eq_true hmy
   rw[h i j x y hx hy a.1 b.1 (by rw[a.2.1,b.2.1]) (by rw[a.2.2,b.2.2])]
theorem zLs{l:List Ev}{n:Int}{u:Bool}(h:zDx l n u=0):zDc l n u l.length=none:=by
 unfold zDx zF4 at h
 cases hq:zDc l n u l.length with
 | none=>rfl
 | some i =>
   rw[hq] at h
   have h:endP l (i+1)=0:=h
   unfold endP at h
   rcases zPn (i+1) (l.drop (i+1)) with q | q | q <;> omega
theorem zGt{l:List Ev}(e:Ev)(n:Int)(u:Bool):zDx (l ++ [e]) n u=if mtB e n u=true then 1 else match zDc l n u l.length with | none=>0 | some i=>if endP l (i+1)=1 then endK (i+1) [e] else endP l (i+1):=by
 unfold zDx zF4
 rw[zP6]
 by_cases hm:mtB e n u=true
 · rw[if_pos hm,if_pos hm];exact zSb l e
 · rw[if_neg hm,if_neg hm]
   cases hq:zDc l n u l.length with
   | none=>rfl
   | some i=>exact zPo e (by have:=(zDo hq).1;omega)
theorem zO2{l:List Ev}(e:Ev)(h6:e.kd≠6)(h10:e.kd≠10)(h7:e.kd≠7)(h9:e.kd≠9)(h11:e.kd≠11)(n:Int)(u:Bool):zDx (l ++ [e]) n u=zDx l n u:=by
 rw[zGt]
 have hm:mtB e n u=false:=decide_eq_false (fun q=>q.1.elim h6 h10)
 rw[if_neg (by rw[hm];decide)]
 unfold zDx zF4
 cases hq:zDc l n u l.length with
 | none=>rfl
 | some i =>
   simp only
   have:endK (i+1) [e]=1:=by
    unfold endK
    rw[if_neg (fun q=>q.2.elim h7 h11),if_neg (fun q=>h9 q.2)];rfl
   rw[this]
   split
   · rename_i q;exact q.symm
   · rfl
theorem OneP.quiet{l:List Ev}(h:OneP l){e:Ev}(h6:e.kd≠6)(h10:e.kd≠10):OneP (l ++ [e]):=fun i j x y hx hy kx ky h1 h2=>by
 have hi:i<l.length:=by
  rcases Nat.lt_or_ge i l.length with q | q
  · exact q
  · rw[List.getElem?_append_right q] at hx
    have:=List.getElem?_singleton ▸ hx
    split at this
    · cases this;exact absurd kx (by omega)
    · cases this
 have hj:j<l.length:=by
  rcases Nat.lt_or_ge j l.length with q | q
  · exact q
  · rw[List.getElem?_append_right q] at hy
    have:=List.getElem?_singleton ▸ hy
    split at this
    · cases this;exact absurd ky (by omega)
    · cases this
 rw[List.getElem?_append_left hi] at hx
 rw[List.getElem?_append_left hj] at hy
 exact h i j x y hx hy kx ky h1 h2
theorem OneP.new{l:List Ev}(h:OneP l){e:Ev}(hn:zDc l e.sp e.ud l.length=none):OneP (l ++ [e]):=fun i j x y hx hy kx ky h1 h2=>by
 have split1:∀(i:Nat) (x:Ev),(l ++ [e])[i]?=some x→(i<l.length∧l[i]?=some x)∨(i=l.length∧x=e):=fun i x hx=>by
  rcases Nat.lt_or_ge i l.length with q | q
  · rw[List.getElem?_append_left q] at hx;exact .inl ⟨q,hx⟩
  · rw[List.getElem?_append_right q] at hx
    have:=List.getElem?_singleton ▸ hx
    split at this
    · cases this;exact .inr ⟨by omega,rfl⟩
    · cases this
 rcases split1 i x hx with ⟨qi,ex⟩ | ⟨qi,rfl⟩
 · rcases split1 j y hy with ⟨qj,ey⟩ | ⟨qj,rfl⟩
   · exact h i j x y ex ey kx ky h1 h2
   · have:=zEh hn i qi x ex
     exact absurd (show mtB x y.sp y.ud=true from decide_eq_true ⟨kx,h1,h2⟩) (by rw[this];decide)
 · rcases split1 j y hy with ⟨qj,ey⟩ | ⟨qj,rfl⟩
   · have:=zEh hn j qj y ey
     exact absurd (show mtB y x.sp x.ud=true from decide_eq_true ⟨ky,h1.symm,h2.symm⟩) (by rw[this];decide)
   · rw[qi,qj]
theorem zTi(c:Crs)(w:List Int)(n m:Nat)(v:Int)(h:c.went=w.set n v)(hn:n<w.length):c.W m=if m=n then v else w.getD m 0:=by
 unfold Crs.W
 rw[h,zJt]
 by_cases q:m=n
 · rw[if_pos ⟨q.symm,by omega⟩,if_pos q]
 · rw[if_neg (fun z=>q z.1.symm),if_neg q]
theorem zTh(c:Crs)(w:List Int)(n m:Nat)(v:Int)(h:c.undone=w.set n v)(hn:n<w.length):c.U m=if m=n then v else w.getD m 0:=by
 unfold Crs.U
 rw[h,zJt]
 by_cases q:m=n
 · rw[if_pos ⟨q.symm,by omega⟩,if_pos q]
 · rw[if_neg (fun z=>q z.1.symm),if_neg q]
theorem zQ9{l:List Ev}(hO:OneP l){e:Ev}{n0:Nat}{x:Ev}(hx:l[n0]?=some x)(kx:x.kd=6∨x.kd=10)(hrf:e.rf=((n0+1:Nat):Int))(h6:e.kd≠6)(h10:e.kd≠10){how:Int}(hh:((e.kd=7∨e.kd=11)∧how=2)∨(e.kd=9∧how=3))(hw:zDx l x.sp x.ud=1)(n:Int)(u:Bool) :
 zDx (l ++ [e]) n u=if n=x.sp∧u=x.ud then how else zDx l n u:=by
 rw[zGt]
 have hm:mtB e n u=false:=decide_eq_false (fun q=>q.1.elim h6 h10)
 rw[if_neg (by rw[hm];decide)]
 have hek:∀i:Nat,endK (i+1) [e]=if i=n0 then how else 1:=fun i=>by
  unfold endK
  by_cases hi:i=n0
  · subst hi
    rw[if_pos rfl]
    rcases hh with ⟨k,rfl⟩ | ⟨k,rfl⟩
    · rw[if_pos ⟨hrf,k⟩]
    · rw[if_neg (fun q=>by have:=q.2;omega),if_pos ⟨hrf,k⟩]
  · rw[if_neg hi]
    have hne:¬e.rf=((i+1:Nat):Int):=fun q=>by rw[hrf] at q;exact hi (by omega)
    rw[if_neg (fun q=>hne q.1),if_neg (fun q=>hne q.1)];rfl
 by_cases hq:n=x.sp∧u=x.ud
 · obtain⟨rfl,rfl⟩:=hq
   rw[if_pos ⟨rfl,rfl⟩]
   have hl:=hO.last (n:=x.sp) (u:=x.ud) hx (decide_eq_true ⟨kx,rfl,rfl⟩)
   unfold zDx zF4 at hw
   rw[hl] at hw ⊢
   simp only at hw ⊢
   rw[if_pos hw,hek,if_pos rfl]
 · rw [if_neg hq]
   unfold zDx zF4
   cases hl:zDc l n u l.length with
   | none=>rfl
   | some i =>
     simp only
     have hne:¬i=n0:=fun q=>by
      subst q
      obtain⟨_,y,hy,hmy⟩:=zDo hl
      rw[hx] at hy
      cases hy
      have:=of_decide_eq_true hmy
      exact hq ⟨this.2.1.symm,this.2.2.symm⟩
     rw[hek,if_neg hne]
     split
     · rename_i q;exact q.symm
     · rfl
def zMx(l:List Ev):Prop:=(∀n:Nat,zDx l (n:Int) false=(crsF l).W n∧zDx l (n:Int) true=(crsF l).U n)∧OneP l
theorem zRa{l:List Ev}{e:Ev}{w:List Cmd}(h:Cf (l ++ [e]) w)(hl:l≠[])(ih:zMx l):zMx (l ++ [e]):=by
 obtain⟨w0,hw0⟩:=h.take l.length
 rw[List.take_append_of_le_length (Nat.le_refl _),List.take_length] at hw0
 have K:=hw0.known hl
 have hH:=h.hs
 have hH0:=hw0.hs
 have hc:zA5 l e=0:=(Hs.last hH).2
 obtain⟨hP,hid,h0,hnil,hcan⟩:=zA6 hc
 have hcan:=hcan hl
 have hcr:=zDh e hl
 obtain⟨ihw,ihO⟩:=ih
 have hud6:e.ud=true→e.kd=6:=fun q=>by
  have h2:=hP.2.2.2.2.2.2.1 q
  have h3:=hP.1
  unfold evB at h2
  revert h2;intro h2
  have:e.kd=1∨e.kd=2∨e.kd=3∨e.kd=4∨e.kd=5∨e.kd=6∨e.kd=7∨e.kd=8∨e.kd=9∨e.kd=10∨e.kd=11∨e.kd=12∨e.kd=13∨e.kd=14∨e.kd=15∨e.kd=16∨e.kd=17∨e.kd=18:=by omega
  rcases this with z | z | z | z | z | z | z | z | z | z | z | z | z | z | z | z | z | z <;> rw[z] at h2 ⊢ <;> first | rfl | (exact absurd h2 (by decide))
 by_cases k6:e.kd=6∨e.kd=10
 · -- a Planned,an Armed
   have hlast:=h.last
   rcases hlast with ⟨c,hm,hcl⟩ | ⟨hm,-,-⟩
   case inr=>exfalso;unfold zBa at hm;rcases k6 with q | q <;> simp[q] at hm
   have K2:=hcl.known hl
   have ha:=(K2.want (by simp)).1
   have hcase:∃n:Nat,e.sp=(n:Int)∧n<(prgL l).2.length∧((e.ud=false∧(crsF l).W n=0)∨(e.ud=true∧e.kd=6∧(crsF l).U n=0)):=by
    have hcm:c=((if e.kd=6 then(1:Int) else 2),e.sp,if e.kd=6 then e.ud else false):=by
     unfold zBa at hm
     rcases k6 with q | q <;> simp[q] at hm ⊢ <;> exact hm.symm
    obtain⟨-,ha⟩:=ha
    rcases ha with ⟨n,q,hn,-,hW,-⟩ | ⟨n,q,hn,-,hW,-⟩ | ⟨n,q,ho,hU,-⟩ | ⟨q,-⟩ | ⟨q,-⟩ | ⟨q,-⟩
    · have e1:c=(1,(n:Int),false):=by injection q
      rw[hcm] at e1
      rw[Prod.mk.injEq,Prod.mk.injEq] at e1
      refine⟨n,e1.2.1,hn,.inl ⟨?_,hW⟩⟩
      rcases k6 with z | z
      · have:=e1.2.2;rw[if_pos z] at this;exact this
      · cases hu:e.ud with
        | false=>rfl
        | true=>have:=hud6 hu;omega
    · have e1:c=(2,(n:Int),false):=by injection q
      rw[hcm] at e1
      rw[Prod.mk.injEq,Prod.mk.injEq] at e1
      refine⟨n,e1.2.1,hn,.inl ⟨?_,hW⟩⟩
      rcases k6 with z | z
      · have:=e1.1;rw[if_pos z] at this;omega
      · cases hu:e.ud with
        | false=>rfl
        | true=>have:=hud6 hu;omega
    · have e1:c=(1,(n:Int),true):=by injection q
      rw[hcm] at e1
      rw[Prod.mk.injEq,Prod.mk.injEq] at e1
      rcases k6 with z | z
      · have h3:=e1.2.2
        rw[if_pos z] at h3
        have hmem:((n:Nat):Int)∈zBq (prgL l).2 (crsF l).done:=List.mem_of_getElem? ho
        obtain⟨i,hi,hil,-⟩:=K2.inv.done_at (zJ4 hmem).1
        refine⟨n,e1.2.1,by omega,.inr ⟨h3,z,hU⟩⟩
      · have h3:=e1.2.2
        rw[if_neg (by omega)] at h3
        cases h3
    all_goals
     have e1:=q
     injection q with e1 _
     rw[hcm] at e1
     rw[Prod.mk.injEq] at e1
     have:=e1.1
     rcases k6 with z | z <;> simp[z] at this
   obtain⟨n,hsp,hn,hcc⟩:=hcase
   have hWn:zDx l e.sp e.ud=0:=by
    rcases hcc with ⟨a,b⟩ | ⟨a,_,b⟩
    · rw[a,hsp,(ihw n).1,b]
    · rw[a,hsp,(ihw n).2,b]
   have hwm:∀(m:Nat) (u:Bool),zDx (l ++ [e]) (m:Int) u=if m=n∧u=e.ud then 1 else zDx l (m:Int) u:=fun m u=>by
    rw[zGt]
    by_cases hq:m=n∧u=e.ud
    · obtain⟨rfl,rfl⟩:=hq
      have hmt:mtB e (m:Int) e.ud=true:=decide_eq_true ⟨k6,hsp,rfl⟩
      rw[if_pos hmt,if_pos (And.intro rfl rfl)]
    · rw [if_neg hq,if_neg (fun z=>by
       have:=of_decide_eq_true z
       exact hq ⟨by have:=this.2.1;omega,this.2.2.symm⟩)]
      unfold zDx zF4
      cases hl9:zDc l (m:Int) u l.length with
      | none=>rfl
      | some i =>
        simp only
        have:endK (i+1) [e]=1:=by
         unfold endK
         rw[if_neg (fun z=>by have:=z.2;omega),if_neg (fun z=>by have:=z.2;omega)];rfl
        rw[this]
        split
        · rename_i z;exact z.symm
        · rfl
   refine⟨fun m=>?_,ihO.new (zLs hWn)⟩
   rw[hcr]
   rcases hcc with ⟨a,b⟩ | ⟨a,k66,b⟩
   · have hst:zAc (prgL l).2 (crsF l) e = { crsF l with went:=(crsF l).went.set e.sp.toNat 1,pl:=updI (crsF l).pl e.id (e.sp,0) }:=by
      unfold zAc
      rw[if_neg (by rw[a];simp),if_pos k6]
     have hW:=zTi (zAc (prgL l).2 (crsF l) e) (crsF l).went n m 1 (by rw[hst,hsp,Int.toNat_natCast]) (by rw[K.inv.wl];exact hn)
     have hU:(zAc (prgL l).2 (crsF l) e).U m=(crsF l).U m:=by rw[hst];rfl
     rw[hwm,hwm,hW,hU,a]
     refine⟨?_,by rw[if_neg (by simp)];exact(ihw m).2⟩
     by_cases q:m=n
     · rw[if_pos ⟨q,rfl⟩,if_pos q]
     · rw[if_neg (fun z=>q z.1),if_neg q];exact(ihw m).1
   · have hst:zAc (prgL l).2 (crsF l) e = { crsF l with undone:=(crsF l).undone.set e.sp.toNat 1,pl:=updI (crsF l).pl e.id (e.sp,1) }:=by
      unfold zAc
      rw[if_pos ⟨k66,a⟩]
     have hU:=zTh (zAc (prgL l).2 (crsF l) e) (crsF l).undone n m 1 (by rw[hst,hsp,Int.toNat_natCast]) (by rw[K.inv.ul];exact hn)
     have hW:(zAc (prgL l).2 (crsF l) e).W m=(crsF l).W m:=by rw[hst];rfl
     rw[hwm,hwm,hW,hU,a]
     refine⟨by rw[if_neg (by simp)];exact(ihw m).1,?_⟩
     by_cases q:m=n
     · rw[if_pos ⟨q,rfl⟩,if_pos q]
     · rw[if_neg (fun z=>q z.1),if_neg q];exact(ihw m).2
 have h6:e.kd≠6:=fun q=>k6 (.inl q)
 have h10:e.kd≠10:=fun q=>k6 (.inr q)
 by_cases k7:e.kd=7∨e.kd=9∨e.kd=11
 · -- what ends
   have hend:∃(n0:Nat) (x:Ev) (i:Nat),l[n0]?=some x∧(x.kd=6∨x.kd=10)∧e.rf=((n0+1:Nat):Int)∧x.sp=(i:Int)∧i<(prgL l).2.length∧(crsF l).pl e.rf=(x.sp,if x.ud=true then 1 else 0)∧(if x.ud=true then(crsF l).U i=1 else(crsF l).W i=1):=by
    by_cases k11:e.kd=11
    · obtain⟨j,hj,hjr⟩:=zE5 hcan k11
      obtain⟨-,n0,x,hx,hx10,hjq,-⟩:=zN4 hj
      obtain⟨i,j1,j2,j3,j4,j5⟩:=K.inv.clk j hj
      have e1:j.id=((n0+1:Nat):Int):=by rw[hjq]
      have e2:j.sp=x.sp:=by rw[hjq]
      have hxu:x.ud=false:=by
       cases hu:x.ud with
       | false=>rfl
       | true =>
         have hPx:=(hH0.nth n0 x hx).1.2.2.2.2.2.2.1 hu
         rw[hx10] at hPx
         exact absurd hPx (by decide)
      exact⟨n0,x,i,hx,.inr hx10,by rw[← hjr,e1],by rw[← e2,j1],j2,by rw[← hjr,j4,e2,hxu];rfl,by rw[hxu];exact j5⟩
    · obtain⟨j,hj,hjr,-⟩:=zE6 hcan (by omega)
      obtain⟨-,n0,x,hx,hx6,hjq,-⟩:=zNh hj
      obtain⟨i,j1,j2,j3,j4,j5⟩:=K.inv.job j hj
      have e1:j.id=((n0+1:Nat):Int):=by rw[hjq]
      have e2:j.sp=x.sp:=by rw[hjq]
      have e3:j.ud=x.ud:=by rw[hjq]
      exact⟨n0,x,i,hx,.inl hx6,by rw[← hjr,e1],by rw[← e2,j1],j2,by rw[← hjr,j4,e2,e3],by rw[← e3];exact j5⟩
   obtain⟨n0,x,i,hx,kx,hrf,hsp,hil,hpl,hop⟩:=hend
   have hw1:zDx l x.sp x.ud=1:=by
    cases hu:x.ud with
    | false=>rw[hu] at hop;rw[hsp,(ihw i).1];simpa using hop
    | true=>rw[hu] at hop;rw[hsp,(ihw i).2];simpa using hop
   have hst:∃how:Int,(((e.kd=7∨e.kd=11)∧how=2)∨(e.kd=9∧how=3))∧zAc (prgL l).2 (crsF l) e=zAr (prgL l).2 (crsF l) e.rf how:=by
    by_cases k9:e.kd=9
    · refine⟨3,.inr ⟨k9,rfl⟩,?_⟩
      unfold zAc
      rw[if_neg (by omega),if_neg (by omega),if_neg (by omega),if_pos k9]
    · refine⟨2,.inl ⟨by omega,rfl⟩,?_⟩
      unfold zAc
      rw[if_neg (by omega),if_neg (by omega),if_pos (by omega)]
   obtain⟨how,hh,hst⟩:=hst
   have hwe:=zQ9 ihO hx kx hrf h6 h10 hh hw1
   refine⟨fun m=>?_,ihO.quiet h6 h10⟩
   rw[hcr,hst,hwe,hwe]
   cases hu:x.ud with
   | false =>
     have hce:zAr (prgL l).2 (crsF l) e.rf how = { crsF l with went:=(crsF l).went.set x.sp.toNat how,done:=if how=2∧kdN (prgL l).2 x.sp.toNat=1 then(crsF l).done ++ [x.sp] else(crsF l).done,fl:=(crsF l).fl||decide (how=3) }:=by
      unfold zAr;rw[hpl,hu];rfl
     rw[hce]
     have hW:=zTi { crsF l with went:=(crsF l).went.set x.sp.toNat how,done:=if how=2∧kdN (prgL l).2 x.sp.toNat=1 then(crsF l).done ++ [x.sp] else(crsF l).done,fl:=(crsF l).fl||decide (how=3) } (crsF l).went i m how (by rw[hsp,Int.toNat_natCast]) (by rw[K.inv.wl];exact hil)
     refine⟨?_,by rw[if_neg (by simp)];exact(ihw m).2⟩
     rw[hW]
     by_cases q:m=i
     · rw[if_pos ⟨by rw[hsp,q],rfl⟩,if_pos q]
     · rw[if_neg (fun z=>q (by have:=z.1;omega)),if_neg q];exact(ihw m).1
   | true =>
     have hce:zAr (prgL l).2 (crsF l) e.rf how = { crsF l with undone:=(crsF l).undone.set x.sp.toNat how,und:=if how=2 then(crsF l).und ++ [x.sp] else(crsF l).und,sk:=(crsF l).sk||decide (how=3) }:=by
      unfold zAr;rw[hpl,hu];rfl
     rw[hce]
     have hU:=zTh { crsF l with undone:=(crsF l).undone.set x.sp.toNat how,und:=if how=2 then(crsF l).und ++ [x.sp] else(crsF l).und,sk:=(crsF l).sk||decide (how=3) } (crsF l).undone i m how (by rw[hsp,Int.toNat_natCast]) (by rw[K.inv.ul];exact hil)
     refine⟨by rw[if_neg (by simp)];exact(ihw m).1,?_⟩
     rw[hU]
     by_cases q:m=i
     · rw[if_pos ⟨by rw[hsp,q],rfl⟩,if_pos q]
     · rw[if_neg (fun z=>q (by have:=z.1;omega)),if_neg q];exact(ihw m).2
 · have hq:=fun n u=>zO2 (l:=l) e h6 h10 (fun q=>k7 (.inl q)) (fun q=>k7 (.inr (.inl q))) (fun q=>k7 (.inr (.inr q))) n u
   refine⟨fun m=>?_,ihO.quiet h6 h10⟩
   rw[hcr,hq,hq]
   have hWU:(zAc (prgL l).2 (crsF l) e).W m=(crsF l).W m∧(zAc (prgL l).2 (crsF l) e).U m=(crsF l).U m:=by
    unfold zAc
    rw[if_neg (by omega),if_neg (by omega),if_neg (by omega),if_neg (by omega)]
    split
    · exact⟨rfl,rfl⟩
    · split <;> exact⟨rfl,rfl⟩
   rw[hWU.1,hWU.2]
   exact ihw m
theorem zMu{l:List Ev}{w:List Cmd}(h:Cf l w)(hl:l≠[]):zMx l:=by
 have key:∀k,0<k→k≤l.length→zMx (l.take k):=fun k=>by
  induction k with
  | zero=>intro q;omega
  | succ k ih =>
    intro _ hk
    have hlt:k<l.length:=by omega
    obtain⟨w',hw'⟩:=h.take (k+1)
    rw[List.take_succ_eq_append_getElem hlt] at hw' ⊢
    rcases Nat.eq_zero_or_pos k with q | q
    · subst q
      rw[List.take_zero,List.nil_append] at hw' ⊢
      have hc:zA5 [] l[0]=0:=(Hs.last (l:=[]) (e:=l[0]) hw'.hs).2
      have hk1:(l[0]).kd=1:=(zA6 hc).2.2.2.1 rfl
      refine⟨fun m=>?_,?_⟩
      · have hno:∀u,zDx [l[0]] (m:Int) u=0:=fun u=>by
         have:=zGt (l:=[]) l[0] (m:Int) u
         rw[List.nil_append] at this
         rw[this,if_neg (by rw[show mtB l[0] (m:Int) u=false from decide_eq_false (fun z=>by have:=z.1;omega)];decide)]
         rfl
        rw[hno,hno,zJo hk1]
        unfold Crs.W Crs.U crs0
        simp[List.getD_eq_getElem?_getD,List.getElem?_replicate]
        split <;> rfl
      · intro i j x y hx hy kx ky _ _
        have h1:=(List.getElem?_eq_some_iff.1 hx).1
        have h2:=(List.getElem?_eq_some_iff.1 hy).1
        simp at h1 h2
        omega
    · have hne:l.take k≠[]:=fun z=>by
       have:=congrArg List.length z
       rw[List.length_take,List.length_nil] at this;omega
      exact zRa hw' hne (ih q (by omega))
 have:=key l.length (List.length_pos_iff.2 hl) (Nat.le_refl _)
 rw[List.take_length] at this
 exact this
set_option linter.unusedSimpArgs false
theorem zPm{l:List Ev}{k:Nat}(h:k<l.length)(id:Nat):endK id (l.drop k)=if(l[k]).rf=(id:Int)∧((l[k]).kd=7∨(l[k]).kd=11) then 2 else if(l[k]).rf=(id:Int)∧(l[k]).kd=9 then 3 else endK id (l.drop (k+1)):=by
 rw[List.drop_eq_getElem_cons h];rfl
theorem zQl(a:Option Addr)(c:Nat)(l:List Ev)(w:World)(hs:Sl w (.slice a l.length c) 8 l.length (l.flatMap evc))(id0:Nat)(hil0:id0≤l.length) :
 Calls Tryz.prog 84 #[.slice a l.length c,.int .i64 (id0:Int)] w fun e w'=>e=.returned (.int .i64 (endP l id0))∧w'=w:=by
 have hm:l.length≤9223372036854775807:=hs.2.1.1
 go_enter Tryz.func84,Tryz.ntmps84
 go_wp2_with fail
 go_loopw [5] (fun n0 wr=>∃k:Nat,id0≤k∧k≤l.length∧n0=.int .i64 (k:Int)∧endP l id0=endK id0 (l.drop k)∧wr=w) (fun n0 _=>l.length - (intOf n0).toNat)
 case atStart=>exact⟨id0,Nat.le_refl _,hil0,rfl,rfl,rfl⟩
 case round =>
  obtain⟨k,hk0,hk,rfl,he,rfl⟩:=hrel
  by_cases hlt:k<l.length
  case neg =>
   obtain rfl:k=l.length:=by omega
   rw[List.drop_of_length_le (Nat.le_refl _)] at he
   have HE:=hid he
   clear he
   go_wp2_with fail
   go_ret
   exact⟨by rw[HE.out];rfl,rfl⟩
  have HEQ:=zPm hlt id0
  rw[← he] at HEQ
  obtain⟨_,_,a',cap,hv,hcc⟩:=hs
  rw[Value.slice.injEq] at hv
  obtain⟨rfl,-,rfl⟩:=hv
  obtain⟨b,off,rfl,hblt,hcc⟩:=hcc.resolve_left (by omega)
  have c1:wr.cell? ⟨b,off+k*8+1,none⟩=some (.int .i64 (l[k]).2.1):=zAd hcc k 1 (by decide) hlt _ rfl
  have c3:wr.cell? ⟨b,off+k*8+3,none⟩=some (.int .i64 (l[k]).2.2.2.1):=zAd hcc k 3 (by decide) hlt _ rfl
  obtain⟨X,hX⟩:∃X,X=l[k]:=⟨_,rfl⟩
  rw[← hX] at HEQ c1 c3
  clear hX hcc
  obtain⟨id,kd,tk,rf,sp,ty,ud,dt⟩:=X
  simp only at c1 c3
  have hkI:(k:Int)<(l.length:Int):=by omega
  have hkp:(0:Int)≤(k:Int):=by omega
  have hkm:(k:Int)+1≤9223372036854775807:=by omega
  simp only[Ev.rf,Ev.kd] at HEQ
  by_cases hr:rf=(id0:Int)
  case neg =>
   have hN:=hid (show endP l id0=endK id0 (l.drop (k+1)) by rw[HEQ,if_neg (fun q=>hr q.1),if_neg (fun q=>hr q.1)])
   have hr':(rf==(id0:Int))=false:=by simpa using hr
   clear HEQ he hr
   go_wp2_with fail
   go_roundw
   case rel=>first
    | exact⟨k+1,by omega,by omega,by go_num,hN.out,rfl⟩
    | exact⟨k+1,by omega,by omega,by go_num,hN.out,trivial⟩
    | ((repeat apply Exists.intro);exact⟨⟨k+1,by omega,by omega,by go_num,hN.out,rfl⟩,rfl⟩)
   case measure=>simp[intOf];omega
  subst hr
  by_cases h7:kd=7∨kd=11
  · have hN:=hid (show endP l id0=2 by rw[HEQ,if_pos ⟨rfl,h7⟩])
    clear HEQ he
    rcases h7 with rfl | rfl
    · go_wp2_with fail
      go_ret
      exact⟨by rw[hN.out];rfl,rfl⟩
    · go_wp2_with fail
      go_ret
      exact⟨by rw[hN.out];rfl,rfl⟩
  have q7:(kd==7)=false:=by simpa using fun q=>h7 (.inl q)
  have q11:(kd==11)=false:=by simpa using fun q=>h7 (.inr q)
  by_cases h9:kd=9
  · have hN:=hid (show endP l id0=3 by rw[HEQ,if_neg (fun q=>h7 q.2),if_pos ⟨rfl,h9⟩])
    clear HEQ he h7 q7 q11
    subst h9
    go_wp2_with fail
    go_ret
    exact⟨by rw[hN.out];rfl,rfl⟩
  have q9:(kd==9)=false:=by simpa using h9
  have hN:=hid (show endP l id0=endK id0 (l.drop (k+1)) by rw[HEQ,if_neg (fun q=>h7 q.2),if_neg (fun q=>h9 q.2)])
  clear HEQ he h7 h9
  go_wp2_with fail
  go_roundw
  case rel=>first
   | exact⟨k+1,by omega,by omega,by go_num,hN.out,rfl⟩
   | exact⟨k+1,by omega,by omega,by go_num,hN.out,trivial⟩
   | ((repeat apply Exists.intro);exact⟨⟨k+1,by omega,by omega,by go_num,hN.out,rfl⟩,rfl⟩)
  case measure=>simp[intOf];omega
theorem zLh(a:Option Addr)(c:Nat)(l:List Ev)(w:World)(hs:Sl w (.slice a l.length c) 8 l.length (l.flatMap evc))(n:Int)(u:Bool) :
 Calls Tryz.prog 58 #[.slice a l.length c,.int .i64 n,.bool u] w fun e w'=>e=.returned (.int .i64 (zDx l n u))∧Below w.heap.size w w':=by
 have hm:l.length≤9223372036854775807:=hs.2.1.1
 have HS:=hid hs
 clear hs
 go_enter Tryz.func58,Tryz.ntmps58
 go_wp2_with fail
 go_loopw [7,8] (fun h0 n0 wr=>∃k:Nat,k≤l.length∧n0=.int .i64 (k:Int)∧h0=.int .i64 (zF4 l n u k)∧Below w.heap.size w wr) (fun _ n0 _=>l.length - (intOf n0).toNat)
 case atStart=>exact⟨0,Nat.zero_le _,rfl,rfl,Below.refl _ _⟩
 case round =>
  obtain⟨k,hk,rfl,rfl,hb⟩:=hrel
  by_cases hlt:k<l.length
  case neg =>
   obtain rfl:k=l.length:=by omega
   have HB:=hid hb
   clear hb
   go_wp2_with fail
   go_ret
   exact⟨rfl,HB.out⟩
  have HEQ:=zO1 (n:=n) (u:=u) hlt
  have hsr:=HS.out.below hb
  obtain⟨_,_,a',cap,hv,hcc⟩:=hsr
  rw[Value.slice.injEq] at hv
  obtain⟨rfl,-,rfl⟩:=hv
  obtain⟨b,off,rfl,hblt,hcc⟩:=hcc.resolve_left (by omega)
  have c0:wr.cell? ⟨b,off+k*8,none⟩=some (.int .i64 (l[k]).1):=zAd hcc k 0 (by decide) hlt _ rfl
  have c1:wr.cell? ⟨b,off+k*8+1,none⟩=some (.int .i64 (l[k]).2.1):=zAd hcc k 1 (by decide) hlt _ rfl
  have c2:wr.cell? ⟨b,off+k*8+2,none⟩=some (.int .i64 (l[k]).2.2.1):=zAd hcc k 2 (by decide) hlt _ rfl
  have c3:wr.cell? ⟨b,off+k*8+3,none⟩=some (.int .i64 (l[k]).2.2.2.1):=zAd hcc k 3 (by decide) hlt _ rfl
  have c4:wr.cell? ⟨b,off+k*8+4,none⟩=some (.int .i64 (l[k]).2.2.2.2.1):=zAd hcc k 4 (by decide) hlt _ rfl
  have c5:wr.cell? ⟨b,off+k*8+5,none⟩=some (.int .i64 (l[k]).2.2.2.2.2.1):=zAd hcc k 5 (by decide) hlt _ rfl
  have c6:wr.cell? ⟨b,off+k*8+6,none⟩=some (.bool (l[k]).2.2.2.2.2.2.1):=zAd hcc k 6 (by decide) hlt _ rfl
  have c7:wr.cell? ⟨b,off+k*8+7,none⟩=some (.string ⟨(l[k]).2.2.2.2.2.2.2.toArray⟩):=zAd hcc k 7 (by decide) hlt _ rfl
  obtain⟨X,hX⟩:∃X,X=l[k]:=⟨_,rfl⟩
  rw[← hX] at HEQ c0 c1 c2 c3 c4 c5 c6 c7
  clear hX hcc
  obtain⟨id,kd,tk,rf,sp,ty,ud,dt⟩:=X
  simp only at c0 c1 c2 c3 c4 c5 c6 c7
  have hkI:(k:Int)<(l.length:Int):=by omega
  have hkp:(0:Int)≤(k:Int):=by omega
  have hkm:(k:Int)+1≤9223372036854775807:=by omega
  obtain⟨H,hH⟩:∃H,H=zF4 l n u k:=⟨_,rfl⟩
  rw[← hH] at HEQ ⊢
  clear hH
  obtain⟨we,hwe⟩:∃x,x=(wr.alloc (.cells #[.int .i64 id,.int .i64 kd,.int .i64 tk,.int .i64 rf,.int .i64 sp,.int .i64 ty,.bool ud,.string ⟨dt.toArray⟩] 52)):=⟨_,rfl⟩
  have be:Below wr.heap.size wr we:=by rw[hwe];exact(Below.refl _ _).alloc (Nat.le_refl _) _
  have hxe:we.heap[wr.heap.size]?=some (.cells #[.int .i64 id,.int .i64 kd,.int .i64 tk,.int .i64 rf,.int .i64 sp,.int .i64 ty,.bool ud,.string ⟨dt.toArray⟩] 52 (0,0)):=by rw[hwe];exact heap_alloc_new wr _
  obtain⟨-,y1,-,-,y4,-,y6,-⟩:=cA hxe
  have hbe:=hb.trans (be.mono hb.size)
  have HWE:=hid hwe
  have HB:=hid hbe
  have hse:=HS.out.below hbe
  have HEN:=hid (zQl _ c l we hse (k+1) (by omega))
  clear hwe be hxe hb hbe hse
  by_cases hmt:(kd=6∨kd=10)∧sp=n∧ud=u
  · obtain⟨h6,rfl,rfl⟩:=hmt
    have hN:=hid (show zF4 l sp ud (k+1)=endP l (k+1) by rw[HEQ,if_pos (show mtB (id,kd,tk,rf,sp,ty,ud,dt) sp ud=true from decide_eq_true ⟨h6,rfl,rfl⟩)])
    clear HEQ
    have HQ:=hid (fun(Q:Ending→World→Prop) (h:∀e w',e=.returned (.int .i64 (endP l (k+1)))∧w'=we→Q e w')=>HEN.out.mono h)
    rcases h6 with rfl | rfl
    · go_upto_region 6 with (fail)
      rw[← HWE.out]
      go_wp2_with fail
      refine HEN.out.mono ?_
      rintro _ _ ⟨rfl,rfl⟩
      go_wp2_with fail
      go_roundw
      case rel=>first
       | exact⟨k+1,by omega,by go_num,by rw[hN.out],HB.out⟩
       | ((repeat apply Exists.intro);exact⟨⟨k+1,by omega,by go_num,by rw[hN.out],HB.out⟩,rfl⟩)
      case measure=>simp[intOf];omega
    · go_upto_region 6 with (fail)
      rw[← HWE.out]
      go_wp2_with fail
      refine HEN.out.mono ?_
      rintro _ _ ⟨rfl,rfl⟩
      go_wp2_with fail
      go_roundw
      case rel=>first
       | exact⟨k+1,by omega,by go_num,by rw[hN.out],HB.out⟩
       | ((repeat apply Exists.intro);exact⟨⟨k+1,by omega,by go_num,by rw[hN.out],HB.out⟩,rfl⟩)
      case measure=>simp[intOf];omega
  have hN:=hid (show zF4 l n u (k+1)=H by rw[HEQ,if_neg (by rw[show mtB (id,kd,tk,rf,sp,ty,ud,dt) n u=false from decide_eq_false hmt];decide)])
  clear HEQ HEN
  by_cases h6:kd=6∨kd=10
  case neg =>
   have q6:(kd==6)=false:=by simpa using fun q=>h6 (.inl q)
   have q10:(kd==10)=false:=by simpa using fun q=>h6 (.inr q)
   clear hmt h6
   go_upto_region 6 with (fail)
   rw[← HWE.out]
   go_wp2_with fail
   go_roundw
   case rel=>first
    | exact⟨k+1,by omega,by go_num,by rw[hN.out],HB.out⟩
    | ((repeat apply Exists.intro);exact⟨⟨k+1,by omega,by go_num,by rw[hN.out],HB.out⟩,rfl⟩)
   case measure=>simp[intOf];omega
  by_cases hsn:sp=n
  case neg =>
   have q4:(sp==n)=false:=by simpa using hsn
   clear hmt hsn
   rcases h6 with rfl | rfl
   all_goals
    go_upto_region 6 with (fail)
    rw[← HWE.out]
    go_wp2_with fail
    go_roundw
   case rel=>first
    | exact⟨k+1,by omega,by go_num,by rw[hN.out],HB.out⟩
    | ((repeat apply Exists.intro);exact⟨⟨k+1,by omega,by go_num,by rw[hN.out],HB.out⟩,rfl⟩)
   case measure=>simp[intOf];omega
   case rel=>first
    | exact⟨k+1,by omega,by go_num,by rw[hN.out],HB.out⟩
    | ((repeat apply Exists.intro);exact⟨⟨k+1,by omega,by go_num,by rw[hN.out],HB.out⟩,rfl⟩)
   case measure=>simp[intOf];omega
  subst hsn
  have hun:¬ud=u:=fun q=>hmt ⟨h6,rfl,q⟩
  have q6:(ud==u)=false:=by simpa using hun
  clear hmt hun
  rcases h6 with rfl | rfl
  all_goals
   go_upto_region 6 with (fail)
   rw[← HWE.out]
   go_wp2_with fail
   go_roundw
  case rel=>first
   | exact⟨k+1,by omega,by go_num,by rw[hN.out],HB.out⟩
   | ((repeat apply Exists.intro);exact⟨⟨k+1,by omega,by go_num,by rw[hN.out],HB.out⟩,rfl⟩)
  case measure=>simp[intOf];omega
  case rel=>first
   | exact⟨k+1,by omega,by go_num,by rw[hN.out],HB.out⟩
   | ((repeat apply Exists.intro);exact⟨⟨k+1,by omega,by go_num,by rw[hN.out],HB.out⟩,rfl⟩)
  case measure=>simp[intOf];omega
def zFe(l:List Ev):Bool:=l.any (fun e=>decide (e.kd=13∨e.kd=14))
theorem zJd(a:Option Addr)(c:Nat)(l:List Ev)(w:World)(hs:Sl w (.slice a l.length c) 8 l.length (l.flatMap evc)) :
 Calls Tryz.prog 26 #[.slice a l.length c] w fun e w'=>e=.returned (.bool (zFe l))∧w'=w:=by
 have hm:l.length≤9223372036854775807:=hs.2.1.1
 go_enter Tryz.func26,Tryz.ntmps26
 go_wp2_with fail
 go_loopw [3] (fun n0 wr=>∃k:Nat,k≤l.length∧n0=.int .i64 (k:Int)∧zFe l=zFe (l.drop k)∧wr=w) (fun n0 _=>l.length - (intOf n0).toNat)
 case atStart=>exact⟨0,Nat.zero_le _,rfl,rfl,rfl⟩
 case round =>
  obtain⟨k,hk,rfl,he,rfl⟩:=hrel
  by_cases hlt:k<l.length
  case neg =>
   obtain rfl:k=l.length:=by omega
   rw[List.drop_of_length_le (Nat.le_refl _)] at he
   have HE:=hid he
   clear he
   go_wp2_with fail
   go_ret
   exact⟨by rw[HE.out];rfl,rfl⟩
  have HEQ:zFe l=(decide ((l[k]).kd=13∨(l[k]).kd=14)||zFe (l.drop (k+1))):=by
   rw[he,List.drop_eq_getElem_cons hlt];rfl
  obtain⟨_,_,a',cap,hv,hcc⟩:=hs
  rw[Value.slice.injEq] at hv
  obtain⟨rfl,-,rfl⟩:=hv
  obtain⟨b,off,rfl,hblt,hcc⟩:=hcc.resolve_left (by omega)
  have c1:wr.cell? ⟨b,off+k*8+1,none⟩=some (.int .i64 (l[k]).2.1):=zAd hcc k 1 (by decide) hlt _ rfl
  obtain⟨X,hX⟩:∃X,X=l[k]:=⟨_,rfl⟩
  rw[← hX] at HEQ c1
  clear hX hcc
  obtain⟨id,kd,tk,rf,sp,ty,ud,dt⟩:=X
  simp only at c1
  have hkI:(k:Int)<(l.length:Int):=by omega
  have hkp:(0:Int)≤(k:Int):=by omega
  have hkm:(k:Int)+1≤9223372036854775807:=by omega
  simp only[Ev.kd] at HEQ
  by_cases h13:kd=13∨kd=14
  · have hN:=hid (show zFe l=true by rw[HEQ,decide_eq_true h13];rfl)
    clear HEQ he
    rcases h13 with rfl | rfl
    · go_wp2_with fail
      go_ret
      exact⟨by rw[hN.out];rfl,rfl⟩
    · go_wp2_with fail
      go_ret
      exact⟨by rw[hN.out];rfl,rfl⟩
  have q7:(kd==13)=false:=by simpa using fun q=>h13 (.inl q)
  have q11:(kd==14)=false:=by simpa using fun q=>h13 (.inr q)
  have hN:=hid (show zFe l=zFe (l.drop (k+1)) by rw[HEQ,decide_eq_false h13];rfl)
  clear HEQ he h13
  go_wp2_with fail
  go_roundw
  case rel=>first
   | exact⟨k+1,by omega,by go_num,hN.out,rfl⟩
   | exact⟨k+1,by omega,by go_num,hN.out,trivial⟩
   | ((repeat apply Exists.intro);exact⟨⟨k+1,by omega,by go_num,hN.out,rfl⟩,rfl⟩)
  case measure=>simp[intOf];omega
def zFo(l:List Ev)(nm:List UInt8):Nat:=(l.filter (fun e=>decide (e.kd=12∧e.dt=nm))).length
theorem zN5{l:List Ev}{k:Nat}(h:k<l.length)(nm:List UInt8):zFo (l.take (k+1)) nm=zFo (l.take k) nm+if(l[k]).kd=12∧(l[k]).dt=nm then 1 else 0:=by
 unfold zFo
 rw[List.take_succ_eq_append_getElem h,List.filter_append,List.length_append]
 by_cases q:(l[k]).kd=12∧(l[k]).dt=nm
 · simp[q.1,q.2]
 · rw[if_neg q]
   have:decide ((l[k]).kd=12∧(l[k]).dt=nm)=false:=decide_eq_false q
   rw[show([l[k]].filter fun e=>decide (e.kd=12∧e.dt=nm))=[] from by rw[List.filter_cons,if_neg (by rw[this];decide)];rfl]
   rfl
theorem zM3(l:List Ev)(nm:List UInt8):zFo l nm≤l.length:=List.length_filter_le _ _
theorem zQk(a:Option Addr)(c:Nat)(l:List Ev)(w:World)(hs:Sl w (.slice a l.length c) 8 l.length (l.flatMap evc))(nm:List UInt8) :
 Calls Tryz.prog 56 #[.slice a l.length c,.string ⟨nm.toArray⟩] w fun e w'=>e=.returned (.int .i64 ((zFo l nm:Nat):Int))∧w'=w:=by
 have hm:l.length≤9223372036854775807:=hs.2.1.1
 go_enter Tryz.func56,Tryz.ntmps56
 go_wp2_with fail
 go_loopw [5,6] (fun h0 n0 wr=>∃k:Nat,k≤l.length∧n0=.int .i64 (k:Int)∧h0=.int .i64 ((zFo (l.take k) nm:Nat):Int)∧wr=w) (fun _ n0 _=>l.length - (intOf n0).toNat)
 case atStart=>exact⟨0,Nat.zero_le _,rfl,rfl,rfl⟩
 case round =>
  obtain⟨k,hk,rfl,rfl,rfl⟩:=hrel
  by_cases hlt:k<l.length
  case neg =>
   obtain rfl:k=l.length:=by omega
   rw[List.take_length]
   go_wp2_with fail
   go_ret
   exact⟨rfl,rfl⟩
  have HEQ:=zN5 hlt nm
  have hle:=zM3 (l.take k) nm
  rw[List.length_take,Nat.min_eq_left hk] at hle
  generalize zFo (l.take k) nm=cn at *
  obtain⟨_,_,a',cap,hv,hcc⟩:=hs
  rw[Value.slice.injEq] at hv
  obtain⟨rfl,-,rfl⟩:=hv
  obtain⟨b,off,rfl,hblt,hcc⟩:=hcc.resolve_left (by omega)
  have c1:wr.cell? ⟨b,off+k*8+1,none⟩=some (.int .i64 (l[k]).2.1):=zAd hcc k 1 (by decide) hlt _ rfl
  have c7:wr.cell? ⟨b,off+k*8+7,none⟩=some (.string ⟨(l[k]).2.2.2.2.2.2.2.toArray⟩):=zAd hcc k 7 (by decide) hlt _ rfl
  obtain⟨X,hX⟩:∃X,X=l[k]:=⟨_,rfl⟩
  rw[← hX] at HEQ c1 c7
  clear hX hcc
  obtain⟨id,kd,tk,rf,sp,ty,ud,dt⟩:=X
  simp only at c1 c7
  have hkI:(k:Int)<(l.length:Int):=by omega
  have hkp:(0:Int)≤(k:Int):=by omega
  have hkm:(k:Int)+1≤9223372036854775807:=by omega
  simp only[Ev.kd,Ev.dt] at HEQ
  have hcI:(cn:Int)+1≤9223372036854775807:=by omega
  by_cases h12:kd=12
  case neg =>
   have hN:=hid (show zFo (l.take (k+1)) nm=cn by rw[HEQ,if_neg (fun q=>h12 q.1)];rfl)
   have q12:(kd==12)=false:=by simpa using h12
   clear HEQ h12
   go_wp2_with fail
   go_roundw
   case rel=>first
    | exact⟨k+1,by omega,by go_num,by rw[hN.out],rfl⟩
    | exact⟨k+1,by omega,by go_num,by rw[hN.out],trivial⟩
    | ((repeat apply Exists.intro);exact⟨⟨k+1,by omega,by go_num,by rw[hN.out],rfl⟩,rfl⟩)
   case measure=>simp[intOf];omega
  subst h12
  by_cases hd:dt=nm
  · subst hd
    have hN:=hid (show zFo (l.take (k+1)) dt=cn+1 by rw[HEQ,if_pos ⟨rfl,rfl⟩])
    clear HEQ
    go_wp2_with fail
    go_roundw
    case rel=>first
     | exact⟨k+1,by omega,by go_num,by rw[hN.out];go_num,rfl⟩
     | exact⟨k+1,by omega,by go_num,by rw[hN.out];go_num,trivial⟩
     | ((repeat apply Exists.intro);exact⟨⟨k+1,by omega,by go_num,by rw[hN.out];go_num,rfl⟩,rfl⟩)
    case measure=>simp[intOf];omega
  have hN:=hid (show zFo (l.take (k+1)) nm=cn by rw[HEQ,if_neg (fun q=>hd q.2)];rfl)
  have qd:(dt==nm)=false:=by simpa using hd
  clear HEQ hd
  go_wp2_with fail
  go_roundw
  case rel=>first
   | exact⟨k+1,by omega,by go_num,by rw[hN.out],rfl⟩
   | exact⟨k+1,by omega,by go_num,by rw[hN.out],trivial⟩
   | ((repeat apply Exists.intro);exact⟨⟨k+1,by omega,by go_num,by rw[hN.out],rfl⟩,rfl⟩)
  case measure=>simp[intOf];omega
theorem zKw(ss:List St):∀(l:List Ev)(c:Crs),(l.foldl (zAc ss) c).stop=(c.stop||zFe l)
 | [],c=>by simp[zFe]
 | e :: r,c=>by
   rw[List.foldl_cons,zKw ss r]
   have h : (zAc ss c e).stop=(c.stop||decide (e.kd=13∨e.kd=14)):=by
    have hends:∀how,(zAr ss c e.rf how).stop=c.stop:=fun how=>by unfold zAr;split <;> rfl
    unfold zAc
    split
    · rename_i q;rw[decide_eq_false (by omega),Bool.or_false]
    · split
      · rw[decide_eq_false (by omega),Bool.or_false]
      · split
        · rw[hends,decide_eq_false (by omega),Bool.or_false]
        · split
          · rw[hends,decide_eq_false (by omega),Bool.or_false]
          · split
            · rw[decide_eq_false (by omega),Bool.or_false]
            · split
              · rename_i q;rw[decide_eq_true q,Bool.or_true]
              · rename_i q;rw[decide_eq_false q,Bool.or_false]
   rw[h,Bool.or_assoc]
   rfl
theorem zNq(l:List Ev):zFe l=(crsF l).stop:=by
 unfold crsF
 rw[zKw];simp[crs0]
theorem zNb(ss:List St)(nm:List UInt8):∀(l:List Ev)(c:Crs),(l.foldl (zAc ss) c).sig nm=c.sig nm+(zFo l nm:Int)
 | [],c=>by simp[zFo]
 | e :: r,c=>by
   rw[List.foldl_cons,zNb ss nm r]
   have h : (zAc ss c e).sig nm=c.sig nm+if e.kd=12∧e.dt=nm then 1 else 0:=by
    have hends:∀how,(zAr ss c e.rf how).sig nm=c.sig nm:=fun how=>by unfold zAr;split <;> rfl
    unfold zAc
    split
    · rw[if_neg (fun q=>by have:=q.1;omega)];simp
    · split
      · rw[if_neg (fun q=>by have:=q.1;omega)];simp
      · split
        · rw[hends,if_neg (fun q=>by have:=q.1;omega)];simp
        · split
          · rw[hends,if_neg (fun q=>by have:=q.1;omega)];simp
          · split
            · rename_i q
              show updS c.sig e.dt (c.sig e.dt+1) nm=_
              unfold updS
              by_cases z:nm=e.dt
              · subst z;rw[if_pos rfl,if_pos ⟨q,rfl⟩]
              · rw[if_neg z,if_neg (fun y=>z y.2.symm)];simp
            · rename_i q
              rw[if_neg (show ¬(e.kd=12∧e.dt=nm) from fun y=>q y.1)]
              split <;> simp
   have h2:(zFo (e :: r) nm:Int)=(if e.kd=12∧e.dt=nm then 1 else 0)+(zFo r nm:Int):=by
    unfold zFo
    rw[List.filter_cons]
    by_cases q:e.kd=12∧e.dt=nm
    · rw[if_pos q,if_pos (decide_eq_true q),List.length_cons];omega
    · rw[if_neg q,if_neg (by rw[decide_eq_false q];decide)];omega
   rw[h,h2,Int.add_assoc]
theorem zPi(l:List Ev)(nm:List UInt8):(zFo l nm:Int)=(crsF l).sig nm:=by
 unfold crsF
 rw[zNb];simp[crs0]
def zFg(l:List Ev):Bool:=l.any (fun e=>decide (e.kd=6∧e.ud=true))
theorem zTe{l:List Ev}{w:List Cmd}(h:Cf l w)(hl:l≠[]):zFg l=zC9 (crsF l):=by
 obtain⟨hw,hO⟩:=zMu h hl
 have hH:=h.hs
 rw[Bool.eq_iff_iff]
 constructor
 · intro q
   unfold zFg at q
   obtain⟨e,he,hk⟩:=List.any_eq_true.1 q
   have hk:=of_decide_eq_true hk
   obtain⟨j,hj⟩:=List.getElem?_of_mem he
   have hP:=(hH.nth j e hj).1
   have hsp:0≤e.sp∧e.sp≤15:=by
    have:=hP.2.2.2.2.1
    rw[hk.1] at this
    simpa [evB] using this
   obtain⟨n,hn⟩:∃n:Nat,e.sp=(n:Int):=⟨e.sp.toNat,by omega⟩
   have hla:=hO.last (n:=(n:Int)) (u:=true) hj (decide_eq_true ⟨.inl hk.1,hn,hk.2⟩)
   have hne:zDx l (n:Int) true≠0:=fun z=>by rw[zLs z] at hla;cases hla
   rw[(hw n).2] at hne
   unfold zC9
   rw[List.any_eq_true]
   unfold Crs.U at hne
   rw[List.getD_eq_getElem?_getD] at hne
   cases hq:(crsF l).undone[n]? with
   | none=>rw[hq] at hne;exact absurd rfl hne
   | some x =>
     rw[hq] at hne
     exact⟨x,List.mem_of_getElem? hq,decide_eq_true hne⟩
 · intro q
   unfold zC9 at q
   obtain⟨x,hx,hx0⟩:=List.any_eq_true.1 q
   have hx0:=of_decide_eq_true hx0
   obtain⟨n,hn⟩:=List.getElem?_of_mem hx
   have hU:(crsF l).U n≠0:=by
    unfold Crs.U
    rw[List.getD_eq_getElem?_getD,hn];exact hx0
   rw[← (hw n).2] at hU
   cases hla:zDc l (n:Int) true l.length with
   | none=>unfold zDx zF4 at hU;rw[hla] at hU;exact absurd rfl hU
   | some i =>
     obtain⟨_,e,he,hm⟩:=zDo hla
     have hm:=of_decide_eq_true hm
     have hk6:e.kd=6:=by
      have hP:=(hH.nth i e he).1
      have h2:=hP.2.2.2.2.2.2.1 hm.2.2
      rcases hm.1 with z | z
      · exact z
      · rw[z] at h2;exact absurd h2 (by decide)
     unfold zFg
     exact List.any_eq_true.2 ⟨e,List.mem_of_getElem? he,decide_eq_true ⟨hk6,hm.2.2⟩⟩
def sigU(ss:List St)(i:Nat):List UInt8→Int:=fun nm=>(cntS (ss.take i) nm:Int)
theorem zQt(ss:List St):sigU ss 0=fun _=>0:=by funext nm;simp[sigU,cntS]
theorem zS6{ss:List St}{i:Nat}(h:i<ss.length)(hk:(ss[i]).kd=3):updS (sigU ss i) (ss[i]).nm (sigU ss i (ss[i]).nm+1)=sigU ss (i+1):=by
 funext nm
 unfold updS sigU
 rw[List.take_succ_eq_append_getElem h,zE7]
 by_cases q:nm=(ss[i]).nm
 · subst q;rw[if_pos rfl,if_pos ⟨hk,rfl⟩];omega
 · rw[if_neg q,if_neg (fun z=>q z.2.symm)];omega
theorem zU8{ss:List St}{i:Nat}(h:i<ss.length)(hk:(ss[i]).kd≠3):sigU ss i=sigU ss (i+1):=by
 funext nm
 unfold sigU
 rw[List.take_succ_eq_append_getElem h,zE7,if_neg (fun z=>hk z.1)];omega
theorem zUd(ss:List St)(c:Crs){i:Nat}(h:i<ss.length):fwdG c i (ss.drop i) (sigU ss i) =
 if(ss[i]).kd=3 then(if c.sig (ss[i]).nm<(cntS (ss.take (i+1)) (ss[i]).nm:Int) then([],c.stop) else fwdG c (i+1) (ss.drop (i+1)) (sigU ss (i+1)))
 else if(ss[i]).kd=2∧c.W i=1 then([],c.stop)
 else if c.W i=1 then([],false)
 else if c.W i=3 then([],true)
 else if c.W i=2 then fwdG c (i+1) (ss.drop (i+1)) (sigU ss (i+1))
 else if c.stop=true then([],true)
 else if(ss[i]).kd=2 then([(2,(i:Int),false)],false)
 else([(1,(i:Int),false)],false):=by
 rw[List.drop_eq_getElem_cons h]
 rw[fwdG]
 by_cases k3:(ss[i]).kd=3
 · rw[if_pos k3,if_pos k3,zS6 h k3]
   have e:sigU ss i (ss[i]).nm+1=(cntS (ss.take (i+1)) (ss[i]).nm:Int):=by
    unfold sigU
    rw[List.take_succ_eq_append_getElem h,zE7,if_pos ⟨k3,rfl⟩];omega
   rw[e]
 · rw[if_neg k3,if_neg k3,zU8 h k3]
theorem zSf(ss:List St)(c:Crs):fwdG c ss.length (ss.drop ss.length) (sigU ss ss.length)=([(3,0,false)],false):=by
 rw[List.drop_of_length_le (Nat.le_refl _)];rfl
theorem zRw(ss:List St)(c:Crs){d:List Int}{i:Nat}(h:i<d.length):zB4 ss c (d.take (i+1)).reverse =
 if zB2 ss d[i]=[] then zB4 ss c (d.take i).reverse
 else if c.U (d[i]).toNat=0 then [(1,d[i],true)]
 else if c.U (d[i]).toNat=1 then []
 else if c.U (d[i]).toNat=3 then [(5,0,false)]
 else zB4 ss c (d.take i).reverse:=by
 rw[List.take_succ_eq_append_getElem h,List.reverse_append,List.reverse_singleton,List.singleton_append]
 rfl
def kdC(c:Cmd):Int:=if c.1=1 then 6 else if c.1=2 then 10 else if c.1=3 then 15 else if c.1=4 then 16 else 17
def spC(c:Cmd):Int:=if c.1=1∨c.1=2 then c.2.1 else 0
def udC(c:Cmd):Bool:=if c.1=1 then c.2.2 else false
def zCq(l:List Ev):Nat→List Cmd
 | 0=>[]
 | j+1=>match l[j]? with
   | some e=>if e.kd=4 then(zCg (l.take e.rf.toNat)).1 else []
   | none=>[]
theorem zEn{l:List Ev}{j:Nat}(h:j<l.length):zCq l (j+1)=if(l[j]).kd=4 then(zCg (l.take (l[j]).rf.toNat)).1 else []:=by
 show(match l[j]? with | some e=>if e.kd=4 then(zCg (l.take e.rf.toNat)).1 else [] | none=>[])=_
 rw[List.getElem?_eq_getElem h]
theorem zLr(l:List Ev)(k:Nat):(zCq l k).length≤1:=by
 cases k with
 | zero=>exact Nat.zero_le _
 | succ j =>
   show(match l[j]? with | some e=>if e.kd=4 then(zCg (l.take e.rf.toNat)).1 else [] | none=>[]).length≤1
   split
   · split
     · exact zK6 _
     · exact Nat.zero_le _
   · exact Nat.zero_le _
theorem zHm(l:List Ev){r k:Nat}(h:r≤k):(l.take k).take r=l.take r:=by
 rw[List.take_take,Nat.min_eq_left h]
theorem zSr{e:Ev}{c:Cmd}(h:zBa e=some c):e.kd≠4:=fun q=>by
 unfold zBa at h
 rw[if_neg (by omega),if_neg (by omega),if_neg (by omega),if_neg (by omega),if_neg (by omega)] at h
 cases h
theorem zK3{e:Ev}(hP:EvP e){c:Cmd}(hc:(c.1=1∨(c.1=2∧c.2.2=false)∨c=(3,0,false)∨c=(4,0,false)∨c=(5,0,false))):zBa e=some c↔e.kd=kdC c∧e.sp=spC c∧e.ud=udC c:=by
 obtain⟨⟨k1,k2⟩,-,-,-,hs,-,hu,-⟩:=hP
 obtain⟨ck,ci,cu⟩:=c
 simp only at hc
 have hk:e.kd=1∨e.kd=2∨e.kd=3∨e.kd=4∨e.kd=5∨e.kd=6∨e.kd=7∨e.kd=8∨e.kd=9∨e.kd=10∨e.kd=11∨e.kd=12∨e.kd=13∨e.kd=14∨e.kd=15∨e.kd=16∨e.kd=17∨e.kd=18:=by omega
 have hu6:e.kd≠6→e.ud=false:=fun q=>by
  cases hq:e.ud with
  | false=>rfl
  | true =>
    have:=hu hq
    rcases hk with z | z | z | z | z | z | z | z | z | z | z | z | z | z | z | z | z | z <;> rw[z] at this <;> first | exact absurd z q | exact absurd this (by decide)
 have hs0:e.kd=15∨e.kd=16∨e.kd=17→e.sp=0:=fun q=>by
  rcases q with z | z | z <;> rw[z] at hs <;> simpa [evB] using hs
 unfold zBa kdC spC udC
 constructor
 · intro h
   split at h
   · rename_i q
     rw[Option.some.injEq,Prod.mk.injEq,Prod.mk.injEq] at h
     obtain⟨rfl,rfl,rfl⟩:=h
     exact⟨q,rfl,rfl⟩
   · split at h
     · rename_i q
       rw[Option.some.injEq,Prod.mk.injEq,Prod.mk.injEq] at h
       obtain⟨rfl,rfl,rfl⟩:=h
       exact⟨q,rfl,hu6 (by omega)⟩
     · split at h
       · rename_i q
         rw[Option.some.injEq,Prod.mk.injEq,Prod.mk.injEq] at h
         obtain⟨rfl,rfl,rfl⟩:=h
         exact⟨q,hs0 (.inl q),hu6 (by omega)⟩
       · split at h
         · rename_i q
           rw[Option.some.injEq,Prod.mk.injEq,Prod.mk.injEq] at h
           obtain⟨rfl,rfl,rfl⟩:=h
           exact⟨q,hs0 (.inr (.inl q)),hu6 (by omega)⟩
         · split at h
           · rename_i q
             rw[Option.some.injEq,Prod.mk.injEq,Prod.mk.injEq] at h
             obtain⟨rfl,rfl,rfl⟩:=h
             exact⟨q,hs0 (.inr (.inr q)),hu6 (by omega)⟩
           · cases h
 · rintro⟨a,b,d⟩
   rcases hc with rfl | ⟨rfl,rfl⟩ | h | h | h
   · have a:e.kd=6:=a
     have b:e.sp=ci:=b
     have d:e.ud=cu:=d
     rw[if_pos a,b,d]
   · have a:e.kd=10:=a
     have b:e.sp=ci:=b
     rw[if_neg (by omega),if_pos a,b]
   · rw[Prod.mk.injEq,Prod.mk.injEq] at h
     obtain⟨rfl,rfl,rfl⟩:=h
     have a:e.kd=15:=a
     rw[if_neg (by omega),if_neg (by omega),if_pos a]
   · rw[Prod.mk.injEq,Prod.mk.injEq] at h
     obtain⟨rfl,rfl,rfl⟩:=h
     have a:e.kd=16:=a
     rw[if_neg (by omega),if_neg (by omega),if_neg (by omega),if_pos a]
   · rw[Prod.mk.injEq,Prod.mk.injEq] at h
     obtain⟨rfl,rfl,rfl⟩:=h
     have a:e.kd=17:=a
     rw[if_neg (by omega),if_neg (by omega),if_neg (by omega),if_neg (by omega),if_pos a]
theorem zTv{l:List Ev}{w:List Cmd}(h:Cf l w):l=[]→w=[]:=by
 induction h with
 | nil=>intro _;rfl
 | told=>intro q;simp at q
 | cmd=>intro q;simp at q
theorem zM2{l:List Ev}{c:Cmd}{r:List Cmd}(h:Cf l (c :: r)):c.1=1∨(c.1=2∧c.2.2=false)∨c=(3,0,false)∨c=(4,0,false)∨c=(5,0,false):=by
 have hl:l≠[]:=fun q=>by
  have:=zTv h q
  cases this
 obtain⟨-,ha⟩:=((h.known hl).want (by simp)).1
 rcases ha with ⟨n,q,-⟩ | ⟨n,q,-⟩ | ⟨n,q,-⟩ | ⟨q,-⟩ | ⟨q,-⟩ | ⟨q,-⟩
 all_goals (injection q with q _;subst q;simp)
theorem zRz{l:List Ev}(hH:Hs l){k:Nat}(hk:k<l.length)(hc:Cf (l.take k) (zCq l k))(hw:zCq l k=[])(hm:zBa l[k]=none):Cf (l.take (k+1)) (zCq l (k+1))∧chkG l k (zCq l k) (l.drop k)=chkG l (k+1) (zCq l (k+1)) (l.drop (k+1)):=by
 have h2:=(hH.at hk).2
 rw[hw] at hc ⊢
 have e1:=List.take_succ_eq_append_getElem hk
 have hrf:=(zS3 h2).2
 rw[List.length_take,Nat.min_eq_left (by omega)] at hrf
 refine⟨?_,?_⟩
 · have h:=Cf.told hc h2 hm
   rw[zHm l hrf] at h
   rw[e1,zEn hk]
   exact h
 · rw[zJm hk,hm,zEn hk]
   simp only
   rw[if_neg (by simp)]
theorem zT4{l:List Ev}(hH:Hs l){k:Nat}(hk:k<l.length){c:Cmd}(hc:Cf (l.take k) (zCq l k))(hw:zCq l k=[c])(hm:zBa l[k]=some c):Cf (l.take (k+1)) (zCq l (k+1))∧chkG l k (zCq l k) (l.drop k)=chkG l (k+1) (zCq l (k+1)) (l.drop (k+1)):=by
 have h2:=(hH.at hk).2
 rw[hw] at hc ⊢
 have e1:=List.take_succ_eq_append_getElem hk
 have hW:zCq l (k+1)=[]:=by rw[zEn hk,if_neg (zSr hm)]
 rw[hW]
 refine⟨by rw[e1];exact Cf.cmd hc h2 hm,?_⟩
 rw[zJm hk,hm]
 simp only
 rw[if_neg (by simp)]
 rfl
theorem zPd{l:List Ev}{k:Nat}(hk:k<l.length)(h:(zCq l k=[]∧(zBa l[k]).isSome=true)∨∃c,zCq l k=[c]∧zBa l[k]≠some c):chkG l k (zCq l k) (l.drop k)=((k:Int),150):=by
 rw[zJm hk]
 rcases h with ⟨hw,hm⟩ | ⟨c,hw,hm⟩
 · obtain⟨c,hc⟩:=Option.isSome_iff_exists.1 hm
   rw[hc,hw]
   simp only
   rw[if_pos (.inl trivial)]
 · rw[hw]
   cases hq:zBa l[k] with
   | some d =>
     simp only
     rw[if_pos (.inr (by simp only[List.head?_cons];intro z;rw[hq] at hm;exact hm z.symm))]
   | none =>
     simp only
     rw[if_pos (by simp)]
theorem zT5(l:List Ev):chkG l l.length (zCq l l.length) (l.drop l.length)=if zCq l l.length≠[] then((l.length:Int),150) else(0,0):=by
 rw[List.drop_of_length_le (Nat.le_refl _)];unfold chkG;rfl
end Go.Proofs.YtkedafopdkhnfaaGreat
