/- PLAIN: what a history has come to: event by event (the program), and seen as a whole (the document). PLAIN: a state that grows event by event is that of the whole history. PLAIN: events applied one by one, and the whole history: the same. -/
import Derived.Test.YtkedafopdkhnfaaGreatEvtPlain
namespace Go.Proofs.YtkedafopdkhnfaaGreat
open Go.RowKit
set_option linter.unusedVariables false
abbrev Jb:=Int×Int×Bool×Int
abbrev Ck:=Int×Int×Int
abbrev Jb.id (j:Jb):Int:=j.1
abbrev Jb.sp (j:Jb):Int:=j.2.1
abbrev Jb.ud (j:Jb):Bool:=j.2.2.1
abbrev Jb.ty (j:Jb):Int:=j.2.2.2
abbrev Ck.id (c:Ck):Int:=c.1
abbrev Ck.sp (c:Ck):Int:=c.2.1
abbrev Ck.tk (c:Ck):Int:=c.2.2
@[ext] structure Sta where
 ss:List St
 lim:Int
 status:Int
 next:Int
 began:Int
 asked:Int
 taken:Int
 fresh:Bool
 jobs:List Jb
 clocks:List Ck
 cancel:Bool
 overdue:Bool
def s0:Sta:=⟨[],0,0,0,0,0,0,false,[],[],false,false⟩
def zB1(ss:List St)(n kind:Int):Option St:=if 0≤n then(ss[n.toNat]?).filter (fun x=>decide (x.kd=kind)) else none
def zE0(x:St)(ud:Bool):Int:=if ud then x.ut else x.tr
def zBc(ss:List St)(j:Jb):Int:=match zB1 ss j.sp 1 with | none=>0 | some x=>zE0 x j.ud
def inc(j:Jb):Jb:=(j.id,j.sp,j.ud,j.ty+1)
def jobI(l:List Jb)(rf ty:Int):Nat:=l.findIdx (fun j=>decide (j.id=rf)&&decide (j.ty=ty))
def zE1(l:List Ck)(rf tk:Int):Nat:=l.findIdx (fun c=>decide (c.id=rf)&&decide (c.tk≤tk))
def zAu(s:Sta)(e:Ev):Option Sta :=
 if e.kd=2∧s.asked=0∧s.taken=0∧s.fresh=true then some { s with asked:=e.id }
 else if e.kd=3∧s.asked=e.rf then some { s with asked:=0,taken:=e.id,fresh:=false }
 else if e.kd=4∧s.taken=e.rf then some { s with taken:=0 }
 else if e.kd=5∧s.taken=e.rf then some { s with taken:=0,fresh:=true }
 else none
def zC2(s:Sta)(e:Ev):Option Sta :=
 if e.kd=6 then match zB1 s.ss e.sp 1 with
  | none=>none
  | some x=>if e.ud=true∧x.un=[] then none else some { s with jobs:=s.jobs ++ [(e.id,e.sp,e.ud,1)] }
 else match s.jobs[jobI s.jobs e.rf e.ty]? with
  | none=>none
  | some j=>if e.kd=8∧e.ty≠zBc s.ss j then some { s with jobs:=s.jobs.set (jobI s.jobs e.rf e.ty) (inc j) }
    else if e.kd=7∨(e.kd=9∧e.ty=zBc s.ss j) then some { s with jobs:=s.jobs.eraseIdx (jobI s.jobs e.rf e.ty),fresh:=true }
    else none
def zDb(s:Sta)(e:Ev):Option Sta :=
 if e.kd=10 then match zB1 s.ss e.sp 2 with
  | none=>none
  | some x=>some { s with clocks:=s.clocks ++ [(e.id,e.sp,e.tk+x.wt)] }
 else if zE1 s.clocks e.rf e.tk<s.clocks.length then some { s with clocks:=s.clocks.eraseIdx (zE1 s.clocks e.rf e.tk),fresh:=true }
 else none
def zJq(s:Sta)(n:Int):Sta:={ s with status:=n,asked:=0,taken:=0,fresh:=false,jobs:=[],clocks:=[] }
def zIa(s:Sta):Bool:=decide (s.asked=0)&&(decide (s.taken=0)&&decide (s.jobs.length=0))
def zBw(s:Sta)(e:Ev):Option Sta :=
 if e.kd=12 then some { s with fresh:=true }
 else if e.kd=13 then(if s.cancel=true then none else some { s with cancel:=true,fresh:=true })
 else if e.kd=14 then(if s.overdue=true∨s.lim=0∨e.tk<s.began+s.lim then none else some { s with overdue:=true,fresh:=true })
 else if e.kd=18 then some (zJq s 4)
 else if e.kd=15 then(if zIa s then some (zJq s 1) else none)
 else if e.kd=16 then(if zIa s then some (zJq s 2) else none)
 else if e.kd=17 then(if zIa s then some (zJq s 3) else none)
 else none
def zA1(s:Sta)(e:Ev):Option Sta :=
 if e.kd=2∨e.kd=3∨e.kd=4∨e.kd=5 then zAu s e
 else if e.kd=6∨e.kd=7∨e.kd=8∨e.kd=9 then zC2 s e
 else if e.kd=10∨e.kd=11 then zDb s e
 else zBw s e
def prgF(d:List UInt8):Int×List St:=(zDf d).getD (0,[])
def zM0(e:Ev):Sta:=⟨(prgF e.dt).2,(prgF e.dt).1,0,2,e.tk,0,0,true,[],[],false,false⟩
def zA0(s:Sta)(e:Ev):Sta×Int :=
 if ¬EvP e then(s0,120)
 else if s.next=0 then(if e.kd=1∧e.id=1 then(zM0 e,0) else(s0,120))
 else if s.status≠0 then(s0,182)
 else if e.id≠s.next then(s0,120)
 else match zA1 s e with
  | none=>(s0,120)
  | some t=>({ t with next:=s.next+1 },0)
/- the document's -/
def zB3(k:Int):Int:=if k=15 then 1 else if k=16 then 2 else if k=17 then 3 else if k=18 then 4 else 0
def zAg(l:List Ev):Int:=match l.getLast? with | none=>0 | some e=>zB3 e.kd
def zGj(k:Int):Nat→Nat→List Ev→Nat
 | _,a,[]=>a
 | p,a,x :: r=>zGj k (p+1) (if x.kd=k then p+1 else a) r
def zAy(l:List Ev)(k:Int):Nat:=zGj k 0 0 l
def zE2(ref a b:Int)(x:Ev):Bool:=decide (x.rf=ref)&&(decide (x.kd=a)||decide (x.kd=b))
def zBy(l:List Ev)(ref a b:Int):Bool:=l.any (zE2 ref a b)
def zAt(l:List Ev):Int:=if zBy l (zAy l 2) 3 3=true∨zAg l≠0 then 0 else zAy l 2
def zAj(l:List Ev):Int:=if zBy l (zAy l 3) 4 5=true∨zAg l≠0 then 0 else zAy l 3
def zB7(x:Ev):Bool:=decide (x.kd=1∨x.kd=5∨x.kd=7∨x.kd=9∨x.kd=11∨x.kd=12∨x.kd=13∨x.kd=14)
def zB8(l:List Ev):Bool:=if zAg l≠0 then false else(l.drop (zAy l 3)).any zB7
def retB(n:Int)(x:Ev):Bool:=decide (x.kd=8)&&decide (x.rf=n)
def retF(l:List Ev)(n:Int):Nat:=(l.filter (retB n)).length
def zCp(l:List Ev)(i:Nat)(x:Ev):Option Jb:=if x.kd=6∧zBy l (i+1:Nat) 7 9=false then some (((i+1:Nat):Int),x.sp,x.ud,1+(retF l (i+1:Nat):Int)) else none
def zCb(l:List Ev):Nat→List Ev→List Jb
 | _,[]=>[]
 | i,x :: r=>(zCp l i x).toList++zCb l (i+1) r
def zAn(l:List Ev):List Jb:=if zAg l≠0 then [] else zCb l 0 l
def prgL(l:List Ev):Int×List St:=match l with | []=>(0,[]) | x :: _=>prgF x.dt
def zIo(ss:List St)(n:Int):Int:=(ss.getD n.toNat (0,[],[],0,0,0)).wt
def zBl(l:List Ev)(i:Nat)(x:Ev):Option Ck:=if x.kd=10∧zBy l (i+1:Nat) 11 11=false then some (((i+1:Nat):Int),x.sp,x.tk+zIo (prgL l).2 x.sp) else none
def zA8(l:List Ev):Nat→List Ev→List Ck
 | _,[]=>[]
 | i,x :: r=>(zBl l i x).toList++zA8 l (i+1) r
def zAi(l:List Ev):List Ck:=if zAg l≠0 then [] else zA8 l 0 l
def zCy(ss:List St)(n k:Int):Bool:=(ss[n.toNat]?).any (fun x=>decide (x.kd=k))
def zB2(ss:List St)(n:Int):List UInt8:=(ss.getD n.toNat (0,[],[],0,0,0)).un
def zFs(l:List Ev)(e:Ev):Bool:=match (zAn l).find? (fun j=>decide (j.id=e.rf)&&decide (j.ty=e.ty)) with
 | none=>false
 | some j=>decide (e.kd=7)||(decide (e.kd=8)&&decide (e.ty<zBc (prgL l).2 j))||(decide (e.kd=9)&&decide (e.ty=zBc (prgL l).2 j))
def zH6(l:List Ev)(e:Ev):Bool:=match (zAi l).find? (fun c=>decide (c.id=e.rf)) with
 | none=>false
 | some c=>decide (c.tk≤e.tk)
def zBo(l:List Ev):Int:=match l with | []=>0 | x :: _=>x.tk
def canF(l:List Ev)(e:Ev):Bool :=
 if e.kd=2 then decide (zAt l=0)&&decide (zAj l=0)&&zB8 l
 else if e.kd=3 then decide (zAt l=e.rf)
 else if e.kd=4∨e.kd=5 then decide (zAj l=e.rf)
 else if e.kd=6 then zCy (prgL l).2 e.sp 1&&(!e.ud||decide (zB2 (prgL l).2 e.sp≠[]))
 else if e.kd=7∨e.kd=8∨e.kd=9 then zFs l e
 else if e.kd=10 then zCy (prgL l).2 e.sp 2
 else if e.kd=11 then zH6 l e
 else if e.kd=12∨e.kd=18 then true
 else if e.kd=13 then decide (zAy l 13=0)
 else if e.kd=14 then decide (zAy l 14=0)&&decide ((prgL l).1≠0)&&decide (zBo l+(prgL l).1≤e.tk)
 else if e.kd=15∨e.kd=16∨e.kd=17 then decide (zAt l=0)&&decide (zAj l=0)&&decide ((zAn l).length=0)
 else false
def zA5(l:List Ev)(e:Ev):Int :=
 if ¬EvP e then 120
 else if l=[] then(if e.kd=1∧e.id=1 then 0 else 120)
 else if zAg l≠0 then 182
 else if e.id=l.length+1∧canF l e=true then 0 else 120
def stOf(l:List Ev):Sta :=
 if l=[] then s0
 else⟨(prgL l).2,(prgL l).1,zAg l,l.length+1,zBo l,zAt l,zAj l,zB8 l,zAn l,zAi l,decide (zAy l 13≠0),decide (zAy l 14≠0)⟩
inductive Hs:List Ev→Prop
 | nil:Hs []
 | snoc {l:List Ev} {e:Ev}:Hs l→zA5 l e=0→Hs (l ++ [e])
/- one event more -/
theorem zAv(l:List Ev)(e:Ev):zAg (l ++ [e])=zB3 e.kd:=by unfold zAg;simp
theorem zI3(k:Int)(e:Ev):∀(l:List Ev)(p a:Nat),zGj k p a (l ++ [e])=if e.kd=k then p+l.length+1 else zGj k p a l
 | [],p,a=>by simp[zGj]
 | x :: r,p,a=>by
   rw[List.cons_append]
   simp only[zGj]
   rw[zI3 k e r]
   simp only[List.length_cons]
   split
   · omega
   · rfl
theorem zCd(l:List Ev)(e:Ev)(k:Int):zAy (l ++ [e]) k=if e.kd=k then l.length+1 else zAy l k:=by
 unfold zAy
 rw[zI3];simp
theorem zJ3(k:Int)(l:List Ev):zAy l k≤l.length:=by
 have:∀(l:List Ev) (p a:Nat),a≤p→zGj k p a l≤p+l.length:=by
  intro l
  induction l with
  | nil=>intro p a h;simpa [zGj] using h
  | cons x r ih =>
    intro p a h
    simp only[zGj,List.length_cons]
    have:=ih (p+1) (if x.kd=k then p+1 else a) (by split <;> omega)
    omega
 have:=this l 0 0 (Nat.le_refl _)
 unfold zAy;omega
theorem zBu(l:List Ev)(e:Ev)(r a b:Int):zBy (l ++ [e]) r a b=(zBy l r a b||zE2 r a b e):=by
 unfold zBy;rw[List.any_append];simp
theorem zGn(l:List Ev)(e:Ev)(n:Int):retF (l ++ [e]) n=retF l n+if retB n e=true then 1 else 0:=by
 unfold retF
 rw[List.filter_append,List.length_append]
 by_cases h:retB n e=true
 · simp[List.filter,h]
 · simp[List.filter,h]
theorem zCw{l:List Ev}(e:Ev)(h:l≠[]):prgL (l ++ [e])=prgL l:=by
 cases l with
 | nil=>exact absurd rfl h
 | cons x r=>rfl
theorem zN0{l:List Ev}(e:Ev)(h:l≠[]):zBo (l ++ [e])=zBo l:=by
 cases l with
 | nil=>exact absurd rfl h
 | cons x r=>rfl
theorem zEf(L:List Ev)(e:Ev):∀(l:List Ev)(i:Nat),zCb L i (l ++ [e])=zCb L i l++(zCp L (i+l.length) e).toList
 | [],i=>by simp[zCb]
 | x :: r,i=>by
   rw[List.cons_append]
   simp only[zCb]
   rw[zEf L e r,List.append_assoc,List.length_cons,show i+1+r.length=i+(r.length+1) by omega]
theorem zDz(L:List Ev)(e:Ev):∀(l:List Ev)(i:Nat),zA8 L i (l ++ [e])=zA8 L i l++(zBl L (i+l.length) e).toList
 | [],i=>by simp[zA8]
 | x :: r,i=>by
   rw[List.cons_append]
   simp only[zA8]
   rw[zDz L e r,List.append_assoc,List.length_cons,show i+1+r.length=i+(r.length+1) by omega]
theorem zFk(l:List Ev)(e:Ev)(h:zB3 e.kd=0)(h0:zAg l=0):zB8 (l ++ [e])=if e.kd=3 then false else(zB8 l||zB7 e):=by
 unfold zB8
 rw[zAv,h,h0,zCd]
 simp only[ne_eq,not_true_eq_false,if_false]
 split
 · rw[List.drop_eq_nil_of_le (by simp)];rfl
 · rw[List.drop_append_of_le_length (zJ3 3 l),List.any_append];simp
def Nth(l:List Ev):Prop:=∀i x,l[i]?=some x→EvP x∧x.id=((i+1:Nat):Int)
theorem zA6{l:List Ev}{e:Ev}(h:zA5 l e=0):EvP e∧e.id=((l.length+1:Nat):Int)∧zAg l=0∧(l=[]→e.kd=1)∧(l≠[]→canF l e=true):=by
 unfold zA5 at h
 split at h
 · cases h
 · rename_i h1
   have h1:=Decidable.of_not_not h1
   split at h
   · rename_i h2
     split at h
     · rename_i h3
       subst h2
       exact⟨h1,by simpa using h3.2,rfl,fun _=>h3.1,fun q=>absurd rfl q⟩
     · cases h
   · rename_i h2
     split at h
     · cases h
     · rename_i h3
       have h3:=Decidable.of_not_not h3
       split at h
       · rename_i h4
         exact⟨h1,by rw[h4.1];rfl,h3,fun q=>absurd q h2,fun _=>h4.2⟩
       · cases h
theorem Hs.nth{l:List Ev}(h:Hs l):Nth l:=by
 induction h with
 | nil=>intro i x hx;simp at hx
 | @snoc l e hl hc ih =>
   intro i x hx
   obtain⟨h1,h2,-⟩:=zA6 hc
   rcases Nat.lt_trichotomy i l.length with h | h | h
   · rw[List.getElem?_append_left h] at hx
     exact ih i x hx
   · subst h
     rw[List.getElem?_append_right (Nat.le_refl _)] at hx
     simp at hx
     subst hx
     exact⟨h1,h2⟩
   · rw[List.getElem?_append_right (by omega)] at hx
     rw[show i - l.length=(i - l.length - 1)+1 by omega] at hx
     simp at hx
theorem zKv{x:Ev}(h:EvP x):x.rf≤x.id - 1∧0≤x.rf:=by
 obtain⟨-,h2,-,h4,-⟩:=h
 split at h4
 · exact⟨h4.2,by omega⟩
 · omega
theorem Nth.rf{l:List Ev}(h:Nth l){x:Ev}(hx:x∈l):EvP x∧x.rf<((l.length:Nat):Int)∧0≤x.rf:=by
 obtain⟨i,hi,rfl⟩:=List.getElem_of_mem hx
 obtain⟨h1,h2⟩:=h i _ (List.getElem?_eq_getElem hi)
 have h3:=zKv h1
 exact⟨h1,by omega,h3.2⟩
theorem Nth.unended{l:List Ev}(h:Nth l)(a b:Int){n:Int}(hn:((l.length:Nat):Int)≤n):zBy l n a b=false:=by
 unfold zBy
 rw[List.any_eq_false]
 intro x hx
 have:=(h.rf hx).2.1
 unfold zE2
 rw[decide_eq_false (by omega)];simp
theorem Nth.unret{l:List Ev}(h:Nth l){n:Int}(hn:((l.length:Nat):Int)≤n):retF l n=0:=by
 unfold retF
 rw[List.length_eq_zero_iff,List.filter_eq_nil_iff]
 intro x hx
 have:=(h.rf hx).2.1
 unfold retB
 rw[decide_eq_false (show ¬x.rf=n by omega)];simp
/- lists -/
theorem zFv{α:Type}(p:α→Bool):∀l:List α,l[l.findIdx p]?=l.find? p
 | []=>rfl
 | x :: r=>by
   rw[List.findIdx_cons,List.find?_cons]
   cases h:p x with
   | true=>simp
   | false=>simpa using zFv p r
theorem zQs{α:Type}(key:α→Int)(p:α→Bool)(f:α→α)(n:Int)(hp:∀x,p x=true→key x=n):∀(l:List α),l.Pairwise (fun a b=>key a<key b)→∀j,l.find? p=some j→l.set (l.findIdx p) (f j)=l.map (fun x=>if key x=n then f x else x)
 | [],_,j,h=>by simp at h
 | x :: r,hw,j,h=>by
   obtain⟨h1,h2⟩:=List.pairwise_cons.1 hw
   rw[List.find?_cons] at h
   rw[List.findIdx_cons]
   cases hx:p x with
   | true =>
     rw[hx] at h
     simp only[Option.some.injEq] at h
     subst h
     have hk:=hp x hx
     simp only[cond_true,List.set_cons_zero,List.map_cons]
     rw[if_pos hk]
     congr 1
     symm
     refine(List.map_congr_left (fun y hy=>?_)).trans (List.map_id r)
     have:=h1 y hy
     rw[if_neg (by omega)];rfl
   | false =>
     rw[hx] at h
     simp only at h
     have ih:=zQs key p f n hp r h2 j h
     have hj:=hp j (List.find?_some h)
     have:=h1 j (List.mem_of_find?_eq_some h)
     simp only[cond_false,List.set_cons_succ,List.map_cons]
     rw[ih,if_neg (by omega)]
theorem zH4{α:Type}(key:α→Int)(p:α→Bool)(n:Int)(hp:∀x,p x=true→key x=n):∀(l:List α),l.Pairwise (fun a b=>key a<key b)→∀j,l.find? p=some j→l.eraseIdx (l.findIdx p)=l.filter (fun x=>decide (key x≠n))
 | [],_,j,h=>by simp at h
 | x :: r,hw,j,h=>by
   obtain⟨h1,h2⟩:=List.pairwise_cons.1 hw
   rw[List.find?_cons] at h
   rw[List.findIdx_cons]
   cases hx:p x with
   | true =>
     rw[hx] at h
     simp only[Option.some.injEq] at h
     subst h
     have hk:=hp x hx
     simp only[cond_true,List.eraseIdx_cons_zero]
     rw[List.filter_cons,if_neg (by simp[hk])]
     symm
     refine List.filter_eq_self.2 (fun y hy=>?_)
     have:=h1 y hy
     simp;omega
   | false =>
     rw[hx] at h
     simp only at h
     have ih:=zH4 key p n hp r h2 j h
     have hj:=hp j (List.find?_some h)
     have:=h1 j (List.mem_of_find?_eq_some h)
     simp only[cond_false,List.eraseIdx_cons_succ]
     rw[ih,List.filter_cons,if_pos (by simp;omega)]
theorem zM8{α:Type}(key:α→Int)(n:Int)(q:α→Bool):∀(l:List α),l.Pairwise (fun a b=>key a<key b)→l.find? (fun x=>decide (key x=n)&&q x)=(l.find? (fun x=>decide (key x=n))).filter q
 | [],_=>rfl
 | x :: r,hw=>by
   obtain⟨h1,h2⟩:=List.pairwise_cons.1 hw
   rw[List.find?_cons,List.find?_cons]
   by_cases hk:key x=n
   · rw[decide_eq_true hk]
     cases hq:q x with
     | true=>simp[Option.filter,hq]
     | false =>
       simp only[Bool.and_false,Option.filter,hq]
       rw[List.find?_eq_none.2 (fun y hy=>by have:=h1 y hy;simp;intro h;omega)]
       rfl
   · rw[decide_eq_false hk]
     simpa using zM8 key n q r h2
theorem zK9{l:List Jb}(h:l.Pairwise (fun a b=>a.id<b.id)){a b:Jb}(ha:a∈l)(hb:b∈l)(e:a.id=b.id):a=b:=by
 induction l with
 | nil=>cases ha
 | cons x r ih =>
   obtain⟨h1,h2⟩:=List.pairwise_cons.1 h
   rcases List.mem_cons.1 ha with h | h
   · rcases List.mem_cons.1 hb with h' | h'
     · rw[h,h']
     · have:=h1 b h';rw[← h] at this;omega
   · rcases List.mem_cons.1 hb with h' | h'
     · have:=h1 a h;rw[← h'] at this;omega
     · exact ih h2 h h'
/- jobs, clocks of a history -/
theorem zSp{L:List Ev}{i:Nat}{x:Ev}{j:Jb}(h:zCp L i x=some j):j.id=((i+1:Nat):Int):=by
 unfold zCp at h
 split at h
 · cases h;rfl
 · cases h
theorem zN2{L:List Ev}{i:Nat}{x:Ev}{c:Ck}(h:zBl L i x=some c):c.id=((i+1:Nat):Int):=by
 unfold zBl at h
 split at h
 · cases h;rfl
 · cases h
theorem zKz(L:List Ev):∀(l:List Ev)(i:Nat),(∀j∈zCb L i l,((i:Nat):Int)<j.id∧j.id≤((i+l.length:Nat):Int))∧(zCb L i l).Pairwise (fun a b=>a.id<b.id)
 | [],i=>⟨by intro j hj;simp[zCb] at hj,by simp[zCb]⟩
 | x :: r,i=>by
   obtain⟨h1,h2⟩:=zKz L r (i+1)
   have h3:∀j∈(zCp L i x).toList,j.id=((i+1:Nat):Int):=fun j hj=>zSp (by simpa using hj)
   simp only[zCb,List.length_cons]
   refine⟨fun j hj=>?_,?_⟩
   · rcases List.mem_append.1 hj with h | h
     · have:=h3 j h;omega
     · have:=h1 j h;omega
   · refine List.pairwise_append.2 ⟨?_,h2,fun a ha b hb=>?_⟩
     · cases zCp L i x <;> simp
     · have q1:=h3 a ha;have q2:=h1 b hb;omega
theorem zHy(L:List Ev):∀(l:List Ev)(i:Nat),(∀j∈zA8 L i l,((i:Nat):Int)<j.id∧j.id≤((i+l.length:Nat):Int))∧(zA8 L i l).Pairwise (fun a b=>a.id<b.id)
 | [],i=>⟨by intro j hj;simp[zA8] at hj,by simp[zA8]⟩
 | x :: r,i=>by
   obtain⟨h1,h2⟩:=zHy L r (i+1)
   have h3:∀j∈(zBl L i x).toList,j.id=((i+1:Nat):Int):=fun j hj=>zN2 (by simpa using hj)
   simp only[zA8,List.length_cons]
   refine⟨fun j hj=>?_,?_⟩
   · rcases List.mem_append.1 hj with h | h
     · have:=h3 j h;omega
     · have:=h1 j h;omega
   · refine List.pairwise_append.2 ⟨?_,h2,fun a ha b hb=>?_⟩
     · cases zBl L i x <;> simp
     · have q1:=h3 a ha;have q2:=h1 b hb;omega
theorem zGg(l:List Ev):(∀j∈zAn l,0<j.id∧j.id≤((l.length:Nat):Int))∧(zAn l).Pairwise (fun a b=>a.id<b.id):=by
 unfold zAn
 split
 · exact⟨by simp,by simp⟩
 · have:=zKz l l 0
   simpa using this
theorem zEo(l:List Ev):(∀j∈zAi l,0<j.id∧j.id≤((l.length:Nat):Int))∧(zAi l).Pairwise (fun a b=>a.id<b.id):=by
 unfold zAi
 split
 · exact⟨by simp,by simp⟩
 · have:=zHy l l 0
   simpa using this
theorem zIc(L:List Ev):∀(l:List Ev)(i:Nat),(zCb L i l).length≤l.length
 | [],i=>by simp[zCb]
 | x :: r,i=>by
   have:=zIc L r (i+1)
   simp only[zCb,List.length_append,List.length_cons]
   cases zCp L i x <;> simp <;> omega
theorem zFu(L:List Ev):∀(l:List Ev)(i:Nat),(zA8 L i l).length≤l.length
 | [],i=>by simp[zA8]
 | x :: r,i=>by
   have:=zFu L r (i+1)
   simp only[zA8,List.length_append,List.length_cons]
   cases zBl L i x <;> simp <;> omega
theorem zP0(l:List Ev):(zAn l).length≤l.length:=by
 unfold zAn;split
 · simp
 · exact zIc l l 0
theorem zL2(l:List Ev):(zAi l).length≤l.length:=by
 unfold zAi;split
 · simp
 · exact zFu l l 0
theorem zI2{L L':List Ev}(h:∀i x,zCp L i x=zCp L' i x):∀(l:List Ev)(i:Nat),zCb L i l=zCb L' i l
 | [],i=>rfl
 | x :: r,i=>by simp only[zCb];rw[h,zI2 h r]
theorem zK0{L L':List Ev}{f:Jb→Jb}(h:∀i x,zCp L i x=(zCp L' i x).map f):∀(l:List Ev)(i:Nat),zCb L i l=(zCb L' i l).map f
 | [],i=>rfl
 | x :: r,i=>by
   simp only[zCb];rw[h,zK0 h r,List.map_append]
   cases zCp L' i x <;> rfl
theorem zHi{L L':List Ev}{f:Jb→Bool}(h:∀i x,zCp L i x=(zCp L' i x).filter f):∀(l:List Ev)(i:Nat),zCb L i l=(zCb L' i l).filter f
 | [],i=>rfl
 | x :: r,i=>by
   simp only[zCb];rw[h,zHi h r,List.filter_append]
   cases zCp L' i x with
   | none=>rfl
   | some j=>cases hf:f j <;> simp[Option.filter,hf]
theorem zHf{L L':List Ev}(h:∀i x,zBl L i x=zBl L' i x):∀(l:List Ev)(i:Nat),zA8 L i l=zA8 L' i l
 | [],i=>rfl
 | x :: r,i=>by simp only[zA8];rw[h,zHf h r]
theorem zFr{L L':List Ev}{f:Ck→Bool}(h:∀i x,zBl L i x=(zBl L' i x).filter f):∀(l:List Ev)(i:Nat),zA8 L i l=(zA8 L' i l).filter f
 | [],i=>rfl
 | x :: r,i=>by
   simp only[zA8];rw[h,zFr h r,List.filter_append]
   cases zBl L' i x with
   | none=>rfl
   | some j=>cases hf:f j <;> simp[Option.filter,hf]
theorem zC4{n a b:Int}{e:Ev}(h:e.kd≠a∧e.kd≠b):zE2 n a b e=false:=by
 unfold zE2
 rw[decide_eq_false h.1,decide_eq_false h.2];simp
theorem zFi{n a b:Int}{e:Ev}(h:e.kd=a∨e.kd=b):zE2 n a b e=decide (e.rf=n):=by
 unfold zE2
 rcases h with h | h <;> simp[h]
theorem zMj{n:Int}{e:Ev}(h:e.kd≠8):retB n e=false:=by
 unfold retB
 rw[decide_eq_false h];rfl
section
variable {l : List Ev} {e : Ev}
theorem zL9(hn:Nth l):zCp (l ++ [e]) l.length e=if e.kd=6 then some (((l.length+1:Nat):Int),e.sp,e.ud,1) else none:=by
 unfold zCp
 by_cases h:e.kd=6
 · rw[zBu,zGn,hn.unended _ _ (by omega),hn.unret (by omega),zC4 (by omega),zMj (by omega)]
   simp[h]
 · rw[if_neg h,if_neg (fun q=>h q.1)]
theorem zKl(hl:l≠[])(hn:Nth l):zBl (l ++ [e]) l.length e=if e.kd=10 then some (((l.length+1:Nat):Int),e.sp,e.tk+zIo (prgL l).2 e.sp) else none:=by
 unfold zBl
 by_cases h:e.kd=10
 · rw[zBu,hn.unended _ _ (by omega),zC4 (by omega),zCw e hl]
   simp[h]
 · rw[if_neg h,if_neg (fun q=>h q.1)]
theorem zOa(h:e.kd≠7∧e.kd≠8∧e.kd≠9)(i:Nat)(x:Ev):zCp (l ++ [e]) i x=zCp l i x:=by
 unfold zCp
 rw[zBu,zGn,zC4 ⟨h.1,h.2.2⟩,zMj h.2.1]
 simp
theorem zPy(h:e.kd=8)(i:Nat)(x:Ev):zCp (l ++ [e]) i x=(zCp l i x).map (fun j=>if j.id=e.rf then inc j else j):=by
 unfold zCp
 rw[zBu,zGn,zC4 (by omega)]
 simp only[Bool.or_false]
 by_cases c:x.kd=6∧zBy l (i+1:Nat) 7 9=false
 · rw[if_pos c,if_pos c]
   unfold retB
   rw[decide_eq_true h]
   simp only[Option.map_some,Jb.id]
   by_cases q:e.rf=((i+1:Nat):Int)
   · rw[if_pos q.symm,decide_eq_true q]
     simp[inc,Jb.id,Jb.sp,Jb.ud,Jb.ty]
     omega
   · have q':¬((i:Int)+1=e.rf):=fun k=>q (by omega)
     rw[decide_eq_false q]
     simp[q']
 · rw[if_neg c,if_neg c];rfl
theorem zPz(h:e.kd=7∨e.kd=9)(i:Nat)(x:Ev):zCp (l ++ [e]) i x=(zCp l i x).filter (fun j=>decide (j.id≠e.rf)):=by
 unfold zCp
 rw[zBu,zGn,zFi h,zMj (by omega)]
 by_cases c:x.kd=6∧zBy l (i+1:Nat) 7 9=false
 · rw[if_pos c,c.2]
   simp only[Bool.false_or]
   by_cases q:e.rf=((i+1:Nat):Int)
   · simp[q,Option.filter]
   · rw[decide_eq_false q]
     have q':¬(((i+1:Nat):Int)=e.rf):=fun k=>q k.symm
     simp[c.1,Option.filter,Jb.id]
     intro k;exact absurd k (by simpa using q')
 · rw[if_neg c]
   rw[if_neg (fun k=>c ⟨k.1,by have:=k.2;simp only[Bool.or_eq_false_iff] at this;exact this.1⟩)]
   rfl
theorem zKk(hl:l≠[])(h:e.kd≠11)(i:Nat)(x:Ev):zBl (l ++ [e]) i x=zBl l i x:=by
 unfold zBl
 rw[zBu,zC4 ⟨h,h⟩,zCw e hl]
 simp
theorem zL1(hl:l≠[])(h:e.kd=11)(i:Nat)(x:Ev):zBl (l ++ [e]) i x=(zBl l i x).filter (fun j=>decide (j.id≠e.rf)):=by
 unfold zBl
 rw[zBu,zFi (.inl h),zCw e hl]
 by_cases c:x.kd=10∧zBy l (i+1:Nat) 11 11=false
 · rw[if_pos c,c.2]
   simp only[Bool.false_or]
   by_cases q:e.rf=((i+1:Nat):Int)
   · simp[q,Option.filter]
   · rw[decide_eq_false q]
     have q':¬(((i+1:Nat):Int)=e.rf):=fun k=>q k.symm
     simp[c.1,Option.filter,Ck.id]
     intro k;exact absurd k (by simpa using q')
 · rw[if_neg c]
   rw[if_neg (fun k=>c ⟨k.1,by have:=k.2;simp only[Bool.or_eq_false_iff] at this;exact this.1⟩)]
   rfl
theorem zCl(hn:Nth l)(h0:zAg l=0)(hc:zB3 e.kd=0)(h:e.kd≠7∧e.kd≠8∧e.kd≠9):zAn (l ++ [e])=zAn l++(if e.kd=6 then [(((l.length+1:Nat):Int),e.sp,e.ud,1)] else []):=by
 unfold zAn
 rw[zAv,h0,hc]
 simp only[ne_eq,not_true_eq_false,if_false]
 rw[zEf,zI2 (zOa h),Nat.zero_add,zL9 hn]
 split <;> rfl
theorem zGh(hn:Nth l)(h0:zAg l=0)(h:e.kd=8):zAn (l ++ [e])=(zAn l).map (fun j=>if j.id=e.rf then inc j else j):=by
 unfold zAn
 rw[zAv,h0,show zB3 e.kd=0 by rw[h];rfl]
 simp only[ne_eq,not_true_eq_false,if_false]
 rw[zEf,zK0 (zPy h),Nat.zero_add,zL9 hn,if_neg (by omega)]
 simp
theorem zHq(hn:Nth l)(h0:zAg l=0)(h:e.kd=7∨e.kd=9):zAn (l ++ [e])=(zAn l).filter (fun j=>decide (j.id≠e.rf)):=by
 unfold zAn
 rw[zAv,h0,show zB3 e.kd=0 by rcases h with h | h <;> rw[h] <;> rfl]
 simp only[ne_eq,not_true_eq_false,if_false]
 rw[zEf,zHi (zPz h),Nat.zero_add,zL9 hn,if_neg (by omega)]
 simp
theorem zCa(hl:l≠[])(hn:Nth l)(h0:zAg l=0)(hc:zB3 e.kd=0)(h:e.kd≠11):zAi (l ++ [e])=zAi l++(if e.kd=10 then [(((l.length+1:Nat):Int),e.sp,e.tk+zIo (prgL l).2 e.sp)] else []):=by
 unfold zAi
 rw[zAv,h0,hc]
 simp only[ne_eq,not_true_eq_false,if_false]
 rw[zDz,zHf (zKk hl h),Nat.zero_add,zKl hl hn]
 split <;> rfl
theorem zGw(hl:l≠[])(hn:Nth l)(h0:zAg l=0)(h:e.kd=11):zAi (l ++ [e])=(zAi l).filter (fun j=>decide (j.id≠e.rf)):=by
 unfold zAi
 rw[zAv,h0,show zB3 e.kd=0 by rw[h];rfl]
 simp only[ne_eq,not_true_eq_false,if_false]
 rw[zDz,zFr (zL1 hl h),Nat.zero_add,zKl hl hn,if_neg (by omega)]
 simp
theorem zEa(h0:zAg l=0)(hc:zB3 e.kd=0)(h:e.kd≠2∧e.kd≠3):zAt (l ++ [e])=zAt l:=by
 unfold zAt
 rw[zAv,h0,hc,zCd,if_neg h.1,zBu,zC4 ⟨h.2,h.2⟩]
 simp
theorem zDs(h0:zAg l=0)(hc:zB3 e.kd=0)(h:e.kd≠3∧e.kd≠4∧e.kd≠5):zAj (l ++ [e])=zAj l:=by
 unfold zAj
 rw[zAv,h0,hc,zCd,if_neg h.1,zBu,zC4 h.2]
 simp
theorem zO8(hn:Nth l)(h:e.kd=2):zAt (l ++ [e])=((l.length+1:Nat):Int):=by
 unfold zAt
 rw[zAv,zCd,if_pos h,zBu,zC4 (by omega),hn.unended _ _ (by omega),show zB3 e.kd=0 by rw[h];rfl]
 simp
theorem zLn(hn:Nth l)(h:e.kd=3):zAj (l ++ [e])=((l.length+1:Nat):Int):=by
 unfold zAj
 rw[zAv,zCd,if_pos h,zBu,zC4 (by omega),hn.unended _ _ (by omega),show zB3 e.kd=0 by rw[h];rfl]
 simp
theorem zO9(h:e.kd=3)(ha:zAt l=e.rf)(hr:1≤e.rf):zAt (l ++ [e])=0:=by
 unfold zAt at ha ⊢
 split at ha
 · omega
 · rw[zCd,if_neg (show ¬e.kd=2 by omega),zBu,zFi (.inl h),ha]
   simp
theorem zGs(h:e.kd=4∨e.kd=5)(ha:zAj l=e.rf)(hr:1≤e.rf):zAj (l ++ [e])=0:=by
 unfold zAj at ha ⊢
 split at ha
 · omega
 · rw[zCd,if_neg (show ¬e.kd=3 by omega),zBu,zFi h,ha]
   simp
end
theorem Hs.prog{l:List Ev}(h:Hs l)(hl:l≠[]):zCr (prgL l).1 (prgL l).2:=by
 induction h with
 | nil=>exact absurd rfl hl
 | @snoc l e hs hc ih =>
   by_cases h0:l=[]
   · subst h0
     obtain⟨h1,-,-,h4,-⟩:=zA6 hc
     have hk:=h4 rfl
     obtain⟨lim,ss,hp⟩:=h1.2.2.2.2.2.2.2.1 hk
     show zCr (prgF e.dt).1 (prgF e.dt).2
     unfold prgF
     rw[hp]
     exact(zGm.1 hp).1
   · rw[zCw e h0];exact ih h0
theorem zNy{ss:List St}{n k:Int}(hn:0≤n):zB1 ss n k=(ss[n.toNat]?).filter (fun x=>decide (x.kd=k)):=by unfold zB1;rw[if_pos hn]
theorem zEe{ss:List St}{n k:Int}(hn:0≤n):zCy ss n k=(zB1 ss n k).isSome:=by
 rw[zNy hn]
 unfold zCy
 cases ss[n.toNat]? with
 | none=>rfl
 | some x=>by_cases h:x.kd=k <;> simp[Option.filter,h]
theorem zCj{ss:List St}{n k:Int}{x:St}(h:zB1 ss n k=some x):0≤n∧ss[n.toNat]?=some x∧x.kd=k:=by
 unfold zB1 at h
 split at h
 · rename_i h1
   cases hx:ss[n.toNat]? with
   | none=>rw[hx] at h;cases h
   | some y =>
     rw[hx] at h
     by_cases hk:y.kd=k
     · simp[Option.filter,hk] at h
       subst h
       exact⟨h1,rfl,hk⟩
     · simp[Option.filter,hk] at h
 · cases h
def JOK(l:List Ev):Prop:=∀j∈zAn l,∃x,zB1 (prgL l).2 j.sp 1=some x∧1≤j.ty∧j.ty≤zE0 x j.ud
theorem JOK.le{l:List Ev}(h:JOK l){j:Jb}(hj:j∈zAn l):1≤j.ty∧j.ty≤zBc (prgL l).2 j:=by
 obtain⟨x,h1,h2,h3⟩:=h j hj
 unfold zBc
 rw[h1]
 exact⟨h2,h3⟩
theorem zB5{k:Int}(h:k≤14):zB3 k=0:=by
 unfold zB3
 rw[if_neg (by omega),if_neg (by omega),if_neg (by omega),if_neg (by omega)]
theorem zGa{k:Int}(h:15≤k∧k≤18):zB3 k≠0:=by
 unfold zB3
 rcases(by omega:k=15∨k=16∨k=17∨k=18) with rfl | rfl | rfl | rfl <;> decide
theorem zH5{e:Ev}(h:EvP e)(hk:e.kd=3∨e.kd=4∨e.kd=5∨e.kd=11∨e.kd=7∨e.kd=8∨e.kd=9):1≤e.rf:=by
 obtain⟨-,-,-,h4,-⟩:=h
 have:evB e.kd=1∨evB e.kd=5:=by
  rcases hk with k | k | k | k | k | k | k <;> rw[k] <;> decide
 rw[if_pos this] at h4
 exact h4.1
theorem zFj{e:Ev}(h:EvP e):0≤e.sp:=by
 obtain⟨-,-,-,-,h5,-⟩:=h
 split at h5
 · exact h5.1
 · omega
theorem zC5{l:List Ev}(h:l≠[]):stOf l=⟨(prgL l).2,(prgL l).1,zAg l,l.length+1,zBo l,zAt l,zAj l,zB8 l,zAn l,zAi l,decide (zAy l 13≠0),decide (zAy l 14≠0)⟩:=by unfold stOf;rw[if_neg h]
theorem zIn{ss:List St}{n k:Int}{x:St}(h:zB1 ss n k=some x):zB2 ss n=x.un:=by
 obtain⟨-,h2,-⟩:=zCj h
 unfold zB2
 rw[List.getD_eq_getElem?_getD,h2];rfl
theorem zLq{ss:List St}{n k:Int}{x:St}(h:zB1 ss n k=some x):zIo ss n=x.wt:=by
 obtain⟨-,h2,-⟩:=zCj h
 unfold zIo
 rw[List.getD_eq_getElem?_getD,h2];rfl
section
variable {l : List Ev} {e : Ev}
theorem zIh(hl:l≠[]):stOf (l ++ [e])=⟨(prgL l).2,(prgL l).1,zB3 e.kd,l.length+1+1,zBo l,zAt (l ++ [e]),zAj (l ++ [e]),zB8 (l ++ [e]),zAn (l ++ [e]),zAi (l ++ [e]),decide (zAy (l ++ [e]) 13≠0),decide (zAy (l ++ [e]) 14≠0)⟩:=by
 rw[zC5 (by simp),zCw e hl,zN0 e hl,zAv]
 rw[List.length_append,List.length_singleton]
 rfl
theorem zC7(h:e.kd≠13):zAy (l ++ [e]) 13=zAy l 13:=by rw[zCd,if_neg h]
theorem zEj(h:e.kd≠14):zAy (l ++ [e]) 14=zAy l 14:=by rw[zCd,if_neg h]
theorem zJ2(hl:l≠[])(hn:Nth l)(h0:zAg l=0)(hP:EvP e)(hid:e.id=((l.length+1:Nat):Int))(hk:e.kd=2∨e.kd=3∨e.kd=4∨e.kd=5) :
 (zAu (stOf l) e).map (fun t=>({ t with next:=(stOf l).next+1 }:Sta))=if canF l e=true then some (stOf (l ++ [e])) else none:=by
 have hc:zB3 e.kd=0:=zB5 (by omega)
 have hj:=zCl hn h0 hc (e:=e) (by omega)
 have hcl:=zCa hl hn h0 hc (e:=e) (by omega)
 rw[if_neg (by omega),List.append_nil] at hj hcl
 have hfr:=zFk l e hc h0
 rw[zIh hl,zC5 hl,hj,hcl,zC7 (by omega),zEj (by omega),hc,hfr,h0]
 have n2:∀ {P:Prop},e.kd≠2→¬(e.kd=2∧P):=fun h q=>h q.1
 have n3:∀ {P:Prop},e.kd≠3→¬(e.kd=3∧P):=fun h q=>h q.1
 have n4:∀ {P:Prop},e.kd≠4→¬(e.kd=4∧P):=fun h q=>h q.1
 have n5:∀ {P:Prop},e.kd≠5→¬(e.kd=5∧P):=fun h q=>h q.1
 unfold zAu canF
 simp only
 rcases hk with k | k | k | k
 · rw [if_neg (show ¬e.kd=3 by omega),if_neg (n3 (by omega)),if_neg (n4 (by omega)),if_neg (n5 (by omega)),if_pos k]
   by_cases g:zAt l=0∧zAj l=0∧zB8 l=true
   · rw[if_pos ⟨k,g⟩,zO8 hn k,zDs h0 hc (by omega),g.1,g.2.1,g.2.2,hid]
     simp
     omega
   · rw[if_neg (fun q=>g q.2),if_neg]
     · rfl
     · simp only[Bool.and_eq_true,decide_eq_true_eq]
       exact fun q=>g ⟨q.1.1,q.1.2,q.2⟩
 · rw[if_neg (n2 (by omega)),if_neg (n4 (by omega)),if_neg (n5 (by omega)),if_neg (show ¬e.kd=2 by omega),if_pos k,if_pos k]
   by_cases g:zAt l=e.rf
   · rw[if_pos ⟨k,g⟩,if_pos (by simpa using g),zO9 k g (zH5 hP (by omega)),zLn hn k,hid]
     rfl
   · rw[if_neg (fun q=>g q.2),if_neg (by simpa using g)]
     rfl
 · rw[if_neg (n2 (by omega)),if_neg (n3 (by omega)),if_neg (n5 (by omega)),if_neg (show ¬e.kd=2 by omega),if_neg (show ¬e.kd=3 by omega),if_neg (show ¬e.kd=3 by omega),if_pos (show e.kd=4∨e.kd=5 from .inl k)]
   have hfb:zB7 e=false:=by unfold zB7;rw[decide_eq_false (by omega)]
   by_cases g:zAj l=e.rf
   · rw[if_pos ⟨k,g⟩,if_pos (by simpa using g),zGs (.inl k) g (zH5 hP (by omega)),zEa h0 hc (by omega),hfb,Bool.or_false]
     rfl
   · rw[if_neg (fun q=>g q.2),if_neg (by simpa using g)]
     rfl
 · rw[if_neg (n2 (by omega)),if_neg (n3 (by omega)),if_neg (n4 (by omega)),if_neg (show ¬e.kd=2 by omega),if_neg (show ¬e.kd=3 by omega),if_neg (show ¬e.kd=3 by omega),if_pos (show e.kd=4∨e.kd=5 from .inr k)]
   have hfb:zB7 e=true:=by unfold zB7;rw[decide_eq_true (by omega)]
   by_cases g:zAj l=e.rf
   · rw[if_pos ⟨k,g⟩,if_pos (by simpa using g),zGs (.inr k) g (zH5 hP (by omega)),zEa h0 hc (by omega),hfb,Bool.or_true]
     rfl
   · rw[if_neg (fun q=>g q.2),if_neg (by simpa using g)]
     rfl
theorem zP3(hl:l≠[])(hn:Nth l)(hj:JOK l)(h0:zAg l=0)(hP:EvP e)(hid:e.id=((l.length+1:Nat):Int))(hk:e.kd=6∨e.kd=7∨e.kd=8∨e.kd=9) :
 (zC2 (stOf l) e).map (fun t=>({ t with next:=(stOf l).next+1 }:Sta))=if canF l e=true then some (stOf (l ++ [e])) else none:=by
 have hc:zB3 e.kd=0:=zB5 (by omega)
 have hcl:=zCa hl hn h0 hc (e:=e) (by omega)
 rw[if_neg (by omega),List.append_nil] at hcl
 have hfr:=zFk l e hc h0
 rw[if_neg (by omega)] at hfr
 rw[zIh hl,zC5 hl,hcl,zC7 (by omega),zEj (by omega),hc,hfr,h0,zEa h0 hc (by omega),zDs h0 hc (by omega)]
 unfold zC2 canF
 simp only
 rw[if_neg (show ¬e.kd=2 by omega),if_neg (show ¬e.kd=3 by omega),if_neg (show ¬(e.kd=4∨e.kd=5) by omega)]
 by_cases k:e.kd=6
 · have hjk:=zCl hn h0 hc (e:=e) (by omega)
   rw[if_pos k] at hjk
   have hfb:zB7 e=false:=by unfold zB7;rw[decide_eq_false (by omega)]
   rw[if_pos k,if_pos k,hjk,hfb,Bool.or_false,zEe (zFj hP),hid]
   cases ha:zB1 (prgL l).2 e.sp 1 with
   | none=>simp
   | some x =>
     rw[zIn ha]
     simp only[Option.isSome_some,Bool.true_and]
     by_cases g:e.ud=true∧x.un=[]
     · rw[if_pos g,if_neg (by rw[g.1,g.2];simp)];rfl
     · rw[if_neg g,if_pos]
       · rfl
       · simp only[Bool.or_eq_true,Bool.not_eq_true',decide_eq_true_eq]
         by_cases hu:e.ud=true
         · exact .inr (fun q=>g ⟨hu,q⟩)
         · exact .inl (by simpa using hu)
 · rw [if_neg k,if_neg k,if_pos (show e.kd=7∨e.kd=8∨e.kd=9 by omega)]
   unfold zFs
   have hgi:(zAn l)[jobI (zAn l) e.rf e.ty]?=(zAn l).find? (fun j=>decide (j.id=e.rf)&&decide (j.ty=e.ty)):=zFv _ _
   rw[hgi]
   cases hf:(zAn l).find? (fun j=>decide (j.id=e.rf)&&decide (j.ty=e.ty)) with
   | none=>simp
   | some j =>
     have hm:=List.mem_of_find?_eq_some hf
     have hjp:=List.find?_some hf
     simp only[Bool.and_eq_true,decide_eq_true_eq] at hjp
     obtain⟨hj1,hj2⟩:=hjp
     obtain⟨-,hle⟩:=hj.le hm
     obtain⟨-,hpw⟩:=zGg l
     have hpk:∀x:Jb,(decide (x.id=e.rf)&&decide (x.ty=e.ty))=true→x.id=e.rf:=fun x hx=>by
      simp only[Bool.and_eq_true,decide_eq_true_eq] at hx
      exact hx.1
     simp only
     rcases(by omega:e.kd=8∨e.kd=7∨e.kd=9) with k8 | k79
     · have hfb:zB7 e=false:=by unfold zB7;rw[decide_eq_false (by omega)]
       rw[zGh hn h0 k8,← zQs Jb.id _ inc e.rf hpk _ hpw j hf,hfb,Bool.or_false]
       by_cases g:e.ty=zBc (prgL l).2 j
       · rw[if_neg (fun q=>q.2 g),if_neg (fun q=>by omega),if_neg]
         · rfl
         · simp only[Bool.or_eq_true,Bool.and_eq_true,decide_eq_true_eq];omega
       · rw[if_pos ⟨k8,g⟩,if_pos]
         · rfl
         · simp only[Bool.or_eq_true,Bool.and_eq_true,decide_eq_true_eq];omega
     · have hfb:zB7 e=true:=by unfold zB7;rw[decide_eq_true (by omega)]
       rw[zHq hn h0 k79,← zH4 Jb.id _ e.rf hpk _ hpw j hf,hfb,Bool.or_true,if_neg (fun q=>by omega)]
       by_cases g:e.kd=7∨(e.kd=9∧e.ty=zBc (prgL l).2 j)
       · rw[if_pos g,if_pos]
         · rfl
         · simp only[Bool.or_eq_true,Bool.and_eq_true,decide_eq_true_eq];omega
       · rw[if_neg g,if_neg]
         · rfl
         · simp only[Bool.or_eq_true,Bool.and_eq_true,decide_eq_true_eq];omega
theorem zOc(hl:l≠[])(hn:Nth l)(h0:zAg l=0)(hP:EvP e)(hid:e.id=((l.length+1:Nat):Int))(hk:e.kd=10∨e.kd=11) :
 (zDb (stOf l) e).map (fun t=>({ t with next:=(stOf l).next+1 }:Sta))=if canF l e=true then some (stOf (l ++ [e])) else none:=by
 have hc:zB3 e.kd=0:=zB5 (by omega)
 have hj:=zCl hn h0 hc (e:=e) (by omega)
 rw[if_neg (by omega),List.append_nil] at hj
 have hfr:=zFk l e hc h0
 rw[if_neg (by omega)] at hfr
 rw[zIh hl,zC5 hl,hj,zC7 (by omega),zEj (by omega),hc,hfr,h0,zEa h0 hc (by omega),zDs h0 hc (by omega)]
 unfold zDb canF
 simp only
 rw[if_neg (show ¬e.kd=2 by omega),if_neg (show ¬e.kd=3 by omega),if_neg (show ¬(e.kd=4∨e.kd=5) by omega),if_neg (show ¬e.kd=6 by omega),if_neg (show ¬(e.kd=7∨e.kd=8∨e.kd=9) by omega)]
 by_cases k:e.kd=10
 · have hck:=zCa hl hn h0 hc (e:=e) (by omega)
   rw[if_pos k] at hck
   have hfb:zB7 e=false:=by unfold zB7;rw[decide_eq_false (by omega)]
   rw[if_pos k,if_pos k,hck,hfb,Bool.or_false,zEe (zFj hP),hid]
   cases ha:zB1 (prgL l).2 e.sp 2 with
   | none=>simp
   | some x=>rw[zLq ha];rfl
 · have k11:e.kd=11:=by omega
   rw[if_neg k,if_neg k,if_pos k11]
   have hfb:zB7 e=true:=by unfold zB7;rw[decide_eq_true (by omega)]
   rw[hfb,Bool.or_true,zGw hl hn h0 k11]
   obtain⟨-,hpw⟩:=zEo l
   have hpk:∀x:Ck,(decide (x.id=e.rf)&&decide (x.tk≤e.tk))=true→x.id=e.rf:=fun x hx=>by
    simp only[Bool.and_eq_true,decide_eq_true_eq] at hx
    exact hx.1
   have hfe:=zM8 (fun x:Ck=>x.id) e.rf (fun x:Ck=>decide (x.tk≤e.tk)) _ hpw
   have hgi:(zAi l)[zE1 (zAi l) e.rf e.tk]?=(zAi l).find? (fun c=>decide (c.id=e.rf)&&decide (c.tk≤e.tk)):=zFv _ _
   unfold zH6
   by_cases g:zE1 (zAi l) e.rf e.tk<(zAi l).length
   · rw [if_pos g]
     rw[List.getElem?_eq_getElem g] at hgi
     rw[← hgi] at hfe
     have her:=zH4 Ck.id _ e.rf hpk _ hpw _ hgi.symm
     cases hf:(zAi l).find? (fun c=>decide (c.id=e.rf)) with
     | none=>rw[hf] at hfe;cases hfe
     | some c =>
       rw[hf] at hfe
       simp only
       by_cases hq:c.tk≤e.tk
       · rw[if_pos (show decide (c.tk≤e.tk)=true from decide_eq_true hq),← her]
         rfl
       · simp[Option.filter,hq] at hfe
   · rw[if_neg g]
     rw[List.getElem?_eq_none (by omega)] at hgi
     rw[← hgi] at hfe
     cases hf:(zAi l).find? (fun c=>decide (c.id=e.rf)) with
     | none=>rfl
     | some c =>
       rw[hf] at hfe
       simp only
       by_cases hq:c.tk≤e.tk
       · simp[Option.filter,hq] at hfe
       · rw[if_neg (show ¬decide (c.tk≤e.tk)=true by simpa using hq)];rfl
theorem zP2(hl:l≠[])(hn:Nth l)(h0:zAg l=0)(hP:EvP e)(hk:e.kd=1∨(12≤e.kd∧e.kd≤18)) :
 (zBw (stOf l) e).map (fun t=>({ t with next:=(stOf l).next+1 }:Sta))=if canF l e=true then some (stOf (l ++ [e])) else none:=by
 unfold zBw canF
 rw[if_neg (show ¬e.kd=2 by omega),if_neg (show ¬e.kd=3 by omega),if_neg (show ¬(e.kd=4∨e.kd=5) by omega),if_neg (show ¬e.kd=6 by omega),if_neg (show ¬(e.kd=7∨e.kd=8∨e.kd=9) by omega),if_neg (show ¬e.kd=10 by omega),if_neg (show ¬e.kd=11 by omega)]
 by_cases hs:e.kd≤14
 · have hc:zB3 e.kd=0:=zB5 hs
   have hj:=zCl hn h0 hc (e:=e) (by omega)
   rw[if_neg (by omega),List.append_nil] at hj
   have hcl:=zCa hl hn h0 hc (e:=e) (by omega)
   rw[if_neg (by omega),List.append_nil] at hcl
   have hfr:=zFk l e hc h0
   rw[if_neg (by omega)] at hfr
   rw[zIh hl,zC5 hl,hj,hcl,hc,hfr,h0,zEa h0 hc (by omega),zDs h0 hc (by omega)]
   simp only
   rw[if_neg (show ¬e.kd=18 by omega),if_neg (show ¬e.kd=15 by omega),if_neg (show ¬e.kd=16 by omega),if_neg (show ¬e.kd=17 by omega)]
   have hfb:zB7 e=true:=by unfold zB7;rw[decide_eq_true (by omega)]
   rw[hfb,Bool.or_true]
   rcases(by omega:e.kd=1∨e.kd=12∨e.kd=13∨e.kd=14) with k | k | k | k
   · rw[if_neg (show ¬e.kd=12 by omega),if_neg (show ¬e.kd=13 by omega),if_neg (show ¬e.kd=14 by omega),if_neg (show ¬(e.kd=12∨e.kd=18) by omega),if_neg (show ¬e.kd=13 by omega),if_neg (show ¬e.kd=14 by omega),if_neg (show ¬(e.kd=15∨e.kd=16∨e.kd=17) by omega)]
     rfl
   · rw[if_pos k,if_pos (show e.kd=12∨e.kd=18 from .inl k),zC7 (by omega),zEj (by omega)]
     rfl
   · rw[if_neg (show ¬e.kd=12 by omega),if_pos k,if_neg (show ¬(e.kd=12∨e.kd=18) by omega),if_pos k,zEj (by omega),zCd,if_pos k]
     by_cases g:zAy l 13=0
     · simp[g]
     · simp[g]
   · rw [if_neg (show ¬e.kd=12 by omega),if_neg (show ¬e.kd=13 by omega),if_pos k,if_neg (show ¬(e.kd=12∨e.kd=18) by omega),if_neg (show ¬e.kd=13 by omega),if_pos k,zC7 (by omega),zCd,if_pos k]
     by_cases g:zAy l 14=0∧(prgL l).1≠0∧zBo l+(prgL l).1≤e.tk
     · rw[if_neg (show ¬(decide (zAy l 14≠0)=true∨(prgL l).1=0∨e.tk<zBo l+(prgL l).1) by
        simp only[decide_eq_true_eq]
        rintro(q | q | q)
        · exact q g.1
        · exact g.2.1 q
        · have:=g.2.2;omega)]
       rw[if_pos (show(decide (zAy l 14=0)&&decide ((prgL l).1≠0)&&decide (zBo l+(prgL l).1≤e.tk))=true by
        simp only[Bool.and_eq_true,decide_eq_true_eq]
        exact⟨⟨g.1,g.2.1⟩,g.2.2⟩)]
       simp
     · rw [if_pos (show decide (zAy l 14≠0)=true∨(prgL l).1=0∨e.tk<zBo l+(prgL l).1 by
        by_cases a:zAy l 14=0
        · by_cases b:(prgL l).1=0
          · exact .inr (.inl b)
          · exact .inr (.inr (by have:=fun q=>g ⟨a,b,q⟩;omega))
        · exact .inl (by simpa using a))]
       rw[if_neg (show ¬(decide (zAy l 14=0)&&decide ((prgL l).1≠0)&&decide (zBo l+(prgL l).1≤e.tk))=true by
        simp only[Bool.and_eq_true,decide_eq_true_eq]
        exact fun q=>g ⟨q.1.1,q.1.2,q.2⟩)]
       rfl
 · have hc:zB3 e.kd≠0:=zGa (by have:=hP.1;omega)
   have hss:=zAv l e
   have ha:zAt (l ++ [e])=0:=by unfold zAt;rw[if_pos (.inr (by rw[hss];exact hc))]
   have ht:zAj (l ++ [e])=0:=by unfold zAj;rw[if_pos (.inr (by rw[hss];exact hc))]
   have hf:zB8 (l ++ [e])=false:=by unfold zB8;rw[if_pos (by rw[hss];exact hc)]
   have hj:zAn (l ++ [e])=[]:=by unfold zAn;rw[if_pos (by rw[hss];exact hc)]
   have hcl:zAi (l ++ [e])=[]:=by unfold zAi;rw[if_pos (by rw[hss];exact hc)]
   rw[zIh hl,zC5 hl,ha,ht,hf,hj,hcl,zC7 (by omega),zEj (by omega)]
   have hid:zIa ⟨(prgL l).2,(prgL l).1,zAg l,l.length+1,zBo l,zAt l,zAj l,zB8 l,zAn l,zAi l,decide (zAy l 13≠0),decide (zAy l 14≠0)⟩=(decide (zAt l=0)&&decide (zAj l=0)&&decide ((zAn l).length=0)):=by
    unfold zIa;rw[Bool.and_assoc]
   rw[hid]
   simp only
   rw[if_neg (show ¬e.kd=12 by omega),if_neg (show ¬e.kd=13 by omega),if_neg (show ¬e.kd=14 by omega),if_neg (show ¬e.kd=13 by omega),if_neg (show ¬e.kd=14 by omega)]
   obtain⟨h1,h2⟩:=hP.1
   rcases(by omega:e.kd=15∨e.kd=16∨e.kd=17∨e.kd=18) with k | k | k | k <;> rw[k]
   · generalize (decide (zAt l=0)&&decide (zAj l=0)&&decide ((zAn l).length=0))=B
     cases B <;> rfl
   · generalize (decide (zAt l=0)&&decide (zAj l=0)&&decide ((zAn l).length=0))=B
     cases B <;> rfl
   · generalize (decide (zAt l=0)&&decide (zAj l=0)&&decide ((zAn l).length=0))=B
     cases B <;> rfl
   · rfl
end
theorem zP1{l:List Ev}{e:Ev}(hl:l≠[])(hn:Nth l)(hj:JOK l)(h0:zAg l=0)(hP:EvP e)(hid:e.id=((l.length+1:Nat):Int)) :
 (zA1 (stOf l) e).map (fun t=>({ t with next:=(stOf l).next+1 }:Sta))=if canF l e=true then some (stOf (l ++ [e])) else none:=by
 have hk:=hP.1
 unfold zA1
 by_cases k1:e.kd=2∨e.kd=3∨e.kd=4∨e.kd=5
 · rw[if_pos k1];exact zJ2 hl hn h0 hP hid k1
 · rw[if_neg k1]
   by_cases k2:e.kd=6∨e.kd=7∨e.kd=8∨e.kd=9
   · rw[if_pos k2];exact zP3 hl hn hj h0 hP hid k2
   · rw[if_neg k2]
     by_cases k3:e.kd=10∨e.kd=11
     · rw[if_pos k3];exact zOc hl hn h0 hP hid k3
     · rw[if_neg k3];exact zP2 hl hn h0 hP (by omega)
theorem zS9{e:Ev}(hk:e.kd=1):stOf [e]=zM0 e:=by
 unfold stOf zM0
 rw[if_neg (by simp)]
 have h2:zAy [e] 2=0:=by unfold zAy;simp[zGj,hk]
 have h3:zAy [e] 3=0:=by unfold zAy;simp[zGj,hk]
 have h13:zAy [e] 13=0:=by unfold zAy;simp[zGj,hk]
 have h14:zAy [e] 14=0:=by unfold zAy;simp[zGj,hk]
 have hs:zAg [e]=0:=by unfold zAg;simp[hk,zB3]
 have ha:zAt [e]=0:=by unfold zAt;rw[h2];split <;> rfl
 have ht:zAj [e]=0:=by unfold zAj;rw[h3];split <;> rfl
 have hf:zB8 [e]=true:=by unfold zB8;rw[hs,h3];simp[zB7,hk]
 have hj:zAn [e]=[]:=by unfold zAn;rw[hs];simp[zCb,zCp,hk]
 have hc:zAi [e]=[]:=by unfold zAi;rw[hs];simp[zA8,zBl,hk]
 rw[hs,ha,ht,hf,hj,hc,h13,h14]
 rfl
theorem zIk{l:List Ev}(h:l≠[]):(stOf l).next=l.length+1:=by rw[zC5 h]
theorem zMp{l:List Ev}(h:l≠[]):(stOf l).status=zAg l:=by rw[zC5 h]
theorem zNw{l:List Ev}(hn:Nth l)(hj:JOK l)(e:Ev):zA0 (stOf l) e=if zA5 l e=0 then(stOf (l ++ [e]),0) else(s0,zA5 l e):=by
 unfold zA0 zA5
 by_cases hP:EvP e
 · rw [if_neg (not_not_intro hP),if_neg (not_not_intro hP)]
   by_cases hl:l=[]
   · subst hl
     rw[if_pos (show(stOf []).next=0 from rfl),if_pos rfl]
     by_cases hk:e.kd=1∧e.id=1
     · rw[if_pos hk,if_pos hk,if_pos rfl]
       rw[List.nil_append,zS9 hk.1]
     · rw[if_neg hk,if_neg hk,if_neg (by decide)]
   · rw [if_neg (show ¬(stOf l).next=0 by rw[zIk hl];omega),if_neg hl,zMp hl]
     by_cases h0:zAg l=0
     · rw [if_neg (not_not_intro h0),if_neg (not_not_intro h0),zIk hl]
       by_cases hid:e.id=l.length+1
       · have hid':e.id=((l.length+1:Nat):Int):=by rw[hid];rfl
         have hks:=zP1 hl hn hj h0 hP hid'
         rw[zIk hl] at hks
         rw[if_neg (not_not_intro hid)]
         by_cases hc:canF l e=true
         · rw[if_pos hc] at hks
           rw[if_pos (show(if e.id=(l.length:Int)+1∧canF l e=true then(0:Int) else 120)=0 by rw[if_pos ⟨hid,hc⟩])]
           cases hkf:zA1 (stOf l) e with
           | none=>rw[hkf] at hks;cases hks
           | some t =>
             rw[hkf] at hks
             simp only[Option.map_some,Option.some.injEq] at hks
             rw[← hks]
         · rw[if_neg hc] at hks
           rw[if_neg (show ¬(e.id=(l.length:Int)+1∧canF l e=true) from fun q=>hc q.2),if_neg (show ¬(120:Int)=0 by decide)]
           cases hkf:zA1 (stOf l) e with
           | none=>rfl
           | some t=>rw[hkf] at hks;cases hks
       · rw[if_pos hid,if_neg (show ¬(e.id=(l.length:Int)+1∧canF l e=true) from fun q=>hid q.1),if_neg (show ¬(120:Int)=0 by decide)]
     · rw[if_pos h0,if_pos h0,if_neg (by decide)]
 · rw[if_pos hP,if_pos hP,if_neg (by decide)]
theorem zLc{x:St}(h:zBg x)(hk:x.kd=1):zE4 x:=by
 rcases h with ⟨_,h⟩ | ⟨h,_⟩ | ⟨h,_⟩
 · exact h
 · omega
 · omega
theorem zMz{ss:List St}{n k:Int}{x:St}{lim:Int}(hp:zCr lim ss)(h:zB1 ss n k=some x):zBg x:=by
 obtain⟨-,h2,-⟩:=zCj h
 exact hp.2.2 x (List.mem_of_getElem? h2)
theorem zSq{l : List Ev}{e:Ev}(hs:Hs l)(hj:JOK l)(hc:zA5 l e=0):JOK (l ++ [e]):=by
 have hn:=hs.nth
 obtain⟨hP,hid,h0,h1,hcan⟩:=zA6 hc
 by_cases hl:l=[]
 · subst hl
   intro j hj
   have hk:=h1 rfl
   unfold zAn at hj
   rw[List.nil_append] at hj
   split at hj
   · cases hj
   · simp[zCb,zCp,hk] at hj
 · have hcan := hcan hl
   have hprg:=zCw e hl
   have hpp:=hs.prog hl
   by_cases h15:e.kd≤14
   · have hz := zB5 h15
     intro j hjm
     rw[hprg]
     rcases(by omega:e.kd=8∨(e.kd=7∨e.kd=9)∨(e.kd≠7∧e.kd≠8∧e.kd≠9)) with k | k | k
     · rw [zGh hn h0 k] at hjm
       obtain⟨j0,hm,hje⟩:=List.mem_map.1 hjm
       obtain⟨x,g1,g2,g3⟩:=hj j0 hm
       by_cases q:j0.id=e.rf
       · rw[if_pos q] at hje
         subst hje
         refine⟨x,g1,by show 1≤j0.ty+1;omega,?_⟩
         -- the try that was refused was not the last
         unfold canF at hcan
         rw[if_neg (show ¬e.kd=2 by omega),if_neg (show ¬e.kd=3 by omega),if_neg (show ¬(e.kd=4∨e.kd=5) by omega),if_neg (show ¬e.kd=6 by omega),if_pos (show e.kd=7∨e.kd=8∨e.kd=9 by omega)] at hcan
         unfold zFs at hcan
         cases hf:(zAn l).find? (fun j=>decide (j.id=e.rf)&&decide (j.ty=e.ty)) with
         | none=>rw[hf] at hcan;cases hcan
         | some j1 =>
           rw[hf] at hcan
           have hm1:=List.mem_of_find?_eq_some hf
           have hp1:=List.find?_some hf
           simp only[Bool.and_eq_true,decide_eq_true_eq] at hp1
           have heq:j1=j0:=zK9 (zGg l).2 hm1 hm (by rw[hp1.1,q])
           subst heq
           simp only[Bool.or_eq_true,Bool.and_eq_true,decide_eq_true_eq] at hcan
           have hlt:e.ty<zBc (prgL l).2 j1:=by omega
           unfold zBc at hlt
           rw[g1] at hlt
           show j1.ty+1≤zE0 x j1.ud
           simp only at hlt
           omega
       · rw[if_neg q] at hje
         subst hje
         exact⟨x,g1,g2,g3⟩
     · rw[zHq hn h0 k] at hjm
       exact hj j (List.mem_filter.1 hjm).1
     · rw [zCl hn h0 hz k] at hjm
       rcases List.mem_append.1 hjm with hm | hm
       · exact hj j hm
       · split at hm
         · rename_i k6
           simp only[List.mem_singleton] at hm
           subst hm
           unfold canF at hcan
           rw[if_neg (show ¬e.kd=2 by omega),if_neg (show ¬e.kd=3 by omega),if_neg (show ¬(e.kd=4∨e.kd=5) by omega),if_pos k6,zEe (zFj hP)] at hcan
           cases ha:zB1 (prgL l).2 e.sp 1 with
           | none=>rw[ha] at hcan;simp at hcan
           | some x =>
             rw[ha,zIn ha] at hcan
             simp only[Option.isSome_some,Bool.true_and,Bool.or_eq_true,Bool.not_eq_true',decide_eq_true_eq] at hcan
             have hr:=zLc (zMz hpp ha) (zCj ha).2.2
             refine⟨x,rfl,Int.le_refl 1,?_⟩
             show 1≤zE0 x e.ud
             unfold zE0
             split
             · rename_i hu
               rcases hcan with q | q
               · rw[hu] at q;cases q
               · rcases hr.1 with ⟨h,_⟩ | ⟨_,h,_⟩
                 · exact absurd h q
                 · exact h
             · exact hr.2.2.1.1
         · cases hm
   · intro j hjm
     have hz:=zGa (k:=e.kd) (by have:=hP.1;omega)
     unfold zAn at hjm
     rw[if_pos (by rw[zAv];exact hz)] at hjm
     cases hjm
theorem Hs.jok{l:List Ev}(h:Hs l):JOK l:=by
 induction h with
 | nil=>intro j hj;unfold zAn at hj;simp[zCb] at hj
 | snoc hs hc ih=>exact zSq hs ih hc
def COK(l:List Ev):Prop:=∀x∈l,x.kd=10→(zB1 (prgL l).2 x.sp 2).isSome=true
theorem Hs.cok{l:List Ev}(h:Hs l):COK l:=by
 induction h with
 | nil=>intro x hx;cases hx
 | @snoc l e hs hc ih =>
   obtain⟨hP,hid,h0,h1,hcan⟩:=zA6 hc
   intro x hx hk
   by_cases hl:l=[]
   · subst hl
     simp only[List.nil_append,List.mem_singleton] at hx
     subst hx
     have:=h1 rfl
     omega
   · rw[zCw e hl]
     rcases List.mem_append.1 hx with hm | hm
     · exact ih x hm hk
     · simp only[List.mem_singleton] at hm
       subst hm
       have hcan:=hcan hl
       unfold canF at hcan
       rw[if_neg (show ¬x.kd=2 by omega),if_neg (show ¬x.kd=3 by omega),if_neg (show ¬(x.kd=4∨x.kd=5) by omega),if_neg (show ¬x.kd=6 by omega),if_neg (show ¬(x.kd=7∨x.kd=8∨x.kd=9) by omega),if_pos hk,zEe (zFj hP)] at hcan
       exact hcan
theorem Hs.apply{l:List Ev}(h:Hs l)(e:Ev):zA0 (stOf l) e=if zA5 l e=0 then(stOf (l ++ [e]),0) else(s0,zA5 l e):=zNw h.nth h.jok e
theorem Hs.short{l:List Ev}(h:Hs l):l.length≤500:=by
 cases h with
 | nil=>simp
 | @snoc l e hs hc =>
   obtain⟨hP,hid,-⟩:=zA6 hc
   have:=hP.2.1
   rw[List.length_append,List.length_singleton]
   omega
def zA9:List Ev→List Ev→Option (Nat×Int)
 | _,[]=>none
 | p,x :: r=>if zA5 p x≠0 then some (p.length,zA5 p x) else zA9 (p ++ [x]) r
def zAm(l:List Ev):Sta×Int×Int:=match zA9 [] l with
 | some (i,e)=>(s0,i,e)
 | none=>(stOf l,0,0)
theorem zGe:∀(r p:List Ev),Hs p→zA9 p r=none→Hs (p++r)
 | [],p,h,_=>by simpa using h
 | x :: r,p,h,hn=>by
   simp only[zA9] at hn
   split at hn
   · cases hn
   · rename_i hc
     have:=zGe r (p ++ [x]) (.snoc h (Decidable.of_not_not hc)) hn
     rw[List.append_assoc,List.singleton_append] at this
     exact this
theorem Hs.take{l:List Ev}(h:Hs l):∀n,Hs (l.take n):=by
 induction h with
 | nil=>intro n;simp;exact .nil
 | @snoc l e hs hc ih =>
   intro n
   by_cases hn:n≤l.length
   · rw[List.take_append_of_le_length hn];exact ih n
   · rw[List.take_of_length_le (by simp;omega)];exact .snoc hs hc
end Go.Proofs.YtkedafopdkhnfaaGreat
