/- PLAIN: of each decision, try and timer of a history one end at most is there; behind an end there is nothing. PLAIN: what a program commands behind a history (the program's way), and which histories are its own. PLAIN: what holds of a history of its program: its steps go one behind the other, and are taken back in reverse. PLAIN: what holds of a history of its program goes on to hold with each event. PLAIN: what is under way ends. PLAIN: what is known at each point of a history of its program. PLAIN: what is known at each point of a history of its program (all of it). PLAIN: reading a history meets nothing that is out of bounds. PLAIN: what is done is a step's number. PLAIN: what play.Check finds. -/
import Derived.Test.YtkedafopdkhnfaaGreatSmP
namespace Go.Proofs.YtkedafopdkhnfaaGreat
open Go.RowKit
set_option linter.unusedVariables false
theorem zK1{L:List Ev}:∀(l:List Ev)(i:Nat){j:Jb},j∈zCb L i l→∃(n:Nat)(x:Ev),l[n]?=some x∧zCp L (i+n) x=some j
 | [],i,j,h=>by cases h
 | x :: r,i,j,h=>by
   simp only[zCb,List.mem_append] at h
   rcases h with h | h
   · exact⟨0,x,rfl,by simpa using h⟩
   · obtain⟨n,y,h1,h2⟩:=zK1 r (i+1) h
     exact⟨n+1,y,by simpa using h1,by rw[show i+(n+1)=i+1+n by omega];exact h2⟩
theorem zHz{L:List Ev}:∀(l:List Ev)(i:Nat){j:Ck},j∈zA8 L i l→∃(n:Nat)(x:Ev),l[n]?=some x∧zBl L (i+n) x=some j
 | [],i,j,h=>by cases h
 | x :: r,i,j,h=>by
   simp only[zA8,List.mem_append] at h
   rcases h with h | h
   · exact⟨0,x,rfl,by simpa using h⟩
   · obtain⟨n,y,h1,h2⟩:=zHz r (i+1) h
     exact⟨n+1,y,by simpa using h1,by rw[show i+(n+1)=i+1+n by omega];exact h2⟩
theorem zNh{l:List Ev}{j:Jb}(h:j∈zAn l):zAg l=0∧∃(n:Nat)(x:Ev),l[n]?=some x∧x.kd=6∧j=(((n+1:Nat):Int),x.sp,x.ud,1+(retF l (n+1:Nat):Int))∧zBy l (n+1:Nat) 7 9=false:=by
 unfold zAn at h
 split at h
 · cases h
 · rename_i h0
   obtain⟨n,x,h1,h2⟩:=zK1 l 0 h
   unfold zCp at h2
   rw[Nat.zero_add] at h2
   split at h2
   · rename_i h3
     injection h2 with h2
     exact⟨Decidable.of_not_not h0,n,x,h1,h3.1,h2.symm,h3.2⟩
   · cases h2
theorem zN4{l:List Ev}{j:Ck}(h:j∈zAi l):zAg l=0∧∃(n:Nat)(x:Ev),l[n]?=some x∧x.kd=10∧j=(((n+1:Nat):Int),x.sp,x.tk+zIo (prgL l).2 x.sp)∧zBy l (n+1:Nat) 11 11=false:=by
 unfold zAi at h
 split at h
 · cases h
 · rename_i h0
   obtain⟨n,x,h1,h2⟩:=zHz l 0 h
   unfold zBl at h2
   rw[Nat.zero_add] at h2
   split at h2
   · rename_i h3
     injection h2 with h2
     exact⟨Decidable.of_not_not h0,n,x,h1,h3.1,h2.symm,h3.2⟩
   · cases h2
theorem zHc{l:List Ev}(h:zAj l≠0):zBy l (zAj l) 4 5=false∧zAg l=0∧zAj l=zAy l 3:=by
 unfold zAj at h ⊢
 split at h
 · exact absurd rfl h
 · rename_i hc
   rw[if_neg hc]
   have h1:¬zBy l (zAy l 3) 4 5=true:=fun q=>hc (.inl q)
   have h2:¬zAg l≠0:=fun q=>hc (.inr q)
   exact⟨by simpa using h1,Decidable.of_not_not h2,rfl⟩
theorem zKi{l:List Ev}{e:Ev}(hc:canF l e=true)(hk:e.kd=4∨e.kd=5):zAj l=e.rf:=by
 unfold canF at hc
 rw[if_neg (by omega),if_neg (by omega),if_pos hk] at hc
 exact of_decide_eq_true hc
theorem zE6{l:List Ev}{e:Ev}(hc:canF l e=true)(hk:e.kd=7∨e.kd=8∨e.kd=9):∃j∈zAn l,j.id=e.rf∧j.ty=e.ty∧(e.kd=7∨(e.kd=8∧e.ty<zBc (prgL l).2 j)∨(e.kd=9∧e.ty=zBc (prgL l).2 j)):=by
 unfold canF at hc
 rw[if_neg (by omega),if_neg (by omega),if_neg (by omega),if_neg (by omega),if_pos hk] at hc
 unfold zFs at hc
 cases hf:(zAn l).find? (fun j=>decide (j.id=e.rf)&&decide (j.ty=e.ty)) with
 | none=>rw[hf] at hc;cases hc
 | some j =>
   rw[hf] at hc
   have h1:=List.find?_some hf
   simp only[Bool.and_eq_true,decide_eq_true_eq] at h1
   simp only[Bool.or_eq_true,Bool.and_eq_true,decide_eq_true_eq] at hc
   refine⟨j,List.mem_of_find?_eq_some hf,h1.1,h1.2,?_⟩
   rcases hc with (h | h) | h
   · exact .inl h
   · exact .inr (.inl h)
   · exact .inr (.inr h)
theorem zE5{l:List Ev}{e:Ev}(hc:canF l e=true)(hk:e.kd=11):∃j∈zAi l,j.id=e.rf:=by
 unfold canF at hc
 rw[if_neg (by omega),if_neg (by omega),if_neg (by omega),if_neg (by omega),if_neg (by omega),if_neg (by omega),if_pos hk] at hc
 unfold zH6 at hc
 cases hf:(zAi l).find? (fun c=>decide (c.id=e.rf)) with
 | none=>rw[hf] at hc;cases hc
 | some c =>
   have h1:=List.find?_some hf
   exact⟨c,List.mem_of_find?_eq_some hf,of_decide_eq_true h1⟩
theorem Hs.last{l:List Ev}{e:Ev}(h:Hs (l ++ [e])):Hs l∧zA5 l e=0:=by
 generalize hL:l ++ [e]=L at h
 cases h with
 | nil=>simp at hL
 | @snoc m f h1 h2 =>
   obtain⟨rfl,h3⟩:=List.append_inj' hL rfl
   injection h3 with h3
   subst h3
   exact⟨h1,h2⟩
theorem Hs.at{l:List Ev}(h:Hs l){k:Nat}(hk:k<l.length):Hs (l.take k)∧zA5 (l.take k) l[k]=0:=by
 have:=h.take (k+1)
 rw[List.take_succ_eq_append_getElem hk] at this
 exact this.last
abbrev Cmd:=Int×Int×Bool
structure Crs where
 went:List Int
 undone:List Int
 pl:Int→Int×Int
 done:List Int
 und:List Int
 sig:List UInt8→Int
 stop:Bool
 fl:Bool
 sk:Bool
def kdN(ss:List St)(i:Nat):Int:=(ss.getD i (0,[],[],0,0,0)).kd
def Crs.W(c:Crs)(i:Nat):Int:=c.went.getD i 0
def Crs.U(c:Crs)(i:Nat):Int:=c.undone.getD i 0
def updI(f:Int→Int×Int)(a:Int)(b:Int×Int):Int→Int×Int:=fun x=>if x=a then b else f x
def updS(f:List UInt8→Int)(a:List UInt8)(b:Int):List UInt8→Int:=fun x=>if x=a then b else f x
def crs0(n:Nat):Crs:=⟨List.replicate n 0,List.replicate n 0,fun _=>(0,0),[],[],fun _=>0,false,false,false⟩
def zAr(ss:List St)(c:Crs)(ref how:Int):Crs :=
 if(c.pl ref).2=1 then { c with undone:=c.undone.set (c.pl ref).1.toNat how,und:=if how=2 then c.und ++ [(c.pl ref).1] else c.und,sk:=c.sk||decide (how=3) }
 else { c with went:=c.went.set (c.pl ref).1.toNat how,done:=if how=2∧kdN ss (c.pl ref).1.toNat=1 then c.done ++ [(c.pl ref).1] else c.done,fl:=c.fl||decide (how=3) }
def zAc(ss:List St)(c:Crs)(e:Ev):Crs :=
 if e.kd=6∧e.ud=true then { c with undone:=c.undone.set e.sp.toNat 1,pl:=updI c.pl e.id (e.sp,1) }
 else if e.kd=6∨e.kd=10 then { c with went:=c.went.set e.sp.toNat 1,pl:=updI c.pl e.id (e.sp,0) }
 else if e.kd=7∨e.kd=11 then zAr ss c e.rf 2
 else if e.kd=9 then zAr ss c e.rf 3
 else if e.kd=12 then { c with sig:=updS c.sig e.dt (c.sig e.dt+1) }
 else if e.kd=13∨e.kd=14 then { c with stop:=true }
 else c
def crsF(l:List Ev):Crs:=l.foldl (zAc (prgL l).2) (crs0 (prgL l).2.length)
def fwdG(c:Crs):Nat→List St→(List UInt8→Int)→List Cmd×Bool
 | _,[],_=>([(3,0,false)],false)
 | i,s :: r,u =>
   if s.kd=3 then(if c.sig s.nm<u s.nm+1 then([],c.stop) else fwdG c (i+1) r (updS u s.nm (u s.nm+1)))
   else if s.kd=2∧c.W i=1 then([],c.stop)
   else if c.W i=1 then([],false)
   else if c.W i=3 then([],true)
   else if c.W i=2 then fwdG c (i+1) r u
   else if c.stop=true then([],true)
   else if s.kd=2 then([(2,(i:Int),false)],false)
   else([(1,(i:Int),false)],false)
def zC9(c:Crs):Bool:=c.undone.any (fun x=>decide (x≠0))
def fwdF(ss:List St)(c:Crs):List Cmd×Bool:=if zC9 c=true then([],true) else fwdG c 0 ss (fun _=>0)
def zB4(ss:List St)(c:Crs):List Int→List Cmd
 | []=>[(4,0,false)]
 | i :: r =>
   if zB2 ss i=[] then zB4 ss c r
   else if c.U i.toNat=0 then [(1,i,true)]
   else if c.U i.toNat=1 then []
   else if c.U i.toNat=3 then [(5,0,false)]
   else zB4 ss c r
def zC6(ss:List St)(c:Crs):List Cmd:=if(fwdF ss c).2=true then zB4 ss c c.done.reverse else(fwdF ss c).1
def zCg(l:List Ev):List Cmd×Int :=
 if zA9 [] l≠none∨l=[] then([],150) else if zAg l≠0 then([],182) else(zC6 (prgL l).2 (crsF l),0)
def zBa(e:Ev):Option Cmd :=
 if e.kd=6 then some (1,e.sp,e.ud) else if e.kd=10 then some (2,e.sp,false) else if e.kd=15 then some (3,0,false) else if e.kd=16 then some (4,0,false) else if e.kd=17 then some (5,0,false) else none
def chkG(L:List Ev):Nat→List Cmd→List Ev→Int×Int
 | _,want,[]=>if want≠[] then((L.length:Int),150) else(0,0)
 | i,want,e :: r =>
   match zBa e with
   | some c=>if want=[]∨want.head?≠some c then((i:Int),150) else chkG L (i+1) want.tail r
   | none=>if want≠[] then((i:Int),150) else chkG L (i+1) (if e.kd=4 then(zCg (L.take e.rf.toNat)).1 else []) r
def zBe(l:List Ev):Int×Int :=
 match zA9 [] l with
 | some (i,_)=>((i:Int),120)
 | none=>if l=[] then(0,120) else chkG l 0 [] l
inductive Cf:List Ev→List Cmd→Prop
 | nil:Cf [] []
 | told {l:List Ev} {e:Ev}:Cf l []→zA5 l e=0→zBa e=none→Cf (l ++ [e]) (if e.kd=4 then(zCg (l.take e.rf.toNat)).1 else [])
 | cmd {l:List Ev} {e:Ev} {c:Cmd} {r:List Cmd}:Cf l (c :: r)→zA5 l e=0→zBa e=some c→Cf (l ++ [e]) r
theorem Cf.hs{l:List Ev}{w:List Cmd}(h:Cf l w):Hs l:=by
 induction h with
 | nil=>exact .nil
 | told _ hc _ ih=>exact .snoc ih hc
 | cmd _ hc _ ih=>exact .snoc ih hc
/- small laws -/
theorem zJt(l:List Int)(i j:Nat)(v d:Int):(l.set i v).getD j d=if i=j∧j<l.length then v else l.getD j d:=by
 rw[List.getD_eq_getElem?_getD,List.getD_eq_getElem?_getD,List.getElem?_set]
 by_cases h:i=j
 · subst h
   by_cases h2:i<l.length
   · simp[h2]
   · simp[h2]
 · simp[h]
theorem zDh{l:List Ev}(e:Ev)(hl:l≠[]):crsF (l ++ [e])=zAc (prgL l).2 (crsF l) e:=by
 unfold crsF
 rw[zCw e hl,List.foldl_append]
 rfl
theorem zJo{e:Ev}(h:e.kd=1):crsF [e]=crs0 (prgL [e]).2.length:=by
 unfold crsF
 simp only[List.foldl_cons,List.foldl_nil]
 unfold zAc
 rw[if_neg (by omega),if_neg (by omega),if_neg (by omega),if_neg (by omega),if_neg (by omega),if_neg (by omega)]
theorem zH7:∀(r p:List Ev),Hs (p++r)→zA9 p r=none
 | [],p,_=>rfl
 | x :: r,p,h=>by
   have h1:=h.take (p.length+1)
   rw[List.take_append,List.take_of_length_le (by omega)] at h1
   rw[show p.length+1 - p.length=1 by omega] at h1
   simp only[List.take_succ_cons,List.take_zero] at h1
   simp only[zA9]
   rw[if_neg (not_not_intro h1.last.2)]
   refine zH7 r _ ?_
   rw[List.append_assoc];exact h
theorem zHh{l:List Ev}:zA9 [] l=none↔Hs l:=⟨fun h=>by simpa using zGe l [] .nil h,fun h=>zH7 l [] (by simpa using h)⟩
theorem zI6{l:List Ev}(h:Hs l)(hl:l≠[])(h0:zAg l=0):zCg l=(zC6 (prgL l).2 (crsF l),0):=by
 unfold zCg
 rw[zHh.2 h]
 rw[if_neg (by simp[hl]),if_neg (not_not_intro h0)]
def zBq(ss:List St)(done:List Int):List Int:=done.reverse.filter (fun i=>decide (zB2 ss i≠[]))
def zGy(ss:List St)(c:Crs)(n:Nat):List Nat:=(List.range n).filter (fun i=>decide (kdN ss i=1)&&decide (c.W i=2))
def zEd(ss:List St)(c:Crs):List Int:=(zGy ss c ss.length).map (fun i:Nat=>(i:Int))
def nmN(ss:List St)(i:Nat):List UInt8:=(ss.getD i (0,[],[],0,0,0)).nm
def cntS(ss:List St)(nm:List UInt8):Nat:=(ss.filter (fun x=>decide (x.kd=3)&&decide (x.nm=nm))).length
def Sat(ss:List St)(c:Crs)(i:Nat):Prop:=(cntS (ss.take (i+1)) (nmN ss i):Int)≤c.sig (nmN ss i)
def zV6(ss:List St)(c:Crs)(j:Jb)(i:Nat):Prop:=j.sp=(i:Int)∧i<ss.length∧kdN ss i=1∧c.pl j.id=(j.sp,if j.ud=true then 1 else 0)∧(if j.ud=true then c.U i=1 else c.W i=1)
def zV4(ss:List St)(c:Crs)(k:Ck)(i:Nat):Prop:=k.sp=(i:Int)∧i<ss.length∧kdN ss i=2∧c.pl k.id=(k.sp,0)∧c.W i=1
structure Inv (ss:List St) (c:Crs) (js:List Jb) (cs:List Ck):Prop where
 wl:c.went.length=ss.length
 ul:c.undone.length=ss.length
 seq:∀i j:Nat,i<j→kdN ss i≠3→c.W j≠0→c.W i=2
 sat:∀i j:Nat,i<j→kdN ss i=3→c.W j≠0→Sat ss c i
 val:∀i,c.W i=0∨c.W i=1∨c.W i=2∨c.W i=3
 valU:∀i,c.U i=0∨c.U i=1∨c.U i=2∨c.U i=3
 failW:∀i,c.W i=3→c.fl=true
 flW:c.fl=true→∃i,i<ss.length∧kdN ss i=1∧c.W i=3
 skU:c.sk=true↔∃i,c.U i=3
 job:∀j∈js,∃i,zV6 ss c j i
 uniq:js.Pairwise (fun a b=>¬(a.sp=b.sp∧a.ud=b.ud))
 clk:∀k∈cs,∃i,zV4 ss c k i
 uniqc:cs.Pairwise (fun a b=>a.sp≠b.sp)
 done:c.done=zEd ss c
 und:c.und <+: zBq ss c.done
 undU:∀i:Nat,(i:Int)∈c.und→c.U i=2
 uU:∀i:Nat,c.U i≠0→(i:Int)∈c.und∨((zBq ss c.done)[c.und.length]?=some (i:Int)∧(c.U i=1∨c.U i=3))
 turn:∀i,c.U i≠0→(c.stop=true∨c.fl=true)∧∀k,kdN ss k=1→c.W k≠1
/- lists -/
theorem zJ6{α:Type}{R:α→α→Prop}(hs:∀a b,R a b→R b a):∀ {l:List α},l.Pairwise R→∀ {a b:α},a∈l→b∈l→a≠b→R a b
 | [],_,a,b,ha,_,_=>by cases ha
 | x :: r,h,a,b,ha,hb,hne=>by
   obtain⟨h1,h2⟩:=List.pairwise_cons.1 h
   rcases List.mem_cons.1 ha with e1 | ha
   · rcases List.mem_cons.1 hb with e2 | hb
     · exact absurd (e1.trans e2.symm) hne
     · rw[e1];exact h1 b hb
   · rcases List.mem_cons.1 hb with e2 | hb
     · rw[e2];exact hs _ _ (h1 a ha)
     · exact zJ6 hs h2 ha hb hne
theorem zEc{ss:List St}{c c':Crs}(h:∀i,kdN ss i=1→(c'.W i=2↔c.W i=2))(n:Nat):zGy ss c' n=zGy ss c n:=by
 unfold zGy
 refine List.filter_congr (fun i _=>?_)
 by_cases k:kdN ss i=1
 · have:=h i k
   by_cases q:c.W i=2
   · simp[k,q,this.2 q]
   · have q':¬c'.W i=2:=fun z=>q (this.1 z)
     simp[k,q,q']
 · simp[k]
theorem zKp{ss:List St}{c c':Crs}{i:Nat}(hk:kdN ss i=1)(h0:c.W i≠2)(h1:c'.W i=2)(ho:∀k,k≠i→c'.W k=c.W k)(hg:∀k,i<k→c.W k≠2):∀n,i<n→zGy ss c' n=zGy ss c n ++ [i]
 | 0,h=>by omega
 | n + 1,h=>by
   unfold zGy
   rw[List.range_succ,List.filter_append,List.filter_append]
   by_cases e:n=i
   · subst e
     have:(List.range n).filter (fun i=>decide (kdN ss i=1)&&decide (c'.W i=2))=(List.range n).filter (fun i=>decide (kdN ss i=1)&&decide (c.W i=2)):=List.filter_congr (fun k hk'=>by
      rw[ho k (by have:=List.mem_range.1 hk';omega)])
     rw[this]
     have a:([n].filter fun i=>decide (kdN ss i=1)&&decide (c'.W i=2))=[n]:=by simp[hk,h1]
     have b:([n].filter fun i=>decide (kdN ss i=1)&&decide (c.W i=2))=[]:=by simp[h0]
     rw[a,b,List.append_nil]
   · have ih:=zKp hk h0 h1 ho hg n (by omega)
     unfold zGy at ih
     rw[ih]
     have hn:=hg n (by omega)
     have a:([n].filter fun i=>decide (kdN ss i=1)&&decide (c'.W i=2))=[]:=by simp[ho n e,hn]
     have b:([n].filter fun i=>decide (kdN ss i=1)&&decide (c.W i=2))=[]:=by simp[hn]
     rw[a,b,List.append_nil,List.append_nil]
theorem zR3{ss:List St}{c:Crs}{n i:Nat}(h:i∈zGy ss c n):i<n∧kdN ss i=1∧c.W i=2:=by
 unfold zGy at h
 rw[List.mem_filter] at h
 simp only[Bool.and_eq_true,decide_eq_true_eq,List.mem_range] at h
 exact⟨h.1,h.2.1,h.2.2⟩
theorem zL3(ss:List St)(c:Crs)(n:Nat):(zGy ss c n).Nodup:=List.Pairwise.filter _ List.nodup_range
section
variable {ss : List St} {c c' : Crs} {js : List Jb} {cs : List Ck}
theorem zKq(ss:List St)(c:Crs):(zEd ss c).Nodup:=by
 unfold zEd
 rw[List.nodup_iff_pairwise_ne,List.pairwise_map]
 exact(zL3 ss c ss.length).imp (fun h q=>h (by omega))
theorem Inv.done_at(h:Inv ss c js cs){x:Int}(hx:x∈c.done):∃i:Nat,x=(i:Int)∧i<ss.length∧kdN ss i=1∧c.W i=2:=by
 rw[h.done] at hx
 unfold zEd at hx
 obtain⟨i,hi,rfl⟩:=List.mem_map.1 hx
 obtain⟨a,b,d⟩:=zR3 hi
 exact⟨i,rfl,a,b,d⟩
theorem zOh(h:Inv ss c js cs):(zBq ss c.done).Nodup:=by
 unfold zBq
 refine List.Pairwise.filter _ ?_
 rw[List.pairwise_reverse,h.done]
 have:=zKq ss c
 rw[List.nodup_iff_pairwise_ne] at this
 exact this.imp (fun h=>h.symm)
theorem zJ4{x:Int}(hx:x∈zBq ss c.done):x∈c.done∧zB2 ss x≠[]:=by
 unfold zBq at hx
 rw[List.mem_filter] at hx
 exact⟨List.mem_reverse.1 hx.1,of_decide_eq_true hx.2⟩
theorem zQa{l:List Int}(h:l.Nodup){p q:Nat}{x:Int}(hp:l[p]?=some x)(hq:l[q]?=some x):p=q:=by
 obtain⟨h1,e1⟩:=List.getElem?_eq_some_iff.1 hp
 obtain⟨h2,e2⟩:=List.getElem?_eq_some_iff.1 hq
 exact(List.getElem_inj h).1 (e1.trans e2.symm)
theorem zG3{a b:List Int}(h:a <+: b){p:Nat}(hp:p<a.length):b[p]?=a[p]?:=by
 obtain⟨t,rfl⟩:=h
 rw[List.getElem?_append_left hp]
theorem Inv.owed_nat(h:Inv ss c js cs){p:Nat}{x:Int}(hx:(zBq ss c.done)[p]?=some x):∃i:Nat,x=(i:Int)∧i<ss.length∧kdN ss i=1∧c.W i=2∧zB2 ss x≠[]:=by
 obtain⟨h1,h2⟩:=zJ4 (List.mem_of_getElem? hx)
 obtain⟨i,a,b,d,e⟩:=h.done_at h1
 exact⟨i,a,b,d,e,h2⟩
theorem Inv.und_pos(h:Inv ss c js cs){p:Nat}{i:Nat}(hx:(zBq ss c.done)[p]?=some (i:Int)):c.U i=2↔p<c.und.length:=by
 constructor
 · intro hU
   rcases h.uU i (by omega) with hm | ⟨_,hq⟩
   · obtain⟨q,hq,he⟩:=List.getElem_of_mem hm
     have h2:=zG3 h.und hq
     rw[List.getElem?_eq_getElem hq,he] at h2
     have:=zQa (zOh h) hx h2
     omega
   · omega
 · intro hp
   have h2:=zG3 h.und hp
   rw[hx,List.getElem?_eq_getElem hp] at h2
   injection h2 with h2
   exact h.undU i (by rw[h2];exact List.getElem_mem hp)
end
/- what comes next -/
def Apt(ss:List St)(c:Crs)(js:List Jb)(w:List Cmd):Prop :=
 js=[]∧((∃n:Nat,w=[(1,(n:Int),false)]∧n<ss.length∧kdN ss n=1∧c.W n=0∧(∀m,m<n→kdN ss m≠3→c.W m=2)∧(∀m,m<n→kdN ss m=3→Sat ss c m)∧∀m,c.U m=0) ∨
  (∃n:Nat,w=[(2,(n:Int),false)]∧n<ss.length∧kdN ss n=2∧c.W n=0∧(∀m,m<n→kdN ss m≠3→c.W m=2)∧(∀m,m<n→kdN ss m=3→Sat ss c m)∧∀m,c.U m=0) ∨
  (∃n:Nat,w=[(1,(n:Int),true)]∧(zBq ss c.done)[c.und.length]?=some (n:Int)∧c.U n=0∧(c.stop=true∨c.fl=true)∧∀m,kdN ss m=1→c.W m≠1) ∨
  (w=[(3,0,false)]∧(∀m,m<ss.length→kdN ss m≠3→c.W m=2)∧∀m,c.U m=0) ∨
  (w=[(4,0,false)]∧c.und=zBq ss c.done∧(c.stop=true∨c.fl=true)∧∀m,c.U m≠3) ∨
  (w=[(5,0,false)]∧(∃m,c.U m=3)∧c.und.length<(zBq ss c.done).length∧(c.stop=true∨c.fl=true)))
theorem zVy(ss:List St){i:Nat}(pre:List St)(s:St)(r:List St)(h:ss=pre++s :: r)(hi:pre.length=i):kdN ss i=s.kd∧nmN ss i=s.nm∧i<ss.length∧ss.take (i+1)=ss.take i ++ [s]:=by
 subst h;subst hi
 refine⟨by unfold kdN;simp,by unfold nmN;simp,by simp,?_⟩
 rw[List.take_succ_eq_append_getElem (by simp)]
 simp
theorem zE7(l:List St)(s:St)(nm:List UInt8):cntS (l ++ [s]) nm=cntS l nm+if s.kd=3∧s.nm=nm then 1 else 0:=by
 unfold cntS
 rw[List.filter_append,List.length_append]
 by_cases h:s.kd=3∧s.nm=nm
 · simp[h.1,h.2]
 · rw[if_neg h]
   by_cases h1:s.kd=3
   · have:¬s.nm=nm:=fun q=>h ⟨h1,q⟩
     simp[h1,this]
   · simp[h1]
section
variable {ss : List St} {c : Crs} {js : List Jb} {cs : List Ck}
def zTq(ss:List St)(c:Crs)(x:List Cmd×Bool):Prop :=
 (x.2=true→x.1=[]∧(c.stop=true∨c.fl=true)∧∀m,kdN ss m=1→c.W m≠1) ∧
 (x.2=false→x.1≠[]→(∃n:Nat,x.1=[(1,(n:Int),false)]∧n<ss.length∧kdN ss n=1∧c.W n=0∧(∀m,m<n→kdN ss m≠3→c.W m=2)∧(∀m,m<n→kdN ss m=3→Sat ss c m)) ∨
  (∃n:Nat,x.1=[(2,(n:Int),false)]∧n<ss.length∧kdN ss n=2∧c.W n=0∧(∀m,m<n→kdN ss m≠3→c.W m=2)∧(∀m,m<n→kdN ss m=3→Sat ss c m)) ∨
  (x.1=[(3,0,false)]∧(∀m,m<ss.length→kdN ss m≠3→c.W m=2)))
theorem Inv.behind(h:Inv ss c js cs){i:Nat}(hk:kdN ss i≠3)(hw:c.W i≠2)(k:Nat)(hik:i<k):c.W k=0:=by
 by_cases q:c.W k=0
 · exact q
 · exact absurd (h.seq i k hik hk q) hw
theorem zPu(h : Inv ss c js cs)(hkd:∀x∈ss,x.kd=1∨x.kd=2∨x.kd=3):∀(r pre:List St)(i:Nat)(u:List UInt8→Int),ss=pre++r→pre.length=i→(∀nm,u nm=cntS (ss.take i) nm)→(∀m,m<i→kdN ss m≠3→c.W m=2)→(∀m,m<i→kdN ss m=3→Sat ss c m)→zTq ss c (fwdG c i r u)
 | [],pre,i,u,hss,hi,hu,h2,h3=>by
   simp only[fwdG]
   refine⟨fun q=>(by cases q),fun _ _=>.inr (.inr ⟨rfl,fun m hm=>h2 m ?_⟩)⟩
   rw[hss] at hm;simpa [hi] using hm
 | s :: r, pre,i,u,hss,hi,hu,h2,h3=>by
   obtain⟨ek,en,hlt,htk⟩:=zVy ss pre s r hss hi
   have hsk:=hkd s (by rw[hss];simp)
   have hstep:∀u':List UInt8→Int,(∀nm,u' nm=cntS (ss.take (i+1)) nm)→(kdN ss i≠3→c.W i=2)→(kdN ss i=3→Sat ss c i)→zTq ss c (fwdG c (i+1) r u'):=fun u' hu' ha hb=>by
    refine zPu h hkd r (pre ++ [s]) (i+1) u' (by rw[hss];simp) (by simp[hi]) hu' ?_ ?_
    · intro m hm hk
      by_cases e:m=i
      · subst e;exact ha hk
      · exact h2 m (by omega) hk
    · intro m hm hk
      by_cases e:m=i
      · subst e;exact hb hk
      · exact h3 m (by omega) hk
   have noAct:c.W i≠1∨kdN ss i≠1→(kdN ss i≠3→c.W i≠2)→(kdN ss i=3→¬Sat ss c i)→∀m,kdN ss m=1→c.W m≠1:=fun h1 h4 h5 m hm=>by
    rcases Nat.lt_trichotomy m i with q | q | q
    · have:=h2 m q (by omega);omega
    · subst q;rcases h1 with h1 | h1
      · exact h1
      · exact absurd hm h1
    · by_cases hk:kdN ss i=3
      · by_cases hz:c.W m=0
        · omega
        · exact absurd (h.sat i m q hk hz) (h5 hk)
      · have:=h.behind hk (h4 hk) m q;omega
   have hcnt:∀nm,(cntS (ss.take (i+1)) nm:Int)=u nm+if s.kd=3∧s.nm=nm then 1 else 0:=fun nm=>by
    rw[htk,zE7,hu nm];split <;> simp
   simp only[fwdG]
   by_cases k3:s.kd=3
   · rw[if_pos k3]
     have hsat:Sat ss c i↔¬c.sig s.nm<u s.nm+1:=by
      unfold Sat
      rw[en,hcnt,if_pos ⟨k3,rfl⟩];omega
     by_cases q:c.sig s.nm<u s.nm+1
     · rw[if_pos q]
       have hns:¬Sat ss c i:=fun z=>hsat.1 z q
       exact⟨fun z=>⟨rfl,.inl z,noAct (.inr (by omega)) (fun z=>by omega) (fun _=>hns)⟩,fun _ z=>absurd rfl z⟩
     · rw[if_neg q]
       refine hstep _ (fun nm=>?_) (fun z=>by omega) (fun _=>hsat.2 q)
       rw[hcnt]
       unfold updS
       by_cases e:nm=s.nm
       · subst e;rw[if_pos rfl,if_pos ⟨k3,rfl⟩]
       · rw[if_neg e,if_neg (fun z=>e z.2.symm)];omega
   · rw [if_neg k3]
     have hk3:kdN ss i≠3:=by omega
     have hu':∀nm,u nm=cntS (ss.take (i+1)) nm:=fun nm=>by rw[hcnt,if_neg (fun z=>k3 z.1)];omega
     by_cases q:s.kd=2∧c.W i=1
     · rw[if_pos q]
       exact⟨fun z=>⟨rfl,.inl z,noAct (.inr (by omega)) (fun _=>by omega) (fun z=>by omega)⟩,fun _ z=>absurd rfl z⟩
     · rw [if_neg q]
       by_cases w1:c.W i=1
       · rw[if_pos w1]
         exact⟨fun z=>(by cases z),fun _ z=>absurd rfl z⟩
       · rw [if_neg w1]
         by_cases w3:c.W i=3
         · rw[if_pos w3]
           exact⟨fun _=>⟨rfl,.inr (h.failW i w3),noAct (.inl w1) (fun _=>by omega) (fun z=>by omega)⟩,fun z=>by cases z⟩
         · rw [if_neg w3]
           by_cases w2:c.W i=2
           · rw[if_pos w2]
             exact hstep u hu' (fun _=>w2) (fun z=>by omega)
           · rw [if_neg w2]
             have w0:c.W i=0:=by rcases h.val i with z | z | z | z <;> first | exact z | exact absurd z (by assumption)
             by_cases hst:c.stop=true
             · rw[if_pos hst]
               exact⟨fun _=>⟨rfl,.inl hst,noAct (.inl w1) (fun _=>w2) (fun z=>by omega)⟩,fun z=>by cases z⟩
             · rw[if_neg hst]
               by_cases k2:s.kd=2
               · rw[if_pos k2]
                 exact⟨fun z=>(by cases z),fun _ _=>.inr (.inl ⟨i,rfl,hlt,by omega,w0,h2,h3⟩)⟩
               · rw[if_neg k2]
                 exact⟨fun z=>(by cases z),fun _ _=>.inl ⟨i,rfl,hlt,by omega,w0,h2,h3⟩⟩
theorem zJh(h:Inv ss c js cs):∀(r:List Int)(p:Nat),(zBq ss c.done).drop p=r.filter (fun i=>decide (zB2 ss i≠[]))→p≤c.und.length →
 zB4 ss c r=match (zBq ss c.done)[c.und.length]? with
  | none=>[(4,0,false)]
  | some x=>if c.U x.toNat=0 then [(1,x,true)] else if c.U x.toNat=1 then [] else [(5,0,false)]
 | [],p,hd,hp=>by
   simp only[zB4]
   rw[List.filter_nil,List.drop_eq_nil_iff] at hd
   rw[List.getElem?_eq_none (by omega)]
 | i :: r,p,hd,hp=>by
   simp only[zB4]
   by_cases hu:zB2 ss i=[]
   · rw[if_pos hu]
     refine zJh h r p ?_ hp
     rw[hd,List.filter_cons,if_neg (by simp[hu])]
   · rw[if_neg hu]
     rw[List.filter_cons,if_pos (by simp[hu])] at hd
     have hpi:(zBq ss c.done)[p]?=some i:=by
      have:=congrArg (fun l:List Int=>l[0]?) hd
      simpa using this
     obtain⟨n,rfl,-,-,-,-⟩:=h.owed_nat hpi
     have hpos:=h.und_pos hpi
     rw[Int.toNat_natCast]
     by_cases hlt:p<c.und.length
     · have hU:=hpos.2 hlt
       rw[if_neg (by omega),if_neg (by omega),if_neg (by omega)]
       refine zJh h r (p+1) ?_ (by omega)
       rw[← List.drop_drop,hd];rfl
     · have e:p=c.und.length:=by omega
       subst e
       rw[hpi]
       have hU:c.U n≠2:=fun z=>hlt (hpos.1 z)
       simp only[Int.toNat_natCast]
       rcases h.valU n with z | z | z | z
       · rw[if_pos z,if_pos z]
       · rw[if_neg (by omega),if_pos z,if_neg (by omega),if_pos z]
       · exact absurd z hU
       · rw[if_neg (by omega),if_neg (by omega),if_pos z,if_neg (by omega),if_neg (by omega)]
theorem zQ4(hul:c.undone.length=ss.length)(h:zC9 c=false)(m:Nat):c.U m=0:=by
 unfold Crs.U
 rw[List.getD_eq_getElem?_getD]
 cases hm:c.undone[m]? with
 | none=>rfl
 | some x =>
   have:=List.any_eq_false.1 h x (List.mem_of_getElem? hm)
   simpa using this
theorem zO0(h:zC9 c=true):∃m,c.U m≠0:=by
 obtain⟨x,hx,hq⟩:=List.any_eq_true.1 h
 obtain⟨m,hm,rfl⟩:=List.getElem_of_mem hx
 refine⟨m,?_⟩
 unfold Crs.U
 rw[List.getD_eq_getElem?_getD,List.getElem?_eq_getElem hm]
 simpa using hq
theorem zUc(h:Inv ss c js cs)(hkd:∀x∈ss,x.kd=1∨x.kd=2∨x.kd=3):zTq ss c (fwdF ss c)∧((fwdF ss c).2=false→∀m,c.U m=0):=by
 unfold fwdF
 by_cases ht:zC9 c=true
 · rw[if_pos ht]
   obtain⟨m,hm⟩:=zO0 ht
   exact⟨⟨fun _=>⟨rfl,h.turn m hm⟩,fun z=>(by cases z)⟩,fun z=>(by cases z)⟩
 · rw[if_neg ht]
   refine⟨zPu h hkd ss [] 0 _ rfl rfl (fun nm=>by simp[cntS]) (fun m hm=>by omega) (fun m hm=>by omega),fun _=>zQ4 h.ul (by simpa using ht)⟩
theorem zRt(h:Inv ss c js cs)(hkd:∀x∈ss,x.kd=1∨x.kd=2∨x.kd=3)(hne:zC6 ss c≠[]):Apt ss c js (zC6 ss c):=by
 obtain⟨⟨f1,f2⟩,f3⟩:=zUc h hkd
 have nojob:(∀m,kdN ss m=1→c.W m≠1)→(∀m,c.U m≠1)→js=[]:=fun a b=>by
  cases js with
  | nil=>rfl
  | cons j r =>
    obtain⟨i,-,-,hk,-,hq⟩:=h.job j (List.mem_cons_self ..)
    split at hq
    · exact absurd hq (b i)
    · exact absurd hq (a i hk)
 unfold zC6 at hne ⊢
 by_cases hb:(fwdF ss c).2=true
 · rw [if_pos hb] at hne ⊢
   obtain⟨-,g1,g2⟩:=f1 hb
   have hbe:=zJh h c.done.reverse 0 rfl (Nat.zero_le _)
   rw[hbe] at hne ⊢
   cases ho:(zBq ss c.done)[c.und.length]? with
   | none =>
     have hlen:=h.und.length_le
     have hl2:=List.getElem?_eq_none_iff.1 ho
     have hund:c.und=zBq ss c.done:=h.und.eq_of_length (by omega)
     have hU:∀m,c.U m≠1∧c.U m≠3:=fun m=>by
      by_cases z:c.U m=0
      · omega
      · rcases h.uU m z with q | ⟨q,-⟩
        · have:=h.undU m q;omega
        · rw[ho] at q;cases q
     exact⟨nojob g2 (fun m=>(hU m).1),.inr (.inr (.inr (.inr (.inl ⟨rfl,hund,g1,fun m=>(hU m).2⟩))))⟩
   | some x =>
     rw[ho] at hne
     simp only at hne ⊢
     obtain⟨n,rfl,-,-,-,-⟩:=h.owed_nat ho
     rw[Int.toNat_natCast] at hne ⊢
     have hoth:∀m,m≠n→c.U m=0∨c.U m=2:=fun m hmn=>by
      by_cases z:c.U m=0
      · exact .inl z
      · rcases h.uU m z with q | ⟨q,-⟩
        · exact .inr (h.undU m q)
        · rw[ho] at q;injection q with q;exact absurd (by omega) hmn
     have hjs:c.U n≠1→js=[]:=fun z=>nojob g2 (fun m=>by
      by_cases e:m=n
      · subst e;exact z
      · rcases hoth m e with q | q <;> omega)
     by_cases z0:c.U n=0
     · rw[if_pos z0]
       exact⟨hjs (by omega),.inr (.inr (.inl ⟨n,rfl,ho,z0,g1,g2⟩))⟩
     · rw[if_neg z0] at hne ⊢
       by_cases z1:c.U n=1
       · rw[if_pos z1] at hne;exact absurd rfl hne
       · rw[if_neg z1]
         have hn2:c.U n≠2:=fun z=>by have:=(h.und_pos ho).1 z;omega
         have z3:c.U n=3:=by rcases h.valU n with q | q | q | q <;> first | exact q | exact absurd q (by assumption)
         exact⟨hjs z1,.inr (.inr (.inr (.inr (.inr ⟨rfl,⟨n,z3⟩,(List.getElem?_eq_some_iff.1 ho).1,g1⟩))))⟩
 · have hb':(fwdF ss c).2=false:=by simpa using hb
   rw[if_neg hb] at hne ⊢
   have hU:=f3 hb'
   have hUU:∀m,c.U m≠1:=fun m=>by have:=hU m;omega
   rcases f2 hb' hne with ⟨n,e,a1,a2,a3,a4,a5⟩ | ⟨n,e,a1,a2,a3,a4,a5⟩ | ⟨e,a⟩
   · refine⟨nojob (fun m hm=>?_) hUU,.inl ⟨n,e,a1,a2,a3,a4,a5,hU⟩⟩
     rcases Nat.lt_trichotomy m n with q | q | q
     · have:=a4 m q (by omega);omega
     · subst q;omega
     · have:=h.behind (i:=n) (by omega) (by omega) m q;omega
   · refine⟨nojob (fun m hm=>?_) hUU,.inr (.inl ⟨n,e,a1,a2,a3,a4,a5,hU⟩)⟩
     rcases Nat.lt_trichotomy m n with q | q | q
     · have:=a4 m q (by omega);omega
     · subst q;omega
     · have:=h.behind (i:=n) (by omega) (by omega) m q;omega
   · refine⟨nojob (fun m hm=>?_) hUU,.inr (.inr (.inr (.inl ⟨e,a,hU⟩)))⟩
     by_cases q:m<ss.length
     · have:=a m q (by omega);omega
     · have:kdN ss m=0:=by unfold kdN;rw[List.getD_eq_getElem?_getD,List.getElem?_eq_none (by omega)];rfl
       omega
end
section
variable {ss : List St} {c c' : Crs} {js js' : List Jb} {cs cs' : List Ck}
theorem zO5{went:List Int}{i:Nat}{v:Int}(hi:i<went.length)(k:Nat):(went.set i v).getD k 0=if k=i then v else went.getD k 0:=by
 rw[zJt]
 by_cases h:i=k
 · subst h;rw[if_pos ⟨rfl,hi⟩,if_pos rfl]
 · rw[if_neg (fun q=>h q.1),if_neg (fun q=>h q.symm)]
theorem Inv.like(h:Inv ss c js cs)(hw:c'.went=c.went)(hu:c'.undone=c.undone)(hp:c'.pl=c.pl)(hd:c'.done=c.done)(hn:c'.und=c.und)(hs:∀nm,c.sig nm≤c'.sig nm)(hst:c.stop=true→c'.stop=true)(hf:c'.fl=c.fl)(hk:c'.sk=c.sk)
 (hj:∀j∈js',∃j0∈js,j.id=j0.id∧j.sp=j0.sp∧j.ud=j0.ud)(hju:js'.Pairwise (fun a b=>¬(a.sp=b.sp∧a.ud=b.ud)))(hc:∀k∈cs',k∈cs)(hcu:cs'.Pairwise (fun a b=>a.sp≠b.sp)):Inv ss c' js' cs':=by
 have hW:∀i,c'.W i=c.W i:=fun i=>by unfold Crs.W;rw[hw]
 have hU:∀i,c'.U i=c.U i:=fun i=>by unfold Crs.U;rw[hu]
 refine⟨by rw[hw];exact h.wl,by rw[hu];exact h.ul,?_,?_,?_,?_,?_,?_,?_,?_,hju,?_,hcu,?_,?_,?_,?_,?_⟩
 · intro i j;rw[hW,hW];exact h.seq i j
 · intro i j hij hk3;rw[hW];exact fun q=>Int.le_trans (h.sat i j hij hk3 q) (hs _)
 · intro i;rw[hW];exact h.val i
 · intro i;rw[hU];exact h.valU i
 · intro i;rw[hW,hf];exact h.failW i
 · intro q;rw[hf] at q;obtain⟨i,a,b,d⟩:=h.flW q;exact⟨i,a,b,by rw[hW];exact d⟩
 · rw[hk,h.skU];exact⟨fun⟨i,q⟩=>⟨i,by rw[hU];exact q⟩,fun⟨i,q⟩=>⟨i,by rw[← hU];exact q⟩⟩
 · intro j hj'
   obtain⟨j0,h0,e1,e2,e3⟩:=hj j hj'
   obtain⟨i,a1,a2,a3,a4,a5⟩:=h.job j0 h0
   exact⟨i,by rw[e2];exact a1,a2,a3,by rw[hp,e1,e2,e3];exact a4,by rw[e3,hU,hW];exact a5⟩
 · intro k hk'
   obtain⟨i,a1,a2,a3,a4,a5⟩:=h.clk k (hc k hk')
   exact⟨i,a1,a2,a3,by rw[hp];exact a4,by rw[hW];exact a5⟩
 · rw[hd,h.done];unfold zEd;rw[zEc (fun i _=>by rw[hW])]
 · rw[hn,hd];exact h.und
 · intro i;rw[hn,hU];exact h.undU i
 · intro i;rw[hU,hn,hd];exact h.uU i
 · intro i;rw[hU,hf]
   intro q
   obtain⟨a,b⟩:=h.turn i q
   exact⟨a.imp hst id,fun k hk=>by rw[hW];exact b k hk⟩
theorem Inv.plan(h:Inv ss c js cs){n:Nat}{id:Int}(hn:n<ss.length)(hk:kdN ss n≠3)(h0:c.W n=0)(hb:∀m,m<n→kdN ss m≠3→c.W m=2)(hbs:∀m,m<n→kdN ss m=3→Sat ss c m)(hU:∀m,c.U m=0)
 (hc':c' = { c with went:=c.went.set n 1,pl:=updI c.pl id ((n:Int),0) })
 (hj:∀j∈js',j∈js∧j.id≠id∨j.id=id∧j.sp=(n:Int)∧j.ud=false∧kdN ss n=1) (hju:js'.Pairwise (fun a b=>¬(a.sp=b.sp∧a.ud=b.ud)))
 (hk':∀k∈cs',k∈cs∧k.id≠id∨k.id=id∧k.sp=(n:Int)∧kdN ss n=2) (hcu:cs'.Pairwise (fun a b=>a.sp≠b.sp)):Inv ss c' js' cs':=by
 have hW:∀k,c'.W k=if k=n then 1 else c.W k:=fun k=>by rw[hc'];exact zO5 (by rw[h.wl];exact hn) k
 have hU':∀k,c'.U k=c.U k:=fun k=>by rw[hc'];rfl
 have hd:c'.done=c.done:=by rw[hc']
 have hund:c'.und=c.und:=by rw[hc']
 have hpl:∀x,x≠id→c'.pl x=c.pl x:=fun x q=>by rw[hc'];show updI _ _ _ x=_;unfold updI;rw[if_neg q]
 have hpn:c'.pl id=((n:Int),0):=by rw[hc'];show updI _ _ _ id=_;unfold updI;rw[if_pos rfl]
 have hbeh:∀m,n<m→c.W m=0:=h.behind hk (by omega)
 refine⟨by rw[hc'];simpa using h.wl,by rw[hc'];exact h.ul,?_,?_,?_,?_,?_,?_,?_,?_,hju,?_,hcu,?_,?_,?_,?_,?_⟩
 · intro i j hij hk3 hj0
   rw[hW] at hj0 ⊢
   by_cases e:j=n
   · subst e;rw[if_neg (by omega)];exact hb i hij hk3
   · rw[if_neg e] at hj0
     have:=h.seq i j hij hk3 hj0
     by_cases e2:i=n
     · subst e2;omega
     · rw[if_neg e2];exact this
 · intro i j hij hk3 hj0
   rw[hW] at hj0
   have hs:Sat ss c' i↔Sat ss c i:=by rw[hc'];rfl
   rw[hs]
   by_cases e:j=n
   · subst e;exact hbs i hij hk3
   · rw[if_neg e] at hj0;exact h.sat i j hij hk3 hj0
 · intro i;rw[hW];split
   · exact .inr (.inl rfl)
   · exact h.val i
 · intro i;rw[hU'];exact h.valU i
 · intro i;rw[hW,hc'];split
   · intro q;omega
   · exact h.failW i
 · intro q;rw[hc'] at q
   obtain⟨i,a,b,d⟩:=h.flW q
   refine⟨i,a,b,?_⟩
   rw[hW,if_neg (fun z=>by subst z;omega)];exact d
 · rw[show c'.sk=c.sk by rw[hc'],h.skU];exact⟨fun⟨i,q⟩=>⟨i,by rw[hU'];exact q⟩,fun⟨i,q⟩=>⟨i,by rw[← hU'];exact q⟩⟩
 · intro j hj'
   rcases hj j hj' with ⟨h1,h2⟩ | ⟨h1,h2,h3,h4⟩
   · obtain⟨i,a1,a2,a3,a4,a5⟩:=h.job j h1
     refine⟨i,a1,a2,a3,by rw[hpl _ h2];exact a4,?_⟩
     split at a5
     · rename_i hq;rw[if_pos hq,hU'];exact a5
     · rename_i hq;rw[if_neg hq,hW,if_neg (fun z=>by subst z;omega)];exact a5
   · exact⟨n,h2,hn,h4,by rw[h1,hpn,h2,h3];rfl,by rw[h3,if_neg (by simp),hW,if_pos rfl]⟩
 · intro k hkk
   rcases hk' k hkk with ⟨h1,h2⟩ | ⟨h1,h2,h4⟩
   · obtain⟨i,a1,a2,a3,a4,a5⟩:=h.clk k h1
     exact⟨i,a1,a2,a3,by rw[hpl _ h2];exact a4,by rw[hW,if_neg (fun z=>by subst z;omega)];exact a5⟩
   · exact⟨n,h2,hn,h4,by rw[h1,hpn,h2],by rw[hW,if_pos rfl]⟩
 · rw[hd,h.done];unfold zEd;rw[zEc (fun i _=>by
    rw[hW];split
    · rename_i e;subst e;omega
    · exact Iff.rfl)]
 · rw[hund,hd];exact h.und
 · intro i;rw[hund,hU'];exact h.undU i
 · intro i;rw[hU',hund,hd];exact h.uU i
 · intro i;rw[hU'];intro q;exact absurd (hU i) q
theorem Inv.undo(h:Inv ss c js cs){n:Nat}{id:Int}(hn:(zBq ss c.done)[c.und.length]?=some (n:Int))(h0:c.U n=0)(hst:c.stop=true∨c.fl=true)(hna:∀m,kdN ss m=1→c.W m≠1)
 (hc':c' = { c with undone:=c.undone.set n 1,pl:=updI c.pl id ((n:Int),1) })
 (hj:∀j∈js',j∈js∧j.id≠id∨j.id=id∧j.sp=(n:Int)∧j.ud=true) (hju:js'.Pairwise (fun a b=>¬(a.sp=b.sp∧a.ud=b.ud)))
 (hk':∀k∈cs',k∈cs∧k.id≠id) (hcu:cs'.Pairwise (fun a b=>a.sp≠b.sp)):Inv ss c' js' cs':=by
 obtain⟨n',e,hn1,hk1,-,-⟩:=h.owed_nat hn
 obtain rfl:n=n':=by omega
 have hU:∀k,c'.U k=if k=n then 1 else c.U k:=fun k=>by rw[hc'];exact zO5 (by rw[h.ul];exact hn1) k
 have hW:∀k,c'.W k=c.W k:=fun k=>by rw[hc'];rfl
 have hd:c'.done=c.done:=by rw[hc']
 have hund:c'.und=c.und:=by rw[hc']
 have hpl:∀x,x≠id→c'.pl x=c.pl x:=fun x q=>by rw[hc'];show updI _ _ _ x=_;unfold updI;rw[if_neg q]
 have hpn:c'.pl id=((n:Int),1):=by rw[hc'];show updI _ _ _ id=_;unfold updI;rw[if_pos rfl]
 refine⟨by rw[hc'];exact h.wl,by rw[hc'];simpa using h.ul,?_,?_,?_,?_,?_,?_,?_,?_,hju,?_,hcu,?_,?_,?_,?_,?_⟩
 · intro i j;rw[hW,hW];exact h.seq i j
 · intro i j;rw[hW];intro a b d;have:=h.sat i j a b d;rw[hc'];exact this
 · intro i;rw[hW];exact h.val i
 · intro i;rw[hU];split
   · exact .inr (.inl rfl)
   · exact h.valU i
 · intro i;rw[hW,hc'];exact h.failW i
 · intro q;rw[hc'] at q;obtain⟨i,a,b,d⟩:=h.flW q;exact⟨i,a,b,by rw[hW];exact d⟩
 · rw[show c'.sk=c.sk by rw[hc'],h.skU]
   constructor
   · rintro⟨i,q⟩
     exact⟨i,by rw[hU,if_neg (fun z=>by subst z;omega)];exact q⟩
   · rintro⟨i,q⟩
     rw[hU] at q
     split at q
     · omega
     · exact⟨i,q⟩
 · intro j hj'
   rcases hj j hj' with ⟨h1,h2⟩ | ⟨h1,h2,h3⟩
   · obtain⟨i,a1,a2,a3,a4,a5⟩:=h.job j h1
     refine⟨i,a1,a2,a3,by rw[hpl _ h2];exact a4,?_⟩
     split at a5
     · rename_i hq;rw[if_pos hq,hU,if_neg (fun z=>by subst z;omega)];exact a5
     · rename_i hq;rw[if_neg hq,hW];exact a5
   · exact⟨n,h2,hn1,hk1,by rw[h1,hpn,h2,h3];rfl,by rw[h3,if_pos rfl,hU,if_pos rfl]⟩
 · intro k hkk
   obtain⟨h1,h2⟩:=hk' k hkk
   obtain⟨i,a1,a2,a3,a4,a5⟩:=h.clk k h1
   exact⟨i,a1,a2,a3,by rw[hpl _ h2];exact a4,by rw[hW];exact a5⟩
 · rw[hd,h.done];unfold zEd;rw[zEc (fun i _=>by rw[hW])]
 · rw[hund,hd];exact h.und
 · intro i;rw[hund,hU];intro q
   have:=h.undU i q
   rw[if_neg (fun z=>by subst z;omega)];exact this
 · intro i;rw[hU,hund,hd];intro q
   by_cases e:i=n
   · subst e;rw[if_pos rfl];exact .inr ⟨hn,.inl rfl⟩
   · rw[if_neg e] at q ⊢;exact h.uU i q
 · intro i _;rw[hc'];exact⟨hst,fun k hk=>hna k hk⟩
end
section
variable {ss : List St} {c c' : Crs} {js js' : List Jb} {cs cs' : List Ck}
theorem Inv.und_nil(h:Inv ss c js cs)(hU:∀m,c.U m=0):c.und=[]:=by
 cases hq:c.und with
 | nil=>rfl
 | cons x r =>
   have h0:c.und[0]?=some x:=by rw[hq];rfl
   have h1:(zBq ss c.done)[0]?=some x:=by rw[zG3 h.und (by rw[hq];simp),h0]
   obtain⟨n,rfl,-⟩:=h.owed_nat h1
   have:=h.undU n (by rw[hq];simp)
   have:=hU n
   omega
theorem Inv.endW(h:Inv ss c js cs){n:Nat}{v:Int}(hv:v=2∨v=3)(hn:n<ss.length)(hk:kdN ss n≠3)(h1:c.W n=1)(hv3:v=3→kdN ss n=1)
 (hc':c' = { c with went:=c.went.set n v,done:=if v=2∧kdN ss n=1 then c.done ++ [(n:Int)] else c.done,fl:=c.fl||decide (v=3) })
 (hj:∀j∈js',j∈js∧¬(j.sp=(n:Int)∧j.ud=false)) (hju:js'.Pairwise (fun a b=>¬(a.sp=b.sp∧a.ud=b.ud)))
 (hk':∀k∈cs',k∈cs∧k.sp≠(n:Int)) (hcu:cs'.Pairwise (fun a b=>a.sp≠b.sp)):Inv ss c' js' cs':=by
 have hW:∀k,c'.W k=if k=n then v else c.W k:=fun k=>by rw[hc'];exact zO5 (by rw[h.wl];exact hn) k
 have hU:∀k,c'.U k=c.U k:=fun k=>by rw[hc'];rfl
 have hbeh:∀m,n<m→c.W m=0:=h.behind hk (by omega)
 have hund:c'.und=c.und:=by rw[hc']
 have hfl:c'.fl=(c.fl||decide (v=3)):=by rw[hc']
 have hU0:kdN ss n=1→∀m,c.U m=0:=fun q m=>by
  by_cases z:c.U m=0
  · exact z
  · exact absurd h1 ((h.turn m z).2 n q)
 refine⟨by rw[hc'];simpa using h.wl,by rw[hc'];exact h.ul,?_,?_,?_,?_,?_,?_,?_,?_,hju,?_,hcu,?_,?_,?_,?_,?_⟩
 · intro i j hij hk3 hj0
   have hj1:c.W j≠0:=by
    rw[hW] at hj0
    by_cases e:j=n
    · subst e;omega
    · rw[if_neg e] at hj0;exact hj0
   have:=h.seq i j hij hk3 hj1
   rw[hW,if_neg (fun z=>by subst z;omega)];exact this
 · intro i j hij hk3 hj0
   have hj1:c.W j≠0:=by
    rw[hW] at hj0
    by_cases e:j=n
    · subst e;omega
    · rw[if_neg e] at hj0;exact hj0
   have:=h.sat i j hij hk3 hj1
   rw[hc'];exact this
 · intro i;rw[hW];split
   · rcases hv with q | q
     · exact .inr (.inr (.inl q))
     · exact .inr (.inr (.inr q))
   · exact h.val i
 · intro i;rw[hU];exact h.valU i
 · intro i;rw[hW,hfl];split
   · intro q;simp[q]
   · intro q;simp[h.failW i q]
 · intro q
   rw[hfl] at q
   by_cases e:v=3
   · exact⟨n,hn,hv3 e,by rw[hW,if_pos rfl];exact e⟩
   · obtain⟨i,a,b,d⟩:=h.flW (by simpa [e] using q)
     exact⟨i,a,b,by rw[hW,if_neg (fun z=>by subst z;omega)];exact d⟩
 · rw[show c'.sk=c.sk by rw[hc'],h.skU];exact⟨fun⟨i,q⟩=>⟨i,by rw[hU];exact q⟩,fun⟨i,q⟩=>⟨i,by rw[← hU];exact q⟩⟩
 · intro j hj'
   obtain⟨h1',h2⟩:=hj j hj'
   obtain⟨i,a1,a2,a3,a4,a5⟩:=h.job j h1'
   refine⟨i,a1,a2,a3,by rw[hc'];exact a4,?_⟩
   split at a5
   · rename_i hq;rw[if_pos hq,hU];exact a5
   · rename_i hq
     rw[if_neg hq,hW,if_neg (fun z=>h2 ⟨by rw[a1,z],by simpa using hq⟩)];exact a5
 · intro k hkk
   obtain⟨h1',h2⟩:=hk' k hkk
   obtain⟨i,a1,a2,a3,a4,a5⟩:=h.clk k h1'
   exact⟨i,a1,a2,a3,by rw[hc'];exact a4,by rw[hW,if_neg (fun z=>h2 (by rw[a1,z]))];exact a5⟩
 · by_cases e:v=2∧kdN ss n=1
   · have:c'.done=c.done ++ [(n:Int)]:=by rw[hc'];exact if_pos e
     rw[this,h.done]
     unfold zEd
     rw[zKp (c:=c) (c':=c') e.2 (by omega) (by rw[hW,if_pos rfl];exact e.1) (fun k q=>by rw[hW,if_neg q]) (fun k q=>by rw[hbeh k q];omega) ss.length hn,List.map_append]
     rfl
   · have:c'.done=c.done:=by rw[hc'];exact if_neg e
     rw[this,h.done]
     unfold zEd
     rw [zEc (fun i hi=>by
      rw[hW];split
      · rename_i q;subst q
        have:v≠2:=fun z=>e ⟨z,hi⟩
        omega
      · exact Iff.rfl)]
 · rw[hund]
   by_cases e:v=2∧kdN ss n=1
   · rw[h.und_nil (hU0 e.2)];exact List.nil_prefix
   · have:c'.done=c.done:=by rw[hc'];exact if_neg e
     rw[this];exact h.und
 · intro i;rw[hund,hU];exact h.undU i
 · intro i;rw[hU,hund];intro q
   by_cases e:v=2∧kdN ss n=1
   · exact absurd (hU0 e.2 i) q
   · have:c'.done=c.done:=by rw[hc'];exact if_neg e
     rw[this];exact h.uU i q
 · intro i;rw[hU,hfl];intro q
   obtain⟨a,b⟩:=h.turn i q
   refine⟨a.imp (fun z=>by rw[hc'];exact z) (fun z=>by simp[z]),fun k hk=>?_⟩
   rw[hW];split
   · omega
   · exact b k hk
theorem Inv.endU(h:Inv ss c js cs){n:Nat}{v:Int}(hv:v=2∨v=3)(h1:c.U n=1)
 (hc':c' = { c with undone:=c.undone.set n v,und:=if v=2 then c.und ++ [(n:Int)] else c.und,sk:=c.sk||decide (v=3) })
 (hj:∀j∈js',j∈js∧¬(j.sp=(n:Int)∧j.ud=true)) (hju:js'.Pairwise (fun a b=>¬(a.sp=b.sp∧a.ud=b.ud)))
 (hk':∀k∈cs',k∈cs) (hcu:cs'.Pairwise (fun a b=>a.sp≠b.sp)):Inv ss c' js' cs':=by
 have hnu:(n:Int)∉c.und:=fun q=>by have:=h.undU n q;omega
 have ho:(zBq ss c.done)[c.und.length]?=some (n:Int):=by
  rcases h.uU n (by omega) with q | q
  · exact absurd q hnu
  · exact q.1
 obtain⟨n',e,hn1,hk1,-,-⟩:=h.owed_nat ho
 obtain rfl:n=n':=by omega
 have hU:∀k,c'.U k=if k=n then v else c.U k:=fun k=>by rw[hc'];exact zO5 (by rw[h.ul];exact hn1) k
 have hW:∀k,c'.W k=c.W k:=fun k=>by rw[hc'];rfl
 have hd:c'.done=c.done:=by rw[hc']
 have hund:c'.und=if v=2 then c.und ++ [(n:Int)] else c.und:=by rw[hc']
 have hsk:c'.sk=(c.sk||decide (v=3)):=by rw[hc']
 have hoth:∀m,m≠n→c.U m=0∨(m:Int)∈c.und:=fun m hm=>by
  by_cases z:c.U m=0
  · exact .inl z
  · rcases h.uU m z with q | ⟨q,-⟩
    · exact .inr q
    · rw[ho] at q;injection q with q;exact absurd (by omega) hm
 refine⟨by rw[hc'];exact h.wl,by rw[hc'];simpa using h.ul,?_,?_,?_,?_,?_,?_,?_,?_,hju,?_,hcu,?_,?_,?_,?_,?_⟩
 · intro i j;rw[hW,hW];exact h.seq i j
 · intro i j;rw[hW];intro a b d;have:=h.sat i j a b d;rw[hc'];exact this
 · intro i;rw[hW];exact h.val i
 · intro i;rw[hU];split
   · rcases hv with q | q
     · exact .inr (.inr (.inl q))
     · exact .inr (.inr (.inr q))
   · exact h.valU i
 · intro i;rw[hW,hc'];exact h.failW i
 · intro q;rw[hc'] at q;obtain⟨i,a,b,d⟩:=h.flW q;exact⟨i,a,b,by rw[hW];exact d⟩
 · rw [hsk]
   constructor
   · intro q
     by_cases e:v=3
     · exact⟨n,by rw[hU,if_pos rfl];exact e⟩
     · obtain⟨i,z⟩:=h.skU.1 (by simpa [e] using q)
       exact⟨i,by rw[hU,if_neg (fun y=>by subst y;omega)];exact z⟩
   · rintro⟨i,q⟩
     rw[hU] at q
     split at q
     · simp[q]
     · simp[h.skU.2 ⟨i,q⟩]
 · intro j hj'
   obtain⟨h1',h2⟩:=hj j hj'
   obtain⟨i,a1,a2,a3,a4,a5⟩:=h.job j h1'
   refine⟨i,a1,a2,a3,by rw[hc'];exact a4,?_⟩
   split at a5
   · rename_i hq;rw[if_pos hq,hU,if_neg (fun z=>h2 ⟨by rw[a1,z],hq⟩)];exact a5
   · rename_i hq;rw[if_neg hq,hW];exact a5
 · intro k hkk
   obtain⟨i,a1,a2,a3,a4,a5⟩:=h.clk k (hk' k hkk)
   exact⟨i,a1,a2,a3,by rw[hc'];exact a4,by rw[hW];exact a5⟩
 · rw[hd,h.done];unfold zEd;rw[zEc (fun i _=>by rw[hW])]
 · rw [hund,hd]
   split
   · obtain⟨t,ht⟩:=h.und
     rw[← ht,List.getElem?_append_right (Nat.le_refl _),Nat.sub_self] at ho
     cases t with
     | nil=>cases ho
     | cons y r =>
       simp at ho
       subst ho
       exact⟨r,by rw[← ht,List.append_assoc];rfl⟩
   · exact h.und
 · intro i;rw[hund,hU]
   split
   · rename_i e
     intro q
     rcases List.mem_append.1 q with q1 | q1
     · rw[if_neg (fun z=>by subst z;exact hnu q1)];exact h.undU i q1
     · simp at q1;rw[if_pos (by omega)];exact e
   · intro q
     rw[if_neg (fun z=>by subst z;exact hnu q)];exact h.undU i q
 · intro i;rw[hU,hund,hd];intro q
   by_cases e:i=n
   · subst e
     rw[if_pos rfl]
     by_cases e2:v=2
     · rw[if_pos e2];exact .inl (List.mem_append.2 (.inr (List.mem_singleton.2 rfl)))
     · rw[if_neg e2];exact .inr ⟨ho,.inr (by omega)⟩
   · rw[if_neg e] at q
     rcases hoth i e with z | z
     · exact absurd z q
     · left
       split
       · exact List.mem_append.2 (.inl z)
       · exact z
 · intro i hi
   obtain⟨a,b⟩:=h.turn n (by omega)
   rw[hc'];exact⟨a,b⟩
end
theorem inv0(ss:List St):Inv ss (crs0 ss.length) [] []:=by
 have hz:∀n i:Nat,(List.replicate n (0:Int)).getD i 0=0:=fun n i=>by
  rw[List.getD_eq_getElem?_getD,List.getElem?_replicate];split <;> rfl
 have hW:∀i,(crs0 ss.length).W i=0:=fun i=>hz _ _
 have hU:∀i,(crs0 ss.length).U i=0:=fun i=>hz _ _
 refine⟨by simp[crs0],by simp[crs0],?_,?_,fun i=>.inl (hW i),fun i=>.inl (hU i),?_,?_,?_,(fun j hj=>by cases hj),List.Pairwise.nil,(fun j hj=>by cases hj),List.Pairwise.nil,?_,?_,?_,?_,?_⟩
 · intro i j _ _ q;exact absurd (hW j) q
 · intro i j _ _ q;exact absurd (hW j) q
 · intro i q;have:=hW i;omega
 · intro q;cases q
 · constructor
   · intro q;cases q
   · rintro⟨i,q⟩;have:=hU i;omega
 · show []=zEd ss (crs0 ss.length)
   unfold zEd zGy
   rw[List.filter_eq_nil_iff.2 (fun i _=>by rw[hW];simp)];rfl
 · exact List.nil_prefix
 · intro i q;cases q
 · intro i q;exact absurd (hU i) q
 · intro i q;exact absurd (hU i) q
section
variable {ss : List St} {c c' : Crs} {js js' : List Jb} {w : List Cmd}
theorem Apt.like(h:Apt ss c js w)(hu:c'.undone=c.undone)(hd:c'.done=c.done)(hn:c'.und=c.und)(hs:∀nm,c.sig nm≤c'.sig nm)(hst:c.stop=true→c'.stop=true)(hf:c'.fl=c.fl)(hj:js'=[])
 (hW:∀m,c'.W m=c.W m∨(kdN ss m=2∧c.W m=1∧c'.W m=2)):Apt ss c' js' w:=by
 have hU:∀i,c'.U i=c.U i:=fun i=>by unfold Crs.U;rw[hu]
 have w2:∀m,c.W m=2→c'.W m=2:=fun m q=>by rcases hW m with z | ⟨-,z,-⟩ <;> omega
 have w0:∀m,c.W m=0→c'.W m=0:=fun m q=>by rcases hW m with z | ⟨-,z,-⟩ <;> omega
 have w1:∀m,kdN ss m=1→c.W m≠1→c'.W m≠1:=fun m k q=>by rcases hW m with z | ⟨z,-,-⟩ <;> omega
 have hsat:∀m,Sat ss c m→Sat ss c' m:=fun m q=>Int.le_trans q (hs _)
 have hstf:(c.stop=true∨c.fl=true)→(c'.stop=true∨c'.fl=true):=fun q=>q.imp hst (fun z=>by rw[hf];exact z)
 refine⟨hj,?_⟩
 rcases h.2 with ⟨n,e,a1,a2,a3,a4,a5,a6⟩ | ⟨n,e,a1,a2,a3,a4,a5,a6⟩ | ⟨n,e,a1,a2,a3,a4⟩ | ⟨e,a1,a2⟩ | ⟨e,a1,a2,a3⟩ | ⟨e,⟨m,a1⟩,a2,a3⟩
 · exact .inl ⟨n,e,a1,a2,w0 _ a3,fun m p q=>w2 _ (a4 m p q),fun m p q=>hsat _ (a5 m p q),fun m=>by rw[hU];exact a6 m⟩
 · exact .inr (.inl ⟨n,e,a1,a2,w0 _ a3,fun m p q=>w2 _ (a4 m p q),fun m p q=>hsat _ (a5 m p q),fun m=>by rw[hU];exact a6 m⟩)
 · exact .inr (.inr (.inl ⟨n,e,by rw[hd,hn];exact a1,by rw[hU];exact a2,hstf a3,fun m k=>w1 m k (a4 m k)⟩))
 · exact .inr (.inr (.inr (.inl ⟨e,fun m p q=>w2 _ (a1 m p q),fun m=>by rw[hU];exact a2 m⟩)))
 · exact .inr (.inr (.inr (.inr (.inl ⟨e,by rw[hd,hn];exact a1,hstf a2,fun m=>by rw[hU];exact a3 m⟩))))
 · exact .inr (.inr (.inr (.inr (.inr ⟨e,⟨m,by rw[hU];exact a1⟩,by rw[hd,hn];exact a2,hstf a3⟩))))
end
structure Known (l:List Ev) (w:List Cmd):Prop where
 inv:Inv (prgL l).2 (crsF l) (zAn l) (zAi l)
 want:w≠[]→Apt (prgL l).2 (crsF l) (zAn l) w∧zAj l=0∧zAg l=0
 opn:zAj l≠0→zC6 (prgL l).2 (crsF (l.take (zAj l).toNat))≠[]→Apt (prgL l).2 (crsF l) (zAn l) (zC6 (prgL l).2 (crsF (l.take (zAj l).toNat)))
 end1:zAg l=1→(∀m,m<(prgL l).2.length→kdN (prgL l).2 m≠3→(crsF l).W m=2)∧∀m,(crsF l).U m=0
 end2:zAg l=2→(crsF l).und=zBq (prgL l).2 (crsF l).done∧((crsF l).stop=true∨(crsF l).fl=true)∧∀m,(crsF l).U m≠3
 end3:zAg l=3→(∃m,(crsF l).U m=3)∧(crsF l).und.length<(zBq (prgL l).2 (crsF l).done).length∧((crsF l).stop=true∨(crsF l).fl=true)
theorem zLo{l:List Ev}(h:zAg l≠0):zAj l=0:=by unfold zAj;rw[if_pos (.inr h)]
theorem zId{l:List Ev}(h:zAg l≠0):zAn l=[]:=by unfold zAn;rw[if_pos h]
theorem zF9{l:List Ev}(h:zAg l≠0):zAi l=[]:=by unfold zAi;rw[if_pos h]
theorem zGl{l:List Ev}{n:Nat}(hn:0<n):prgL (l.take n)=prgL l:=by
 cases l with
 | nil=>simp
 | cons x r=>cases n with
   | zero=>omega
   | succ n=>rfl
theorem Hs.kinds{l:List Ev}(h:Hs l)(hl:l≠[]):∀x∈(prgL l).2,x.kd=1∨x.kd=2∨x.kd=3:=fun x hx=>by
 have:=(h.prog hl).2.2 x hx
 rcases this with q | q | q
 · exact .inl q.1
 · exact .inr (.inl q.1)
 · exact .inr (.inr q.1)
theorem zP9{l:List Ev}(h:Hs l)(ht:zAj l≠0):(zCg (l.take (zAj l).toNat)).1=zC6 (prgL l).2 (crsF (l.take (zAj l).toNat)):=by
 obtain⟨-,h0,he⟩:=zHc ht
 have hle:=zJ3 3 l
 have hl:l≠[]:=fun q=>by subst q;exact ht rfl
 have hpos:0<(zAj l).toNat:=by omega
 have hne:l.take (zAj l).toNat≠[]:=by
  intro q
  have:=congrArg List.length q
  rw[List.length_take,List.length_nil] at this
  have:=List.length_pos_iff.2 hl
  omega
 have hs0:zAg (l.take (zAj l).toNat)=0:=by
  by_cases q:(zAj l).toNat<l.length
  · exact(zA6 (h.at q).2).2.2.1
  · rw[List.take_of_length_le (by omega)];exact h0
 rw[zI6 (h.take _) hne hs0,zGl hpos]
theorem zP5{e:Ev}(hc:zA5 [] e=0):Known [e] []:=by
 have hk:e.kd=1:=(zA6 hc).2.2.2.1 rfl
 have hs:zAg [e]=0:=by show zB3 e.kd=0;rw[hk];rfl
 have hj:zAn [e]=[]:=by
  unfold zAn;rw[if_neg (not_not_intro hs)]
  simp only[zCb,zCp,List.append_nil]
  rw[if_neg (fun q=>by have:=q.1;omega)];rfl
 have hcl:zAi [e]=[]:=by
  unfold zAi;rw[if_neg (not_not_intro hs)]
  simp only[zA8,zBl,List.append_nil]
  rw[if_neg (fun q=>by have:=q.1;omega)];rfl
 have ht:zAj [e]=0:=by
  have h0:zAy [e] 3=0:=by unfold zAy;simp only[zGj];rw[if_neg (by omega)]
  unfold zAj;rw[h0];split <;> rfl
 refine⟨by rw[hj,hcl,zJo hk];exact inv0 _,fun q=>absurd rfl q,fun q=>absurd ht q,fun q=>?_,fun q=>?_,fun q=>?_⟩ <;> omega
theorem zCo{ss:List St}{c:Crs}{e:Ev}(h:e.kd≠6∧e.kd≠7∧e.kd≠9∧e.kd≠10∧e.kd≠11∧e.kd≠12∧e.kd≠13∧e.kd≠14):zAc ss c e=c:=by
 unfold zAc
 rw[if_neg (by omega),if_neg (by omega),if_neg (by omega),if_neg (by omega),if_neg (by omega),if_neg (by omega)]
theorem Inv.of_eq{ss:List St}{c:Crs}{js js':List Jb}{cs cs':List Ck}(h:Inv ss c js cs)(hj:∀j∈js',j∈js)(hju:js'.Pairwise (fun a b=>¬(a.sp=b.sp∧a.ud=b.ud)))(hc:∀k∈cs',k∈cs)(hcu:cs'.Pairwise (fun a b=>a.sp≠b.sp)):Inv ss c js' cs' :=
 h.like rfl rfl rfl rfl rfl (fun _=>Int.le_refl _) id rfl rfl (fun j q=>⟨j,hj j q,rfl,rfl,rfl⟩) hju hc hcu
theorem zSo{l : List Ev}{e : Ev}(hl:l≠[])(h:Inv (prgL l).2 (crsF l) (zAn l) (zAi l))(hH:Hs l)(hc:zA5 l e=0)(hm:zBa e=none):Inv (prgL l).2 (crsF (l ++ [e])) (zAn (l ++ [e])) (zAi (l ++ [e])):=by
 obtain⟨hP,hid,h0,-,hcan⟩:=zA6 hc
 have hcan:=hcan hl
 have hn:=hH.nth
 have hkr:=hP.1
 have hm' : e.kd≠6∧e.kd≠10∧e.kd≠15∧e.kd≠16∧e.kd≠17:=by
  unfold zBa at hm
  split at hm
  · cases hm
  · split at hm
    · cases hm
    · split at hm
      · cases hm
      · split at hm
        · cases hm
        · split at hm
          · cases hm
          · omega
 rw[zDh e hl]
 by_cases h18:e.kd=18
 · have hs:zAg (l ++ [e])≠0:=by rw[zAv,h18];decide
   rw[zId hs,zF9 hs,zCo (by omega)]
   exact h.of_eq (fun j q=>by cases q) List.Pairwise.nil (fun j q=>by cases q) List.Pairwise.nil
 have hc0:zB3 e.kd=0:=zB5 (by omega)
 have jk:e.kd≠7→e.kd≠8→e.kd≠9→zAn (l ++ [e])=zAn l:=fun a b d=>by
  rw[zCl hn h0 hc0 ⟨a,b,d⟩,if_neg hm'.1,List.append_nil]
 have ck:e.kd≠11→zAi (l ++ [e])=zAi l:=fun a=>by
  rw[zCa hl hn h0 hc0 a,if_neg hm'.2.1,List.append_nil]
 have symj:∀a b:Jb,¬(a.sp=b.sp∧a.ud=b.ud)→¬(b.sp=a.sp∧b.ud=a.ud):=fun a b h q=>h ⟨q.1.symm,q.2.symm⟩
 have jobEnd:(e.kd=7∨e.kd=9)→∀v:Int,v=2∨v=3→zAc (prgL l).2 (crsF l) e=zAr (prgL l).2 (crsF l) e.rf v→Inv (prgL l).2 (zAc (prgL l).2 (crsF l) e) (zAn (l ++ [e])) (zAi (l ++ [e])):=fun k79 v hv hst=>by
  obtain⟨j,hj,j1,j2,-⟩:=zE6 hcan (by omega)
  obtain⟨i,a1,a2,a3,a4,a5⟩:=h.job j hj
  rw[zHq hn h0 k79,ck (by omega),hst]
  have hpu:((zAn l).filter (fun j=>decide (j.id≠e.rf))).Pairwise (fun a b=>¬(a.sp=b.sp∧a.ud=b.ud)):=List.Pairwise.filter _ h.uniq
  have hoth:∀j'∈(zAn l).filter (fun j=>decide (j.id≠e.rf)),j'∈zAn l∧¬(j'.sp=j.sp∧j'.ud=j.ud):=fun j' hj'=>by
   rw[List.mem_filter] at hj'
   have hne:=of_decide_eq_true hj'.2
   exact⟨hj'.1,zJ6 symj h.uniq hj'.1 hj (fun q=>hne (by rw[q];exact j1))⟩
  have a4':(crsF l).pl e.rf=(j.sp,if j.ud=true then 1 else 0):=by rw[← j1];exact a4
  unfold zAr
  rw[a4']
  by_cases hu:j.ud=true
  · rw[if_pos hu] at a5
    rw[if_pos hu,if_pos rfl]
    refine h.endU (n:=i) (v:=v) hv a5 ?_ ?_ hpu (fun k q=>q) h.uniqc
    · rw[a1];rfl
    · intro j' hj'
      obtain⟨q1,q2⟩:=hoth j' hj'
      exact⟨q1,by rw[a1,hu] at q2;exact q2⟩
  · rw[if_neg hu] at a5
    rw[if_neg hu,if_neg (by simp)]
    refine h.endW (n:=i) (v:=v) hv a2 (by omega) a5 (fun _=>a3) ?_ ?_ hpu ?_ h.uniqc
    · rw[a1];rfl
    · intro j' hj'
      obtain⟨q1,q2⟩:=hoth j' hj'
      exact⟨q1,by rw[a1] at q2;intro z;exact q2 ⟨z.1,by rw[z.2];simpa using hu⟩⟩
    · intro k hk
      obtain⟨i',b1,b2,b3,b4,b5⟩:=h.clk k hk
      exact ⟨hk, fun q => by rw[b1] at q;have:i'=i:=by omega
                             subst this;omega⟩
 by_cases k7:e.kd=7
 · refine jobEnd (.inl k7) 2 (.inl rfl) ?_
   unfold zAc
   rw[if_neg (by omega),if_neg (by omega),if_pos (.inl k7)]
 by_cases k9:e.kd=9
 · refine jobEnd (.inr k9) 3 (.inr rfl) ?_
   unfold zAc
   rw[if_neg (by omega),if_neg (by omega),if_neg (by omega),if_pos k9]
 by_cases k8:e.kd=8
 · rw[zCo (by omega),zGh hn h0 k8,ck (by omega)]
   refine h.like rfl rfl rfl rfl rfl (fun _=>Int.le_refl _) id rfl rfl ?_ ?_ (fun k q=>q) h.uniqc
   · intro j hj
     obtain⟨j0,h1,rfl⟩:=List.mem_map.1 hj
     refine⟨j0,h1,?_,?_,?_⟩ <;> split <;> rfl
   · rw[List.pairwise_map]
     refine h.uniq.imp (fun {a b} hab=>?_)
     have e1:∀a:Jb,(if a.id=e.rf then inc a else a).sp=a.sp∧(if a.id=e.rf then inc a else a).ud=a.ud:=fun a=>by split <;> exact⟨rfl,rfl⟩
     rw[(e1 a).1,(e1 a).2,(e1 b).1,(e1 b).2];exact hab
 by_cases k11:e.kd=11
 · obtain ⟨k, hk, k1⟩ := zE5 hcan k11
   obtain⟨i,a1,a2,a3,a4,a5⟩:=h.clk k hk
   rw[jk (by omega) (by omega) (by omega),zGw hl hn h0 k11]
   have hst:zAc (prgL l).2 (crsF l) e=zAr (prgL l).2 (crsF l) e.rf 2:=by
    unfold zAc
    rw[if_neg (by omega),if_neg (by omega),if_pos (.inr k11)]
   rw[hst]
   have a4':(crsF l).pl e.rf=(k.sp,0):=by rw[← k1];exact a4
   unfold zAr
   rw[a4',if_neg (by simp)]
   refine h.endW (n:=i) (v:=2) (.inl rfl) a2 (by omega) a5 (fun z=>by omega) ?_ ?_ h.uniq ?_ (List.Pairwise.filter _ h.uniqc)
   · rw[a1];rfl
   · intro j' hj'
     obtain⟨i',b1,b2,b3,b4,b5⟩:=h.job j' hj'
     exact ⟨hj', fun q => by rw[b1] at q;have:i'=i:=by omega
                             subst this;omega⟩
   · intro k' hk'
     rw[List.mem_filter] at hk'
     have hne:=of_decide_eq_true hk'.2
     have:=zJ6 (fun a b (q:a.sp≠b.sp)=>q.symm) h.uniqc hk'.1 hk (fun q=>hne (by rw[q];exact k1))
     exact⟨hk'.1,by rw[← a1];exact this⟩
 rw[jk k7 k8 k9,ck k11]
 by_cases k12:e.kd=12
 · have hst:zAc (prgL l).2 (crsF l) e = { crsF l with sig:=updS (crsF l).sig e.dt ((crsF l).sig e.dt+1) }:=by
    unfold zAc
    rw[if_neg (by omega),if_neg (by omega),if_neg (by omega),if_neg (by omega),if_pos k12]
   rw[hst]
   refine h.like rfl rfl rfl rfl rfl (fun nm=>?_) id rfl rfl (fun j q=>⟨j,q,rfl,rfl,rfl⟩) h.uniq (fun k q=>q) h.uniqc
   show(crsF l).sig nm≤updS _ _ _ nm
   unfold updS
   split
   · rename_i q;rw[q];omega
   · exact Int.le_refl _
 by_cases k13:e.kd=13∨e.kd=14
 · have hst:zAc (prgL l).2 (crsF l) e = { crsF l with stop:=true }:=by
    unfold zAc
    rw[if_neg (by omega),if_neg (by omega),if_neg (by omega),if_neg (by omega),if_neg (by omega),if_pos k13]
   rw[hst]
   exact h.like rfl rfl rfl rfl rfl (fun _=>Int.le_refl _) (fun _=>rfl) rfl rfl (fun j q=>⟨j,q,rfl,rfl,rfl⟩) h.uniq (fun k q=>q) h.uniqc
 rw[zCo (by omega)]
 exact h
theorem zI5{e:Ev}(hm:zBa e=none):e.kd≠6∧e.kd≠10∧e.kd≠15∧e.kd≠16∧e.kd≠17:=by
 unfold zBa at hm
 split at hm
 · cases hm
 · split at hm
   · cases hm
   · split at hm
     · cases hm
     · split at hm
       · cases hm
       · split at hm
         · cases hm
         · omega
theorem zMy{l:List Ev}{e:Ev}{w:List Cmd}(hl:l≠[])(h:Inv (prgL l).2 (crsF l) (zAn l) (zAi l))(hH:Hs l)(hc:zA5 l e=0)(hm:zBa e=none)(h18:e.kd≠18)(ha:Apt (prgL l).2 (crsF l) (zAn l) w) :
 Apt (prgL l).2 (crsF (l ++ [e])) (zAn (l ++ [e])) w:=by
 obtain⟨hP,hid,h0,-,hcan⟩:=zA6 hc
 have hcan:=hcan hl
 have hn:=hH.nth
 have hkr:=hP.1
 have hm':=zI5 hm
 have hc0:zB3 e.kd=0:=zB5 (by omega)
 have hj0:=ha.1
 have k789:e.kd≠7∧e.kd≠8∧e.kd≠9:=by
  by_cases q:e.kd=7∨e.kd=8∨e.kd=9
  · obtain⟨j,hj,-⟩:=zE6 hcan q
    rw[hj0] at hj;cases hj
  · omega
 have hj1:zAn (l ++ [e])=[]:=by rw[zCl hn h0 hc0 k789,if_neg hm'.1,hj0];rfl
 rw[zDh e hl]
 by_cases k11:e.kd=11
 · obtain⟨k,hk,k1⟩:=zE5 hcan k11
   obtain⟨i,a1,a2,a3,a4,a5⟩:=h.clk k hk
   have hst:zAc (prgL l).2 (crsF l) e=zAr (prgL l).2 (crsF l) e.rf 2:=by
    unfold zAc
    rw[if_neg (by omega),if_neg (by omega),if_pos (.inr k11)]
   have a4':(crsF l).pl e.rf=(k.sp,0):=by rw[← k1];exact a4
   rw[hst]
   unfold zAr
   rw[a4',if_neg (by simp)]
   simp only
   have e1:k.sp.toNat=i:=by rw[a1];rfl
   rw[e1,if_neg (by omega)]
   refine ha.like rfl rfl rfl (fun _=>Int.le_refl _) id (by simp) hj1 (fun m=>?_)
   have hw:(({ crsF l with went:=(crsF l).went.set i 2,fl:=(crsF l).fl||decide ((2:Int)=3) }:Crs).W m)=if m=i then 2 else(crsF l).W m:=zO5 (by rw[h.wl];exact a2) m
   rw[hw]
   split
   · rename_i q;subst q;exact .inr ⟨a3,a5,rfl⟩
   · exact .inl rfl
 by_cases k12:e.kd=12
 · have hst:zAc (prgL l).2 (crsF l) e = { crsF l with sig:=updS (crsF l).sig e.dt ((crsF l).sig e.dt+1) }:=by
    unfold zAc
    rw[if_neg (by omega),if_neg (by omega),if_neg (by omega),if_neg (by omega),if_pos k12]
   rw[hst]
   refine ha.like rfl rfl rfl (fun nm=>?_) id rfl hj1 (fun m=>.inl rfl)
   show(crsF l).sig nm≤updS _ _ _ nm
   unfold updS
   split
   · rename_i q;rw[q];omega
   · exact Int.le_refl _
 by_cases k13:e.kd=13∨e.kd=14
 · have hst:zAc (prgL l).2 (crsF l) e = { crsF l with stop:=true }:=by
    unfold zAc
    rw[if_neg (by omega),if_neg (by omega),if_neg (by omega),if_neg (by omega),if_neg (by omega),if_pos k13]
   rw[hst]
   exact ha.like rfl rfl rfl (fun _=>Int.le_refl _) (fun _=>rfl) rfl hj1 (fun m=>.inl rfl)
 rw[zCo (by omega)]
 exact ha.like rfl rfl rfl (fun _=>Int.le_refl _) id rfl hj1 (fun m=>.inl rfl)
theorem zEb{k n:Int}(h:zB3 k=n)(hn:n=1∨n=2∨n=3):k=14+n:=by
 unfold zB3 at h
 split at h
 · omega
 · split at h
   · omega
   · split at h
     · omega
     · split at h <;> omega
theorem zOd{l:List Ev}{e:Ev}(hl:l≠[])(K:Known l [])(hH:Hs l)(hc:zA5 l e=0)(hm:zBa e=none):Known (l ++ [e]) (if e.kd=4 then(zCg (l.take e.rf.toNat)).1 else []):=by
 obtain⟨hP,hid,h0,-,hcan⟩:=zA6 hc
 have hcan:=hcan hl
 have hn:=hH.nth
 have hkr:=hP.1
 have hm':=zI5 hm
 have hprg:prgL (l ++ [e])=prgL l:=zCw e hl
 have hinv:=zSo hl K.inv hH hc hm
 have hst:∀n:Int,n=1∨n=2∨n=3→zAg (l ++ [e])≠n:=fun n hn q=>by
  rw[zAv] at q
  have:=zEb q hn
  omega
 refine⟨by rw[hprg];exact hinv,?_,?_,fun q=>absurd q (hst 1 (by omega)),fun q=>absurd q (hst 2 (by omega)),fun q=>absurd q (hst 3 (by omega))⟩
 · intro hne
   by_cases k4:e.kd=4
   · rw[if_pos k4] at hne ⊢
     have ht:=zKi hcan (.inl k4)
     have hr:=zH5 hP (by omega)
     rw[← ht] at hne ⊢
     have hne0:zAj l≠0:=by omega
     rw[zP9 hH hne0] at hne ⊢
     rw[hprg]
     refine⟨zMy hl K.inv hH hc hm (by omega) (K.opn hne0 hne),zGs (.inl k4) ht hr,by rw[zAv,k4];rfl⟩
   · rw[if_neg k4] at hne;exact absurd rfl hne
 · rw [hprg]
   intro hne0 hne
   have hs0:zAg (l ++ [e])=0:=(zHc hne0).2.1
   have h18:e.kd≠18:=fun q=>by rw[zAv,q] at hs0;exact absurd hs0 (by decide)
   have hc0:zB3 e.kd=0:=zB5 (by omega)
   by_cases k3:e.kd=3
   · rw[zLn hn k3] at hne ⊢
     rw[Int.toNat_natCast,List.take_of_length_le (by simp)] at hne ⊢
     exact zRt hinv (hH.kinds hl) hne
   · have k45:e.kd≠4∧e.kd≠5:=by
      by_cases q:e.kd=4∨e.kd=5
      · have ht:=zKi hcan q
        have hr:=zH5 hP (by omega)
        exact absurd (zGs q ht hr) hne0
      · omega
     have hk:=zDs (l:=l) (e:=e) h0 hc0 ⟨k3,k45.1,k45.2⟩
     rw[hk] at hne0 hne ⊢
     have hle:=zJ3 3 l
     have:=(zHc hne0).2.2
     rw[List.take_append_of_le_length (by omega)] at hne ⊢
     exact zMy hl K.inv hH hc hm h18 (K.opn hne0 hne)
theorem zP4{l:List Ev}{e:Ev}{c:Cmd}{r:List Cmd}(K:Known l (c :: r))(hH:Hs l)(hc:zA5 l e=0)(hm:zBa e=some c):Known (l ++ [e]) r:=by
 obtain⟨hP,hid,h0,hnil,hcan⟩:=zA6 hc
 have hl:l≠[]:=fun q=>by
  have:=hnil q
  unfold zBa at hm
  rw[if_neg (by omega),if_neg (by omega),if_neg (by omega),if_neg (by omega),if_neg (by omega)] at hm
  cases hm
 have hcan:=hcan hl
 have hn:=hH.nth
 have hkr:=hP.1
 have hprg:prgL (l ++ [e])=prgL l:=zCw e hl
 obtain⟨ha,ht,-⟩:=K.want (by simp)
 have hK:=K.inv
 have hr:r=[]:=by
  rcases ha.2 with ⟨n,q,-⟩ | ⟨n,q,-⟩ | ⟨n,q,-⟩ | ⟨q,-⟩ | ⟨q,-⟩ | ⟨q,-⟩ <;> (injection q with q1 q2)
 have hj0:=ha.1
 have hjid:∀j∈zAn l,j.id≠e.id:=fun j hj=>by rw[hj0] at hj;cases hj
 have hkid:∀k∈zAi l,k.id≠e.id:=fun k hk=>by have:=((zEo l).1 k hk).2;rw[hid];omega
 have hk5 : e.kd=6∨e.kd=10∨e.kd=15∨e.kd=16∨e.kd=17:=by
  unfold zBa at hm
  split at hm
  · omega
  · split at hm
    · omega
    · split at hm
      · omega
      · split at hm
        · omega
        · split at hm
          · omega
          · cases hm
 have htk:zAj (l ++ [e])=0:=by
  by_cases q:zAg (l ++ [e])=0
  · have hc0:zB3 e.kd=0:=by rw[zAv] at q;exact q
    rw[zDs h0 hc0 (by omega),ht]
  · exact zLo q
 have hwant:r≠[]→Apt (prgL (l ++ [e])).2 (crsF (l ++ [e])) (zAn (l ++ [e])) r∧zAj (l ++ [e])=0∧zAg (l ++ [e])=0:=fun q=>absurd hr q
 have hopn:zAj (l ++ [e])≠0→zC6 (prgL (l ++ [e])).2 (crsF ((l ++ [e]).take (zAj (l ++ [e])).toNat))≠[]→Apt (prgL (l ++ [e])).2 (crsF (l ++ [e])) (zAn (l ++ [e])) (zC6 (prgL (l ++ [e])).2 (crsF ((l ++ [e]).take (zAj (l ++ [e])).toNat))):=fun q=>absurd htk q
 have sp1:∀ {n:Nat},e.sp=(n:Int)→e.sp.toNat=n:=fun q=>by rw[q];rfl
 unfold zBa at hm
 by_cases k6:e.kd=6
 · rw [if_pos k6] at hm
   injection hm with hm
   have hc0:zB3 e.kd=0:=zB5 (by omega)
   have hjs:=zCl hn h0 hc0 (e:=e) (by omega)
   have hcs:=zCa hl hn h0 hc0 (e:=e) (by omega)
   rw[if_pos k6,hj0,List.nil_append,← hid] at hjs
   rw[if_neg (by omega),List.append_nil] at hcs
   have hend:∀n:Int,n=1∨n=2∨n=3→zAg (l ++ [e])≠n:=fun n hn q=>by
    rw[zAv] at q
    have:=zEb q hn
    omega
   refine⟨?_,hwant,hopn,fun q=>absurd q (hend 1 (by omega)),fun q=>absurd q (hend 2 (by omega)),fun q=>absurd q (hend 3 (by omega))⟩
   rw[hprg,zDh e hl,hjs,hcs]
   by_cases hu:e.ud=true
   · rw[hu] at hm
     have hst:zAc (prgL l).2 (crsF l) e = { crsF l with undone:=(crsF l).undone.set e.sp.toNat 1,pl:=updI (crsF l).pl e.id (e.sp,1) }:=by
      unfold zAc
      rw[if_pos ⟨k6,hu⟩]
     rw[hst]
     rcases ha.2 with ⟨n,q,-⟩ | ⟨n,q,-⟩ | ⟨n,q,b1,b2,b3,b4⟩ | ⟨q,-⟩ | ⟨q,-⟩ | ⟨q,-⟩
     · rw[← hm] at q;simp at q
     · rw[← hm] at q;simp at q
     · rw[← hm] at q
       have hsp:e.sp=(n:Int):=by simpa using congrArg List.head? q
       refine hK.undo (n:=n) (id:=e.id) b1 b2 b3 b4 (by rw[sp1 hsp,hsp]) ?_ (List.pairwise_singleton _ _) (fun k hk=>⟨hk,hkid k hk⟩) hK.uniqc
       intro j hj
       rw[List.mem_singleton] at hj
       subst hj
       exact .inr ⟨rfl,hsp,hu⟩
     · rw[← hm] at q;simp at q
     · rw[← hm] at q;simp at q
     · rw[← hm] at q;simp at q
   · have hu':e.ud=false:=by simpa using hu
     rw[hu'] at hm
     have hst:zAc (prgL l).2 (crsF l) e = { crsF l with went:=(crsF l).went.set e.sp.toNat 1,pl:=updI (crsF l).pl e.id (e.sp,0) }:=by
      unfold zAc
      rw[if_neg (fun z=>hu z.2),if_pos (.inl k6)]
     rw[hst]
     rcases ha.2 with ⟨n,q,b1,b2,b3,b4,b5,b6⟩ | ⟨n,q,-⟩ | ⟨n,q,-⟩ | ⟨q,-⟩ | ⟨q,-⟩ | ⟨q,-⟩
     · rw[← hm] at q
       have hsp:e.sp=(n:Int):=by simpa using congrArg List.head? q
       refine hK.plan (n:=n) (id:=e.id) b1 (by omega) b3 b4 b5 b6 (by rw[sp1 hsp,hsp]) ?_ (List.pairwise_singleton _ _) (fun k hk=>.inl ⟨hk,hkid k hk⟩) hK.uniqc
       intro j hj
       rw[List.mem_singleton] at hj
       subst hj
       exact .inr ⟨rfl,hsp,hu',b2⟩
     · rw[← hm] at q;simp at q
     · rw[← hm] at q;simp at q
     · rw[← hm] at q;simp at q
     · rw[← hm] at q;simp at q
     · rw[← hm] at q;simp at q
 rw[if_neg k6] at hm
 by_cases k10:e.kd=10
 · rw [if_pos k10] at hm
   injection hm with hm
   have hc0:zB3 e.kd=0:=zB5 (by omega)
   have hjs:=zCl hn h0 hc0 (e:=e) (by omega)
   have hcs:=zCa hl hn h0 hc0 (e:=e) (by omega)
   rw[if_neg (by omega),hj0,List.nil_append] at hjs
   rw[if_pos k10,← hid] at hcs
   have hend:∀n:Int,n=1∨n=2∨n=3→zAg (l ++ [e])≠n:=fun n hn q=>by
    rw[zAv] at q
    have:=zEb q hn
    omega
   refine⟨?_,hwant,hopn,fun q=>absurd q (hend 1 (by omega)),fun q=>absurd q (hend 2 (by omega)),fun q=>absurd q (hend 3 (by omega))⟩
   rw[hprg,zDh e hl,hjs,hcs]
   have hst:zAc (prgL l).2 (crsF l) e = { crsF l with went:=(crsF l).went.set e.sp.toNat 1,pl:=updI (crsF l).pl e.id (e.sp,0) }:=by
    unfold zAc
    rw[if_neg (by omega),if_pos (.inr k10)]
   rw[hst]
   rcases ha.2 with ⟨n,q,-⟩ | ⟨n,q,b1,b2,b3,b4,b5,b6⟩ | ⟨n,q,-⟩ | ⟨q,-⟩ | ⟨q,-⟩ | ⟨q,-⟩
   · rw[← hm] at q;simp at q
   · rw [← hm] at q
     have hsp:e.sp=(n:Int):=by simpa using congrArg List.head? q
     refine hK.plan (n:=n) (id:=e.id) b1 (by omega) b3 b4 b5 b6 (by rw[sp1 hsp,hsp]) (fun j hj=>by cases hj) List.Pairwise.nil ?_ ?_
     · intro k hk
       rcases List.mem_append.1 hk with hk | hk
       · exact .inl ⟨hk,hkid k hk⟩
       · rw[List.mem_singleton] at hk
         subst hk
         exact .inr ⟨rfl,hsp,b2⟩
     · rw[List.pairwise_append]
       refine⟨hK.uniqc,List.pairwise_singleton _ _,fun a ha' b hb=>?_⟩
       rw[List.mem_singleton] at hb
       subst hb
       obtain⟨i,c1,c2,c3,c4,c5⟩:=hK.clk a ha'
       intro z
       have z':a.sp=e.sp:=z
       rw[c1,hsp] at z'
       have:i=n:=by omega
       subst this
       omega
   · rw[← hm] at q;simp at q
   · rw[← hm] at q;simp at q
   · rw[← hm] at q;simp at q
   · rw[← hm] at q;simp at q
 rw[if_neg k10] at hm
 have hs:zAg (l ++ [e])=zB3 e.kd:=zAv l e
 have hs0:zAg (l ++ [e])≠0:=by rw[hs];exact zGa (by omega)
 have hinv:Inv (prgL (l ++ [e])).2 (crsF (l ++ [e])) (zAn (l ++ [e])) (zAi (l ++ [e])):=by
  rw[hprg,zId hs0,zF9 hs0,zDh e hl,zCo (by omega)]
  exact hK.of_eq (fun j q=>by cases q) List.Pairwise.nil (fun j q=>by cases q) List.Pairwise.nil
 have hcrs:crsF (l ++ [e])=crsF l:=by rw[zDh e hl,zCo (by omega)]
 refine⟨hinv,hwant,hopn,?_,?_,?_⟩
 · intro q
   rw[hs] at q
   have k15:=zEb q (by omega)
   rw[if_pos (by omega)] at hm
   injection hm with hm
   rw[hprg,hcrs]
   rcases ha.2 with ⟨n,q,-⟩ | ⟨n,q,-⟩ | ⟨n,q,-⟩ | ⟨q,b1,b2⟩ | ⟨q,-⟩ | ⟨q,-⟩
   · rw[← hm] at q;simp at q
   · rw[← hm] at q;simp at q
   · rw[← hm] at q;simp at q
   · exact⟨b1,b2⟩
   · rw[← hm] at q;simp at q
   · rw[← hm] at q;simp at q
 · intro q
   rw[hs] at q
   have k15:=zEb q (by omega)
   rw[if_neg (by omega),if_pos (by omega)] at hm
   injection hm with hm
   rw[hprg,hcrs]
   rcases ha.2 with ⟨n,q,-⟩ | ⟨n,q,-⟩ | ⟨n,q,-⟩ | ⟨q,-⟩ | ⟨q,b1,b2,b3⟩ | ⟨q,-⟩
   · rw[← hm] at q;simp at q
   · rw[← hm] at q;simp at q
   · rw[← hm] at q;simp at q
   · rw[← hm] at q;simp at q
   · exact⟨b1,b2,b3⟩
   · rw[← hm] at q;simp at q
 · intro q
   rw[hs] at q
   have k15:=zEb q (by omega)
   rw[if_neg (by omega),if_neg (by omega),if_pos (by omega)] at hm
   injection hm with hm
   rw[hprg,hcrs]
   rcases ha.2 with ⟨n,q,-⟩ | ⟨n,q,-⟩ | ⟨n,q,-⟩ | ⟨q,-⟩ | ⟨q,-⟩ | ⟨q,b1,b2,b3⟩
   · rw[← hm] at q;simp at q
   · rw[← hm] at q;simp at q
   · rw[← hm] at q;simp at q
   · rw[← hm] at q;simp at q
   · rw[← hm] at q;simp at q
   · exact⟨b1,b2,b3⟩
theorem Cf.nil_want{l:List Ev}{w:List Cmd}(h:Cf l w):l=[]→w=[]:=by
 induction h with
 | nil=>intro _;rfl
 | told _ _ _ _=>intro q;simp at q
 | cmd _ _ _ _=>intro q;simp at q
theorem Cf.known{l:List Ev}{w:List Cmd}(h:Cf l w):l≠[]→Known l w:=by
 induction h with
 | nil=>intro q;exact absurd rfl q
 | @told l e h1 hc hm ih =>
   intro _
   by_cases hl:l=[]
   · subst hl
     have hk:e.kd=1:=(zA6 hc).2.2.2.1 rfl
     rw[if_neg (by omega)]
     exact zP5 hc
   · exact zOd hl (ih hl) h1.hs hc hm
 | @cmd l e c r h1 hc hm ih =>
   intro _
   have hl:l≠[]:=by
    intro q
    have:=h1.nil_want q
    cases this
   exact zP4 (ih hl) h1.hs hc hm
theorem zK2{l:List Ev}(h:zAg l≠0):zAn l=[]:=by unfold zAn;rw[if_pos h]
theorem zIs{l:List Ev}(h:zAg l≠0):zAi l=[]:=by unfold zAi;rw[if_pos h]
structure RdOk (ss:List St) (c:Crs) (js:List Jb) (cs:List Ck) (n:Nat):Prop where
 wl:c.went.length=ss.length
 ul:c.undone.length=ss.length
 job:∀j∈js,∃(i:Nat) (x:Int),i<ss.length∧c.pl j.id=((i:Int),x)∧(x=0∨x=1)
 clk:∀k∈cs,∃(i:Nat) (x:Int),i<ss.length∧c.pl k.id=((i:Int),x)∧(x=0∨x=1)
 dn:c.done.length≤n
 sg:∀nm,0≤c.sig nm∧c.sig nm≤(n:Int)
def EvOk(ss:List St)(c:Crs)(e:Ev):Prop:=((e.kd=6∨e.kd=10)→∃i:Nat,e.sp=(i:Int)∧i<ss.length)∧((e.kd=7∨e.kd=9∨e.kd=11)→∃(i:Nat)(x:Int),i<ss.length∧c.pl e.rf=((i:Int),x)∧(x=0∨x=1))
theorem zIz{ss:List St}{n k:Int}(h:zCy ss n k=true)(h0:0≤n):∃i:Nat,n=(i:Int)∧i<ss.length:=by
 unfold zCy at h
 cases hx:ss[n.toNat]? with
 | none=>rw[hx] at h;cases h
 | some x=>exact⟨n.toNat,by omega,(List.getElem?_eq_some_iff.1 hx).1⟩
theorem zUa{l:List Ev}{e:Ev}(hl:l≠[])(hc:zA5 l e=0)(h:RdOk (prgL l).2 (crsF l) (zAn l) (zAi l) l.length):EvOk (prgL l).2 (crsF l) e:=by
 obtain⟨hP,hid,h0,-,hcan⟩:=zA6 hc
 have hcan:=hcan hl
 refine⟨fun hk=>?_,fun hk=>?_⟩
 · have hs:=zFj hP
   unfold canF at hcan
   rcases hk with k | k
   · rw[if_neg (by omega),if_neg (by omega),if_neg (by omega),if_pos k] at hcan
     simp only[Bool.and_eq_true] at hcan
     exact zIz hcan.1 hs
   · rw[if_neg (by omega),if_neg (by omega),if_neg (by omega),if_neg (by omega),if_neg (by omega),if_pos k] at hcan
     exact zIz hcan hs
 · by_cases k:e.kd=11
   · obtain⟨j,hj,q⟩:=zE5 hcan k
     rw[← q];exact h.clk j hj
   · obtain⟨j,hj,q,-⟩:=zE6 hcan (by omega)
     rw[← q];exact h.job j hj
theorem zG5{ss:List St}{c c':Crs}{js js':List Jb}{cs cs':List Ck}{n:Nat}(h:RdOk ss c js cs n)(e1:c'.went.length=c.went.length)(e2:c'.undone.length=c.undone.length)(hp:c'.pl=c.pl)(hd:c'.done.length≤c.done.length+1)(hs:∀nm,c.sig nm≤c'.sig nm∧c'.sig nm≤c.sig nm+1)
 (hj:∀j∈js',∃j0∈js,j.id=j0.id)(hc:∀k∈cs',k∈cs):RdOk ss c' js' cs' (n+1):=by
 refine⟨e1.trans h.wl,e2.trans h.ul,fun j hj'=>?_,fun k hk=>?_,by have:=h.dn;omega,fun nm=>by have:=h.sg nm;have:=hs nm;omega⟩
 · obtain⟨j0,h1,h2⟩:=hj j hj'
   rw[h2,hp];exact h.job j0 h1
 · rw[hp];exact h.clk k (hc k hk)
theorem zU2{l:List Ev}(h:Hs l):l≠[]→RdOk (prgL l).2 (crsF l) (zAn l) (zAi l) l.length:=by
 induction h with
 | nil=>intro q;exact absurd rfl q
 | @snoc l e hl hc ih =>
   intro _
   by_cases hl0:l=[]
   · subst hl0
     have hk:e.kd=1:=(zA6 hc).2.2.2.1 rfl
     have hs:zAg [e]=0:=by show zB3 e.kd=0;rw[hk];rfl
     have hj:zAn [e]=[]:=by
      unfold zAn;rw[if_neg (not_not_intro hs)]
      simp only[zCb,zCp,List.append_nil]
      rw[if_neg (fun q=>by have:=q.1;omega)];rfl
     have hcl:zAi [e]=[]:=by
      unfold zAi;rw[if_neg (not_not_intro hs)]
      simp only[zA8,zBl,List.append_nil]
      rw[if_neg (fun q=>by have:=q.1;omega)];rfl
     show RdOk (prgL [e]).2 (crsF [e]) (zAn [e]) (zAi [e]) 1
     rw[hj,hcl,zJo hk]
     exact⟨by simp[crs0],by simp[crs0],(fun j q=>by cases q),(fun j q=>by cases q),by simp[crs0],fun nm=>⟨Int.le_refl _,(by simp[crs0])⟩⟩
   · have hr:=ih hl0
     have ho:=zUa hl0 hc hr
     obtain⟨hP,hid,h0,-,hcan⟩:=zA6 hc
     have hn:=hl.nth
     have hkr:=hP.1
     have jb:=(zGg l).1
     have cb:=(zEo l).1
     rw[List.length_append,List.length_singleton,zCw e hl0,zDh e hl0]
     by_cases h15:15≤e.kd
     · have hs:zAg (l ++ [e])≠0:=by rw[zAv];exact zGa ⟨h15,hkr.2⟩
       rw[zK2 hs,zIs hs]
       have:zAc (prgL l).2 (crsF l) e=crsF l:=by
        unfold zAc
        rw[if_neg (by omega),if_neg (by omega),if_neg (by omega),if_neg (by omega),if_neg (by omega),if_neg (by omega)]
       rw[this]
       exact zG5 hr rfl rfl rfl (by omega) (fun nm=>by omega) (fun j q=>by cases q) (fun j q=>by cases q)
     have hc0:zB3 e.kd=0:=zB5 (by omega)
     have ck:e.kd≠11→e.kd≠10→zAi (l ++ [e])=zAi l:=fun a b=>by
      rw[zCa hl0 hn h0 hc0 a,if_neg b,List.append_nil]
     have jk:e.kd≠7→e.kd≠8→e.kd≠9→e.kd≠6→zAn (l ++ [e])=zAn l:=fun a b d f=>by
      rw[zCl hn h0 hc0 ⟨a,b,d⟩,if_neg f,List.append_nil]
     by_cases k6:e.kd=6
     · obtain⟨i,hi,hil⟩:=ho.1 (.inl k6)
       rw[zCl hn h0 hc0 (by omega),if_pos k6,ck (by omega) (by omega),← hid]
       have hst:∃x:Int,(x=0∨x=1)∧(zAc (prgL l).2 (crsF l) e).pl=updI (crsF l).pl e.id ((i:Int),x)∧(zAc (prgL l).2 (crsF l) e).went.length=(crsF l).went.length∧(zAc (prgL l).2 (crsF l) e).undone.length=(crsF l).undone.length∧(zAc (prgL l).2 (crsF l) e).done=(crsF l).done∧(zAc (prgL l).2 (crsF l) e).sig=(crsF l).sig:=by
        unfold zAc
        by_cases hu:e.ud=true
        · rw[if_pos ⟨k6,hu⟩]
          exact⟨1,.inr rfl,by rw[← hi],rfl,by simp,rfl,rfl⟩
        · rw[if_neg (fun q=>hu q.2),if_pos (.inl k6)]
          exact⟨0,.inl rfl,by rw[← hi],by simp,rfl,rfl,rfl⟩
       obtain⟨x,hx,e1,e2,e3,e4,e5⟩:=hst
       refine⟨e2.trans hr.wl,e3.trans hr.ul,fun j hj=>?_,fun k hk=>?_,by rw[e4];have:=hr.dn;omega,fun nm=>by rw[e5];have:=hr.sg nm;omega⟩
       · rw[e1]
         unfold updI
         rcases List.mem_append.1 hj with hj | hj
         · have:=(jb j hj).2
           rw[if_neg (by omega)];exact hr.job j hj
         · rw[List.mem_singleton] at hj
           subst hj
           rw[if_pos rfl];exact⟨i,x,hil,rfl,hx⟩
       · rw[e1]
         unfold updI
         have:=(cb k hk).2
         rw[if_neg (by omega)];exact hr.clk k hk
     by_cases k10:e.kd=10
     · obtain⟨i,hi,hil⟩:=ho.1 (.inr k10)
       rw[zCa hl0 hn h0 hc0 (by omega),if_pos k10,jk (by omega) (by omega) (by omega) (by omega),← hid]
       have hst:zAc (prgL l).2 (crsF l) e = { crsF l with went:=(crsF l).went.set e.sp.toNat 1,pl:=updI (crsF l).pl e.id (e.sp,0) }:=by
        unfold zAc
        rw[if_neg (by omega),if_pos (.inr k10)]
       rw[hst]
       refine⟨by simpa using hr.wl,hr.ul,fun j hj=>?_,fun k hk=>?_,by have:=hr.dn;show(crsF l).done.length≤_;omega,fun nm=>by have:=hr.sg nm;show 0≤(crsF l).sig nm∧(crsF l).sig nm≤_;omega⟩
       · show ∃(i:Nat) (x:Int),_∧updI _ _ _ _=_∧_
         unfold updI
         have:=(jb j hj).2
         rw[if_neg (by omega)];exact hr.job j hj
       · show ∃(i:Nat) (x:Int),_∧updI _ _ _ _=_∧_
         unfold updI
         rcases List.mem_append.1 hk with hk | hk
         · have:=(cb k hk).2
           rw[if_neg (by omega)];exact hr.clk k hk
         · rw[List.mem_singleton] at hk
           subst hk
           rw[if_pos rfl];exact⟨i,0,hil,by rw[hi],.inl rfl⟩
     have ends:∀v:Int,RdOk (prgL l).2 (zAr (prgL l).2 (crsF l) e.rf v) (zAn (l ++ [e])) (zAi (l ++ [e])) (l.length+1):=fun v=>by
      have hj:∀j∈zAn (l ++ [e]),∃j0∈zAn l,j.id=j0.id:=fun j hj=>by
       by_cases q:e.kd=7∨e.kd=9
       · rw[zHq hn h0 q] at hj
         exact⟨j,(List.mem_filter.1 hj).1,rfl⟩
       · by_cases q8:e.kd=8
         · rw[zGh hn h0 q8] at hj
           obtain⟨j0,a,rfl⟩:=List.mem_map.1 hj
           exact⟨j0,a,by split <;> rfl⟩
         · rw[jk (by omega) q8 (by omega) k6] at hj
           exact⟨j,hj,rfl⟩
      have hc':∀k∈zAi (l ++ [e]),k∈zAi l:=fun k hk=>by
       by_cases q:e.kd=11
       · rw[zGw hl0 hn h0 q] at hk
         exact(List.mem_filter.1 hk).1
       · rw[ck q k10] at hk;exact hk
      unfold zAr
      split
      · exact zG5 hr rfl (by simp) rfl (by show(crsF l).done.length≤_;omega) (fun nm=>by show(crsF l).sig nm≤(crsF l).sig nm∧(crsF l).sig nm≤_;omega) hj hc'
      · refine zG5 hr (by simp) rfl rfl ?_ (fun nm=>by show(crsF l).sig nm≤(crsF l).sig nm∧(crsF l).sig nm≤_;omega) hj hc'
        show(if _ then _ else _:List Int).length≤_
        split
        · simp
        · omega
     by_cases k7:e.kd=7∨e.kd=11
     · have hst:zAc (prgL l).2 (crsF l) e=zAr (prgL l).2 (crsF l) e.rf 2:=by
        unfold zAc
        rw[if_neg (by omega),if_neg (by omega),if_pos k7]
       rw[hst];exact ends 2
     by_cases k9:e.kd=9
     · have hst:zAc (prgL l).2 (crsF l) e=zAr (prgL l).2 (crsF l) e.rf 3:=by
        unfold zAc
        rw[if_neg (by omega),if_neg (by omega),if_neg k7,if_pos k9]
       rw[hst];exact ends 3
     have hj8:∀j∈zAn (l ++ [e]),∃j0∈zAn l,j.id=j0.id:=fun j hj=>by
      by_cases q8:e.kd=8
      · rw[zGh hn h0 q8] at hj
        obtain⟨j0,a,rfl⟩:=List.mem_map.1 hj
        exact⟨j0,a,by split <;> rfl⟩
      · rw[jk (by omega) q8 (by omega) k6] at hj
        exact⟨j,hj,rfl⟩
     rw[ck (by omega) k10]
     unfold zAc
     rw[if_neg (by omega),if_neg (by omega),if_neg k7,if_neg k9]
     split
     · refine zG5 hr rfl rfl rfl (by show(crsF l).done.length≤_;omega) (fun nm=>?_) hj8 (fun k q=>q)
       show(crsF l).sig nm≤updS _ _ _ nm∧updS _ _ _ nm≤_
       unfold updS
       split
       · rename_i q;rw[q];omega
       · omega
     · split
       · exact zG5 hr rfl rfl rfl (by show(crsF l).done.length≤_;omega) (fun nm=>by show(crsF l).sig nm≤(crsF l).sig nm∧(crsF l).sig nm≤_;omega) hj8 (fun k q=>q)
       · exact zG5 hr rfl rfl rfl (by omega) (fun nm=>by omega) hj8 (fun k q=>q)
def rdF(ss:List St)(l:List Ev):Crs:=l.foldl (zAc ss) (crs0 ss.length)
theorem zG6{l:List Ev}{k:Nat}(hk:k<l.length)(ss:List St):rdF ss (l.take (k+1))=zAc ss (rdF ss (l.take k)) l[k]:=by
 unfold rdF
 rw[List.take_succ_eq_append_getElem hk,List.foldl_append];rfl
theorem zI8(l:List Ev):crsF l=rdF (prgL l).2 l:=rfl
theorem zWj{l:List Ev}(h:Hs l){k:Nat}(hk:k<l.length):EvOk (prgL l).2 (rdF (prgL l).2 (l.take k)) l[k]∧(rdF (prgL l).2 (l.take k)).went.length=(prgL l).2.length∧(rdF (prgL l).2 (l.take k)).undone.length=(prgL l).2.length∧(rdF (prgL l).2 (l.take k)).done.length≤k∧∀nm,0≤(rdF (prgL l).2 (l.take k)).sig nm∧(rdF (prgL l).2 (l.take k)).sig nm≤(k:Int):=by
 obtain⟨h1,h2⟩:=h.at hk
 by_cases hk0:k=0
 · subst hk0
   rw[List.take_zero] at h2 ⊢
   have hkd:(l[0]).kd=1:=(zA6 h2).2.2.2.1 rfl
   exact⟨⟨fun q=>by omega,fun q=>by omega⟩,by simp[rdF,crs0],by simp[rdF,crs0],by simp[rdF,crs0],fun nm=>⟨Int.le_refl _,Int.le_refl _⟩⟩
 · have hne:l.take k≠[]:=fun q=>by
    have:=congrArg List.length q
    rw[List.length_take,List.length_nil] at this;omega
   have hp:prgL (l.take k)=prgL l:=by
    cases l with
    | nil=>simp at hk
    | cons x r=>cases k with
      | zero=>omega
      | succ k=>rfl
   have hr:=zU2 h1 hne
   have ho:=zUa hne h2 hr
   rw[zI8,hp] at hr ho
   have hl:(l.take k).length=k:=by rw[List.length_take];omega
   rw[hl] at hr
   exact⟨ho,hr.wl,hr.ul,hr.dn,hr.sg⟩
theorem zH3(ss:List St)(c:Crs)(r how:Int):(zAr ss c r how).done=c.done∨(zAr ss c r how).done=c.done ++ [(c.pl r).1]:=by
 unfold zAr
 split
 · exact .inl rfl
 · show(if _ then _ else _:List Int)=_∨_
   split
   · exact .inr rfl
   · exact .inl rfl
theorem zT7{l : List Ev}(h:Hs l):l≠[]→∀x∈(crsF l).done,∃i:Nat,x=(i:Int)∧i<(prgL l).2.length:=by
 induction h with
 | nil=>intro q;exact absurd rfl q
 | @snoc l e hl hc ih =>
   intro _
   by_cases hl0:l=[]
   · subst hl0
     have hk:e.kd=1:=(zA6 hc).2.2.2.1 rfl
     show ∀x∈(crsF [e]).done,_
     rw[zJo hk]
     intro x hx;cases hx
   · have hr := zU2 hl hl0
     have ho:=zUa hl0 hc hr
     rw[zCw e hl0,zDh e hl0]
     have key:∀v:Int,(e.kd=7∨e.kd=9∨e.kd=11)→∀x∈(zAr (prgL l).2 (crsF l) e.rf v).done,∃i:Nat,x=(i:Int)∧i<(prgL l).2.length:=fun v hk x hx=>by
      obtain⟨i,y,hi,hp,-⟩:=ho.2 hk
      rcases zH3 (prgL l).2 (crsF l) e.rf v with q | q
      · rw[q] at hx;exact ih hl0 x hx
      · rw[q,hp] at hx
        rcases List.mem_append.1 hx with z | z
        · exact ih hl0 x z
        · rw[List.mem_singleton] at z;exact⟨i,z,hi⟩
     unfold zAc
     split
     · exact ih hl0
     · split
       · exact ih hl0
       · split
         · exact key 2 (by omega)
         · split
           · exact key 3 (by omega)
           · split
             · exact ih hl0
             · split
               · exact ih hl0
               · exact ih hl0
theorem zSs{l:List Ev}(h:Hs l)(hl:l≠[]):∀x∈(prgL l).2,x.nm.length≤1400:=fun x hx=>by
 have:=(h.prog hl).2.2 x hx
 rcases this with ⟨_,q⟩ | ⟨_,q⟩ | ⟨_,q⟩
 · have:=q.2.1.2.1;omega
 · rw[q.1];simp
 · have:=q.1.2.1;omega
theorem zNc(c:Crs):∀(r:List St)(i:Nat)(u:List UInt8→Int),(fwdG c i r u).1.length≤1
 | [],i,u=>Nat.le_refl _
 | s :: r,i,u=>by
   unfold fwdG
   repeat' split
   all_goals first
    | exact zNc c r _ _
    | exact Nat.le_refl _
    | exact Nat.zero_le _
theorem zKg(ss:List St)(c:Crs):∀(r:List Int),(zB4 ss c r).length≤1
 | []=>Nat.le_refl _
 | i :: r=>by
   unfold zB4
   repeat' split
   all_goals first
    | exact zKg ss c r
    | exact Nat.le_refl _
    | exact Nat.zero_le _
theorem zP8(ss:List St)(c:Crs):(zC6 ss c).length≤1:=by
 unfold zC6
 split
 · exact zKg ss c _
 · unfold fwdF
   split
   · exact Nat.zero_le _
   · exact zNc c _ _ _
theorem zK6(l:List Ev):(zCg l).1.length≤1:=by
 unfold zCg
 split
 · exact Nat.zero_le _
 · split
   · exact Nat.zero_le _
   · exact zP8 _ _
theorem zS3{l:List Ev}{e:Ev}(h:zA5 l e=0):0≤e.rf∧e.rf.toNat≤l.length:=by
 obtain⟨h1,h2,-⟩:=zA6 h
 have:=zKv h1
 omega
theorem Cf.take{l:List Ev}{w:List Cmd}(h:Cf l w):∀k,∃w',Cf (l.take k) w':=by
 have key:∀ {l:List Ev} {e:Ev} {w:List Cmd},Cf (l ++ [e]) w→(∀k,∃w',Cf (l.take k) w')→∀k,∃w',Cf ((l ++ [e]).take k) w':=by
  intro l e w h ih k
  by_cases hk:k≤l.length
  · rw[List.take_append_of_le_length hk];exact ih k
  · exact⟨w,by rw[List.take_of_length_le (by rw[List.length_append,List.length_singleton];omega)];exact h⟩
 induction h with
 | nil=>intro k;exact⟨[],by rw[List.take_nil];exact .nil⟩
 | told h hc hm ih=>exact key (.told h hc hm) ih
 | cmd h hc hm ih=>exact key (.cmd h hc hm) ih
theorem Cf.inv'{m:List Ev}{w:List Cmd}(h:Cf m w):∀ {l:List Ev}{e:Ev},m=l ++ [e]→(∃c,zBa e=some c∧Cf l (c :: w))∨(zBa e=none∧Cf l []∧w=if e.kd=4 then(zCg (l.take e.rf.toNat)).1 else []):=by
 intro l e hm
 cases h with
 | nil=>simp at hm
 | told h hc hn =>
   obtain⟨rfl,rfl⟩:=List.append_inj' hm rfl |>.imp id (fun q=>by simpa using q)
   exact .inr ⟨hn,h,rfl⟩
 | cmd h hc hn =>
   obtain⟨rfl,rfl⟩:=List.append_inj' hm rfl |>.imp id (fun q=>by simpa using q)
   exact .inl ⟨_,hn,h⟩
theorem Cf.last{l:List Ev}{e:Ev}{w:List Cmd}(h:Cf (l ++ [e]) w):(∃c,zBa e=some c∧Cf l (c :: w))∨(zBa e=none∧Cf l []∧w=if e.kd=4 then(zCg (l.take e.rf.toNat)).1 else []):=h.inv' rfl
theorem zT6{p:List Ev}{w:List Cmd}(h:Cf p w):∀(r:List Ev),chkG (p++r) 0 [] (p++r)=chkG (p++r) p.length w r:=by
 induction h with
 | nil=>intro r;rfl
 | @told l e h hc hn ih =>
   intro r
   have ih:=ih (e :: r)
   rw[List.append_assoc,List.singleton_append,ih,List.length_append,List.length_singleton]
   conv=>lhs;unfold chkG
   rw[hn]
   simp only[ne_eq,not_true,if_false]
   rw[List.take_append_of_le_length (zS3 hc).2]
 | @cmd l e c w h hc hn ih =>
   intro r
   have ih:=ih (e :: r)
   rw[List.append_assoc,List.singleton_append,ih,List.length_append,List.length_singleton]
   conv=>lhs;unfold chkG
   rw[hn]
   simp
theorem zPe:∀(r p:List Ev)(w:List Cmd),Cf p w→Hs (p++r)→(chkG (p++r) p.length w r).2=0→Cf (p++r) []
 | [],p,w,h,hs,hc=>by
   unfold chkG at hc
   split at hc
   · exact absurd (show(150:Int)=0 from hc) (by decide)
   · rename_i q
     rw[Decidable.of_not_not q] at h
     rw[List.append_nil];exact h
 | e :: r,p,w,h,hs,hc=>by
   have h1:=hs.take (p.length+1)
   rw[List.take_append,List.take_of_length_le (by omega)] at h1
   rw[show p.length+1 - p.length=1 by omega] at h1
   simp only[List.take_succ_cons,List.take_zero] at h1
   have h2:=h1.last.2
   have e1:p++e :: r=(p ++ [e])++r:=by rw[List.append_assoc,List.singleton_append]
   unfold chkG at hc
   cases hm:zBa e with
   | some c =>
     rw[hm] at hc
     simp only at hc
     split at hc
     · exact absurd (show(150:Int)=0 from hc) (by decide)
     · rename_i q
       obtain⟨q1,q2⟩:=not_or.1 q
       have q2:=Decidable.of_not_not q2
       cases w with
       | nil=>exact absurd rfl q1
       | cons c' w =>
         simp only[List.head?_cons,Option.some.injEq] at q2
         subst q2
         have:=zPe r (p ++ [e]) w (.cmd h h2 hm) (by rw[← e1];exact hs)
         rw[List.length_append,List.length_singleton,← e1] at this
         exact this hc
   | none =>
     rw[hm] at hc
     simp only at hc
     split at hc
     · exact absurd (show(150:Int)=0 from hc) (by decide)
     · rename_i q
       have q:=Decidable.of_not_not q
       subst q
       have:=zPe r (p ++ [e]) _ (.told h h2 hm) (by rw[← e1];exact hs)
       rw[List.length_append,List.length_singleton,← e1] at this
       refine this ?_
       rw[List.take_append_of_le_length (zS3 h2).2] at hc
       exact hc
theorem zJk{l:List Ev}(h:Hs l)(hl:l≠[]):zBe l=chkG l 0 [] l:=by
 unfold zBe
 rw[zHh.2 h]
 simp only
 rw[if_neg hl]
theorem zJl{l:List Ev}:(zBe l).2=0↔l≠[]∧Cf l []:=by
 constructor
 · intro h
   unfold zBe at h
   cases hf:zA9 [] l with
   | some x =>
     obtain⟨i,e⟩:=x
     rw[hf] at h
     exact absurd (show(120:Int)=0 from h) (by decide)
   | none =>
     rw[hf] at h
     simp only at h
     split at h
     · exact absurd h (by decide)
     · rename_i q
       refine⟨q,?_⟩
       have:=zPe l [] [] .nil (by simpa using zHh.1 hf)
       simpa using this (by simpa using h)
 · rintro⟨hl,h⟩
   rw[zJk h.hs hl]
   have:=zT6 h []
   simp only[List.append_nil] at this
   rw[this]
   unfold chkG
   simp
theorem zJm{L:List Ev}{k:Nat}(hk:k<L.length)(w:List Cmd):chkG L k w (L.drop k)=match zBa L[k] with
 | some c=>if w=[]∨w.head?≠some c then((k:Int),150) else chkG L (k+1) w.tail (L.drop (k+1))
 | none=>if w≠[] then((k:Int),150) else chkG L (k+1) (if(L[k]).kd=4 then(zCg (L.take (L[k]).rf.toNat)).1 else []) (L.drop (k+1)):=by
 rw[List.drop_eq_getElem_cons hk];rfl
end Go.Proofs.YtkedafopdkhnfaaGreat
