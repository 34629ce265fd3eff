/- A MAP OF WHATEVER ELEMENTS that the call itself made: 'MapV w k b n f': block b is a map of at most n entries, which answers f. A MAP OF WHATEVER ELEMENTS, in a region that draws its order. WHAT A COURSE IS IN MEMORY (play.course). CONTRACT: slices.Backward at numbers: the places and the numbers, from the last one down. -/
import Derived.Maps.OwnSet
import Derived.Test.YtkedafopdkhnfaaGreatObj
import Derived.Deep.RegionLaw
import Derived.Test.YtkedafopdkhnfaaGreatPmP
import Derived.Test.YtkedafopdkhnfaaGreatSmM
import Derived.ShutString
import Derived.RangeFuncNested
import Derived.RangeFuncBound
import Derived.RangeFuncBox
import Derived.RangeFuncCalls
import Derived.RangeFuncLeaves
import Derived.Shelf.Abstract
import Derived.WalkKit
import Derived.OwnWalkIn
import Derived.TacticsInMore
import Derived.LoopNIn
import Derived.LoopIn
set_option maxHeartbeats 2000000
set_option maxRecDepth 100000
namespace Go.Proofs.YtkedafopdkhnfaaGreat
open Go.RowKit
open Go.Maps (Keyed)
set_option linter.unusedVariables false
def zSl(v:Value):Option (DataW Value×List MemPlace):=some (.held v,[])
theorem zPx{v u:Value}{ps:List MemPlace}(h:zSl v=some (.held u,ps)):v=u:=by
 unfold zSl at h
 simp only[Option.some.injEq,Prod.mk.injEq,DataW.held.injEq] at h
 exact h.1
abbrev Ent:=Lit→Option Value
def Ent.put(f:Ent)(k:Lit)(v:Value):Ent:=fun x=>bif x.sameKey k then some v else f x
theorem zD4{x:Lit}(h:WideAt.IsKeyLit x):x.sameKey x=true:=by
 cases x <;> simp_all [Lit.sameKey,WideAt.IsKeyLit]
def Ent.none:Ent:=fun _=>Option.none
structure MapV (P:Program) (w:World) (k:TypeId) (b n:Nat) (f:Ent):Prop where
 ex:∃D:DataW Value,w.ownsMap P k zSl b n D∧∀x,WideAt.IsKeyLit x→Maps.has D x=(f x).isSome∧∀z,D.atKey x (.held z)=.held ((f x).getD z)
section
variable {P : Program} {w w' : World} {k e t : TypeId} {b n : Nat} {f : Ent}
theorem MapV.made(w:World)(P:Program)(k:TypeId):MapV P (w.alloc (.map #[] 0)) k w.heap.size 0 Ent.none :=
 ⟨.map [],World.ownsMap_made w P k zSl,fun x _=>⟨rfl,fun z=>rfl⟩⟩
theorem MapV.lt(h:MapV P w k b n f):b<w.heap.size:=by
 obtain⟨D,hD,_⟩:=h.ex
 exact hD.lt
theorem MapV.kept{row:Option Nat}(h:MapV P w k b n f)(hg:w.grownBy w' row)(hne:some b≠row):MapV P w' k b n f:=by
 obtain⟨D,hD,hf⟩:=h.ex
 exact⟨D,hD.kept hg hne,hf⟩
theorem MapV.below(h:MapV P w k b n f)(hb:Below w.heap.size w w'):MapV P w' k b n f :=
 h.kept (row:=Option.none) ⟨hb.os,hb.tape,hb.output,hb.size,fun i hi _=>hb.block i hi⟩ (by simp)
theorem MapV.mono(h:MapV P w k b n f){m:Nat}(hm:n≤m):MapV P w k b m f:=by
 obtain⟨D,hD,hf⟩:=h.ex
 exact⟨D,hD.mono hm,hf⟩
theorem MapV.look(h:MapV P w k b n f)(K:Keyed P k)(ht:P.underlying t=some (.map k e)){z:Value}(hz:(zeroValue e).run P w=.ok z w){key:Value}{kl:Lit}(hkey:keyOf P k key=some kl) :
 (Instr.lookup t (.map (some b)) key false).run P w=.ok ((f kl).getD z) w:=by
 obtain⟨D,hD,hf⟩:=h.ex
 obtain⟨v,ps,hrun,hv⟩:=hD.lookup K ht hz (zd:=.held z) (zp:=[]) rfl hkey
 rw[(hf kl (K.key hkey)).2 z] at hv
 rw[hrun,zPx hv]
theorem MapV.store(h:MapV P w k b n f)(K:Keyed P k)(ht:P.underlying t=some (.map k e))(hn:n<maxLen){key val:Value}{kl:Lit}(hkey:keyOf P k key=some kl) :
 ∃w',(Instr.mapUpdate t (.map (some b)) key val).run P w=.ok () w'∧MapV P w' k b (n+1) (f.put kl val)∧w.grownBy w' (some b):=by
 obtain⟨D,hD,hf⟩:=h.ex
 obtain⟨w',hrun,h1,h2⟩:=hD.update K ht hn hkey (d:=.held val) (ps:=[]) rfl
 refine⟨w',hrun,⟨_,h1,fun x hx=>?_⟩,h2⟩
 by_cases hxk:x=kl
 · subst hxk
   rw[Maps.has_put_same hD.isMap hx]
   have hs:=zD4 hx
   refine⟨by simp[Ent.put,hs],fun z=>?_⟩
   rw[Maps.atKey_put_same hD.isMap hx]
   simp[Ent.put,hs]
 · have hs:=Maps.sameKey_ne hxk
   rw[Maps.has_put_other hxk]
   refine⟨by rw[(hf x hx).1];simp[Ent.put,hs],fun z=>?_⟩
   rw[Maps.atKey_put_other hxk,(hf x hx).2 z]
   simp[Ent.put,hs]
end
section
variable {P : Program} (w : World) {ops : Array Oper} {rest : List Oper} {o : Oper} {a : Act} {Q : Exit → Act → World → Prop}
theorem zCn(hg:o.guard=none)(m x:Operand)(t:TypeId)(hop:o.op=Op.lookup t m x false)
 (k e:TypeId)(K:Keyed P k)(ht:P.underlying t=some (.map k e)){z:Value}(hz:(zeroValue e).run P w=.ok z w)(b n:Nat)(f:Ent)
 (hm:a.eval m=.map (some b))(hown:MapV P w k b n f)(key:Value)(kl:Lit)(hx:a.eval x=key)(hkey:keyOf P k key=some kl)(u:Value)(hu:(f kl).getD z=u)
 (hK:wpList P ops Q rest (a.put o.dst u) w):wpList P ops Q (o :: rest) a w:=by
 refine wpList_plain hg fun K' hK'=>?_
 have hrun:=hown.look K ht hz hkey
 rw[hu] at hrun
 unfold Oper.wp
 simp[execOp,hop,hm,hx,hrun,Result.andThen]
 exact hK' _ _ hK
theorem zC0(hg:o.guard=none)(m x v:Operand)(t:TypeId)(hop:o.op=Op.mapUpdate t m x v)
 (k e:TypeId)(K:Keyed P k)(ht:P.underlying t=some (.map k e))(b n:Nat)(f:Ent)
 (hm:a.eval m=.map (some b))(hown:MapV P w k b n f)(hn:n<maxLen)(key val:Value)(kl:Lit)(hx:a.eval x=key)(hv:a.eval v=val)(hkey:keyOf P k key=some kl)
 (hK:∀w',MapV P w' k b (n+1) (f.put kl val)→w.grownBy w' (some b)→wpList P ops Q rest (a.put o.dst undef) w'):wpList P ops Q (o :: rest) a w:=by
 refine wpList_plain hg fun K' hK'=>?_
 obtain⟨w',hrun,r1,r2⟩:=hown.store K ht hn hkey (val:=val)
 unfold Oper.wp
 simp[execOp,hop,hm,hx,hv,hrun,Result.andThen]
 exact hK' _ _ (hK w' r1 r2)
end
end Go.Proofs.YtkedafopdkhnfaaGreat
namespace Go.Proofs.YtkedafopdkhnfaaGreat
open Go.RowKit
open Go.Maps (Keyed)
set_option linter.unusedVariables false
end Go.Proofs.YtkedafopdkhnfaaGreat
namespace Go.Proofs.YtkedafopdkhnfaaGreat
open Go.RowKit
set_option linter.unusedVariables false
def i64B(n:Int):Prop:=-9223372036854775808≤n∧n≤9223372036854775807
theorem zRb{n:Int}(h:i64B n):(Lit.int .i64 n).wf=true:=by
 unfold i64B at h
 simp[Lit.wf,IntKind.min,IntKind.max,IntKind.signed,IntKind.bits];omega
theorem kInt:Maps.Keyed Tryz.prog 3:=Maps.int_keyed Tryz.underlying3
theorem kStr:Maps.Keyed Tryz.prog 9:=Maps.string_keyed Tryz.underlying9
theorem keyI{n:Int}(h:i64B n):keyOf Tryz.prog 3 (.int .i64 n)=some (.int .i64 n):=Maps.keyOf_int_mk Tryz.underlying3 (zRb h)
theorem keyS{l:List UInt8}(h:l.length≤9223372036854775807):keyOf Tryz.prog 9 (.string ⟨l.toArray⟩)=some (.string l):=by
 simp[keyOf,Tryz.underlying9,mapKey]
 show l.toArray.size≤maxLen
 rw[List.size_toArray];exact h
def iv(n:Int):Value:=.int .i64 n
def ivC(n:Int):List Value:=[.int .i64 n]
theorem zJx(n:Int):(ivC n).length=1:=rfl
theorem zJz(n:Int):∀u∈ivC n,u.oneCell'=true:=by
 intro u hu
 simp only[ivC,List.mem_singleton] at hu
 subst hu;rfl
theorem zJy(l:List Int):l.flatMap ivC=l.map iv:=by
 induction l with
 | nil=>rfl
 | cons x r ih=>rw[List.flatMap_cons,ih];rfl
def z2:Value:=.agg #[.int .i64 0,.int .i64 0]
def PlOk(f:Ent)(p:Int→Int×Int):Prop:=∀k,i64B k→(f (.int .i64 k)).getD z2=.agg #[.int .i64 (p k).1,.int .i64 (p k).2]
def SgOk(f:Ent)(s:List UInt8→Int):Prop:=∀nm:List UInt8,(f (.string nm)).getD (.int .i64 0)=.int .i64 (s nm)
theorem PlOk.none:PlOk Ent.none (fun _=>(0,0)):=fun _ _=>rfl
theorem SgOk.none:SgOk Ent.none (fun _=>0):=fun _=>rfl
theorem PlOk.put{f:Ent}{p:Int→Int×Int}(h:PlOk f p){k a b:Int}(hk:i64B k):PlOk (f.put (.int .i64 k) (.agg #[.int .i64 a,.int .i64 b])) (updI p k (a,b)):=fun x hx=>by
 unfold Ent.put updI
 by_cases e:x=k
 · subst e
   rw[zD4 (show WideAt.IsKeyLit (.int .i64 x) from trivial)]
   simp
 · rw[Maps.sameKey_ne (fun q=>e (by injection q))]
   simp only[cond_false,if_neg e]
   exact h x hx
theorem SgOk.put{f:Ent}{s:List UInt8→Int}(h:SgOk f s)(nm:List UInt8)(v:Int):SgOk (f.put (.string nm) (.int .i64 v)) (updS s nm v):=fun x=>by
 unfold Ent.put updS
 by_cases e:x=nm
 · subst e
   rw[zD4 (show WideAt.IsKeyLit (.string x) from trivial)]
   simp
 · rw[Maps.sameKey_ne (fun q=>e (by injection q))]
   simp only[cond_false,if_neg e]
   exact h x
def zIr(B:Nat)(v:Value):Prop:=∀b,v.ownBlock=some b→b<B
theorem Sl.under{w w':World}{v:Value}{k n B:Nat}{cells:List Value}(h:Sl w v k n cells)(hu:zIr B v)(hb:Below B w w'):Sl w' v k n cells:=by
 obtain⟨h1,h2,a,cap,rfl,h4⟩:=h
 refine⟨h1,h2,a,cap,rfl,h4.imp id ?_⟩
 rintro⟨b,off,rfl,hlt,hc⟩
 exact⟨b,off,rfl,Nat.lt_of_lt_of_le hlt hb.size,fun j hj=>(hb.cell (p:=⟨b,off+j,Option.none⟩) (hu b rfl)).trans (hc j hj)⟩
def zLt(v u:Value):Prop:=∀b,v.ownBlock=some b→u.ownBlock≠some b
theorem zLt.symm{v u:Value}(h:zLt v u):zLt u v:=fun b q z=>h b z q
structure CM (B D:Nat) (w:World) (g:Nat) (ss:List St) (lim:Int) (c:Crs) (vs vw vu vd:Value) (pm sm N:Nat):Prop where
 row:w.heap[g]?=some (.cells #[vs,.int .i64 lim,vw,vu,.map (some pm),vd,.map (some sm),.bool c.stop] 92 (0,0))
 hs:Sl w vs 6 ss.length (ss.flatMap stC)
 us:zIr B vs
 hw:w.ownsRow B 3 1 vw c.went.length (c.went.map iv)
 hu:w.ownsRow B 3 1 vu c.undone.length (c.undone.map iv)
 hd:w.ownsRow D 3 1 vd c.done.length (c.done.flatMap ivC)
 hp:∃f,MapV Tryz.prog w 3 pm N f∧PlOk f c.pl
 hg:∃f,MapV Tryz.prog w 9 sm N f∧SgOk f c.sig
 awu:zLt vw vu
 uw:zIr D vw
 uu:zIr D vu
 aps:pm≠sm
 lg:B≤g
 lp:B≤pm
 ls:B≤sm
 lB:B≤w.heap.size
 lD:B≤D∧D≤w.heap.size
section
variable {B D : Nat} {w w' : World} {g : Nat} {ss : List St} {lim : Int} {c : Crs} {vs vw vu vd : Value} {pm sm N : Nat}
theorem CM.awd(h:CM B D w g ss lim c vs vw vu vd pm sm N):zLt vw vd:=fun b q z=>by
 have:=h.uw b q
 have:=(h.hd.lt b z).1
 omega
theorem CM.aud(h:CM B D w g ss lim c vs vw vu vd pm sm N):zLt vu vd:=fun b q z=>by
 have:=h.uu b q
 have:=(h.hd.lt b z).1
 omega
theorem CM.below(h:CM B D w g ss lim c vs vw vu vd pm sm N)(hb:Below w.heap.size w w'):CM B D w' g ss lim c vs vw vu vd pm sm N:=by
 obtain⟨f,hf,hf'⟩:=h.hp
 obtain⟨k,hk,hk'⟩:=h.hg
 exact⟨(hb.block _ (gL h.row)).trans h.row,h.hs.below hb,h.us,zAf h.hw hb,zAf h.hu hb,zAf h.hd hb,⟨f,hf.below hb,hf'⟩,⟨k,hk.below hb,hk'⟩,h.awu,h.uw,h.uu,h.aps,h.lg,h.lp,h.ls,Nat.le_trans h.lB hb.size,h.lD.1,Nat.le_trans h.lD.2 hb.size⟩
theorem zA3{b:Nat}(hg:w.grownBy w' (some b))(hb:B≤b)(hB:B≤w.heap.size):Below B w w' :=
 (Below.refl B w).grown hg hB (fun k e=>by cases e;exact hb)
theorem zBt{b:Nat}{cur:Array Value}{T:TypeId}{fz:Nat×Nat}{n:Nat}{k:TypeId}{f:Ent}(hb:w.heap[b]?=some (.cells cur T fz))(hm:MapV Tryz.prog w k b n f):False:=by
 obtain⟨D,⟨es,cl,h,_⟩,_⟩:=hm.ex
 rw[hb] at h;cases h
theorem zBp{k n:Nat}{e:TypeId}{v:Value}{xs:List Value}{b:Nat}(h:w.ownsRow B e k v n xs)(hb:v.ownBlock=some b):∃cur,w.heap[b]?=some (.cells cur e (0,0)):=by
 rcases h.2 with ⟨rfl,_⟩ | ⟨g',cap',cur,rfl,_,hg,_⟩
 · simp[Value.ownBlock] at hb
 · simp[Value.ownBlock] at hb;subst hb;exact⟨cur,hg⟩
theorem CM.kept{b:Nat}(h:CM B D w g ss lim c vs vw vu vd pm sm N)(hg:w.grownBy w' (some b))(hb:B≤b)(h1:b≠g)(h2:vw.ownBlock≠some b)(h3:vu.ownBlock≠some b)(h4:vd.ownBlock≠some b)(h5:b≠pm)(h6:b≠sm):CM B D w' g ss lim c vs vw vu vd pm sm N:=by
 obtain⟨f,hf,hf'⟩:=h.hp
 obtain⟨k,hk,hk'⟩:=h.hg
 have k':∀ {u:Value},u.ownBlock≠some b→u.ownBlock=none∨u.ownBlock≠some b:=fun q=>.inr q
 exact⟨(hg.block _ (gL h.row) (by simpa using Ne.symm h1)).trans h.row,h.hs.under h.us (zA3 hg hb h.lB),h.us,h.hw.kept hg (k' h2),h.hu.kept hg (k' h3),h.hd.kept hg (k' h4),⟨f,hf.kept hg (by simpa using Ne.symm h5),hf'⟩,⟨k,hk.kept hg (by simpa using Ne.symm h6),hk'⟩,h.awu,h.uw,h.uu,h.aps,h.lg,h.lp,h.ls,Nat.le_trans h.lB hg.size,h.lD.1,Nat.le_trans h.lD.2 hg.size⟩
theorem CM.gw(h:CM B D w g ss lim c vs vw vu vd pm sm N):vw.ownBlock≠some g∧vu.ownBlock≠some g∧vd.ownBlock≠some g∧g≠pm∧g≠sm:=by
 obtain⟨f,hf,hf'⟩:=h.hp
 obtain⟨k,hk,hk'⟩:=h.hg
 have t:(92 : TypeId) ≠ 3:=by decide
 refine⟨fun q=>?_,fun q=>?_,fun q=>?_,fun q=>?_,fun q=>?_⟩
 · obtain⟨cur,z⟩:=zBp h.hw q;rw[h.row] at z;cases z
 · obtain⟨cur,z⟩:=zBp h.hu q;rw[h.row] at z;cases z
 · obtain⟨cur,z⟩:=zBp h.hd q;rw[h.row] at z;cases z
 · subst q;exact zBt h.row hf
 · subst q;exact zBt h.row hk
theorem CM.own_ne{b E:Nat}{v:Value}{n:Nat}{xs:List Value}(h:CM B D w g ss lim c vs vw vu vd pm sm N)(ho:w.ownsRow E 3 1 v n xs)(hb:v.ownBlock=some b):b≠g∧b≠pm∧b≠sm:=by
 obtain⟨cur,z⟩:=zBp ho hb
 obtain⟨f,hf,hf'⟩:=h.hp
 obtain⟨k,hk,hk'⟩:=h.hg
 refine⟨fun q=>?_,fun q=>?_,fun q=>?_⟩
 · subst q;rw[h.row] at z;cases z
 · subst q;exact zBt z hf
 · subst q;exact zBt z hk
theorem CM.setStop(h:CM B D w g ss lim c vs vw vu vd pm sm N):CM B D (w.setCell ⟨g,7,none⟩ (.bool true)) g ss lim { c with stop:=true } vs vw vu vd pm sm N∧Below B w (w.setCell ⟨g,7,none⟩ (.bool true)):=by
 have hg:w.grownBy (w.setCell ⟨g,7,none⟩ (.bool true)) (some g):=(At.refl g w).set 7 _
 obtain⟨e1,e2,e3,e4,e5⟩:=h.gw
 obtain⟨f,hf,hf'⟩:=h.hp
 obtain⟨k,hk,hk'⟩:=h.hg
 exact⟨⟨heap_setCell_same w g 7 _ _ _ h.row,h.hs.under h.us (zA3 hg h.lg h.lB),h.us,h.hw.kept hg (.inr e1),h.hu.kept hg (.inr e2),h.hd.kept hg (.inr e3),⟨f,hf.kept hg (by simpa using Ne.symm e4),hf'⟩,⟨k,hk.kept hg (by simpa using Ne.symm e5),hk'⟩,h.awu,h.uw,h.uu,h.aps,h.lg,h.lp,h.ls,Nat.le_trans h.lB hg.size,h.lD.1,Nat.le_trans h.lD.2 hg.size⟩,zA3 hg h.lg h.lB⟩
theorem CM.setWent{gw n cap:Nat}(h:CM B D w g ss lim c vs (.slice (some ⟨gw,0,none⟩) n cap) vu vd pm sm N)(i:Nat)(v:Int):CM B D (w.setCell ⟨gw,i,none⟩ (.int .i64 v)) g ss lim { c with went:=c.went.set i v } vs (.slice (some ⟨gw,0,none⟩) n cap) vu vd pm sm N∧Below B w (w.setCell ⟨gw,i,none⟩ (.int .i64 v)):=by
 have hg:w.grownBy (w.setCell ⟨gw,i,none⟩ (.int .i64 v)) (some gw):=(At.refl gw w).set i _
 obtain⟨f,hf,hf'⟩:=h.hp
 obtain⟨k,hk,hk'⟩:=h.hg
 obtain⟨n1,n2,n3⟩:=h.own_ne h.hw (b:=gw) rfl
 have hlo:=(h.hw.lt gw rfl).1
 have hn:n=c.went.length:=by
  rcases h.hw.2 with ⟨q,_⟩ | ⟨_,_,_,q,_⟩ <;> simp at q
  exact q.2.1
 subst hn
 have hst:=(h.hw.stored i (.int .i64 v)).1
 refine⟨⟨(hg.block _ (gL h.row) (by simpa using Ne.symm n1)).trans h.row,h.hs.under h.us (zA3 hg hlo h.lB),h.us,?_,h.hu.kept hg (.inr (h.awu gw rfl)),h.hd.kept hg (.inr (h.awd gw rfl)),⟨f,hf.kept hg (by simpa using Ne.symm n2),hf'⟩,⟨k,hk.kept hg (by simpa using Ne.symm n3),hk'⟩,h.awu,h.uw,h.uu,h.aps,h.lg,h.lp,h.ls,Nat.le_trans h.lB hg.size,h.lD.1,Nat.le_trans h.lD.2 hg.size⟩,zA3 hg hlo h.lB⟩
 rw[List.map_set,List.length_set]
 exact hst
theorem CM.setUndone{gu n cap:Nat}(h:CM B D w g ss lim c vs vw (.slice (some ⟨gu,0,none⟩) n cap) vd pm sm N)(i:Nat)(v:Int):CM B D (w.setCell ⟨gu,i,none⟩ (.int .i64 v)) g ss lim { c with undone:=c.undone.set i v } vs vw (.slice (some ⟨gu,0,none⟩) n cap) vd pm sm N∧Below B w (w.setCell ⟨gu,i,none⟩ (.int .i64 v)):=by
 have hg:w.grownBy (w.setCell ⟨gu,i,none⟩ (.int .i64 v)) (some gu):=(At.refl gu w).set i _
 obtain⟨f,hf,hf'⟩:=h.hp
 obtain⟨k,hk,hk'⟩:=h.hg
 obtain⟨n1,n2,n3⟩:=h.own_ne h.hu (b:=gu) rfl
 have hlo:=(h.hu.lt gu rfl).1
 have hn:n=c.undone.length:=by
  rcases h.hu.2 with ⟨q,_⟩ | ⟨_,_,_,q,_⟩ <;> simp at q
  exact q.2.1
 subst hn
 have hst:=(h.hu.stored i (.int .i64 v)).1
 refine⟨⟨(hg.block _ (gL h.row) (by simpa using Ne.symm n1)).trans h.row,h.hs.under h.us (zA3 hg hlo h.lB),h.us,h.hw.kept hg (.inr (h.awu.symm gu rfl)),?_,h.hd.kept hg (.inr (h.aud gu rfl)),⟨f,hf.kept hg (by simpa using Ne.symm n2),hf'⟩,⟨k,hk.kept hg (by simpa using Ne.symm n3),hk'⟩,h.awu,h.uw,h.uu,h.aps,h.lg,h.lp,h.ls,Nat.le_trans h.lB hg.size,h.lD.1,Nat.le_trans h.lD.2 hg.size⟩,zA3 hg hlo h.lB⟩
 rw[List.map_set,List.length_set]
 exact hst
theorem CM.ghost(h:CM B D w g ss lim c vs vw vu vd pm sm N)(c':Crs)(e1:c'.went=c.went)(e2:c'.undone=c.undone)(e3:c'.pl=c.pl)(e4:c'.done=c.done)(e5:c'.sig=c.sig)(e6:c'.stop=c.stop):CM B D w g ss lim c' vs vw vu vd pm sm N :=
 ⟨by rw[e6];exact h.row,h.hs,h.us,by rw[e1];exact h.hw,by rw[e2];exact h.hu,by rw[e4];exact h.hd,by rw[e3];exact h.hp,by rw[e5];exact h.hg,h.awu,h.uw,h.uu,h.aps,h.lg,h.lp,h.ls,h.lB,h.lD⟩
theorem CM.mono(h:CM B D w g ss lim c vs vw vu vd pm sm N){M:Nat}(hM:N≤M):CM B D w g ss lim c vs vw vu vd pm sm M:=by
 obtain⟨f,hf,hf'⟩:=h.hp
 obtain⟨k,hk,hk'⟩:=h.hg
 exact⟨h.row,h.hs,h.us,h.hw,h.hu,h.hd,⟨f,hf.mono hM,hf'⟩,⟨k,hk.mono hM,hk'⟩,h.awu,h.uw,h.uu,h.aps,h.lg,h.lp,h.ls,h.lB,h.lD⟩
theorem CM.setPl(h:CM B D w g ss lim c vs vw vu vd pm sm N){p:Int→Int×Int}(hg:w.grownBy w' (some pm))(hm:∃f,MapV Tryz.prog w' 3 pm (N+1) f∧PlOk f p):CM B D w' g ss lim { c with pl:=p } vs vw vu vd pm sm (N+1)∧Below B w w':=by
 obtain⟨f,hf,hf'⟩:=h.hp
 obtain⟨k,hk,hk'⟩:=h.hg
 obtain⟨e1,e2,e3,e4,e5⟩:=h.gw
 have nw:∀ {E:Nat} {v:Value} {n:Nat} {xs:List Value},w.ownsRow E 3 1 v n xs→v.ownBlock≠some pm:=fun ho q=>by
  obtain⟨cur,z⟩:=zBp ho q
  exact zBt z hf
 exact⟨⟨(hg.block _ (gL h.row) (by simpa using e4)).trans h.row,h.hs.under h.us (zA3 hg h.lp h.lB),h.us,h.hw.kept hg (.inr (nw h.hw)),h.hu.kept hg (.inr (nw h.hu)),h.hd.kept hg (.inr (nw h.hd)),hm,⟨k,(hk.kept hg (by simpa using Ne.symm h.aps)).mono (Nat.le_succ N),hk'⟩,h.awu,h.uw,h.uu,h.aps,h.lg,h.lp,h.ls,Nat.le_trans h.lB hg.size,h.lD.1,Nat.le_trans h.lD.2 hg.size⟩,zA3 hg h.lp h.lB⟩
theorem CM.setSig(h:CM B D w g ss lim c vs vw vu vd pm sm N){s:List UInt8→Int}(hg:w.grownBy w' (some sm))(hm:∃f,MapV Tryz.prog w' 9 sm (N+1) f∧SgOk f s):CM B D w' g ss lim { c with sig:=s } vs vw vu vd pm sm (N+1)∧Below B w w':=by
 obtain⟨f,hf,hf'⟩:=h.hp
 obtain⟨k,hk,hk'⟩:=h.hg
 obtain⟨e1,e2,e3,e4,e5⟩:=h.gw
 have nw:∀ {E:Nat} {v:Value} {n:Nat} {xs:List Value},w.ownsRow E 3 1 v n xs→v.ownBlock≠some sm:=fun ho q=>by
  obtain⟨cur,z⟩:=zBp ho q
  exact zBt z hk
 exact⟨⟨(hg.block _ (gL h.row) (by simpa using e5)).trans h.row,h.hs.under h.us (zA3 hg h.ls h.lB),h.us,h.hw.kept hg (.inr (nw h.hw)),h.hu.kept hg (.inr (nw h.hu)),h.hd.kept hg (.inr (nw h.hd)),⟨f,(hf.kept hg (by simpa using h.aps)).mono (Nat.le_succ N),hf'⟩,hm,h.awu,h.uw,h.uu,h.aps,h.lg,h.lp,h.ls,Nat.le_trans h.lB hg.size,h.lD.1,Nat.le_trans h.lD.2 hg.size⟩,zA3 hg h.ls h.lB⟩
end
end Go.Proofs.YtkedafopdkhnfaaGreat
namespace Go.Proofs.YtkedafopdkhnfaaGreat
open Go.RowKit Go.Shelf
set_option linter.unusedVariables false
set_option linter.unusedSimpArgs false
attribute [local go_sem] Oper.semAt_some
theorem zRu{α:Type}(encs:α→Array Value)(Dl:List α)(zs:List Int)(hD:Dl.length=zs.length)(he:∀k (h:k<Dl.length),encs Dl[k]=#[.int .i64 ((zs.length - 1 - k:Nat):Int),.int .i64 (zs[zs.length - 1 - k]?.getD 0)])
 (F:Fence)(n:Nat)(h8:F.fn 35)(hro:F.round=none)(hn:1≤n)(l Bs n₀ b off cap:Nat)(hreach:zs.length≤9000000)(hb:b<n₀)(J Jx:List α→World→Prop)
 (hY:∀pre x W,J pre W→pre.length<zs.length→YieldAt F (n - 1) Tryz.prog l (encs x) W fun e W' =>
  (e=.returned (.bool true)∧J (pre ++ [x]) W'∧Below n₀ W W')∨(e=.returned (.bool false)∧Jx (pre ++ [x]) W'))
 (W:World)(hBs0:Bs<n₀)(hBs:W.cell? ⟨Bs,0,none⟩=some (.slice (some ⟨b,off,none⟩) zs.length cap))(hc:∀j,j<zs.length→W.cell? ⟨b,off+j,none⟩=some (.int .i64 (zs[j]?.getD 0)))(h0:J [] W) :
 CallsIn F n Tryz.prog 35 #[.func (.yield l) #[] #[],.pointer (some ⟨Bs,0,none⟩)] W fun e W'=>(∃v,e=.returned v) ∧
  ((∃ys,ys=Dl∧J ys W')∨(∃pre,pre <+: Dl∧Jx pre W')):=by
 refine callsIn_of_wp Tryz.func35 rfl h8 ?_ hro
 simp only[Tryz.ntmps35,List.size_toArray,List.length_cons,List.length_nil,Nat.reduceAdd,Nat.reduceSub,Array.replicate_succ,Array.replicate_zero,List.push_toArray,List.append_toArray,List.nil_append,List.cons_append]
 have hlI:(zs.length:Int)≤9000000:=by omega
 have hl0:(0:Int)≤(zs.length:Int):=by omega
 gi_wp2
 gi_loopw [3] (fun i wr=>∃m:Nat,m≤zs.length∧i=.int .i64 ((m:Int) - 1)∧J (Dl.take (zs.length - m)) wr∧Below n₀ W wr)
  (fun i _=>(intOf i+1).toNat)
 case atStart=>exact⟨zs.length,Nat.le_refl _,rfl,by rw[Nat.sub_self,List.take_zero];exact h0,Below.refl _ _⟩
 case round =>
  obtain⟨m,hm,rfl,hJs,hnx⟩:=hrel
  cases m with
  | zero =>
    have hz:(((0:Nat):Int) - 1) = -1:=by omega
    rw[hz]
    gi_wp2
    go_end0
    exact⟨⟨_,rfl⟩,.inl ⟨_,rfl,by rw[Nat.sub_zero,← hD,List.take_length] at hJs;exact hJs⟩⟩
  | succ m =>
    have hz:(((m+1:Nat):Int) - 1)=(m:Int):=by omega
    rw[hz]
    have hk:zs.length - (m+1)<Dl.length:=by omega
    have hix:zs.length - 1 - (zs.length - (m+1))=m:=by omega
    have hcx:wr.cell? ⟨b,off+m,none⟩=some (.int .i64 (zs[m]?.getD 0)):=(hnx.cell (p:=⟨b,off+m,none⟩) hb).trans (hc m (by omega))
    have hbx:wr.cell? ⟨Bs,0,none⟩=some (.slice (some ⟨b,off,none⟩) zs.length cap):=(hnx.cell (p:=⟨Bs,0,none⟩) hBs0).trans hBs
    have hy':=hY _ Dl[zs.length - (m+1)] wr hJs (by rw[List.length_take];omega)
    rw[he _ hk,hix] at hy'
    obtain⟨fn,tmps,assign,body,hy,hR⟩:=hy'
    have htk:Dl.take (zs.length - (m+1)) ++ [Dl[zs.length - (m+1)]]=Dl.take (zs.length - m):=by
     rw[← List.take_succ_eq_append_getElem hk];congr 1;omega
    rw[htk] at hR
    have hm0:(0:Int)≤(m:Int):=by omega
    have hm1:(m:Int)<(zs.length:Int):=by omega
    clear htk hix hz
    gi_wp2
    refine hR.mono ?_
    rintro e W3 (⟨rfl,hJ3,hk3⟩ | ⟨rfl,hJx3⟩)
    · gi_wp2
      go_roundw
      case rel=>exact⟨m,by omega,rfl,hJ3,hnx.trans hk3⟩
      case measure=>(simp[intOf])
    · gi_wp2
      refine bodyPost_ret (results_none rfl _ _ _) rfl ?_
      exact⟨⟨_,rfl⟩,.inr ⟨_,List.take_prefix _ _,hJx3⟩⟩
theorem zHe{α:Type}(F:Fence)(n:Nat)(h8:F.fn 35)(hro:F.round=none)(l Bs cap:Nat)(a:Option Addr)(J:List α→World→Prop)(W:World)(hBs:W.cell? ⟨Bs,0,none⟩=some (.slice a 0 cap))(h0:J [] W) :
 CallsIn F n Tryz.prog 35 #[.func (.yield l) #[] #[],.pointer (some ⟨Bs,0,none⟩)] W fun e W'=>(∃v,e=.returned v)∧J [] W':=by
 refine callsIn_of_wp Tryz.func35 rfl h8 ?_ hro
 simp only[Tryz.ntmps35,List.size_toArray,List.length_cons,List.length_nil,Nat.reduceAdd,Nat.reduceSub,Array.replicate_succ,Array.replicate_zero,List.push_toArray,List.append_toArray,List.nil_append,List.cons_append]
 gi_wp2
 gi_loopw [3] (fun i wr=>i=.int .i64 (-1)∧J [] wr) (fun _ _=>0)
 case atStart=>exact⟨rfl,h0⟩
 case round =>
  obtain⟨rfl,hJs⟩:=hrel
  gi_wp2
  go_end0
  exact⟨⟨_,rfl⟩,hJs⟩
theorem zPb(F:Fence)(n:Nat)(h5:F.fn 27)(hro:F.round=none)(a:Option Addr)(len cap:Nat)(w:World) :
 CallsIn F n Tryz.prog 27 #[.slice a len cap] w fun e w'=>e=.returned (.func (.func 35) #[] #[.pointer (some ⟨w.heap.size,0,none⟩)])∧w'=w.alloc (.cells #[.slice a len cap] 33):=by
 refine callsIn_of_wp Tryz.func27 rfl h5 ?_ hro
 simp only[Tryz.ntmps27,List.size_toArray,List.length_cons,List.length_nil,Nat.reduceAdd,Nat.reduceSub,Array.replicate_succ,Array.replicate_zero,List.push_toArray,List.append_toArray,List.nil_append,List.cons_append]
 gi_wp2
 go_ret
 exact⟨rfl,rfl⟩
theorem zNz{α:Type}(encs:α→Array Value)(Dl:List α)(zs:List Int)(hD:Dl.length=zs.length)(he:∀k (h:k<Dl.length),encs Dl[k]=#[.int .i64 ((zs.length - 1 - k:Nat):Int),.int .i64 (zs[zs.length - 1 - k]?.getD 0)])
 (F:Fence)(n:Nat)(h8:F.fn 35)(hro:F.round=none)(hn:1≤n)(Bs n₀:Nat)(a:Option Addr)(cap:Nat)(hreach:zs.length≤9000000)(w:World)(hBs:Bs<n₀)(hn₀:n₀≤w.heap.size)
 (hc:w.cell? ⟨Bs,0,none⟩=some (.slice a zs.length cap))(hI:Sl w (.slice a zs.length cap) 1 zs.length (zs.map iv))(hun:zIr n₀ (.slice a zs.length cap)) :
 SeqStopsK F n Tryz.prog 35 #[.pointer (some ⟨Bs,0,none⟩)] encs (Below n₀) (fun ys=>ys=Dl) (fun pre=>pre <+: Dl) zs.length w:=fun l J Jx W hW _ _ hY h0=>by
 have hc':=(hW.cell (p:=⟨Bs,0,none⟩) (Nat.lt_of_lt_of_le hBs hn₀)).trans hc
 obtain⟨_,_,a',cap',hv,hcc⟩:=hI
 rw[Value.slice.injEq] at hv
 obtain⟨rfl,-,rfl⟩:=hv
 rcases hcc with hz | ⟨b,off,rfl,hlt,hcs⟩
 · have hD0:Dl=[]:=List.eq_nil_of_length_eq_zero (by omega)
   rw[hz] at hc'
   subst hD0
   exact(zHe F n h8 hro l Bs cap a J W hc' h0).mono fun e W' ⟨he,hj⟩=>⟨he,.inl ⟨_,rfl,hj⟩⟩
 · refine zRu encs Dl zs hD he F n h8 hro hn l Bs n₀ b off cap hreach (hun b rfl) J Jx hY W hBs hc' (fun j hj=>?_) h0
   have hj':j<(zs.map iv).length:=by rw[List.length_map];exact hj
   rw[(hW.cell (p:=⟨b,off+j,none⟩) hlt).trans (hcs j hj'),List.getElem_map,List.getElem?_eq_getElem hj]
   rfl
end Go.Proofs.YtkedafopdkhnfaaGreat
