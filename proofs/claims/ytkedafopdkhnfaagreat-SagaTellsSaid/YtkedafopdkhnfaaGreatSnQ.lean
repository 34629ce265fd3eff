/- THE BULK OF WHAT A ROW READS, in parts. WHAT COMES IN: a program, a slice of numbers. -/
import Derived.Test.YtkedafopdkhnfaaGreatRows
import Derived.Test.YtkedafopdkhnfaaGreatPgmPlain
import Derived.Test.YtkedafopdkhnfaaGreatSlices
import Derived.Test.YtkedafopdkhnfaaGreatPmM
import Derived.ProofKit
import Derived.OpenShut
import Derived.ShutString
import Derived.SliceStrings
import Derived.Deep.Fields
import Derived.SizedLaws
namespace Go.Proofs.YtkedafopdkhnfaaGreat
theorem zRx{H:Type}(l:List (DataW H)):Rows.uptoBulkAll l=(l.map Rows.uptoBulk).sum:=by
 induction l with
 | nil=>rfl
 | cons x r ih=>simp only[Rows.uptoBulkAll,List.map_cons,List.sum_cons,ih]
theorem zN1{H:Type}(elems spare:List (DataW H)):Rows.uptoBulkAll elems+1≤Rows.uptoBulk (.slice elems spare):=by
 simp only[Rows.uptoBulk];omega
theorem zTu{H:Type}{d:DataW H}{n:Nat}(h:(d=.nil∧n=0)∨∃es rest:List (DataW H),d=.slice es rest∧n≤(es.map Rows.uptoBulk).sum):n+1≤Rows.uptoBulk d:=by
 rcases h with ⟨rfl,rfl⟩ | ⟨es,rest,rfl,h⟩
 · simp[Rows.uptoBulk]
 · have:=zN1 es rest
   rw[zRx] at this;omega
end Go.Proofs.YtkedafopdkhnfaaGreat
namespace Go.Proofs.YtkedafopdkhnfaaGreat
set_option maxRecDepth 100000
open Go.ChangeShapes Go.WideShapes Go.ChangeAt Go.RowKit Go.Deep
set_option linter.unusedVariables false
theorem zJg{α:Type}(l:List α):zMq (fun _=>1) l=l.length:=by
 induction l with
 | nil=>rfl
 | cons a r ih=>simp only[zMq,ih,List.length_cons];omega
theorem zTa{α:Type}(l:List α):(l.map (fun _=>1)).sum=l.length:=by
 induction l with
 | nil=>rfl
 | cons a r ih=>simp only[List.map_cons,List.sum_cons,ih,List.length_cons];omega
theorem zOf{H:Type}{enc:TypeId×Value→H}{W:World}{base:Nat}{v:Value}{d:DataW H}{p:List MemPlace}(hv:Value.okWide Tryz.prog W .any base 32 v)
 (h:DataW.Trod enc Tryz.prog W 0 (fun _=>true) true 32 v d p):∃(v0:Value)(lim:Int)(ss:List St),v=.agg #[v0,.int .i64 lim]∧Sl W v0 6 ss.length (ss.flatMap stC)∧Fit ss:=by
 obtain⟨cs,rfl,hsz⟩:=okWide_struct Tryz.underlying32 hv
 obtain⟨fuel,hf⟩:=h
 obtain⟨ys,n,_,_,hcl,hg⟩:=zF3 Tryz.underlying32 (by kernel_rfl) (by kernel_rfl) hf
 obtain⟨c0,y0,e0,_,t0⟩:=hg 0 _ rfl
 obtain⟨c1,y1,e1,_,t1⟩:=hg 1 _ rfl
 obtain⟨ss,g1,g2,_⟩:=zMs (P:=Tryz.prog) Tryz.underlying30 6 (by kernel_rfl) (by omega) stC zEy (fun a=>a.nm.length≤maxLen∧a.un.length≤maxLen) (fun _=>0) (fun _=>0) (fun n cs x hx=>by
  obtain⟨ys,m,_,_,hcl,hf⟩:=zF3 Tryz.underlying77 (by kernel_rfl) (by kernel_rfl) hx
  obtain⟨c0,y0,e0,_,t0⟩:=hf 0 _ rfl
  obtain⟨c1,y1,e1,_,t1⟩:=hf 1 _ rfl
  obtain⟨c2,y2,e2,_,t2⟩:=hf 2 _ rfl
  obtain⟨c3,y3,e3,_,t3⟩:=hf 3 _ rfl
  obtain⟨c4,y4,e4,_,t4⟩:=hf 4 _ rfl
  obtain⟨c5,y5,e5,_,t5⟩:=hf 5 _ rfl
  obtain⟨K,k0,_,_⟩:=DataW.trod_int Tryz.underlying3 t0
  obtain⟨s1,k1,_,w1⟩:=DataW.trod_string Tryz.underlying9 t1
  obtain⟨s2,k2,_,w2⟩:=DataW.trod_string Tryz.underlying9 t2
  obtain⟨T,k3,_,_⟩:=DataW.trod_int Tryz.underlying3 t3
  obtain⟨U,k4,_,_⟩:=DataW.trod_int Tryz.underlying3 t4
  obtain⟨V,k5,_,_⟩:=DataW.trod_int Tryz.underlying3 t5
  simp only[List.cons.injEq,and_true] at k0 k1 k2 k3 k4 k5
  subst k0;subst k1;subst k2;subst k3;subst k4;subst k5
  match cs,hcl with
  | [d0,d1,d2,d3,d4,d5],_ =>
    simp at e0 e1 e2 e3 e4 e5
    subst e0;subst e1;subst e2;subst e3;subst e4;subst e5
    refine⟨(K,s1.data.toList,s2.data.toList,T,U,V),?_,⟨by rw[← Lib.size_eq];exact w1,by rw[← Lib.size_eq];exact w2⟩,Nat.zero_le _⟩
    unfold stC
    simp only[St.kd,St.nm,St.un,St.tr,St.ut,St.wt]) t0
 obtain⟨N,k1,_,wn⟩:=DataW.trod_int Tryz.underlying3 t1
 simp only[List.cons.injEq,and_true] at k1
 subst k1
 obtain⟨l⟩:=cs
 simp only[Value.cells] at hcl e0 e1
 match l,hcl with
 | [d0,d1],_ =>
   simp at e0 e1
   subst e0;subst e1
   exact⟨d0,N,ss,rfl,g1,g2⟩
theorem zOg{H:Type}{enc:TypeId×Value→H}{W:World}{base:Nat}{v:Value}{d:DataW H}{p:List MemPlace}(hv:Value.okWide Tryz.prog W .any base 32 v)
 (h:DataW.Trod enc Tryz.prog W 0 (fun _=>true) true 32 v d p):∃(va:Option Addr)(vc:Nat)(lim:Int)(ss:List St),v=.agg #[.slice va ss.length vc,.int .i64 lim]∧Sl W (.slice va ss.length vc) 6 ss.length (ss.flatMap stC):=by
 obtain⟨v0,lim,ss,e,hs,-⟩:=zOf hv h
 have hs2:=hs
 obtain⟨_,_,a,c,e2,_⟩:=hs2
 subst e2
 exact⟨a,c,lim,ss,e,hs⟩
theorem zUb(l:List Int):l.flatMap (fun n=>[iv n])=l.map iv:=by
 induction l with
 | nil=>rfl
 | cons x r ih=>rw[List.flatMap_cons,ih];rfl
theorem zQb{H:Type}{enc:TypeId×Value→H}{W:World}{base:Nat}{ts:List TypeId}{ds:List (DataW H)}{j:Nat}{v:Value}{d:DataW H}{p:List MemPlace}
 (hsz:(DataW.weightsEach Tryz.prog ts ds).all (· ≤ reachBytes)=true)(ht:ts[j]?=some 33)(hd:ds[j]?=some d)(hv:Value.okWide Tryz.prog W .any base 33 v)
 (h:DataW.Trod enc Tryz.prog W 0 (fun _=>true) true 33 v d p):∃(zs:List Int)(a:Option Addr)(c:Nat),v=.slice a zs.length c∧Sl W v 1 zs.length (zs.map iv)∧zs.length*8≤140737488351232∧zs.length+1≤Rows.uptoBulk d:=by
 obtain⟨a0,len0,cap0,rfl⟩:=okWide_slice Tryz.underlying33 hv
 obtain⟨fuel,hf⟩:=h
 obtain⟨zs,g1,_,g3⟩:=zMs (P:=Tryz.prog) Tryz.underlying33 1 (by kernel_rfl) (by omega) (fun n:Int=>[iv n]) (fun _=>rfl) (fun _=>True) (fun d:DataW H=>Rows.uptoBulk d) (fun _=>1) (fun n cs x hx=>by
  obtain⟨K,k0,k1,_⟩:=DataW.trod_int Tryz.underlying3 hx
  exact⟨K,k0,trivial,by rw[k1];simp[Rows.uptoBulk]⟩) (by simpa [Value.cells] using hf)
 obtain⟨zs2,q1,_,q3⟩:=zMs (P:=Tryz.prog) Tryz.underlying33 1 (by kernel_rfl) (by omega) (fun n:Int=>[iv n]) (fun _=>rfl) (fun _=>True) (fun _:DataW H=>1) (fun _=>1) (fun n cs x hx=>by
  obtain⟨K,k0,k1,_⟩:=DataW.trod_int Tryz.underlying3 hx
  exact⟨K,k0,trivial,Nat.le_refl _⟩) (by simpa [Value.cells] using hf)
 rw[zUb] at g1
 obtain⟨_,_,a,c,e1,_⟩:=id g1
 obtain⟨_,_,a',c',e2,_⟩:=q1
 rw[Value.slice.injEq] at e1 e2
 have hlen:zs2.length=zs.length:=by rw[← e2.2.1,e1.2.1]
 refine⟨zs,a0,cap0,by rw[e1.2.1],g1,?_,?_⟩
 · rcases q3 with ⟨_,hz⟩ | ⟨es,rest,he,hs⟩
   · rw[hz] at hlen
     simp at hlen
     rw[← hlen];simp
   · rw[zJg,zTa] at hs
     have hw:=sized_slice hsz ht (by rw[hd];exact congrArg some he) Tryz.underlying33
     have hb : Tryz.prog.bytesOf 3 = 8:=by kernel_rfl
     rw[hb] at hw
     have hr:reachBytes=140737488351232:=by decide
     omega
 · refine zTu (g3.imp (fun⟨x,y⟩=>⟨x,by rw[y];rfl⟩) (fun⟨es,rest,he,hs⟩=>⟨es,rest,he,by rw[zJg] at hs;exact hs⟩))
end Go.Proofs.YtkedafopdkhnfaaGreat
