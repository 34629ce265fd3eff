/- WHAT A READER READS, in plain Lean: there and back. -/
import Derived.Test.YtkedafopdkhnfaaGreatRRdr
import Derived.Test.YtkedafopdkhnfaaGreatVaryRPut
namespace Go.Proofs.YtkedafopdkhnfaaGreat
open Go.RowKit
set_option linter.unusedVariables false
theorem zEs{r r':List UInt8}{b:Bool}{n:Nat}:numF r b=(n,r',false)↔b=false∧U64 n∧r=putL n++r':=by
 cases b with
 | true=>simp[numF]
 | false =>
   cases hg:zAz 0 r with
   | none =>
     have h:=zD1 hg
     have:¬(U64 n∧r=putL n++r'):=fun hh=>by rw[(zEq r n r').2 hh] at hg;cases hg
     simp[numF,h.2.2,this]
   | some x =>
     obtain⟨m,s⟩:=x
     have h:=zEr hg
     simp only[numF,h.1,h.2.1,h.2.2]
     constructor
     · intro e
       simp at e
       exact⟨trivial,(zEq r n r').1 (by rw[hg,e.1,e.2])⟩
     · rintro⟨_,hh⟩
       rw[(zEq r n r').2 hh] at hg
       cases hg
       rfl
theorem zNe{r r':List UInt8}{b:Bool}{n:Nat}{m:Int}:intF r b m=(n,r',false)↔b=false∧U64 n∧(n:Int)≤m∧r=putL n++r':=by
 obtain⟨⟨N,r1,b1⟩,hx⟩:∃x,numF r b=x:=⟨_,rfl⟩
 cases b1 with
 | true =>
   rw[zJw hx]
   constructor
   · intro e;cases e
   · rintro⟨h1,h2,_,h3⟩
     rw[zEs.2 ⟨h1,h2,h3⟩] at hx;cases hx
 | false =>
   have hn:=zEs.1 hx
   by_cases hm:m<0∨m<(N:Int)
   · rw[zIb hx hm]
     constructor
     · intro e;cases e
     · rintro⟨h1,h2,h4,h3⟩
       rw[zEs.2 ⟨h1,h2,h3⟩] at hx;cases hx;omega
   · rw[zL7 hx hm]
     constructor
     · intro e;cases e
       exact⟨hn.1,hn.2.1,by omega,hn.2.2⟩
     · rintro⟨h1,h2,h4,h3⟩
       rw[zEs.2 ⟨h1,h2,h3⟩] at hx;cases hx;rfl
theorem zSn{r:List UInt8}{b:Bool}{m:Int}(h:(intF r b m).2.2=false):b=false∧U64 (intF r b m).1∧((intF r b m).1:Int)≤m∧r=putL (intF r b m).1++(intF r b m).2.1:=zNe.1 (by rw[← h])
theorem zG0{r:List UInt8}{b:Bool}{m:Int}(h0:0≤m):((intF r b m).1:Int)≤m:=by
 unfold intF
 split
 · exact h0
 · split
   · exact h0
   · simp only;omega
theorem zNf{n:Nat}{m:Int}(r:List UInt8)(hn:(n:Int)≤m)(hm:m≤9223372036854775807):intF (putL n++r) false m=(n,r,false):=zNe.2 ⟨rfl,by unfold U64;omega,hn,rfl⟩
theorem zBj(r:List UInt8)(b:Bool)(m:Int):(intF r b m).2.1.length≤r.length:=by
 have h:=zEt r b
 unfold intF
 split
 · exact h
 · split
   · exact Nat.zero_le _
   · exact h
theorem zLm(r:List UInt8)(b:Bool)(n:Int):(zC1 r b n).2.1.length≤r.length:=by
 unfold zC1
 split
 · exact Nat.le_refl _
 · split
   · exact Nat.zero_le _
   · simp
theorem zDw(r:List UInt8)(b:Bool):(zCz r b).2.1.length≤r.length:=Nat.le_trans (zLm _ _ _) (zEt r b)
theorem zQy{r:List UInt8}{b:Bool}{n:Int}(h:(zC1 r b n).2.2=false):b=false∧0≤n∧r=(zC1 r b n).1++(zC1 r b n).2.1∧((zC1 r b n).1.length:Int)=n:=by
 unfold zC1 at h ⊢
 split at h
 · cases h
 · rename_i hb
   split at h
   · cases h
   · rename_i hn
     rw[if_neg hb,if_neg hn]
     refine⟨by simpa using hb,by omega,by simp,?_⟩
     simp only[List.length_take];omega
theorem zQ1{r:List UInt8}{b:Bool}(h:(zCz r b).2.2=false)(hl:(zCz r b).1.length<1099511627776):b=false∧r=zCe (zCz r b).1++(zCz r b).2.1:=by
 obtain⟨h1,h2,h3,h4⟩:=zQy (n:=min ((numF r b).1:Int) 1099511627776) h
 have h5:=zEs.1 (show numF r b=((numF r b).1,(numF r b).2.1,false) by rw[← h1])
 refine⟨h5.1,?_⟩
 have e:(zC1 (numF r b).2.1 (numF r b).2.2 (min ((numF r b).1:Int) 1099511627776)).1.length=(zCz r b).1.length:=rfl
 have e2:(zCz r b).1.length=(numF r b).1:=by omega
 unfold zCe
 rw[e2,List.append_assoc]
 refine h5.2.2.trans ?_
 congr 1
theorem zQ2(t r:List UInt8)(hl:t.length<1099511627776):zCz (zCe t++r) false=(t,r,false):=by
 have h1:numF (zCe t++r) false=(t.length,t++r,false):=zEs.2 ⟨rfl,by unfold U64;omega,by unfold zCe;rw[List.append_assoc]⟩
 rw[zNs h1,show min (t.length:Int) 1099511627776=((t.length:Nat):Int) by omega,zHu (by simp)]
 simp
def zB0(r:List UInt8)(b:Bool):List UInt8×List UInt8×Bool:=zC1 (numF r b).2.1 (numF r b).2.2 ((numF r b).1:Int)
theorem zDr(r:List UInt8)(b:Bool):(zB0 r b).2.1.length≤r.length:=Nat.le_trans (zLm _ _ _) (zEt r b)
theorem zOq(t r:List UInt8)(hl:t.length<1099511627776):zB0 (zCe t++r) false=(t,r,false):=by
 have h1:numF (zCe t++r) false=(t.length,t++r,false):=zEs.2 ⟨rfl,by unfold U64;omega,by unfold zCe;rw[List.append_assoc]⟩
 unfold zB0
 rw[h1]
 show zC1 (t++r) false ((t.length:Nat):Int)=_
 rw[zHu (by simp)]
 simp
theorem zFz{r:List UInt8}{b:Bool}(h:Sane r b):Sane (zB0 r b).2.1 (zB0 r b).2.2:=zOu _ (zGp h)
theorem zSa{r:List UInt8}{b:Bool}:endF r b=true↔r=[]∧b=false:=by
 unfold endF
 cases r <;> cases b <;> simp
end Go.Proofs.YtkedafopdkhnfaaGreat
