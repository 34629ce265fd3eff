/- PROGRAMS, in plain Lean: what is one, its bytes, what is read; there and back. -/
import Derived.Test.YtkedafopdkhnfaaGreatRdrPlain
namespace Go.Proofs.YtkedafopdkhnfaaGreat
open Go.RowKit
set_option linter.unusedVariables false
abbrev St:=Int×List UInt8×List UInt8×Int×Int×Int
abbrev St.kd (x:St):Int:=x.1
abbrev St.nm (x:St):List UInt8:=x.2.1
abbrev St.un (x:St):List UInt8:=x.2.2.1
abbrev St.tr (x:St):Int:=x.2.2.2.1
abbrev St.ut (x:St):Int:=x.2.2.2.2.1
abbrev St.wt (x:St):Int:=x.2.2.2.2.2
def zCi(s:List UInt8):Prop:=1≤s.length∧s.length≤16∧∀c∈s,33≤c.toNat∧c.toNat≤126
instance (s:List UInt8):Decidable (zCi s):=inferInstanceAs (Decidable (_∧_∧_))
def zE4(x:St):Prop:=((x.un=[]∧x.ut=0)∨(zCi x.un∧1≤x.ut∧x.ut≤5))∧zCi x.nm∧(1≤x.tr∧x.tr≤5)∧x.wt=0
instance (x:St):Decidable (zE4 x):=inferInstanceAs (Decidable (_∧_∧_∧_))
def zFq(x:St):Prop:=x.nm=[]∧x.un=[]∧x.tr=0∧x.ut=0∧(1≤x.wt∧x.wt≤1000)
instance (x:St):Decidable (zFq x):=inferInstanceAs (Decidable (_∧_∧_∧_∧_))
def zFp(x:St):Prop:=zCi x.nm∧x.un=[]∧x.tr=0∧x.ut=0∧x.wt=0
instance (x:St):Decidable (zFp x):=inferInstanceAs (Decidable (_∧_∧_∧_∧_))
def zBg(x:St):Prop:=(x.kd=1∧zE4 x)∨(x.kd=2∧zFq x)∨(x.kd=3∧zFp x)
instance (x:St):Decidable (zBg x):=inferInstanceAs (Decidable (_∨_∨_))
def zCr(lim:Int)(ss:List St):Prop:=ss.length≤16∧(0≤lim∧lim≤16000)∧∀x∈ss,zBg x
instance (lim:Int) (ss:List St):Decidable (zCr lim ss):=inferInstanceAs (Decidable (_∧_∧_))
def encS(x:St):List UInt8:=putL x.kd.toNat++(if x.kd=1 then zCe x.nm++(putL x.tr.toNat++(zCe x.un++putL x.ut.toNat)) else if x.kd=2 then putL x.wt.toNat else zCe x.nm)
def encP(lim:Int)(ss:List St):List UInt8:=putL lim.toNat++(putL ss.length++ss.flatMap encS)
theorem zA7(n:Nat)(h:n≤16000):(putL n).length≤10:=zDp (by unfold U64;omega)
theorem zEm{t:List UInt8}(h:t.length≤16):(zCe t).length≤26:=by
 have:=zA7 t.length (by omega)
 unfold zCe;rw[List.length_append];omega
theorem zR9{x:St}(h:zBg x):(encS x).length≤82:=by
 unfold encS
 rcases h with ⟨hk,h1,h2,h3,h4⟩ | ⟨hk,h1⟩ | ⟨hk,h1⟩
 · rw[if_pos hk,hk]
   have hu:x.un.length≤16:=by
    rcases h1 with ⟨h,_⟩ | ⟨h,_⟩
    · rw[h];simp
    · exact h.2.1
   have a1:=zEm h2.2.1
   have a2:=zEm hu
   have a3:=zA7 x.tr.toNat (by omega)
   have a4:=zA7 x.ut.toNat (by rcases h1 with ⟨_,h⟩ | ⟨_,h⟩ <;> omega)
   have a5:=zA7 (1:Int).toNat (by decide)
   simp only[List.length_append];omega
 · rw[if_neg (by omega),if_pos hk,hk]
   have a3:=zA7 x.wt.toNat (by have:=h1.2.2.2.2;omega)
   have a5:=zA7 (2:Int).toNat (by decide)
   simp only[List.length_append];omega
 · rw[if_neg (by omega),if_neg (by omega),hk]
   have a1:=zEm h1.1.2.1
   have a5:=zA7 (3:Int).toNat (by decide)
   simp only[List.length_append];omega
theorem zKs{ss:List St}(h:∀x∈ss,zBg x):(ss.flatMap encS).length≤82*ss.length:=by
 induction ss with
 | nil=>simp
 | cons x r ih =>
   have h1:=zR9 (h x (by simp))
   have h2:=ih (fun y hy=>h y (by simp[hy]))
   rw[List.flatMap_cons,List.length_append,List.length_cons];omega
theorem zR8{lim:Int}{ss:List St}(h:zCr lim ss):(encP lim ss).length≤1400:=by
 have h1:=zKs h.2.2
 have h2:=zA7 lim.toNat (by have:=h.2.1;omega)
 have h3:=zA7 ss.length (by have:=h.1;omega)
 have h4:=h.1
 unfold encP
 simp only[List.length_append];omega
/-! what is read -/
abbrev RS:=List UInt8×Bool
def rdI(m:Int)(s:RS):Nat×RS:=intF s.1 s.2 m
def zGq(tx:RS→List UInt8×RS)(ck ct cw:Int)(zero:Bool)(s:RS):St×RS :=
 let k:=rdI ck s
 if k.1=1 then
  let n:=tx k.2
  let t:=rdI ct n.2
  let u:=tx t.2
  let v:=rdI ct u.2
  (((1,n.1,u.1,(t.1:Int),(v.1:Int),0):St),v.2)
 else if k.1=2 then
  let w:=rdI cw k.2
  (((2,[],[],0,0,(w.1:Int)):St),w.2)
 else if k.1=0∧zero=true then(((0,[],[],0,0,0):St),k.2)
 else
  let n:=tx k.2
  ((((k.1:Int),n.1,[],0,0,0):St),n.2)
def zA4(f:RS→St×RS):Nat→RS→List St×RS
 | 0,s=>([],s)
 | n+1,s=>((f s).1 :: (zA4 f n (f s).2).1,(zA4 f n (f s).2).2)
def tx1(s:RS):List UInt8×RS:=zCz s.1 s.2
def tx2(s:RS):List UInt8×RS:=zB0 s.1 s.2
def zBr:RS→St×RS:=zGq tx1 3 5 1000 true
def zBk:RS→St×RS:=zGq tx2 9 9 9999 false
theorem i12:¬((1:Int)=2)∧¬((1:Int)=3):=by decide
theorem i21:¬((2:Int)=1):=by decide
theorem i31:¬((3:Int)=1):=by decide
theorem i32:¬((3:Int)=2):=by decide
theorem i0:¬((0:Int)=1)∧¬((0:Int)=2)∧¬((0:Int)=3):=by decide
theorem zJ7{n:Nat}{m:Int}(r:List UInt8)(hn:(n:Int)≤m)(hm:m≤9223372036854775807):rdI m (putL n++r,false)=(n,r,false):=zNf r hn hm
theorem zHs{n:Int}{m:Int}(r:List UInt8)(h0:0≤n)(hn:n≤m)(hm:m≤9223372036854775807):rdI m (putL n.toNat++r,false)=(n.toNat,r,false):=zNf r (by omega) hm
theorem zLj{tx:RS→List UInt8×RS}{ck ct cw:Int}{zero:Bool}(htx:∀t r,t.length≤16→tx (zCe t++r,false)=(t,r,false))(h1:3≤ck∧ck≤100)(h2:5≤ct∧ct≤100)(h3:1000≤cw∧cw≤10000){x:St}(hx:zBg x)(r:List UInt8) :
 zGq tx ck ct cw zero (encS x++r,false)=(x,r,false):=by
 obtain⟨kd,nm,un,tr,ut,wt⟩:=x
 rcases hx with ⟨hk,hx⟩ | ⟨hk,hx⟩ | ⟨hk,hx⟩
 · simp only[St.kd] at hk
   subst hk
   obtain⟨hu,hn,ht,hw⟩:=hx
   simp only[St.un,St.ut,St.nm,St.tr,St.wt] at hu hn ht hw
   subst hw
   have hul:un.length≤16:=by
    rcases hu with ⟨h,_⟩ | ⟨h,_⟩
    · rw[h];simp
    · exact h.2.1
   have hut:0≤ut∧ut≤5:=by rcases hu with ⟨_,h⟩ | ⟨_,h⟩ <;> omega
   have e0:encS (1,nm,un,tr,ut,0)++r=putL 1++(zCe nm++(putL tr.toNat++(zCe un++(putL ut.toNat++r)))):=by
    unfold encS
    rw[if_pos rfl]
    simp only[List.append_assoc]
    rfl
   have e1:=zJ7 (n:=1) (m:=ck) (zCe nm++(putL tr.toNat++(zCe un++(putL ut.toNat++r)))) (by omega) (by omega)
   have e2:=htx nm (putL tr.toNat++(zCe un++(putL ut.toNat++r))) hn.2.1
   have e3:=zHs (n:=tr) (m:=ct) (zCe un++(putL ut.toNat++r)) (by omega) (by omega) (by omega)
   have e4:=htx un (putL ut.toNat++r) hul
   have e5:=zHs (n:=ut) (m:=ct) r (by omega) (by omega) (by omega)
   unfold zGq
   rw[e0]
   simp only[e1,e2,e3,e4,e5,if_true]
   rw[Int.toNat_of_nonneg (by omega),Int.toNat_of_nonneg (by omega)]
 · simp only[St.kd] at hk
   subst hk
   obtain⟨hn,hu,ht,hut,hw⟩:=hx
   simp only[St.un,St.ut,St.nm,St.tr,St.wt] at hu hn ht hw hut
   subst hn;subst hu;subst ht;subst hut
   have e0:encS (2,[],[],0,0,wt)++r=putL 2++(putL wt.toNat++r):=by
    unfold encS
    rw[if_neg i21,if_pos rfl]
    simp only[List.append_assoc]
    rfl
   have e1:=zJ7 (n:=2) (m:=ck) (putL wt.toNat++r) (by omega) (by omega)
   have e2:=zHs (n:=wt) (m:=cw) r (by omega) (by omega) (by omega)
   unfold zGq
   rw[e0]
   simp only[e1,e2]
   rw[if_neg (by decide),if_pos trivial,Int.toNat_of_nonneg (by omega)]
 · simp only[St.kd] at hk
   subst hk
   obtain⟨hn,hu,ht,hut,hw⟩:=hx
   simp only[St.un,St.ut,St.nm,St.tr,St.wt] at hu hn ht hw hut
   subst hu;subst ht;subst hut;subst hw
   have e0:encS (3,nm,[],0,0,0)++r=putL 3++(zCe nm++r):=by
    unfold encS
    rw[if_neg i31,if_neg i32]
    simp only[List.append_assoc]
    rfl
   have e1:=zJ7 (n:=3) (m:=ck) (zCe nm++r) (by omega) (by omega)
   have e2:=htx nm r hn.2.1
   unfold zGq
   rw[e0]
   simp only[e1,e2]
   rw[if_neg (by decide),if_neg (by decide),if_neg (by simp)]
   rfl
theorem zOx{f:RS→St×RS}(hf:∀x r,zBg x→f (encS x++r,false)=(x,r,false))(ss:List St)(r:List UInt8)(h:∀x∈ss,zBg x):zA4 f ss.length (ss.flatMap encS++r,false)=(ss,r,false):=by
 induction ss with
 | nil=>rfl
 | cons x ss ih =>
   have h1:=hf x (ss.flatMap encS++r) (h x (by simp))
   have h2:=ih (fun y hy=>h y (by simp[hy]))
   rw[List.flatMap_cons,List.append_assoc,List.length_cons]
   simp only[zA4,h1,h2]
theorem zVe(t r:List UInt8)(h:t.length≤16):tx1 (zCe t++r,false)=(t,r,false):=zQ2 t r (by omega)
theorem zVf(t r:List UInt8)(h:t.length≤16):tx2 (zCe t++r,false)=(t,r,false):=zOq t r (by omega)
theorem zQx{x:St}(hx:zBg x)(r:List UInt8):zBr (encS x++r,false)=(x,r,false):=zLj zVe (by omega) (by omega) (by omega) hx r
theorem zOp{x:St}(hx:zBg x)(r:List UInt8):zBk (encS x++r,false)=(x,r,false):=zLj zVf (by omega) (by omega) (by omega) hx r
theorem zG4{m:Int}{s:RS}(h:(rdI m s).2.2=false):s=(putL (rdI m s).1++(rdI m s).2.1,false):=by
 obtain⟨r,b⟩:=s
 have:=zSn (r:=r) (b:=b) (m:=m) h
 show(r,b)=(putL (intF r b m).1++(intF r b m).2.1,false)
 rw[← this.2.2.2,this.1]
theorem zMt{s:RS}(h:(tx1 s).2.2=false)(hl:(tx1 s).1.length≤16):s=(zCe (tx1 s).1++(tx1 s).2.1,false):=by
 obtain⟨r,b⟩:=s
 have:=zQ1 (r:=r) (b:=b) h (Nat.lt_of_le_of_lt hl (by decide))
 show(r,b)=(zCe (zCz r b).1++(zCz r b).2.1,false)
 rw[← this.2,this.1]
theorem zQw{s:RS}(h:(zBr s).2.2=false)(hx:zBg (zBr s).1):s=(encS (zBr s).1++(zBr s).2.1,false):=by
 unfold zBr zGq at h hx ⊢
 obtain⟨k,e1⟩:∃x,x=rdI 3 s:=⟨_,rfl⟩
 have hk:=fun h=>zG4 (m:=3) (s:=s) h
 rw[← e1] at h hx hk ⊢
 clear e1
 obtain⟨k,s1⟩:=k
 simp only at h hx hk ⊢
 by_cases h1:k=1
 · subst h1
   simp only[if_true] at h hx ⊢
   obtain⟨n,e1⟩:∃x,x=tx1 s1:=⟨_,rfl⟩
   have hn:=fun h hl=>zMt (s:=s1) h hl
   rw[← e1] at h hx hn ⊢
   clear e1
   obtain⟨n,s2⟩:=n
   simp only at h hx hn ⊢
   obtain⟨t,e1⟩:∃x,x=rdI 5 s2:=⟨_,rfl⟩
   have ht:=fun h=>zG4 (m:=5) (s:=s2) h
   rw[← e1] at h hx ht ⊢
   clear e1
   obtain⟨t,s3⟩:=t
   simp only at h hx ht ⊢
   obtain⟨u,e1⟩:∃x,x=tx1 s3:=⟨_,rfl⟩
   have hu:=fun h hl=>zMt (s:=s3) h hl
   rw[← e1] at h hx hu ⊢
   clear e1
   obtain⟨u,s4⟩:=u
   simp only at h hx hu ⊢
   obtain⟨v,e1⟩:∃x,x=rdI 5 s4:=⟨_,rfl⟩
   have hv:=fun h=>zG4 (m:=5) (s:=s4) h
   rw[← e1] at h hx hv ⊢
   clear e1
   obtain⟨v,s5⟩:=v
   simp only at h hx hv ⊢
   rcases hx with ⟨_,hx⟩ | ⟨hk',_⟩ | ⟨hk',_⟩
   · obtain⟨g1,g2,g3,g4⟩:=hx
     simp only[St.un,St.ut,St.nm,St.tr,St.wt] at g1 g2 g3 g4
     have hul:u.length≤16:=by
      rcases g1 with ⟨h,_⟩ | ⟨h,_⟩
      · rw[h];simp
      · exact h.2.1
     have f4:=hv h
     have f3:=hu (by rw[f4]) hul
     have f2:=ht (by rw[f3])
     have f1:=hn (by rw[f2]) g2.2.1
     have f0:=hk (by rw[f1])
     rw[f0,f1,f2,f3,f4]
     unfold encS
     rw[if_pos rfl]
     simp only[List.append_assoc]
     rfl
   · exact absurd hk' i12.1
   · exact absurd hk' i12.2
 · rw [if_neg h1] at h hx ⊢
   by_cases h2:k=2
   · subst h2
     simp only[if_true] at h hx ⊢
     obtain⟨v,e1⟩:∃x,x=rdI 1000 s1:=⟨_,rfl⟩
     have hv:=fun h=>zG4 (m:=1000) (s:=s1) h
     rw[← e1] at h hx hv ⊢
     clear e1
     obtain⟨v,s5⟩:=v
     simp only at h hx hv ⊢
     have f1:=hv h
     have f0:=hk (by rw[f1])
     rw[f0,f1]
     unfold encS
     rw[if_neg i21,if_pos rfl]
     simp only[List.append_assoc]
     rfl
   · rw [if_neg h2] at h hx ⊢
     by_cases h3:k=0
     · rw[if_pos ⟨h3,trivial⟩] at hx
       rcases hx with ⟨hk',_⟩ | ⟨hk',_⟩ | ⟨hk',_⟩
       · exact absurd hk' i0.1
       · exact absurd hk' i0.2.1
       · exact absurd hk' i0.2.2
     · rw[if_neg (fun h=>h3 h.1)] at h hx ⊢
       obtain⟨n,e1⟩:∃x,x=tx1 s1:=⟨_,rfl⟩
       have hn:=fun h hl=>zMt (s:=s1) h hl
       rw[← e1] at h hx hn ⊢
       clear e1
       obtain⟨n,s2⟩:=n
       simp only at h hx hn ⊢
       rcases hx with ⟨hk',_⟩ | ⟨hk',_⟩ | ⟨hk',hx⟩
       · exact absurd hk' (by simp only[St.kd];omega)
       · exact absurd hk' (by simp only[St.kd];omega)
       · have f1:=hn h hx.1.2.1
         have f0:=hk (by rw[f1])
         rw[f0,f1]
         unfold encS
         rw[if_neg (by simp only[St.kd];omega),if_neg (by simp only[St.kd];omega)]
         simp only[List.append_assoc,St.kd,Int.toNat_natCast]
theorem zFn(f:RS→St×RS):∀(n:Nat)(s:RS),(zA4 f n s).1.length=n
 | 0,s=>rfl
 | n+1,s=>by simp only[zA4,List.length_cons];rw[zFn f n]
theorem zJe:∀(n:Nat)(s:RS),(zA4 zBr n s).2.2=false→(∀x∈(zA4 zBr n s).1,zBg x)→s=((zA4 zBr n s).1.flatMap encS++(zA4 zBr n s).2.1,false)
 | 0,s,h,_=>by
   obtain⟨r,b⟩:=s
   simp only[zA4] at h ⊢
   rw[h];rfl
 | n+1,s,h,hx=>by
   simp only[zA4] at h hx ⊢
   have h1:=zJe n (zBr s).2 h (fun x hy=>hx x (by simp[hy]))
   have h2:=zQw (s:=s) (by rw[h1]) (hx _ (by simp))
   refine h2.trans ?_
   rw[List.flatMap_cons,List.append_assoc]
   conv=>lhs;rw[h1]
def zC8(f:RS→St×RS)(cl:Int)(s:List UInt8):Int×List St×RS :=
 (((rdI cl (s,false)).1:Int),zA4 f (rdI 16 (rdI cl (s,false)).2).1 (rdI 16 (rdI cl (s,false)).2).2)
theorem zLa{f:RS→St×RS}(hf:∀x r,zBg x→f (encS x++r,false)=(x,r,false)){cl:Int}(hc:16000≤cl∧cl≤9223372036854775807){lim:Int}{ss:List St}(h:zCr lim ss):zC8 f cl (encP lim ss)=(lim,ss,[],false):=by
 have h1:=zHs (n:=lim) (m:=cl) (putL ss.length++ss.flatMap encS) h.2.1.1 (by have:=h.2.1;omega) hc.2
 have h2:=zJ7 (n:=ss.length) (m:=16) (ss.flatMap encS) (by have:=h.1;omega) (by decide)
 have h3:=zOx hf ss [] h.2.2
 rw[List.append_nil] at h3
 unfold zC8 encP
 rw[h1]
 simp only
 rw[h2]
 simp only
 rw[h3,Int.toNat_of_nonneg h.2.1.1]
theorem zQg{s:List UInt8}(h:endF (zC8 zBr 16000 s).2.2.1 (zC8 zBr 16000 s).2.2.2=true)(hp:zCr (zC8 zBr 16000 s).1 (zC8 zBr 16000 s).2.1):s=encP (zC8 zBr 16000 s).1 (zC8 zBr 16000 s).2.1:=by
 obtain⟨e1,e2⟩:=zSa.1 h
 unfold zC8 at e1 e2 hp ⊢
 simp only at e1 e2 hp ⊢
 have h3:=zJe _ _ e2 hp.2.2
 have h4:=zFn zBr (rdI 16 (rdI 16000 (s,false)).2).1 (rdI 16 (rdI 16000 (s,false)).2).2
 rw[e1,List.append_nil] at h3
 have h2:=zG4 (m:=16) (s:=(rdI 16000 (s,false)).2) (by rw[h3])
 have h1:=zG4 (m:=16000) (s:=(s,false)) (by rw[h2])
 unfold encP
 rw[Int.toNat_natCast,h4]
 have g1:s=putL (rdI 16000 (s,false)).1++(rdI 16000 (s,false)).2.1:=congrArg Prod.fst h1
 have g2:=congrArg Prod.fst h2
 have g3:=congrArg Prod.fst h3
 simp only at g2 g3
 rw[← g3,← g2]
 exact g1
def zDf(s:List UInt8):Option (Int×List St):=if endF (zC8 zBr 16000 s).2.2.1 (zC8 zBr 16000 s).2.2.2=true∧zCr (zC8 zBr 16000 s).1 (zC8 zBr 16000 s).2.1 then some ((zC8 zBr 16000 s).1,(zC8 zBr 16000 s).2.1) else none
def zE3(s:List UInt8):Option (Int×List St):=if zCr (zC8 zBk 1073741824 s).1 (zC8 zBk 1073741824 s).2.1∧endF (zC8 zBk 1073741824 s).2.2.1 (zC8 zBk 1073741824 s).2.2.2=true∧encP (zC8 zBk 1073741824 s).1 (zC8 zBk 1073741824 s).2.1=s then some ((zC8 zBk 1073741824 s).1,(zC8 zBk 1073741824 s).2.1) else none
theorem zGm{s:List UInt8}{lim:Int}{ss:List St}:zDf s=some (lim,ss)↔zCr lim ss∧s=encP lim ss:=by
 unfold zDf
 constructor
 · intro h
   split at h
   · rename_i hc
     cases h
     exact⟨hc.2,zQg hc.1 hc.2⟩
   · cases h
 · rintro⟨hp,rfl⟩
   have:=zLa (f:=zBr) (fun x r h=>zQx h r) (cl:=16000) (by omega) hp
   rw[this]
   rw[if_pos ⟨rfl,hp⟩]
theorem zJa{s:List UInt8}{lim:Int}{ss:List St}:zE3 s=some (lim,ss)↔zCr lim ss∧s=encP lim ss:=by
 unfold zE3
 constructor
 · intro h
   split at h
   · rename_i hc
     cases h
     exact⟨hc.1,hc.2.2.symm⟩
   · cases h
 · rintro⟨hp,rfl⟩
   have:=zLa (f:=zBk) (fun x r h=>zOp h r) (cl:=1073741824) (by omega) hp
   rw[this]
   rw[if_pos ⟨hp,rfl,rfl⟩]
theorem zFa(s:List UInt8):zDf s=zE3 s:=by
 cases h:zDf s with
 | none =>
   cases h2:zE3 s with
   | none=>rfl
   | some x=>rw[zGm.2 (zJa.1 h2)] at h;cases h
 | some x=>exact(zJa.2 (zGm.1 h)).symm
end Go.Proofs.YtkedafopdkhnfaaGreat
