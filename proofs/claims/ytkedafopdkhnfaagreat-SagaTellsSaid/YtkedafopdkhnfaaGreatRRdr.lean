/- CONTRACTS: the methods of wherryref01.Reader, over a reader of the call's own (block g); whoever is bad has nothing left. -/
import Derived.Test.YtkedafopdkhnfaaGreatRdr
import Derived.Test.YtkedafopdkhnfaaGreatVaryRGet
namespace Go.Proofs.YtkedafopdkhnfaaGreat
set_option maxHeartbeats 1600000
open Go.RowKit
def RRdr(w:World)(g:Nat)(r:List UInt8)(b:Bool):Prop:=Obj2 w g 155 (.string ⟨r.toArray⟩) (.bool b)
def Sane(r:List UInt8)(b:Bool):Prop:=b=true→r=[]
theorem zGp{r:List UInt8}{b:Bool}(h:Sane r b):Sane (numF r b).2.1 (numF r b).2.2:=by
 cases b with
 | true=>exact h
 | false =>
   intro h2
   have h3:getB r=false:=by simpa [numF] using h2
   cases hg:zAz 0 r with
   | none=>exact(zD1 hg).2.1
   | some x=>obtain⟨n,s⟩:=x;rw[(zEr hg).2.2] at h3;cases h3
theorem zOu{r:List UInt8}{b:Bool}(n:Int)(h:Sane r b):Sane (zC1 r b n).2.1 (zC1 r b n).2.2:=by
 cases b with
 | true=>exact h
 | false =>
   unfold zC1
   rw[if_neg (by simp)]
   split
   · intro _;rfl
   · intro h;cases h
theorem zEl{r:List UInt8}{b:Bool}(most:Int)(h:Sane r b):Sane (intF r b most).2.1 (intF r b most).2.2:=by
 have h1:=zGp h
 unfold intF
 split
 · rename_i h2;rw[h2] at h1;exact fun _=>h1 rfl
 · split
   · intro _;rfl
   · intro h;cases h
theorem zDa(g:Nat)(r:List UInt8)(b:Bool)(w:World)(h:RRdr w g r b) :
 Calls Tryz.prog 100 #[.pointer (some ⟨g,0,none⟩)] w fun e w'=>e=.returned (.tuple #[])∧RRdr w' g [] true∧At g w w':=by
 have c0:=h.c0;have c1:=h.c1;have f0:=h.fz 0;have f1:=h.fz 1
 go_enter Tryz.func100,Tryz.ntmps100
 go_wp2_with fail
 go_end0
 exact⟨rfl,(h.set0 _).set1 _,((At.refl _ _).set 0 _).set 1 _⟩
theorem zN9(r:List UInt8):(getB r=false∧getN r=0∧getK r=0)∨(getB r=true∧0<getK r∧getK r≤r.length∧getR r=r.drop (getK r)):=by
 cases hg:zAz 0 r with
 | none=>obtain⟨e1,e2,e3⟩:=zD1 hg;exact .inl ⟨e3,e1,(zH8 hg).2⟩
 | some x =>
   obtain⟨m,s⟩:=x
   obtain⟨e1,e2,e3⟩:=zEr hg
   obtain⟨hu,hr⟩:=(zEq r m s).1 hg
   have hp:=zSy m
   have hlen:r.length=(putL m).length+s.length:=by rw[hr];simp
   have hK:getK r=(putL m).length:=by unfold getK;rw[e3,e2];simp;omega
   refine .inr ⟨e3,by omega,by omega,?_⟩
   rw[hK,e2,hr];simp
theorem zUj{r:List UInt8}(h:getB r=false)(h2:getN r=0):numF r false=(0,[],true):=by
 have:getR r=[]:=by
  cases hg:zAz 0 r with
  | none=>exact(zD1 hg).2.1
  | some x=>obtain⟨n,s⟩:=x;rw[(zEr hg).2.2] at h;cases h
 simp[numF,h,h2,this]
theorem zUk{r:List UInt8}(h:getB r=true)(h2:getR r=r.drop (getK r)):numF r false=(getN r,r.drop (getK r),false):=by simp[numF,h,h2]
theorem zEx(g:Nat)(r:List UInt8)(b:Bool)(w:World)(h:RRdr w g r b)(hs:Sane r b)(hl:r.length≤maxLen) :
 Calls Tryz.prog 99 #[.pointer (some ⟨g,0,none⟩)] w fun e w' =>
  e=.returned (.int .u64 (numF r b).1)∧RRdr w' g (numF r b).2.1 (numF r b).2.2∧At g w w':=by
 have c0:=h.c0
 cases b with
 | true =>
   obtain rfl:=hs rfl
   rw[show numF [] true=(0,[],true) from rfl]
   go_enter Tryz.func99,Tryz.ntmps99
   go_wp2_with fail
   refine(zJ8 [] hl _).mono ?_
   rintro e w1 ⟨rfl,hb1⟩
   have h1:=h.keep hb1
   have c1:=h1.c1
   go_wp2_with fail
   refine(zDa g _ _ _ h1).mono ?_
   rintro e w2 ⟨rfl,h2,hg2⟩
   go_wp2_with fail
   go_ret
   exact⟨rfl,h2,(At.of_below hb1).trans hg2⟩
 | false =>
   rcases zN9 r with ⟨e1,e2,e3⟩ | ⟨e1,e2,e3,e4⟩
   · rw[zUj e1 e2]
     go_enter Tryz.func99,Tryz.ntmps99
     go_wp2_with fail
     refine(zJ8 r hl _).mono ?_
     rintro e w1 ⟨rfl,hb1⟩
     rw[e2,e3]
     have h1:=h.keep hb1
     have c1:=h1.c1
     go_wp2_with fail
     refine(zDa g _ _ _ h1).mono ?_
     rintro e w2 ⟨rfl,h2,hg2⟩
     go_wp2_with fail
     go_ret
     exact⟨rfl,h2,(At.of_below hb1).trans hg2⟩
   · rw[zUk e1 e4]
     clear e4
     have hd:=zHp r (getK r)
     have hz:((getK r:Int)==0)=false:=by rw[beq_eq_false_iff_ne];omega
     have hi:(getK r:Int)≤(r.length:Int):=by omega
     go_enter Tryz.func99,Tryz.ntmps99
     go_wp2_with fail
     refine(zJ8 r hl _).mono ?_
     rintro e w1 ⟨rfl,hb1⟩
     have h1:=h.keep hb1
     have d0:=h1.c0;have c1:=h1.c1;have f0:=h1.fz 0;have f1:=h1.fz 1
     go_wp2_with fail
     go_ret
     exact⟨rfl,h1.set0 _,(At.of_below hb1).set 0 _⟩
theorem zDq(g:Nat)(r:List UInt8)(b:Bool)(most:Int)(w:World)(h:RRdr w g r b)(hs:Sane r b)(hl:r.length≤maxLen)(hm0:-9223372036854775808≤most)(hm1:most≤9223372036854775807) :
 Calls Tryz.prog 92 #[.pointer (some ⟨g,0,none⟩),.int .i64 most] w fun e w' =>
  e=.returned (.int .i64 (intF r b most).1)∧RRdr w' g (intF r b most).2.1 (intF r b most).2.2∧At g w w':=by
 have hu:=zHr r b
 have hs1:=zGp hs
 obtain⟨⟨N,r1,b1⟩,hx⟩:∃x,numF r b=x:=⟨_,rfl⟩
 have HX:=hid hx
 rw[hx] at hu hs1
 clear hx
 simp only at hu hs1
 cases b1 with
 | true =>
   obtain rfl:=hs1 rfl
   rw[zJw HX.out]
   go_enter Tryz.func92,Tryz.ntmps92
   go_wp2_with fail
   refine(zEx g r b _ h hs hl).mono ?_
   rw[HX.out]
   rintro e w1 ⟨rfl,h1,hg1⟩
   have c0:=h1.c0;have c1:=h1.c1;have f0:=h1.fz 0;have f1:=h1.fz 1
   go_wp2_with fail
   refine(zDa g _ _ _ h1).mono ?_
   rintro e w2 ⟨rfl,h2,hg2⟩
   go_wp2_with fail
   go_ret
   exact⟨rfl,h2,hg1.trans hg2⟩
 | false =>
   by_cases hn:most<0
   · rw[zIb HX.out (.inl hn)]
     go_enter Tryz.func92,Tryz.ntmps92
     go_wp2_with fail
     refine(zEx g r b _ h hs hl).mono ?_
     rw[HX.out]
     rintro e w1 ⟨rfl,h1,hg1⟩
     have c0:=h1.c0;have c1:=h1.c1;have f0:=h1.fz 0;have f1:=h1.fz 1
     go_wp2_with fail
     refine(zDa g _ _ _ h1).mono ?_
     rintro e w2 ⟨rfl,h2,hg2⟩
     go_wp2_with fail
     go_ret
     exact⟨rfl,h2,hg1.trans hg2⟩
   · obtain⟨m,rfl⟩:=Int.eq_ofNat_of_zero_le (Int.not_lt.1 hn)
     have hw:IntKind.u64.wrap (m:Int)=(m:Int):=zGu (by omega) (by omega)
     by_cases hgt:m<N
     · rw[zIb HX.out (.inr (by omega))]
       go_enter Tryz.func92,Tryz.ntmps92
       go_wp2_with fail
       refine(zEx g r b _ h hs hl).mono ?_
       rw[HX.out]
       rintro e w1 ⟨rfl,h1,hg1⟩
       have c0:=h1.c0;have c1:=h1.c1;have f0:=h1.fz 0;have f1:=h1.fz 1
       go_wp2_with fail
       refine(zDa g _ _ _ h1).mono ?_
       rintro e w2 ⟨rfl,h2,hg2⟩
       go_wp2_with fail
       go_ret
       exact⟨rfl,h2,hg1.trans hg2⟩
     · have hw2:IntKind.i64.wrap (N:Int)=(N:Int):=IntWalk.i64_in _ (by omega)
       rw[zL7 HX.out (by omega)]
       go_enter Tryz.func92,Tryz.ntmps92
       go_wp2_with fail
       refine(zEx g r b _ h hs hl).mono ?_
       rw[HX.out]
       rintro e w1 ⟨rfl,h1,hg1⟩
       have c0:=h1.c0;have c1:=h1.c1;have f0:=h1.fz 0;have f1:=h1.fz 1
       go_wp2_with fail
       go_ret
       exact⟨rfl,h1,hg1⟩
theorem zQq(g:Nat)(r:List UInt8)(b:Bool)(n:Int)(w:World)(h:RRdr w g r b)(hs:Sane r b)(hl:r.length≤maxLen) :
 Calls Tryz.prog 101 #[.pointer (some ⟨g,0,none⟩),.int .i64 n] w fun e w' =>
  e=.returned (.string ⟨(zC1 r b n).1.toArray⟩)∧RRdr w' g (zC1 r b n).2.1 (zC1 r b n).2.2∧At g w w':=by
 unfold maxLen at hl
 have c0:=h.c0;have c1:=h.c1;have f0:=h.fz 0;have f1:=h.fz 1
 cases b with
 | true =>
   obtain rfl:=hs rfl
   rw[show zC1 [] true n=([],[],true) from rfl]
   go_enter Tryz.func101,Tryz.ntmps101
   go_wp2_with fail
   refine(zDa g _ _ _ h).mono ?_
   rintro e w2 ⟨rfl,h2,hg2⟩
   go_wp2_with fail
   go_ret
   exact⟨rfl,h2,hg2⟩
 | false =>
   by_cases hn:n<0
   · rw[zGr (.inl hn)]
     go_enter Tryz.func101,Tryz.ntmps101
     go_wp2_with fail
     refine(zDa g _ _ _ h).mono ?_
     rintro e w2 ⟨rfl,h2,hg2⟩
     go_wp2_with fail
     go_ret
     exact⟨rfl,h2,hg2⟩
   · obtain⟨m,rfl⟩:=Int.eq_ofNat_of_zero_le (Int.not_lt.1 hn)
     by_cases hgt:r.length<m
     · rw[zGr (.inr (by omega))]
       go_enter Tryz.func101,Tryz.ntmps101
       go_wp2_with fail
       refine(zDa g _ _ _ h).mono ?_
       rintro e w2 ⟨rfl,h2,hg2⟩
       go_wp2_with fail
       go_ret
       exact⟨rfl,h2,hg2⟩
     · have hd:=zHp r m
       have ht:(⟨r.toArray⟩:ByteArray).extract 0 m=⟨(r.take m).toArray⟩:=by rw[zJs];simp
       rw[zHu (by omega)]
       go_enter Tryz.func101,Tryz.ntmps101
       go_wp2_with fail
       go_ret
       exact⟨rfl,h.set0 _,(At.refl _ _).set 0 _⟩
theorem zS2(g:Nat)(r:List UInt8)(b:Bool)(w:World)(h:RRdr w g r b) :
 Calls Tryz.prog 95 #[.pointer (some ⟨g,0,none⟩)] w fun e w'=>e=.returned (.bool (endF r b))∧w'=w:=by
 have c0:=h.c0;have c1:=h.c1
 cases b <;> cases r
 all_goals
  go_enter Tryz.func95,Tryz.ntmps95
  go_wp2_with fail
  go_ret
  exact⟨rfl,rfl⟩
end Go.Proofs.YtkedafopdkhnfaaGreat
