/- CONTRACTS: vary.Read and the methods of vary.Reader, over a reader of the call's own (block g). -/
import Derived.Test.YtkedafopdkhnfaaGreatVaryGet
import Derived.Test.YtkedafopdkhnfaaGreatObj
import Derived.Lib.MinMax
import Derived.WalkLawsBesides
namespace Go.Proofs.YtkedafopdkhnfaaGreat
set_option maxHeartbeats 1600000
open Go.RowKit
set_option linter.unusedVariables false
def Rdr(w:World)(g:Nat)(r:List UInt8)(b:Bool):Prop:=Obj2 w g 143 (.string ⟨r.toArray⟩) (.bool b)
def numF(r:List UInt8)(b:Bool):Nat×List UInt8×Bool:=if b then(0,r,true) else(getN r,getR r,!getB r)
def intF(r:List UInt8)(b:Bool)(most:Int):Nat×List UInt8×Bool :=
 if(numF r b).2.2 then(0,(numF r b).2.1,true) else if most<0∨most<((numF r b).1:Int) then(0,[],true) else((numF r b).1,(numF r b).2.1,false)
def zC1(r:List UInt8)(b:Bool)(n:Int):List UInt8×List UInt8×Bool :=
 if b then([],r,true) else if n<0∨(r.length:Int)<n then([],[],true) else(r.take n.toNat,r.drop n.toNat,false)
def zCz(r:List UInt8)(b:Bool):List UInt8×List UInt8×Bool:=zC1 (numF r b).2.1 (numF r b).2.2 (min ((numF r b).1:Int) 1099511627776)
theorem zSi(r:List UInt8):(getR r).length≤r.length:=by
 cases hg:zAz 0 r with
 | none=>rw[(zD1 hg).2.1];simp
 | some x=>obtain⟨n,s⟩:=x;rw[(zEr hg).2.1,((zEq r n s).1 hg).2];simp
theorem zSh(r:List UInt8):U64 (getN r):=by
 cases hg:zAz 0 r with
 | none=>rw[(zD1 hg).1];simp[U64]
 | some x=>obtain⟨n,s⟩:=x;rw[(zEr hg).1];exact((zEq r n s).1 hg).1
theorem zEt(r:List UInt8)(b:Bool):(numF r b).2.1.length≤r.length:=by
 cases b
 · exact zSi r
 · exact Nat.le_refl _
theorem zHr(r:List UInt8)(b:Bool):U64 (numF r b).1:=by
 cases b
 · exact zSh r
 · simp[numF,U64]
theorem zJw{r r1:List UInt8}{b:Bool}{most:Int}{N:Nat}(h:numF r b=(N,r1,true)):intF r b most=(0,r1,true):=by simp[intF,h]
theorem zIb{r r1:List UInt8}{b:Bool}{most:Int}{N:Nat}(h:numF r b=(N,r1,false))(hn:most<0∨most<(N:Int)):intF r b most=(0,[],true):=by simp[intF,h,hn]
theorem zL7{r r1:List UInt8}{b:Bool}{most:Int}{N:Nat}(h:numF r b=(N,r1,false))(hn:¬(most<0∨most<(N:Int))):intF r b most=(N,r1,false):=by simp[intF,h,hn]
theorem zGr{r:List UInt8}{n:Int}(hn:n<0∨(r.length:Int)<n):zC1 r false n=([],[],true):=by simp[zC1,hn]
theorem zHu{r:List UInt8}{m:Nat}(hn:m≤r.length):zC1 r false (m:Int)=(r.take m,r.drop m,false):=by
 unfold zC1;rw[if_neg (by simp),if_neg (by omega),Int.toNat_natCast]
theorem zQ0{r r1:List UInt8}{b:Bool}{N:Nat}(h:numF r b=(N,r1,true)):zCz r b=([],r1,true):=by simp[zCz,h,zC1]
theorem zNs{r r1:List UInt8}{b:Bool}{N:Nat}(h:numF r b=(N,r1,false)):zCz r b=zC1 r1 false (min (N:Int) 1099511627776):=by simp[zCz,h]
theorem zS0(l:List UInt8)(w:World) :
 Calls Tryz.prog 62 #[.string ⟨l.toArray⟩] w fun e w'=>e=.returned (.pointer (some ⟨w.heap.size,0,none⟩))∧w'=w.alloc (.cells #[.string ⟨l.toArray⟩,.bool false] 143):=by
 go_enter Tryz.func62,Tryz.ntmps62
 go_wp2
 go_ret
 exact⟨rfl,rfl⟩
theorem zS1(l:List UInt8)(w:World):Rdr (w.alloc (.cells #[.string ⟨l.toArray⟩,.bool false] 143)) w.heap.size l false:=Obj2.new _ _ _ _
theorem zG2(g:Nat)(r:List UInt8)(b:Bool)(w:World)(h:Rdr w g r b)(hl:r.length≤maxLen) :
 Calls Tryz.prog 85 #[.pointer (some ⟨g,0,none⟩)] w fun e w' =>
  e=.returned (.int .u64 (numF r b).1)∧Rdr w' g (numF r b).2.1 (numF r b).2.2∧At g w w':=by
 have c0:=h.c0;have c1:=h.c1;have f0:=h.fz 0;have f1:=h.fz 1
 cases b with
 | true =>
   go_enter Tryz.func85,Tryz.ntmps85
   go_wp2_with fail
   go_ret
   exact⟨rfl,h,At.refl _ _⟩
 | false =>
   go_enter Tryz.func85,Tryz.ntmps85
   go_wp2_with fail
   refine(zUe r hl _).mono ?_
   rintro e w1 ⟨rfl,n,rfl⟩
   go_wp2_with fail
   go_ret
   exact⟨rfl,((h.keep (zAa _ _ n)).set0 _).set1 _,((At.of_below (zAa _ _ n)).set 0 _).set 1 _⟩
theorem zG1(g:Nat)(r:List UInt8)(b:Bool)(most:Int)(w:World)(h:Rdr w g r b)(hl:r.length≤maxLen)(hm0:-9223372036854775808≤most)(hm1:most≤9223372036854775807) :
 Calls Tryz.prog 63 #[.pointer (some ⟨g,0,none⟩),.int .i64 most] w fun e w' =>
  e=.returned (.int .i64 (intF r b most).1)∧Rdr w' g (intF r b most).2.1 (intF r b most).2.2∧At g w w':=by
 have hu:=zHr r b
 obtain⟨⟨N,r1,b1⟩,hx⟩:∃x,numF r b=x:=⟨_,rfl⟩
 have HX:=hid hx
 rw[hx] at hu
 clear hx
 simp only at hu
 cases b1 with
 | true =>
   rw[zJw HX.out]
   go_enter Tryz.func63,Tryz.ntmps63
   go_wp2_with fail
   refine(zG2 g r b _ h hl).mono ?_
   rw[HX.out]
   rintro e w1 ⟨rfl,h1,hg1⟩
   have c0:=h1.c0;have c1:=h1.c1;have f0:=h1.fz 0;have f1:=h1.fz 1
   go_wp2_with fail
   go_ret
   exact⟨rfl,h1,hg1⟩
 | false =>
   by_cases hn:most<0
   · rw[zIb HX.out (.inl hn)]
     go_enter Tryz.func63,Tryz.ntmps63
     go_wp2_with fail
     refine(zG2 g r b _ h hl).mono ?_
     rw[HX.out]
     rintro e w1 ⟨rfl,h1,hg1⟩
     have c0:=h1.c0;have c1:=h1.c1;have f0:=h1.fz 0;have f1:=h1.fz 1
     go_wp2_with fail
     go_ret
     exact⟨rfl,(h1.set0 _).set1 _,(hg1.set 0 _).set 1 _⟩
   · obtain⟨m,rfl⟩:=Int.eq_ofNat_of_zero_le (Int.not_lt.1 hn)
     have hw:IntKind.u64.wrap (m:Int)=(m:Int):=zGu (by omega) (by omega)
     by_cases hgt:m<N
     · rw[zIb HX.out (.inr (by omega))]
       go_enter Tryz.func63,Tryz.ntmps63
       go_wp2_with fail
       refine(zG2 g r b _ h hl).mono ?_
       rw[HX.out]
       rintro e w1 ⟨rfl,h1,hg1⟩
       have c0:=h1.c0;have c1:=h1.c1;have f0:=h1.fz 0;have f1:=h1.fz 1
       go_wp2_with fail
       go_ret
       exact⟨rfl,(h1.set0 _).set1 _,(hg1.set 0 _).set 1 _⟩
     · have hw2:IntKind.i64.wrap (N:Int)=(N:Int):=IntWalk.i64_in _ (by omega)
       rw[zL7 HX.out (by omega)]
       go_enter Tryz.func63,Tryz.ntmps63
       go_wp2_with fail
       refine(zG2 g r b _ h hl).mono ?_
       rw[HX.out]
       rintro e w1 ⟨rfl,h1,hg1⟩
       have c0:=h1.c0;have c1:=h1.c1;have f0:=h1.fz 0;have f1:=h1.fz 1
       go_wp2_with fail
       go_ret
       exact⟨rfl,h1,hg1⟩
theorem zTb(g:Nat)(r:List UInt8)(b:Bool)(n:Int)(w:World)(h:Rdr w g r b)(hl:r.length≤maxLen) :
 Calls Tryz.prog 86 #[.pointer (some ⟨g,0,none⟩),.int .i64 n] w fun e w' =>
  e=.returned (.string ⟨(zC1 r b n).1.toArray⟩)∧Rdr w' g (zC1 r b n).2.1 (zC1 r b n).2.2∧At g w w':=by
 unfold maxLen at hl
 have c0:=h.c0;have c1:=h.c1;have f0:=h.fz 0;have f1:=h.fz 1
 cases b with
 | true =>
   go_enter Tryz.func86,Tryz.ntmps86
   go_wp2_with fail
   go_ret
   exact⟨rfl,h,At.refl _ _⟩
 | false =>
   by_cases hn:n<0
   · rw[zGr (.inl hn)]
     go_enter Tryz.func86,Tryz.ntmps86
     go_wp2_with fail
     go_ret
     exact⟨rfl,(h.set0 _).set1 _,((At.refl _ _).set 0 _).set 1 _⟩
   · obtain⟨m,rfl⟩:=Int.eq_ofNat_of_zero_le (Int.not_lt.1 hn)
     by_cases hgt:r.length<m
     · rw[zGr (.inr (by omega))]
       go_enter Tryz.func86,Tryz.ntmps86
       go_wp2_with fail
       go_ret
       exact⟨rfl,(h.set0 _).set1 _,((At.refl _ _).set 0 _).set 1 _⟩
     · have hd:=zHp r m
       have ht:(⟨r.toArray⟩:ByteArray).extract 0 m=⟨(r.take m).toArray⟩:=by rw[zJs];simp
       rw[zHu (by omega)]
       go_enter Tryz.func86,Tryz.ntmps86
       go_wp2_with fail
       go_ret
       exact⟨rfl,h.set0 _,(At.refl _ _).set 0 _⟩
theorem zHd(g:Nat)(r:List UInt8)(b:Bool)(w:World)(h:Rdr w g r b)(hl:r.length≤maxLen) :
 Calls Tryz.prog 64 #[.pointer (some ⟨g,0,none⟩)] w fun e w' =>
  e=.returned (.string ⟨(zCz r b).1.toArray⟩)∧Rdr w' g (zCz r b).2.1 (zCz r b).2.2∧At g w w':=by
 have hu:=zHr r b
 have hln:=zEt r b
 obtain⟨⟨N,r1,b1⟩,hx⟩:∃x,numF r b=x:=⟨_,rfl⟩
 have HX:=hid hx
 rw[hx] at hu hln
 clear hx
 simp only at hu hln
 cases b1 with
 | true =>
   rw[zQ0 HX.out]
   go_enter Tryz.func64,Tryz.ntmps64
   go_wp2_with fail
   refine(zG2 g r b _ h hl).mono ?_
   rw[HX.out]
   rintro e w1 ⟨rfl,h1,hg1⟩
   have c0:=h1.c0;have c1:=h1.c1;have f0:=h1.fz 0;have f1:=h1.fz 1
   go_wp2_with fail
   go_ret
   exact⟨rfl,h1,hg1⟩
 | false =>
   have hw2:IntKind.i64.wrap (min (N:Int) 1099511627776)=min (N:Int) 1099511627776:=IntWalk.i64_in _ (by omega)
   rw[zNs HX.out]
   go_enter Tryz.func64,Tryz.ntmps64
   go_wp2_with fail
   refine(zG2 g r b _ h hl).mono ?_
   rw[HX.out]
   rintro e w1 ⟨rfl,h1,hg1⟩
   have c0:=h1.c0;have c1:=h1.c1;have f0:=h1.fz 0;have f1:=h1.fz 1
   go_wp2_with fail
   refine(zTb g r1 false _ _ h1 (by omega)).mono ?_
   rintro e w2 ⟨rfl,h2,hg2⟩
   go_wp2_with fail
   go_ret
   exact⟨rfl,h2,hg1.trans hg2⟩
def endF(r:List UInt8)(b:Bool):Bool:=!b&&r.isEmpty
theorem zT9(g:Nat)(r:List UInt8)(b:Bool)(w:World)(h:Rdr w g r b) :
 Calls Tryz.prog 65 #[.pointer (some ⟨g,0,none⟩)] w fun e w'=>e=.returned (.bool (endF r b))∧w'=w:=by
 have c0:=h.c0;have c1:=h.c1
 cases b <;> cases r
 all_goals
  go_enter Tryz.func65,Tryz.ntmps65
  go_wp2_with fail
  go_ret
  exact⟨rfl,rfl⟩
end Go.Proofs.YtkedafopdkhnfaaGreat
