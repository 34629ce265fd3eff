/- CONTRACT: the reference's Reader.Text, at whatever length. -/
import Derived.Test.YtkedafopdkhnfaaGreatRdrPlain
namespace Go.Proofs.YtkedafopdkhnfaaGreat
open Go.RowKit
set_option linter.unusedVariables false
set_option maxHeartbeats 1600000 in
theorem zG9(g:Nat)(r:List UInt8)(b:Bool)(w:World)(h:RRdr w g r b)(hs:Sane r b)(hl:r.length≤140737488355328) :
 Calls Tryz.prog 93 #[.pointer (some ⟨g,0,none⟩)] w fun e w' =>
  e=.returned (.string ⟨(zB0 r b).1.toArray⟩)∧RRdr w' g (zB0 r b).2.1 (zB0 r b).2.2∧At g w w':=by
 have hu:=zHr r b
 have hln:=zEt r b
 have hs1:=zGp hs
 obtain⟨⟨N,r1,b1⟩,hx⟩:∃x,numF r b=x:=⟨_,rfl⟩
 have HX:=hid hx
 rw[hx] at hu hln hs1
 clear hx
 simp only at hu hln hs1
 cases b1 with
 | true =>
   obtain rfl:=hs1 rfl
   rw[show zB0 r b=([],[],true) by unfold zB0;rw[HX.out];rfl]
   go_enter Tryz.func93,Tryz.ntmps93
   go_wp2_with fail
   refine(zEx g r b _ h hs (by unfold maxLen;omega)).mono ?_
   rw[HX.out]
   rintro e w1 ⟨rfl,h1,hg1⟩
   have c0:=h1.c0;have c1:=h1.c1;have f0:=h1.fz 0;have f1:=h1.fz 1
   go_wp2_with fail
   refine(zDa g _ _ _ h1).mono ?_
   rintro e w2 ⟨rfl,h2,hg2⟩
   go_wp2_with fail
   go_ret
   exact⟨rfl,h2,hg1.trans hg2⟩
 | false =>
   rw[show zB0 r b=zC1 r1 false (N:Int) by unfold zB0;rw[HX.out]]
   by_cases hgt:r1.length<N
   · rw[zGr (.inr (by omega))]
     go_enter Tryz.func93,Tryz.ntmps93
     go_wp2_with fail
     refine(zEx g r b _ h hs (by unfold maxLen;omega)).mono ?_
     rw[HX.out]
     rintro e w1 ⟨rfl,h1,hg1⟩
     have c0:=h1.c0;have c1:=h1.c1;have f0:=h1.fz 0;have f1:=h1.fz 1
     go_wp2_with fail
     refine(zDa g _ _ _ h1).mono ?_
     rintro e w2 ⟨rfl,h2,hg2⟩
     go_wp2_with fail
     go_ret
     exact⟨rfl,h2,hg1.trans hg2⟩
   · have hw2:IntKind.i64.wrap (N:Int)=(N:Int):=IntWalk.i64_in _ (by omega)
     go_enter Tryz.func93,Tryz.ntmps93
     go_wp2_with fail
     refine(zEx g r b _ h hs (by unfold maxLen;omega)).mono ?_
     rw[HX.out]
     rintro e w1 ⟨rfl,h1,hg1⟩
     have c0:=h1.c0;have c1:=h1.c1;have f0:=h1.fz 0;have f1:=h1.fz 1
     go_wp2_with fail
     refine(zQq g r1 false _ _ h1 hs1 (by unfold maxLen;omega)).mono ?_
     rintro e w2 ⟨rfl,h2,hg2⟩
     go_wp2_with fail
     go_ret
     exact⟨rfl,h2,hg1.trans hg2⟩
end Go.Proofs.YtkedafopdkhnfaaGreat
