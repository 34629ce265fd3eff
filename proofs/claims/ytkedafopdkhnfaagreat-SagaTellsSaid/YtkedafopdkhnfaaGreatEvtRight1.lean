/- CONTRACT: the reference's Right. -/
import Derived.Test.YtkedafopdkhnfaaGreatEvtEnc
import Derived.Test.YtkedafopdkhnfaaGreatPgmRDec
namespace Go.Proofs.YtkedafopdkhnfaaGreat
set_option maxHeartbeats 1600000
set_option maxRecDepth 100000
open Go.RowKit
set_option linter.unusedVariables false
set_option linter.unusedSimpArgs false
theorem zWd(k:Int):hasC (evS k) 114 = !noB (evB k) 1:=by
 rw[zTl];unfold evS
 by_cases h1:k=1
 · subst h1;rfl
 by_cases h2:k=12
 · subst h2;rfl
 have h16:¬evB k=16:=fun h=>by rcases(zGb k).1 h with h | h;exact h1 h;exact h2 h
 rw[if_neg h1,if_neg h2]
 rcases zCt k with e | e | e | e | e | e
 · exact absurd e h16
 all_goals (rw[e];rfl)
theorem zWe(k:Int):hasC (evS k) 115 = !noB (evB k) 2:=by
 rw[zPw];unfold evS
 by_cases h1:k=1
 · subst h1;rfl
 by_cases h2:k=12
 · subst h2;rfl
 have h16:¬evB k=16:=fun h=>by rcases(zGb k).1 h with h | h;exact h1 h;exact h2 h
 rw[if_neg h1,if_neg h2]
 rcases zCt k with e | e | e | e | e | e
 · exact absurd e h16
 all_goals (rw[e];rfl)
theorem zWf(k:Int):hasC (evS k) 116 = !noB (evB k) 4:=by
 rw[zTm];unfold evS
 by_cases h1:k=1
 · subst h1;rfl
 by_cases h2:k=12
 · subst h2;rfl
 have h16:¬evB k=16:=fun h=>by rcases(zGb k).1 h with h | h;exact h1 h;exact h2 h
 rw[if_neg h1,if_neg h2]
 rcases zCt k with e | e | e | e | e | e
 · exact absurd e h16
 all_goals (rw[e];rfl)
theorem zTk(k:Int):(evS k == [115,117]) = !noB (evB k) 8:=by
 rw[zJu];unfold evS
 by_cases h1:k=1
 · subst h1;rfl
 by_cases h2:k=12
 · subst h2;rfl
 have h16:¬evB k=16:=fun h=>by rcases(zGb k).1 h with h | h;exact h1 h;exact h2 h
 rw[if_neg h1,if_neg h2]
 rcases zCt k with e | e | e | e | e | e
 · exact absurd e h16
 all_goals (rw[e];rfl)
theorem zVx{k:Int}(h1:¬k=1)(h2:¬k=12):(evS k == [112])=false∧(evS k == [110])=false:=by
 have h16:¬evB k=16:=fun h=>by rcases(zGb k).1 h with h | h;exact h1 h;exact h2 h
 unfold evS
 rw[if_neg h1,if_neg h2]
 rcases zCt k with e | e | e | e | e | e
 · exact absurd e h16
 all_goals (rw[e];exact⟨rfl,rfl⟩)
theorem zV0(id k tk rf sp ty:Int)(ud:Bool)(dt:List UInt8)(HO:Hid (okK k=false))(w:World):Calls Tryz.prog 46 #[.agg #[.int .i64 id,.int .i64 k,.int .i64 tk,.int .i64 rf,.int .i64 sp,.int .i64 ty,.bool ud,.string ⟨dt.toArray⟩]] w fun e w'=>e=.returned (.bool false)∧Below w.heap.size w w':=by
 have h0:=EHeld.new w (id,k,tk,rf,sp,ty,ud,dt)
 unfold evC at h0
 simp only[Ev.id,Ev.kd,Ev.tk,Ev.rf,Ev.sp,Ev.ty,Ev.ud,Ev.dt] at h0
 obtain⟨W,hW⟩:∃W,W=w.alloc (.cells #[.int .i64 id,.int .i64 k,.int .i64 tk,.int .i64 rf,.int .i64 sp,.int .i64 ty,.bool ud,.string ⟨dt.toArray⟩] 52):=⟨_,rfl⟩
 rw[← hW] at h0
 have HX:=hid hW
 clear hW
 go_enter Tryz.func46,Tryz.ntmps46
 have p0:=h0.c0
 have p1:=h0.c1
 simp only[Ev.id,Ev.kd] at p0 p1
 go_wp2_with fail
 rw[← HX.out]
 refine(zBh k W).mono ?_
 rintro _ w1 ⟨rfl,b1⟩
 have h1:=h0.next b1
 clear p0 p1 h0
 have p0:=h1.c0
 have p1:=h1.c1
 have p2:=h1.c2
 have p3:=h1.c3
 have p4:=h1.c4
 have p5:=h1.c5
 have p6:=h1.c6
 have p7:=h1.c7
 simp only[Ev.id,Ev.kd,Ev.tk,Ev.rf,Ev.sp,Ev.ty,Ev.ud,Ev.dt] at p0 p1 p2 p3 p4 p5 p6 p7
 rw[HO.out]
 go_wp2_with fail
 go_ret
 exact⟨rfl,h1.below⟩
theorem zUr(id k tk rf sp ty:Int)(ud:Bool)(dt:List UInt8)(HO:Hid (okK k=true))(d0:decide (id<1)=true)(w:World):Calls Tryz.prog 46 #[.agg #[.int .i64 id,.int .i64 k,.int .i64 tk,.int .i64 rf,.int .i64 sp,.int .i64 ty,.bool ud,.string ⟨dt.toArray⟩]] w fun e w'=>e=.returned (.bool false)∧Below w.heap.size w w':=by
 have h0:=EHeld.new w (id,k,tk,rf,sp,ty,ud,dt)
 unfold evC at h0
 simp only[Ev.id,Ev.kd,Ev.tk,Ev.rf,Ev.sp,Ev.ty,Ev.ud,Ev.dt] at h0
 obtain⟨W,hW⟩:∃W,W=w.alloc (.cells #[.int .i64 id,.int .i64 k,.int .i64 tk,.int .i64 rf,.int .i64 sp,.int .i64 ty,.bool ud,.string ⟨dt.toArray⟩] 52):=⟨_,rfl⟩
 rw[← hW] at h0
 have HX:=hid hW
 clear hW
 go_enter Tryz.func46,Tryz.ntmps46
 have p0:=h0.c0
 have p1:=h0.c1
 simp only[Ev.id,Ev.kd] at p0 p1
 go_wp2_with fail
 rw[← HX.out]
 refine(zBh k W).mono ?_
 rintro _ w1 ⟨rfl,b1⟩
 have h1:=h0.next b1
 clear p0 p1 h0
 have p0:=h1.c0
 have p1:=h1.c1
 have p2:=h1.c2
 have p3:=h1.c3
 have p4:=h1.c4
 have p5:=h1.c5
 have p6:=h1.c6
 have p7:=h1.c7
 simp only[Ev.id,Ev.kd,Ev.tk,Ev.rf,Ev.sp,Ev.ty,Ev.ud,Ev.dt] at p0 p1 p2 p3 p4 p5 p6 p7
 rw[HO.out]
 go_wp2_with fail
 go_ret
 exact⟨rfl,h1.below⟩
theorem zUs(id k tk rf sp ty:Int)(ud:Bool)(dt:List UInt8)(HO:Hid (okK k=true))(d0:decide (id<1)=false)(d1:decide (500<id)=true)(w:World):Calls Tryz.prog 46 #[.agg #[.int .i64 id,.int .i64 k,.int .i64 tk,.int .i64 rf,.int .i64 sp,.int .i64 ty,.bool ud,.string ⟨dt.toArray⟩]] w fun e w'=>e=.returned (.bool false)∧Below w.heap.size w w':=by
 have h0:=EHeld.new w (id,k,tk,rf,sp,ty,ud,dt)
 unfold evC at h0
 simp only[Ev.id,Ev.kd,Ev.tk,Ev.rf,Ev.sp,Ev.ty,Ev.ud,Ev.dt] at h0
 obtain⟨W,hW⟩:∃W,W=w.alloc (.cells #[.int .i64 id,.int .i64 k,.int .i64 tk,.int .i64 rf,.int .i64 sp,.int .i64 ty,.bool ud,.string ⟨dt.toArray⟩] 52):=⟨_,rfl⟩
 rw[← hW] at h0
 have HX:=hid hW
 clear hW
 go_enter Tryz.func46,Tryz.ntmps46
 have p0:=h0.c0
 have p1:=h0.c1
 simp only[Ev.id,Ev.kd] at p0 p1
 go_wp2_with fail
 rw[← HX.out]
 refine(zBh k W).mono ?_
 rintro _ w1 ⟨rfl,b1⟩
 have h1:=h0.next b1
 clear p0 p1 h0
 have p0:=h1.c0
 have p1:=h1.c1
 have p2:=h1.c2
 have p3:=h1.c3
 have p4:=h1.c4
 have p5:=h1.c5
 have p6:=h1.c6
 have p7:=h1.c7
 simp only[Ev.id,Ev.kd,Ev.tk,Ev.rf,Ev.sp,Ev.ty,Ev.ud,Ev.dt] at p0 p1 p2 p3 p4 p5 p6 p7
 rw[HO.out]
 go_wp2_with fail
 go_ret
 exact⟨rfl,h1.below⟩
theorem zUt(id k tk rf sp ty:Int)(ud:Bool)(dt:List UInt8)(HO:Hid (okK k=true))(d0:decide (id<1)=false)(d1:decide (500<id)=false)(d2:decide (tk<0)=true)(w:World):Calls Tryz.prog 46 #[.agg #[.int .i64 id,.int .i64 k,.int .i64 tk,.int .i64 rf,.int .i64 sp,.int .i64 ty,.bool ud,.string ⟨dt.toArray⟩]] w fun e w'=>e=.returned (.bool false)∧Below w.heap.size w w':=by
 have h0:=EHeld.new w (id,k,tk,rf,sp,ty,ud,dt)
 unfold evC at h0
 simp only[Ev.id,Ev.kd,Ev.tk,Ev.rf,Ev.sp,Ev.ty,Ev.ud,Ev.dt] at h0
 obtain⟨W,hW⟩:∃W,W=w.alloc (.cells #[.int .i64 id,.int .i64 k,.int .i64 tk,.int .i64 rf,.int .i64 sp,.int .i64 ty,.bool ud,.string ⟨dt.toArray⟩] 52):=⟨_,rfl⟩
 rw[← hW] at h0
 have HX:=hid hW
 clear hW
 go_enter Tryz.func46,Tryz.ntmps46
 have p0:=h0.c0
 have p1:=h0.c1
 simp only[Ev.id,Ev.kd] at p0 p1
 go_wp2_with fail
 rw[← HX.out]
 refine(zBh k W).mono ?_
 rintro _ w1 ⟨rfl,b1⟩
 have h1:=h0.next b1
 clear p0 p1 h0
 have p0:=h1.c0
 have p1:=h1.c1
 have p2:=h1.c2
 have p3:=h1.c3
 have p4:=h1.c4
 have p5:=h1.c5
 have p6:=h1.c6
 have p7:=h1.c7
 simp only[Ev.id,Ev.kd,Ev.tk,Ev.rf,Ev.sp,Ev.ty,Ev.ud,Ev.dt] at p0 p1 p2 p3 p4 p5 p6 p7
 rw[HO.out]
 go_wp2_with fail
 go_ret
 exact⟨rfl,h1.below⟩
theorem zUu(id k tk rf sp ty:Int)(ud:Bool)(dt:List UInt8)(HO:Hid (okK k=true))(d0:decide (id<1)=false)(d1:decide (500<id)=false)(d2:decide (tk<0)=false)(d3:decide (1099511627776<tk)=true)(w:World):Calls Tryz.prog 46 #[.agg #[.int .i64 id,.int .i64 k,.int .i64 tk,.int .i64 rf,.int .i64 sp,.int .i64 ty,.bool ud,.string ⟨dt.toArray⟩]] w fun e w'=>e=.returned (.bool false)∧Below w.heap.size w w':=by
 have h0:=EHeld.new w (id,k,tk,rf,sp,ty,ud,dt)
 unfold evC at h0
 simp only[Ev.id,Ev.kd,Ev.tk,Ev.rf,Ev.sp,Ev.ty,Ev.ud,Ev.dt] at h0
 obtain⟨W,hW⟩:∃W,W=w.alloc (.cells #[.int .i64 id,.int .i64 k,.int .i64 tk,.int .i64 rf,.int .i64 sp,.int .i64 ty,.bool ud,.string ⟨dt.toArray⟩] 52):=⟨_,rfl⟩
 rw[← hW] at h0
 have HX:=hid hW
 clear hW
 go_enter Tryz.func46,Tryz.ntmps46
 have p0:=h0.c0
 have p1:=h0.c1
 simp only[Ev.id,Ev.kd] at p0 p1
 go_wp2_with fail
 rw[← HX.out]
 refine(zBh k W).mono ?_
 rintro _ w1 ⟨rfl,b1⟩
 have h1:=h0.next b1
 clear p0 p1 h0
 have p0:=h1.c0
 have p1:=h1.c1
 have p2:=h1.c2
 have p3:=h1.c3
 have p4:=h1.c4
 have p5:=h1.c5
 have p6:=h1.c6
 have p7:=h1.c7
 simp only[Ev.id,Ev.kd,Ev.tk,Ev.rf,Ev.sp,Ev.ty,Ev.ud,Ev.dt] at p0 p1 p2 p3 p4 p5 p6 p7
 rw[HO.out]
 go_wp2_with fail
 go_ret
 exact⟨rfl,h1.below⟩
theorem zUv(id k tk rf sp ty:Int)(ud:Bool)(dt:List UInt8)(HO:Hid (okK k=true))(d0:decide (id<1)=false)(d1:decide (500<id)=false)(d2:decide (tk<0)=false)(d3:decide (1099511627776<tk)=false)(hib:1≤id∧id≤500)(E0:Hid (einB (hasC (evS k) 114) rf 1 (id - 1)=false))(w:World):Calls Tryz.prog 46 #[.agg #[.int .i64 id,.int .i64 k,.int .i64 tk,.int .i64 rf,.int .i64 sp,.int .i64 ty,.bool ud,.string ⟨dt.toArray⟩]] w fun e w'=>e=.returned (.bool false)∧Below w.heap.size w w':=by
 have h0:=EHeld.new w (id,k,tk,rf,sp,ty,ud,dt)
 unfold evC at h0
 simp only[Ev.id,Ev.kd,Ev.tk,Ev.rf,Ev.sp,Ev.ty,Ev.ud,Ev.dt] at h0
 obtain⟨W,hW⟩:∃W,W=w.alloc (.cells #[.int .i64 id,.int .i64 k,.int .i64 tk,.int .i64 rf,.int .i64 sp,.int .i64 ty,.bool ud,.string ⟨dt.toArray⟩] 52):=⟨_,rfl⟩
 rw[← hW] at h0
 have HX:=hid hW
 clear hW
 go_enter Tryz.func46,Tryz.ntmps46
 have p0:=h0.c0
 have p1:=h0.c1
 simp only[Ev.id,Ev.kd] at p0 p1
 go_wp2_with fail
 rw[← HX.out]
 refine(zBh k W).mono ?_
 rintro _ w1 ⟨rfl,b1⟩
 have h1:=h0.next b1
 clear p0 p1 h0
 have p0:=h1.c0
 have p1:=h1.c1
 have p2:=h1.c2
 have p3:=h1.c3
 have p4:=h1.c4
 have p5:=h1.c5
 have p6:=h1.c6
 have p7:=h1.c7
 simp only[Ev.id,Ev.kd,Ev.tk,Ev.rf,Ev.sp,Ev.ty,Ev.ud,Ev.dt] at p0 p1 p2 p3 p4 p5 p6 p7
 rw[HO.out]
 go_wp2_with fail
 refine(zBs _ _ _ _ _ _).mono ?_
 rintro _ w9 ⟨rfl,hw9⟩
 rw[hw9,E0.out]
 clear hw9 w9
 go_wp2_with fail
 go_ret
 exact⟨rfl,h1.below⟩
theorem zUw(id k tk rf sp ty:Int)(ud:Bool)(dt:List UInt8)(HO:Hid (okK k=true))(d0:decide (id<1)=false)(d1:decide (500<id)=false)(d2:decide (tk<0)=false)(d3:decide (1099511627776<tk)=false)(hib:1≤id∧id≤500)(E0:Hid (einB (hasC (evS k) 114) rf 1 (id - 1)=true))(E1:Hid (einB (hasC (evS k) 115) sp 0 15=false))(w:World):Calls Tryz.prog 46 #[.agg #[.int .i64 id,.int .i64 k,.int .i64 tk,.int .i64 rf,.int .i64 sp,.int .i64 ty,.bool ud,.string ⟨dt.toArray⟩]] w fun e w'=>e=.returned (.bool false)∧Below w.heap.size w w':=by
 have h0:=EHeld.new w (id,k,tk,rf,sp,ty,ud,dt)
 unfold evC at h0
 simp only[Ev.id,Ev.kd,Ev.tk,Ev.rf,Ev.sp,Ev.ty,Ev.ud,Ev.dt] at h0
 obtain⟨W,hW⟩:∃W,W=w.alloc (.cells #[.int .i64 id,.int .i64 k,.int .i64 tk,.int .i64 rf,.int .i64 sp,.int .i64 ty,.bool ud,.string ⟨dt.toArray⟩] 52):=⟨_,rfl⟩
 rw[← hW] at h0
 have HX:=hid hW
 clear hW
 go_enter Tryz.func46,Tryz.ntmps46
 have p0:=h0.c0
 have p1:=h0.c1
 simp only[Ev.id,Ev.kd] at p0 p1
 go_wp2_with fail
 rw[← HX.out]
 refine(zBh k W).mono ?_
 rintro _ w1 ⟨rfl,b1⟩
 have h1:=h0.next b1
 clear p0 p1 h0
 have p0:=h1.c0
 have p1:=h1.c1
 have p2:=h1.c2
 have p3:=h1.c3
 have p4:=h1.c4
 have p5:=h1.c5
 have p6:=h1.c6
 have p7:=h1.c7
 simp only[Ev.id,Ev.kd,Ev.tk,Ev.rf,Ev.sp,Ev.ty,Ev.ud,Ev.dt] at p0 p1 p2 p3 p4 p5 p6 p7
 rw[HO.out]
 go_wp2_with fail
 refine(zBs _ _ _ _ _ _).mono ?_
 rintro _ w9 ⟨rfl,hw9⟩
 rw[hw9,E0.out]
 clear hw9 w9
 go_wp2_with fail
 refine(zBs _ _ _ _ _ _).mono ?_
 rintro _ w9 ⟨rfl,hw9⟩
 rw[hw9,E1.out]
 clear hw9 w9
 go_wp2_with fail
 go_ret
 exact⟨rfl,h1.below⟩
theorem zUx(id k tk rf sp ty:Int)(ud:Bool)(dt:List UInt8)(HO:Hid (okK k=true))(d0:decide (id<1)=false)(d1:decide (500<id)=false)(d2:decide (tk<0)=false)(d3:decide (1099511627776<tk)=false)(hib:1≤id∧id≤500)(E0:Hid (einB (hasC (evS k) 114) rf 1 (id - 1)=true))(E1:Hid (einB (hasC (evS k) 115) sp 0 15=true))(E2:Hid (einB (hasC (evS k) 116) ty 1 5=false))(w:World):Calls Tryz.prog 46 #[.agg #[.int .i64 id,.int .i64 k,.int .i64 tk,.int .i64 rf,.int .i64 sp,.int .i64 ty,.bool ud,.string ⟨dt.toArray⟩]] w fun e w'=>e=.returned (.bool false)∧Below w.heap.size w w':=by
 have h0:=EHeld.new w (id,k,tk,rf,sp,ty,ud,dt)
 unfold evC at h0
 simp only[Ev.id,Ev.kd,Ev.tk,Ev.rf,Ev.sp,Ev.ty,Ev.ud,Ev.dt] at h0
 obtain⟨W,hW⟩:∃W,W=w.alloc (.cells #[.int .i64 id,.int .i64 k,.int .i64 tk,.int .i64 rf,.int .i64 sp,.int .i64 ty,.bool ud,.string ⟨dt.toArray⟩] 52):=⟨_,rfl⟩
 rw[← hW] at h0
 have HX:=hid hW
 clear hW
 go_enter Tryz.func46,Tryz.ntmps46
 have p0:=h0.c0
 have p1:=h0.c1
 simp only[Ev.id,Ev.kd] at p0 p1
 go_wp2_with fail
 rw[← HX.out]
 refine(zBh k W).mono ?_
 rintro _ w1 ⟨rfl,b1⟩
 have h1:=h0.next b1
 clear p0 p1 h0
 have p0:=h1.c0
 have p1:=h1.c1
 have p2:=h1.c2
 have p3:=h1.c3
 have p4:=h1.c4
 have p5:=h1.c5
 have p6:=h1.c6
 have p7:=h1.c7
 simp only[Ev.id,Ev.kd,Ev.tk,Ev.rf,Ev.sp,Ev.ty,Ev.ud,Ev.dt] at p0 p1 p2 p3 p4 p5 p6 p7
 rw[HO.out]
 go_wp2_with fail
 refine(zBs _ _ _ _ _ _).mono ?_
 rintro _ w9 ⟨rfl,hw9⟩
 rw[hw9,E0.out]
 clear hw9 w9
 go_wp2_with fail
 refine(zBs _ _ _ _ _ _).mono ?_
 rintro _ w9 ⟨rfl,hw9⟩
 rw[hw9,E1.out]
 clear hw9 w9
 go_wp2_with fail
 refine(zBs _ _ _ _ _ _).mono ?_
 rintro _ w9 ⟨rfl,hw9⟩
 rw[hw9,E2.out]
 clear hw9 w9
 go_wp2_with fail
 go_ret
 exact⟨rfl,h1.below⟩
theorem zV1(id k tk rf sp ty:Int)(dt:List UInt8)(HO:Hid (okK k=true))(d0:decide (id<1)=false)(d1:decide (500<id)=false)(d2:decide (tk<0)=false)(d3:decide (1099511627776<tk)=false)(hib:1≤id∧id≤500)(E0:Hid (einB (hasC (evS k) 114) rf 1 (id - 1)=true))(E1:Hid (einB (hasC (evS k) 115) sp 0 15=true))(E2:Hid (einB (hasC (evS k) 116) ty 1 5=true))(su:(evS k == [115,117])=false)(w:World):Calls Tryz.prog 46 #[.agg #[.int .i64 id,.int .i64 k,.int .i64 tk,.int .i64 rf,.int .i64 sp,.int .i64 ty,.bool true,.string ⟨dt.toArray⟩]] w fun e w'=>e=.returned (.bool false)∧Below w.heap.size w w':=by
 have h0:=EHeld.new w (id,k,tk,rf,sp,ty,true,dt)
 unfold evC at h0
 simp only[Ev.id,Ev.kd,Ev.tk,Ev.rf,Ev.sp,Ev.ty,Ev.ud,Ev.dt] at h0
 obtain⟨W,hW⟩:∃W,W=w.alloc (.cells #[.int .i64 id,.int .i64 k,.int .i64 tk,.int .i64 rf,.int .i64 sp,.int .i64 ty,.bool true,.string ⟨dt.toArray⟩] 52):=⟨_,rfl⟩
 rw[← hW] at h0
 have HX:=hid hW
 clear hW
 go_enter Tryz.func46,Tryz.ntmps46
 have p0:=h0.c0
 have p1:=h0.c1
 simp only[Ev.id,Ev.kd] at p0 p1
 go_wp2_with fail
 rw[← HX.out]
 refine(zBh k W).mono ?_
 rintro _ w1 ⟨rfl,b1⟩
 have h1:=h0.next b1
 clear p0 p1 h0
 have p0:=h1.c0
 have p1:=h1.c1
 have p2:=h1.c2
 have p3:=h1.c3
 have p4:=h1.c4
 have p5:=h1.c5
 have p6:=h1.c6
 have p7:=h1.c7
 simp only[Ev.id,Ev.kd,Ev.tk,Ev.rf,Ev.sp,Ev.ty,Ev.ud,Ev.dt] at p0 p1 p2 p3 p4 p5 p6 p7
 rw[HO.out]
 go_wp2_with fail
 refine(zBs _ _ _ _ _ _).mono ?_
 rintro _ w9 ⟨rfl,hw9⟩
 rw[hw9,E0.out]
 clear hw9 w9
 go_wp2_with fail
 refine(zBs _ _ _ _ _ _).mono ?_
 rintro _ w9 ⟨rfl,hw9⟩
 rw[hw9,E1.out]
 clear hw9 w9
 go_wp2_with fail
 refine(zBs _ _ _ _ _ _).mono ?_
 rintro _ w9 ⟨rfl,hw9⟩
 rw[hw9,E2.out]
 clear hw9 w9
 go_wp2_with fail
 go_ret
 exact⟨rfl,h1.below⟩
theorem zUy(id k tk rf sp ty:Int)(dt:List UInt8)(HO:Hid (okK k=true))(d0:decide (id<1)=false)(d1:decide (500<id)=false)(d2:decide (tk<0)=false)(d3:decide (1099511627776<tk)=false)(hib:1≤id∧id≤500)(E0:Hid (einB (hasC (evS k) 114) rf 1 (id - 1)=true))(E1:Hid (einB (hasC (evS k) 115) sp 0 15=true))(E2:Hid (einB (hasC (evS k) 116) ty 1 5=true))(s1:(evS k == [112])=false)(s2:(evS k == [110])=false)(w:World):Calls Tryz.prog 46 #[.agg #[.int .i64 id,.int .i64 k,.int .i64 tk,.int .i64 rf,.int .i64 sp,.int .i64 ty,.bool false,.string ⟨dt.toArray⟩]] w fun e w'=>e=.returned (.bool dt.isEmpty)∧Below w.heap.size w w':=by
 have h0:=EHeld.new w (id,k,tk,rf,sp,ty,false,dt)
 unfold evC at h0
 simp only[Ev.id,Ev.kd,Ev.tk,Ev.rf,Ev.sp,Ev.ty,Ev.ud,Ev.dt] at h0
 obtain⟨W,hW⟩:∃W,W=w.alloc (.cells #[.int .i64 id,.int .i64 k,.int .i64 tk,.int .i64 rf,.int .i64 sp,.int .i64 ty,.bool false,.string ⟨dt.toArray⟩] 52):=⟨_,rfl⟩
 rw[← hW] at h0
 have HX:=hid hW
 clear hW
 go_enter Tryz.func46,Tryz.ntmps46
 have p0:=h0.c0
 have p1:=h0.c1
 simp only[Ev.id,Ev.kd] at p0 p1
 go_wp2_with fail
 rw[← HX.out]
 refine(zBh k W).mono ?_
 rintro _ w1 ⟨rfl,b1⟩
 have h1:=h0.next b1
 clear p0 p1 h0
 have p0:=h1.c0
 have p1:=h1.c1
 have p2:=h1.c2
 have p3:=h1.c3
 have p4:=h1.c4
 have p5:=h1.c5
 have p6:=h1.c6
 have p7:=h1.c7
 simp only[Ev.id,Ev.kd,Ev.tk,Ev.rf,Ev.sp,Ev.ty,Ev.ud,Ev.dt] at p0 p1 p2 p3 p4 p5 p6 p7
 rw[HO.out]
 go_wp2_with fail
 refine(zBs _ _ _ _ _ _).mono ?_
 rintro _ w9 ⟨rfl,hw9⟩
 rw[hw9,E0.out]
 clear hw9 w9
 go_wp2_with fail
 refine(zBs _ _ _ _ _ _).mono ?_
 rintro _ w9 ⟨rfl,hw9⟩
 rw[hw9,E1.out]
 clear hw9 w9
 go_wp2_with fail
 refine(zBs _ _ _ _ _ _).mono ?_
 rintro _ w9 ⟨rfl,hw9⟩
 rw[hw9,E2.out]
 clear hw9 w9
 go_wp2_with fail
 go_ret
 exact⟨rfl,h1.below⟩
theorem zUz(id k tk rf sp ty:Int)(dt:List UInt8)(HO:Hid (okK k=true))(d0:decide (id<1)=false)(d1:decide (500<id)=false)(d2:decide (tk<0)=false)(d3:decide (1099511627776<tk)=false)(hib:1≤id∧id≤500)(E0:Hid (einB (hasC (evS k) 114) rf 1 (id - 1)=true))(E1:Hid (einB (hasC (evS k) 115) sp 0 15=true))(E2:Hid (einB (hasC (evS k) 116) ty 1 5=true))(su:(evS k == [115,117])=true)(s1:(evS k == [112])=false)(s2:(evS k == [110])=false)(w:World):Calls Tryz.prog 46 #[.agg #[.int .i64 id,.int .i64 k,.int .i64 tk,.int .i64 rf,.int .i64 sp,.int .i64 ty,.bool true,.string ⟨dt.toArray⟩]] w fun e w'=>e=.returned (.bool dt.isEmpty)∧Below w.heap.size w w':=by
 have h0:=EHeld.new w (id,k,tk,rf,sp,ty,true,dt)
 unfold evC at h0
 simp only[Ev.id,Ev.kd,Ev.tk,Ev.rf,Ev.sp,Ev.ty,Ev.ud,Ev.dt] at h0
 obtain⟨W,hW⟩:∃W,W=w.alloc (.cells #[.int .i64 id,.int .i64 k,.int .i64 tk,.int .i64 rf,.int .i64 sp,.int .i64 ty,.bool true,.string ⟨dt.toArray⟩] 52):=⟨_,rfl⟩
 rw[← hW] at h0
 have HX:=hid hW
 clear hW
 go_enter Tryz.func46,Tryz.ntmps46
 have p0:=h0.c0
 have p1:=h0.c1
 simp only[Ev.id,Ev.kd] at p0 p1
 go_wp2_with fail
 rw[← HX.out]
 refine(zBh k W).mono ?_
 rintro _ w1 ⟨rfl,b1⟩
 have h1:=h0.next b1
 clear p0 p1 h0
 have p0:=h1.c0
 have p1:=h1.c1
 have p2:=h1.c2
 have p3:=h1.c3
 have p4:=h1.c4
 have p5:=h1.c5
 have p6:=h1.c6
 have p7:=h1.c7
 simp only[Ev.id,Ev.kd,Ev.tk,Ev.rf,Ev.sp,Ev.ty,Ev.ud,Ev.dt] at p0 p1 p2 p3 p4 p5 p6 p7
 rw[HO.out]
 go_wp2_with fail
 refine(zBs _ _ _ _ _ _).mono ?_
 rintro _ w9 ⟨rfl,hw9⟩
 rw[hw9,E0.out]
 clear hw9 w9
 go_wp2_with fail
 refine(zBs _ _ _ _ _ _).mono ?_
 rintro _ w9 ⟨rfl,hw9⟩
 rw[hw9,E1.out]
 clear hw9 w9
 go_wp2_with fail
 refine(zBs _ _ _ _ _ _).mono ?_
 rintro _ w9 ⟨rfl,hw9⟩
 rw[hw9,E2.out]
 clear hw9 w9
 go_wp2_with fail
 go_ret
 exact⟨rfl,h1.below⟩
theorem zU1(id tk rf sp ty:Int)(dt:List UInt8)(HO:Hid (okK 1=true))(d0:decide (id<1)=false)(d1:decide (500<id)=false)(d2:decide (tk<0)=false)(d3:decide (1099511627776<tk)=false)(hib:1≤id∧id≤500)(E0:Hid (einB (hasC ([112]) 114) rf 1 (id - 1)=true))(E1:Hid (einB (hasC ([112]) 115) sp 0 15=true))(E2:Hid (einB (hasC ([112]) 116) ty 1 5=true))(hdt:dt.length≤140737488355328)(hp:∃lim ss,zDf dt=some (lim,ss))(w:World):Calls Tryz.prog 46 #[.agg #[.int .i64 id,.int .i64 1,.int .i64 tk,.int .i64 rf,.int .i64 sp,.int .i64 ty,.bool false,.string ⟨dt.toArray⟩]] w fun e w'=>e=.returned (.bool true)∧Below w.heap.size w w':=by
 have h0:=EHeld.new w (id,1,tk,rf,sp,ty,false,dt)
 unfold evC at h0
 simp only[Ev.id,Ev.kd,Ev.tk,Ev.rf,Ev.sp,Ev.ty,Ev.ud,Ev.dt] at h0
 obtain⟨W,hW⟩:∃W,W=w.alloc (.cells #[.int .i64 id,.int .i64 1,.int .i64 tk,.int .i64 rf,.int .i64 sp,.int .i64 ty,.bool false,.string ⟨dt.toArray⟩] 52):=⟨_,rfl⟩
 rw[← hW] at h0
 have HX:=hid hW
 clear hW
 go_enter Tryz.func46,Tryz.ntmps46
 have p0:=h0.c0
 have p1:=h0.c1
 simp only[Ev.id,Ev.kd] at p0 p1
 go_wp2_with fail
 rw[← HX.out]
 refine(zBh 1 W).mono ?_
 rintro _ w1 ⟨rfl,b1⟩
 have h1:=h0.next b1
 clear p0 p1 h0
 have p0:=h1.c0
 have p1:=h1.c1
 have p2:=h1.c2
 have p3:=h1.c3
 have p4:=h1.c4
 have p5:=h1.c5
 have p6:=h1.c6
 have p7:=h1.c7
 simp only[Ev.id,Ev.kd,Ev.tk,Ev.rf,Ev.sp,Ev.ty,Ev.ud,Ev.dt] at p0 p1 p2 p3 p4 p5 p6 p7
 rw[HO.out]
 rw[show evS 1=[112] from rfl]
 go_wp2_with fail
 refine(zBs _ _ _ _ _ _).mono ?_
 rintro _ w9 ⟨rfl,hw9⟩
 rw[hw9,E0.out]
 clear hw9 w9
 go_wp2_with fail
 refine(zBs _ _ _ _ _ _).mono ?_
 rintro _ w9 ⟨rfl,hw9⟩
 rw[hw9,E1.out]
 clear hw9 w9
 go_wp2_with fail
 refine(zBs _ _ _ _ _ _).mono ?_
 rintro _ w9 ⟨rfl,hw9⟩
 rw[hw9,E2.out]
 clear hw9 w9
 go_wp2_with fail
 refine(zFy dt hdt _).mono ?_
 rintro _ w8 ⟨v,lim,ss,er,rfl,hsl,b8,hres⟩
 have h8:=h1.next b8
 clear p0 p1 p2 p3 p4 p5 p6 p7
 obtain⟨_,_,a,cap,rfl,_⟩:=hsl
 rcases hres with ⟨g1,rfl⟩ | ⟨g1,rfl,_⟩
 · clear g1
   go_wp2_with fail
   go_ret
   exact⟨rfl,h8.below.alloc h8.below.size _⟩
 · obtain⟨_,_,q⟩:=hp;rw[zFa,g1] at q;cases q
theorem zU0(id tk rf sp ty:Int)(dt:List UInt8)(HO:Hid (okK 1=true))(d0:decide (id<1)=false)(d1:decide (500<id)=false)(d2:decide (tk<0)=false)(d3:decide (1099511627776<tk)=false)(hib:1≤id∧id≤500)(E0:Hid (einB (hasC ([112]) 114) rf 1 (id - 1)=true))(E1:Hid (einB (hasC ([112]) 115) sp 0 15=true))(E2:Hid (einB (hasC ([112]) 116) ty 1 5=true))(hdt:dt.length≤140737488355328)(hp:zDf dt=none)(w:World):Calls Tryz.prog 46 #[.agg #[.int .i64 id,.int .i64 1,.int .i64 tk,.int .i64 rf,.int .i64 sp,.int .i64 ty,.bool false,.string ⟨dt.toArray⟩]] w fun e w'=>e=.returned (.bool false)∧Below w.heap.size w w':=by
 have h0:=EHeld.new w (id,1,tk,rf,sp,ty,false,dt)
 unfold evC at h0
 simp only[Ev.id,Ev.kd,Ev.tk,Ev.rf,Ev.sp,Ev.ty,Ev.ud,Ev.dt] at h0
 obtain⟨W,hW⟩:∃W,W=w.alloc (.cells #[.int .i64 id,.int .i64 1,.int .i64 tk,.int .i64 rf,.int .i64 sp,.int .i64 ty,.bool false,.string ⟨dt.toArray⟩] 52):=⟨_,rfl⟩
 rw[← hW] at h0
 have HX:=hid hW
 clear hW
 go_enter Tryz.func46,Tryz.ntmps46
 have p0:=h0.c0
 have p1:=h0.c1
 simp only[Ev.id,Ev.kd] at p0 p1
 go_wp2_with fail
 rw[← HX.out]
 refine(zBh 1 W).mono ?_
 rintro _ w1 ⟨rfl,b1⟩
 have h1:=h0.next b1
 clear p0 p1 h0
 have p0:=h1.c0
 have p1:=h1.c1
 have p2:=h1.c2
 have p3:=h1.c3
 have p4:=h1.c4
 have p5:=h1.c5
 have p6:=h1.c6
 have p7:=h1.c7
 simp only[Ev.id,Ev.kd,Ev.tk,Ev.rf,Ev.sp,Ev.ty,Ev.ud,Ev.dt] at p0 p1 p2 p3 p4 p5 p6 p7
 rw[HO.out]
 rw[show evS 1=[112] from rfl]
 go_wp2_with fail
 refine(zBs _ _ _ _ _ _).mono ?_
 rintro _ w9 ⟨rfl,hw9⟩
 rw[hw9,E0.out]
 clear hw9 w9
 go_wp2_with fail
 refine(zBs _ _ _ _ _ _).mono ?_
 rintro _ w9 ⟨rfl,hw9⟩
 rw[hw9,E1.out]
 clear hw9 w9
 go_wp2_with fail
 refine(zBs _ _ _ _ _ _).mono ?_
 rintro _ w9 ⟨rfl,hw9⟩
 rw[hw9,E2.out]
 clear hw9 w9
 go_wp2_with fail
 refine(zFy dt hdt _).mono ?_
 rintro _ w8 ⟨v,lim,ss,er,rfl,hsl,b8,hres⟩
 have h8:=h1.next b8
 clear p0 p1 p2 p3 p4 p5 p6 p7
 obtain⟨_,_,a,cap,rfl,_⟩:=hsl
 rcases hres with ⟨g1,rfl⟩ | ⟨g1,rfl,_⟩
 · rw[zFa,g1] at hp;cases hp
 · clear g1
   go_wp2_with fail
   go_ret
   exact⟨rfl,h8.below.alloc h8.below.size _⟩
theorem zV2(id tk rf sp ty:Int)(dt:List UInt8)(HO:Hid (okK 12=true))(d0:decide (id<1)=false)(d1:decide (500<id)=false)(d2:decide (tk<0)=false)(d3:decide (1099511627776<tk)=false)(hib:1≤id∧id≤500)(E0:Hid (einB (hasC ([110]) 114) rf 1 (id - 1)=true))(E1:Hid (einB (hasC ([110]) 115) sp 0 15=true))(E2:Hid (einB (hasC ([110]) 116) ty 1 5=true))(hdt:dt.length≤maxLen)(w:World):Calls Tryz.prog 46 #[.agg #[.int .i64 id,.int .i64 12,.int .i64 tk,.int .i64 rf,.int .i64 sp,.int .i64 ty,.bool false,.string ⟨dt.toArray⟩]] w fun e w'=>e=.returned (.bool (decide (zCi dt)))∧Below w.heap.size w w':=by
 have h0:=EHeld.new w (id,12,tk,rf,sp,ty,false,dt)
 unfold evC at h0
 simp only[Ev.id,Ev.kd,Ev.tk,Ev.rf,Ev.sp,Ev.ty,Ev.ud,Ev.dt] at h0
 obtain⟨W,hW⟩:∃W,W=w.alloc (.cells #[.int .i64 id,.int .i64 12,.int .i64 tk,.int .i64 rf,.int .i64 sp,.int .i64 ty,.bool false,.string ⟨dt.toArray⟩] 52):=⟨_,rfl⟩
 rw[← hW] at h0
 have HX:=hid hW
 clear hW
 go_enter Tryz.func46,Tryz.ntmps46
 have p0:=h0.c0
 have p1:=h0.c1
 simp only[Ev.id,Ev.kd] at p0 p1
 go_wp2_with fail
 rw[← HX.out]
 refine(zBh 12 W).mono ?_
 rintro _ w1 ⟨rfl,b1⟩
 have h1:=h0.next b1
 clear p0 p1 h0
 have p0:=h1.c0
 have p1:=h1.c1
 have p2:=h1.c2
 have p3:=h1.c3
 have p4:=h1.c4
 have p5:=h1.c5
 have p6:=h1.c6
 have p7:=h1.c7
 simp only[Ev.id,Ev.kd,Ev.tk,Ev.rf,Ev.sp,Ev.ty,Ev.ud,Ev.dt] at p0 p1 p2 p3 p4 p5 p6 p7
 rw[HO.out]
 rw[show evS 12=[110] from rfl]
 go_wp2_with fail
 refine(zBs _ _ _ _ _ _).mono ?_
 rintro _ w9 ⟨rfl,hw9⟩
 rw[hw9,E0.out]
 clear hw9 w9
 go_wp2_with fail
 refine(zBs _ _ _ _ _ _).mono ?_
 rintro _ w9 ⟨rfl,hw9⟩
 rw[hw9,E1.out]
 clear hw9 w9
 go_wp2_with fail
 refine(zBs _ _ _ _ _ _).mono ?_
 rintro _ w9 ⟨rfl,hw9⟩
 rw[hw9,E2.out]
 clear hw9 w9
 go_wp2_with fail
 refine(zEk dt hdt _).mono ?_
 rintro _ w9 ⟨rfl,hw9⟩
 rw[hw9]
 clear hw9 w9
 go_wp2_with fail
 go_ret
 exact⟨rfl,h1.below⟩
end Go.Proofs.YtkedafopdkhnfaaGreat
