/- THE WALKS THROUGH event.Check, one for each way. -/
import Derived.Test.YtkedafopdkhnfaaGreatEvtIn
import Derived.Test.YtkedafopdkhnfaaGreatPgmDec
import Derived.Deep.RegionHeld3
import Derived.Deep.QuietTactic
import Derived.BigQuiet
namespace Go.Proofs.YtkedafopdkhnfaaGreat
set_option maxHeartbeats 1600000
set_option maxRecDepth 100000
open Go.RowKit
set_option linter.unusedVariables false
def noB(f bit:Int):Bool:=bits .and .i64 f bit==0
theorem zAe(n lo hi bit f:Int)(g:Nat)(w:World)(hc:w.cell? ⟨g,0,none⟩=some (.int .i64 f)):Calls Tryz.prog 60 #[.int .i64 n,.int .i64 lo,.int .i64 hi,.int .i64 bit,.pointer (some ⟨g,0,none⟩)] w fun e w'=>e=.returned (.bool (einB (!noB f bit) n lo hi))∧w'=w:=by
 cases hb:noB f bit
 · have hb':(bits .and .i64 f bit==0)=false:=hb
   go_enter Tryz.func60,Tryz.ntmps60
   go_wp2_with fail
   all_goals
    go_ret
    exact⟨by simp[einB] <;> omega,rfl⟩
 · have hb':(bits .and .i64 f bit==0)=true:=hb
   go_enter Tryz.func60,Tryz.ntmps60
   go_wp2_with fail
   go_ret
   exact⟨by simp[einB,zI1],rfl⟩
theorem zAk(w:World)(o:Obj)(v:Value)(t:TypeId):((w.alloc o).alloc (.cells #[v] t)).cell? ⟨w.heap.size+1,0,none⟩=some v:=by
 have:=zJj (w.alloc o) v t
 have e:(w.alloc o).heap.size=w.heap.size+1:=by show(w.heap.push _).size=_;rw[Array.size_push]
 rwa[e] at this
theorem zCs(w:World)(o o':Obj):Below w.heap.size w ((w.alloc o).alloc o'):=by
 have e:(w.alloc o).heap.size=w.heap.size+1:=by show(w.heap.push _).size=_;rw[Array.size_push]
 exact((Below.refl _ _).alloc (Nat.le_refl _) _).alloc (by omega) _
theorem zHo{x:Ev}(h:¬EvP x):evV x=120:=by unfold evV;rw[if_neg h]
theorem zPr{x:Ev}(h:EvP x):evV x=0:=by unfold evV;rw[if_pos h]
theorem zTl(k:Int):noB (evB k) 1=decide (¬(evB k=1∨evB k=5)):=by rcases zCt k with e | e | e | e | e | e <;> rw[e] <;> rfl
theorem zPw(k:Int):noB (evB k) 2=decide (¬(evB k=2∨evB k=10)):=by rcases zCt k with e | e | e | e | e | e <;> rw[e] <;> rfl
theorem zTm(k:Int):noB (evB k) 4=decide (¬(evB k=5)):=by rcases zCt k with e | e | e | e | e | e <;> rw[e] <;> rfl
theorem zJu(k:Int):noB (evB k) 8=decide (¬(evB k=10)):=by rcases zCt k with e | e | e | e | e | e <;> rw[e] <;> rfl
theorem zGz(k:Int):noB (evB k) 16=decide (¬(evB k=16)):=by rcases zCt k with e | e | e | e | e | e <;> rw[e] <;> rfl
theorem zGb(k:Int):evB k=16↔k=1∨k=12:=by
 constructor
 · intro h
   unfold evB at h
   split at h
   · assumption
   · split at h
     · cases h
     · split at h
       · cases h
       · split at h
         · cases h
         · split at h <;> cases h
 · intro h;unfold evB;rw[if_pos h]
theorem zKu(x:Ev):EvP x↔okK x.kd=true∧(¬x.id<1∧¬500<x.id)∧(¬x.tk<0∧¬1099511627776<x.tk)∧einB (!noB (evB x.kd) 1) x.rf 1 (x.id - 1)=true∧einB (!noB (evB x.kd) 2) x.sp 0 15=true∧einB (!noB (evB x.kd) 4) x.ty 1 5=true∧¬(x.ud=true∧noB (evB x.kd) 8=true)∧¬(x.dt≠[]∧noB (evB x.kd) 16=true)∧(x.kd=1→∃lim ss,zDf x.dt=some (lim,ss))∧(x.kd=12→zCi x.dt):=by
 unfold EvP okK einB zRj
 rw[zTl,zPw,zTm,zJu,zGz]
 simp only[decide_eq_true_eq,Bool.not_eq_true',decide_eq_false_iff_not,Decidable.not_not,zGb]
 constructor
 · rintro⟨h1,h2,h3,h4,h5,h6,h7,h8,h9,h10⟩
   refine⟨h1,by omega,by omega,?_,?_,?_,fun q=>q.2 (h7 q.1),fun q=>?_,h8,h9⟩
   · split at h4 <;> simp_all
   · split at h5 <;> simp_all
   · split at h6 <;> simp_all
   · exact q.1 (h10 (fun e=>q.2 (.inl e)) (fun e=>q.2 (.inr e)))
 · rintro⟨h1,h2,h3,h4,h5,h6,h7,h8,h9,h10⟩
   refine⟨h1,by omega,by omega,?_,?_,?_,fun q=>?_,h9,h10,fun q1 q2=>?_⟩
   · split <;> simp_all
   · split <;> simp_all
   · split <;> simp_all
   · by_cases e:evB x.kd=10
     · exact e
     · exact absurd ⟨q,e⟩ h7
   · by_cases e:x.dt=[]
     · exact e
     · exact absurd ⟨e,fun q=>by rcases q with q | q;exact q1 q;exact q2 q⟩ h8
theorem zV9(id k tk rf sp ty:Int)(ud:Bool)(dt:List UInt8)(HO:Hid (okK k=false))(w:World):Calls Tryz.prog 37 #[.agg #[.int .i64 id,.int .i64 k,.int .i64 tk,.int .i64 rf,.int .i64 sp,.int .i64 ty,.bool ud,.string ⟨dt.toArray⟩]] w fun e w'=>e=.returned (.int .i64 120)∧Below w.heap.size w w':=by
 go_enter Tryz.func37,Tryz.ntmps37
 simp only[List.append_eq,List.cons_append,List.nil_append]
 go_wp2_with fail
 refine(zA2 k _).mono ?_
 rintro _ w9 ⟨rfl,hw9⟩
 rw[hw9,HO.out]
 clear hw9 w9
 go_wp2_with fail
 go_ret
 exact⟨rfl,zCs _ _ _⟩
theorem zVi(id k tk rf sp ty:Int)(ud:Bool)(dt:List UInt8)(HO:Hid (okK k=true))(d0:decide (id<1)=true)(w:World):Calls Tryz.prog 37 #[.agg #[.int .i64 id,.int .i64 k,.int .i64 tk,.int .i64 rf,.int .i64 sp,.int .i64 ty,.bool ud,.string ⟨dt.toArray⟩]] w fun e w'=>e=.returned (.int .i64 120)∧Below w.heap.size w w':=by
 go_enter Tryz.func37,Tryz.ntmps37
 simp only[List.append_eq,List.cons_append,List.nil_append]
 go_wp2_with fail
 refine(zA2 k _).mono ?_
 rintro _ w9 ⟨rfl,hw9⟩
 rw[hw9,HO.out]
 clear hw9 w9
 go_wp2_with fail
 go_ret
 exact⟨rfl,zCs _ _ _⟩
theorem zVj(id k tk rf sp ty:Int)(ud:Bool)(dt:List UInt8)(HO:Hid (okK k=true))(d0:decide (id<1)=false)(d1:decide (500<id)=true)(w:World):Calls Tryz.prog 37 #[.agg #[.int .i64 id,.int .i64 k,.int .i64 tk,.int .i64 rf,.int .i64 sp,.int .i64 ty,.bool ud,.string ⟨dt.toArray⟩]] w fun e w'=>e=.returned (.int .i64 120)∧Below w.heap.size w w':=by
 go_enter Tryz.func37,Tryz.ntmps37
 simp only[List.append_eq,List.cons_append,List.nil_append]
 go_wp2_with fail
 refine(zA2 k _).mono ?_
 rintro _ w9 ⟨rfl,hw9⟩
 rw[hw9,HO.out]
 clear hw9 w9
 go_wp2_with fail
 go_ret
 exact⟨rfl,zCs _ _ _⟩
theorem zVk(id k tk rf sp ty:Int)(ud:Bool)(dt:List UInt8)(HO:Hid (okK k=true))(d0:decide (id<1)=false)(d1:decide (500<id)=false)(d2:decide (tk<0)=true)(w:World):Calls Tryz.prog 37 #[.agg #[.int .i64 id,.int .i64 k,.int .i64 tk,.int .i64 rf,.int .i64 sp,.int .i64 ty,.bool ud,.string ⟨dt.toArray⟩]] w fun e w'=>e=.returned (.int .i64 120)∧Below w.heap.size w w':=by
 go_enter Tryz.func37,Tryz.ntmps37
 simp only[List.append_eq,List.cons_append,List.nil_append]
 go_wp2_with fail
 refine(zA2 k _).mono ?_
 rintro _ w9 ⟨rfl,hw9⟩
 rw[hw9,HO.out]
 clear hw9 w9
 go_wp2_with fail
 go_ret
 exact⟨rfl,zCs _ _ _⟩
theorem zVl(id k tk rf sp ty:Int)(ud:Bool)(dt:List UInt8)(HO:Hid (okK k=true))(d0:decide (id<1)=false)(d1:decide (500<id)=false)(d2:decide (tk<0)=false)(d3:decide (1099511627776<tk)=true)(w:World):Calls Tryz.prog 37 #[.agg #[.int .i64 id,.int .i64 k,.int .i64 tk,.int .i64 rf,.int .i64 sp,.int .i64 ty,.bool ud,.string ⟨dt.toArray⟩]] w fun e w'=>e=.returned (.int .i64 120)∧Below w.heap.size w w':=by
 go_enter Tryz.func37,Tryz.ntmps37
 simp only[List.append_eq,List.cons_append,List.nil_append]
 go_wp2_with fail
 refine(zA2 k _).mono ?_
 rintro _ w9 ⟨rfl,hw9⟩
 rw[hw9,HO.out]
 clear hw9 w9
 go_wp2_with fail
 go_ret
 exact⟨rfl,zCs _ _ _⟩
theorem zVm(id k tk rf sp ty:Int)(ud:Bool)(dt:List UInt8)(HO:Hid (okK k=true))(d0:decide (id<1)=false)(d1:decide (500<id)=false)(d2:decide (tk<0)=false)(d3:decide (1099511627776<tk)=false)(hid:1≤id∧id≤500)(E0:Hid (einB (!noB (evB k) 1) rf 1 (id - 1)=false))(w:World):Calls Tryz.prog 37 #[.agg #[.int .i64 id,.int .i64 k,.int .i64 tk,.int .i64 rf,.int .i64 sp,.int .i64 ty,.bool ud,.string ⟨dt.toArray⟩]] w fun e w'=>e=.returned (.int .i64 120)∧Below w.heap.size w w':=by
 go_enter Tryz.func37,Tryz.ntmps37
 simp only[List.append_eq,List.cons_append,List.nil_append]
 go_wp2_with fail
 refine(zA2 k _).mono ?_
 rintro _ w9 ⟨rfl,hw9⟩
 rw[hw9,HO.out]
 clear hw9 w9
 go_wp2_with fail
 refine(zAe _ _ _ _ (evB k) (w.heap.size+1) _ (zAk _ _ _ _)).mono ?_
 rintro _ w9 ⟨rfl,hw9⟩
 rw[hw9,E0.out]
 clear hw9 w9
 go_wp2_with fail
 go_ret
 exact⟨rfl,zCs _ _ _⟩
theorem zVn(id k tk rf sp ty:Int)(ud:Bool)(dt:List UInt8)(HO:Hid (okK k=true))(d0:decide (id<1)=false)(d1:decide (500<id)=false)(d2:decide (tk<0)=false)(d3:decide (1099511627776<tk)=false)(hid:1≤id∧id≤500)(E0:Hid (einB (!noB (evB k) 1) rf 1 (id - 1)=true))(E1:Hid (einB (!noB (evB k) 2) sp 0 15=false))(w:World):Calls Tryz.prog 37 #[.agg #[.int .i64 id,.int .i64 k,.int .i64 tk,.int .i64 rf,.int .i64 sp,.int .i64 ty,.bool ud,.string ⟨dt.toArray⟩]] w fun e w'=>e=.returned (.int .i64 120)∧Below w.heap.size w w':=by
 go_enter Tryz.func37,Tryz.ntmps37
 simp only[List.append_eq,List.cons_append,List.nil_append]
 go_wp2_with fail
 refine(zA2 k _).mono ?_
 rintro _ w9 ⟨rfl,hw9⟩
 rw[hw9,HO.out]
 clear hw9 w9
 go_wp2_with fail
 refine(zAe _ _ _ _ (evB k) (w.heap.size+1) _ (zAk _ _ _ _)).mono ?_
 rintro _ w9 ⟨rfl,hw9⟩
 rw[hw9,E0.out]
 clear hw9 w9
 go_wp2_with fail
 refine(zAe _ _ _ _ (evB k) (w.heap.size+1) _ (zAk _ _ _ _)).mono ?_
 rintro _ w9 ⟨rfl,hw9⟩
 rw[hw9,E1.out]
 clear hw9 w9
 go_wp2_with fail
 go_ret
 exact⟨rfl,zCs _ _ _⟩
theorem zVo(id k tk rf sp ty:Int)(ud:Bool)(dt:List UInt8)(HO:Hid (okK k=true))(d0:decide (id<1)=false)(d1:decide (500<id)=false)(d2:decide (tk<0)=false)(d3:decide (1099511627776<tk)=false)(hid:1≤id∧id≤500)(E0:Hid (einB (!noB (evB k) 1) rf 1 (id - 1)=true))(E1:Hid (einB (!noB (evB k) 2) sp 0 15=true))(E2:Hid (einB (!noB (evB k) 4) ty 1 5=false))(w:World):Calls Tryz.prog 37 #[.agg #[.int .i64 id,.int .i64 k,.int .i64 tk,.int .i64 rf,.int .i64 sp,.int .i64 ty,.bool ud,.string ⟨dt.toArray⟩]] w fun e w'=>e=.returned (.int .i64 120)∧Below w.heap.size w w':=by
 go_enter Tryz.func37,Tryz.ntmps37
 simp only[List.append_eq,List.cons_append,List.nil_append]
 go_wp2_with fail
 refine(zA2 k _).mono ?_
 rintro _ w9 ⟨rfl,hw9⟩
 rw[hw9,HO.out]
 clear hw9 w9
 go_wp2_with fail
 refine(zAe _ _ _ _ (evB k) (w.heap.size+1) _ (zAk _ _ _ _)).mono ?_
 rintro _ w9 ⟨rfl,hw9⟩
 rw[hw9,E0.out]
 clear hw9 w9
 go_wp2_with fail
 refine(zAe _ _ _ _ (evB k) (w.heap.size+1) _ (zAk _ _ _ _)).mono ?_
 rintro _ w9 ⟨rfl,hw9⟩
 rw[hw9,E1.out]
 clear hw9 w9
 go_wp2_with fail
 refine(zAe _ _ _ _ (evB k) (w.heap.size+1) _ (zAk _ _ _ _)).mono ?_
 rintro _ w9 ⟨rfl,hw9⟩
 rw[hw9,E2.out]
 clear hw9 w9
 go_wp2_with fail
 go_ret
 exact⟨rfl,zCs _ _ _⟩
theorem zWa(id k tk rf sp ty:Int)(dt:List UInt8)(HO:Hid (okK k=true))(d0:decide (id<1)=false)(d1:decide (500<id)=false)(d2:decide (tk<0)=false)(d3:decide (1099511627776<tk)=false)(hid:1≤id∧id≤500)(E0:Hid (einB (!noB (evB k) 1) rf 1 (id - 1)=true))(E1:Hid (einB (!noB (evB k) 2) sp 0 15=true))(E2:Hid (einB (!noB (evB k) 4) ty 1 5=true))(q8:(bits .and .i64 (evB k) 8==0)=true)(w:World):Calls Tryz.prog 37 #[.agg #[.int .i64 id,.int .i64 k,.int .i64 tk,.int .i64 rf,.int .i64 sp,.int .i64 ty,.bool true,.string ⟨dt.toArray⟩]] w fun e w'=>e=.returned (.int .i64 120)∧Below w.heap.size w w':=by
 go_enter Tryz.func37,Tryz.ntmps37
 simp only[List.append_eq,List.cons_append,List.nil_append]
 go_wp2_with fail
 refine(zA2 k _).mono ?_
 rintro _ w9 ⟨rfl,hw9⟩
 rw[hw9,HO.out]
 clear hw9 w9
 go_wp2_with fail
 refine(zAe _ _ _ _ (evB k) (w.heap.size+1) _ (zAk _ _ _ _)).mono ?_
 rintro _ w9 ⟨rfl,hw9⟩
 rw[hw9,E0.out]
 clear hw9 w9
 go_wp2_with fail
 refine(zAe _ _ _ _ (evB k) (w.heap.size+1) _ (zAk _ _ _ _)).mono ?_
 rintro _ w9 ⟨rfl,hw9⟩
 rw[hw9,E1.out]
 clear hw9 w9
 go_wp2_with fail
 refine(zAe _ _ _ _ (evB k) (w.heap.size+1) _ (zAk _ _ _ _)).mono ?_
 rintro _ w9 ⟨rfl,hw9⟩
 rw[hw9,E2.out]
 clear hw9 w9
 go_wp2_with fail
 go_ret
 exact⟨rfl,zCs _ _ _⟩
theorem zVp(id k tk rf sp ty:Int)(dt:List UInt8)(HO:Hid (okK k=true))(d0:decide (id<1)=false)(d1:decide (500<id)=false)(d2:decide (tk<0)=false)(d3:decide (1099511627776<tk)=false)(hid:1≤id∧id≤500)(E0:Hid (einB (!noB (evB k) 1) rf 1 (id - 1)=true))(E1:Hid (einB (!noB (evB k) 2) sp 0 15=true))(E2:Hid (einB (!noB (evB k) 4) ty 1 5=true))(bd:(dt == [])=false)(q16:(bits .and .i64 (evB k) 16==0)=true)(w:World):Calls Tryz.prog 37 #[.agg #[.int .i64 id,.int .i64 k,.int .i64 tk,.int .i64 rf,.int .i64 sp,.int .i64 ty,.bool false,.string ⟨dt.toArray⟩]] w fun e w'=>e=.returned (.int .i64 120)∧Below w.heap.size w w':=by
 go_enter Tryz.func37,Tryz.ntmps37
 simp only[List.append_eq,List.cons_append,List.nil_append]
 go_wp2_with fail
 refine(zA2 k _).mono ?_
 rintro _ w9 ⟨rfl,hw9⟩
 rw[hw9,HO.out]
 clear hw9 w9
 go_wp2_with fail
 refine(zAe _ _ _ _ (evB k) (w.heap.size+1) _ (zAk _ _ _ _)).mono ?_
 rintro _ w9 ⟨rfl,hw9⟩
 rw[hw9,E0.out]
 clear hw9 w9
 go_wp2_with fail
 refine(zAe _ _ _ _ (evB k) (w.heap.size+1) _ (zAk _ _ _ _)).mono ?_
 rintro _ w9 ⟨rfl,hw9⟩
 rw[hw9,E1.out]
 clear hw9 w9
 go_wp2_with fail
 refine(zAe _ _ _ _ (evB k) (w.heap.size+1) _ (zAk _ _ _ _)).mono ?_
 rintro _ w9 ⟨rfl,hw9⟩
 rw[hw9,E2.out]
 clear hw9 w9
 go_wp2_with fail
 go_ret
 exact⟨rfl,zCs _ _ _⟩
theorem zVr(id k tk rf sp ty:Int)(HO:Hid (okK k=true))(d0:decide (id<1)=false)(d1:decide (500<id)=false)(d2:decide (tk<0)=false)(d3:decide (1099511627776<tk)=false)(hid:1≤id∧id≤500)(E0:Hid (einB (!noB (evB k) 1) rf 1 (id - 1)=true))(E1:Hid (einB (!noB (evB k) 2) sp 0 15=true))(E2:Hid (einB (!noB (evB k) 4) ty 1 5=true))(hk1:¬k=1)(hk12:¬k=12)(w:World):Calls Tryz.prog 37 #[.agg #[.int .i64 id,.int .i64 k,.int .i64 tk,.int .i64 rf,.int .i64 sp,.int .i64 ty,.bool false,.string ⟨#[]⟩]] w fun e w'=>e=.returned (.int .i64 0)∧Below w.heap.size w w':=by
 go_enter Tryz.func37,Tryz.ntmps37
 simp only[List.append_eq,List.cons_append,List.nil_append]
 go_wp2_with fail
 refine(zA2 k _).mono ?_
 rintro _ w9 ⟨rfl,hw9⟩
 rw[hw9,HO.out]
 clear hw9 w9
 go_wp2_with fail
 refine(zAe _ _ _ _ (evB k) (w.heap.size+1) _ (zAk _ _ _ _)).mono ?_
 rintro _ w9 ⟨rfl,hw9⟩
 rw[hw9,E0.out]
 clear hw9 w9
 go_wp2_with fail
 refine(zAe _ _ _ _ (evB k) (w.heap.size+1) _ (zAk _ _ _ _)).mono ?_
 rintro _ w9 ⟨rfl,hw9⟩
 rw[hw9,E1.out]
 clear hw9 w9
 go_wp2_with fail
 refine(zAe _ _ _ _ (evB k) (w.heap.size+1) _ (zAk _ _ _ _)).mono ?_
 rintro _ w9 ⟨rfl,hw9⟩
 rw[hw9,E2.out]
 clear hw9 w9
 go_wp2_with fail
 go_ret
 exact⟨rfl,zCs _ _ _⟩
theorem zVq(id k tk rf sp ty:Int)(dt:List UInt8)(HO:Hid (okK k=true))(d0:decide (id<1)=false)(d1:decide (500<id)=false)(d2:decide (tk<0)=false)(d3:decide (1099511627776<tk)=false)(hid:1≤id∧id≤500)(E0:Hid (einB (!noB (evB k) 1) rf 1 (id - 1)=true))(E1:Hid (einB (!noB (evB k) 2) sp 0 15=true))(E2:Hid (einB (!noB (evB k) 4) ty 1 5=true))(q8:(bits .and .i64 (evB k) 8==0)=false)(bd:(dt == [])=false)(q16:(bits .and .i64 (evB k) 16==0)=true)(w:World):Calls Tryz.prog 37 #[.agg #[.int .i64 id,.int .i64 k,.int .i64 tk,.int .i64 rf,.int .i64 sp,.int .i64 ty,.bool true,.string ⟨dt.toArray⟩]] w fun e w'=>e=.returned (.int .i64 120)∧Below w.heap.size w w':=by
 go_enter Tryz.func37,Tryz.ntmps37
 simp only[List.append_eq,List.cons_append,List.nil_append]
 go_wp2_with fail
 refine(zA2 k _).mono ?_
 rintro _ w9 ⟨rfl,hw9⟩
 rw[hw9,HO.out]
 clear hw9 w9
 go_wp2_with fail
 refine(zAe _ _ _ _ (evB k) (w.heap.size+1) _ (zAk _ _ _ _)).mono ?_
 rintro _ w9 ⟨rfl,hw9⟩
 rw[hw9,E0.out]
 clear hw9 w9
 go_wp2_with fail
 refine(zAe _ _ _ _ (evB k) (w.heap.size+1) _ (zAk _ _ _ _)).mono ?_
 rintro _ w9 ⟨rfl,hw9⟩
 rw[hw9,E1.out]
 clear hw9 w9
 go_wp2_with fail
 refine(zAe _ _ _ _ (evB k) (w.heap.size+1) _ (zAk _ _ _ _)).mono ?_
 rintro _ w9 ⟨rfl,hw9⟩
 rw[hw9,E2.out]
 clear hw9 w9
 go_wp2_with fail
 go_ret
 exact⟨rfl,zCs _ _ _⟩
theorem zVs(id k tk rf sp ty:Int)(HO:Hid (okK k=true))(d0:decide (id<1)=false)(d1:decide (500<id)=false)(d2:decide (tk<0)=false)(d3:decide (1099511627776<tk)=false)(hid:1≤id∧id≤500)(E0:Hid (einB (!noB (evB k) 1) rf 1 (id - 1)=true))(E1:Hid (einB (!noB (evB k) 2) sp 0 15=true))(E2:Hid (einB (!noB (evB k) 4) ty 1 5=true))(q8:(bits .and .i64 (evB k) 8==0)=false)(hk1:¬k=1)(hk12:¬k=12)(w:World):Calls Tryz.prog 37 #[.agg #[.int .i64 id,.int .i64 k,.int .i64 tk,.int .i64 rf,.int .i64 sp,.int .i64 ty,.bool true,.string ⟨#[]⟩]] w fun e w'=>e=.returned (.int .i64 0)∧Below w.heap.size w w':=by
 go_enter Tryz.func37,Tryz.ntmps37
 simp only[List.append_eq,List.cons_append,List.nil_append]
 go_wp2_with fail
 refine(zA2 k _).mono ?_
 rintro _ w9 ⟨rfl,hw9⟩
 rw[hw9,HO.out]
 clear hw9 w9
 go_wp2_with fail
 refine(zAe _ _ _ _ (evB k) (w.heap.size+1) _ (zAk _ _ _ _)).mono ?_
 rintro _ w9 ⟨rfl,hw9⟩
 rw[hw9,E0.out]
 clear hw9 w9
 go_wp2_with fail
 refine(zAe _ _ _ _ (evB k) (w.heap.size+1) _ (zAk _ _ _ _)).mono ?_
 rintro _ w9 ⟨rfl,hw9⟩
 rw[hw9,E1.out]
 clear hw9 w9
 go_wp2_with fail
 refine(zAe _ _ _ _ (evB k) (w.heap.size+1) _ (zAk _ _ _ _)).mono ?_
 rintro _ w9 ⟨rfl,hw9⟩
 rw[hw9,E2.out]
 clear hw9 w9
 go_wp2_with fail
 go_ret
 exact⟨rfl,zCs _ _ _⟩
end Go.Proofs.YtkedafopdkhnfaaGreat
