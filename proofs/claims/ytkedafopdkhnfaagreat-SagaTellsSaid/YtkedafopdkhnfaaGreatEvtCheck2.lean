/- THE WALKS THROUGH event.Check that go on to Decode, Named. -/
import Derived.Test.YtkedafopdkhnfaaGreatEvtCheck1
namespace Go.Proofs.YtkedafopdkhnfaaGreat
set_option maxHeartbeats 1600000
set_option maxRecDepth 100000
open Go.RowKit
set_option linter.unusedVariables false
theorem zTx(id tk rf sp ty:Int)(dt:List UInt8)(bb:Bool)(HO:Hid (okK 1=true))(d0:decide (id<1)=false)(d1:decide (500<id)=false)(d2:decide (tk<0)=false)(d3:decide (1099511627776<tk)=false)(hid:1≤id∧id≤500)(E0:Hid (einB (!noB (evB 1) 1) rf 1 (id - 1)=true))(E1:Hid (einB (!noB (evB 1) 2) sp 0 15=true))(E2:Hid (einB (!noB (evB 1) 4) ty 1 5=true))(bd:(dt == [])=bb)(q16:(bits .and .i64 (evB 1) 16==0)=false)(hdt:dt.length≤140737488355328)(hp:∃lim ss,zDf dt=some (lim,ss))(w:World):Calls Tryz.prog 37 #[.agg #[.int .i64 id,.int .i64 1,.int .i64 tk,.int .i64 rf,.int .i64 sp,.int .i64 ty,.bool false,.string ⟨dt.toArray⟩]] w fun e w'=>e=.returned (.int .i64 0)∧Below w.heap.size w w':=by
 cases bb
 all_goals
  go_enter Tryz.func37,Tryz.ntmps37
  simp only[List.append_eq,List.cons_append,List.nil_append]
  go_wp2_with fail
  refine(zA2 1 _).mono ?_
  rintro _ w9 ⟨rfl,hw9⟩
  rw[hw9,HO.out]
  clear hw9 w9
  go_wp2_with fail
  refine(zAe _ _ _ _ (evB 1) (w.heap.size+1) _ (zAk _ _ _ _)).mono ?_
  rintro _ w9 ⟨rfl,hw9⟩
  rw[hw9,E0.out]
  clear hw9 w9
  go_wp2_with fail
  refine(zAe _ _ _ _ (evB 1) (w.heap.size+1) _ (zAk _ _ _ _)).mono ?_
  rintro _ w9 ⟨rfl,hw9⟩
  rw[hw9,E1.out]
  clear hw9 w9
  go_wp2_with fail
  refine(zAe _ _ _ _ (evB 1) (w.heap.size+1) _ (zAk _ _ _ _)).mono ?_
  rintro _ w9 ⟨rfl,hw9⟩
  rw[hw9,E2.out]
  clear hw9 w9
  go_wp2_with fail
  refine(zFh dt hdt _).mono ?_
  rintro _ w8 ⟨v,lim,ss,er,rfl,hsl,b8,hres⟩
  have b8':=zAl (zCs _ _ _) b8
  obtain⟨_,_,a,cap,rfl,_⟩:=hsl
  rcases hres with ⟨h1,rfl⟩ | ⟨h1,rfl,_⟩
  · clear h1
    go_wp2_with fail
    go_ret
    exact⟨rfl,b8'.alloc b8'.size _⟩
  · obtain⟨_,_,q⟩:=hp;rw[h1] at q;cases q
theorem zTw(id tk rf sp ty:Int)(dt:List UInt8)(bb:Bool)(HO:Hid (okK 1=true))(d0:decide (id<1)=false)(d1:decide (500<id)=false)(d2:decide (tk<0)=false)(d3:decide (1099511627776<tk)=false)(hid:1≤id∧id≤500)(E0:Hid (einB (!noB (evB 1) 1) rf 1 (id - 1)=true))(E1:Hid (einB (!noB (evB 1) 2) sp 0 15=true))(E2:Hid (einB (!noB (evB 1) 4) ty 1 5=true))(bd:(dt == [])=bb)(q16:(bits .and .i64 (evB 1) 16==0)=false)(hdt:dt.length≤140737488355328)(hp:zDf dt=none)(w:World):Calls Tryz.prog 37 #[.agg #[.int .i64 id,.int .i64 1,.int .i64 tk,.int .i64 rf,.int .i64 sp,.int .i64 ty,.bool false,.string ⟨dt.toArray⟩]] w fun e w'=>e=.returned (.int .i64 120)∧Below w.heap.size w w':=by
 cases bb
 all_goals
  go_enter Tryz.func37,Tryz.ntmps37
  simp only[List.append_eq,List.cons_append,List.nil_append]
  go_wp2_with fail
  refine(zA2 1 _).mono ?_
  rintro _ w9 ⟨rfl,hw9⟩
  rw[hw9,HO.out]
  clear hw9 w9
  go_wp2_with fail
  refine(zAe _ _ _ _ (evB 1) (w.heap.size+1) _ (zAk _ _ _ _)).mono ?_
  rintro _ w9 ⟨rfl,hw9⟩
  rw[hw9,E0.out]
  clear hw9 w9
  go_wp2_with fail
  refine(zAe _ _ _ _ (evB 1) (w.heap.size+1) _ (zAk _ _ _ _)).mono ?_
  rintro _ w9 ⟨rfl,hw9⟩
  rw[hw9,E1.out]
  clear hw9 w9
  go_wp2_with fail
  refine(zAe _ _ _ _ (evB 1) (w.heap.size+1) _ (zAk _ _ _ _)).mono ?_
  rintro _ w9 ⟨rfl,hw9⟩
  rw[hw9,E2.out]
  clear hw9 w9
  go_wp2_with fail
  refine(zFh dt hdt _).mono ?_
  rintro _ w8 ⟨v,lim,ss,er,rfl,hsl,b8,hres⟩
  have b8':=zAl (zCs _ _ _) b8
  obtain⟨_,_,a,cap,rfl,_⟩:=hsl
  rcases hres with ⟨h1,rfl⟩ | ⟨h1,rfl,_⟩
  · rw[h1] at hp;cases hp
  · clear h1
    go_wp2_with fail
    go_ret
    exact⟨rfl,b8'.alloc b8'.size _⟩
theorem zT1(id tk rf sp ty:Int)(dt:List UInt8)(bb:Bool)(HO:Hid (okK 12=true))(d0:decide (id<1)=false)(d1:decide (500<id)=false)(d2:decide (tk<0)=false)(d3:decide (1099511627776<tk)=false)(hid:1≤id∧id≤500)(E0:Hid (einB (!noB (evB 12) 1) rf 1 (id - 1)=true))(E1:Hid (einB (!noB (evB 12) 2) sp 0 15=true))(E2:Hid (einB (!noB (evB 12) 4) ty 1 5=true))(bd:(dt == [])=bb)(q16:(bits .and .i64 (evB 12) 16==0)=false)(hdt:dt.length≤maxLen)(hd:decide (zCi dt)=true)(w:World):Calls Tryz.prog 37 #[.agg #[.int .i64 id,.int .i64 12,.int .i64 tk,.int .i64 rf,.int .i64 sp,.int .i64 ty,.bool false,.string ⟨dt.toArray⟩]] w fun e w'=>e=.returned (.int .i64 0)∧Below w.heap.size w w':=by
 cases bb
 all_goals
  go_enter Tryz.func37,Tryz.ntmps37
  simp only[List.append_eq,List.cons_append,List.nil_append]
  go_wp2_with fail
  refine(zA2 12 _).mono ?_
  rintro _ w9 ⟨rfl,hw9⟩
  rw[hw9,HO.out]
  clear hw9 w9
  go_wp2_with fail
  refine(zAe _ _ _ _ (evB 12) (w.heap.size+1) _ (zAk _ _ _ _)).mono ?_
  rintro _ w9 ⟨rfl,hw9⟩
  rw[hw9,E0.out]
  clear hw9 w9
  go_wp2_with fail
  refine(zAe _ _ _ _ (evB 12) (w.heap.size+1) _ (zAk _ _ _ _)).mono ?_
  rintro _ w9 ⟨rfl,hw9⟩
  rw[hw9,E1.out]
  clear hw9 w9
  go_wp2_with fail
  refine(zAe _ _ _ _ (evB 12) (w.heap.size+1) _ (zAk _ _ _ _)).mono ?_
  rintro _ w9 ⟨rfl,hw9⟩
  rw[hw9,E2.out]
  clear hw9 w9
  go_wp2_with fail
  refine(zDd dt hdt _).mono ?_
  rintro _ w9 ⟨rfl,hw9⟩
  rw[hw9,hd]
  clear hw9 w9
  go_wp2_with fail
  go_ret
  exact⟨rfl,zCs _ _ _⟩
theorem zT0(id tk rf sp ty:Int)(dt:List UInt8)(bb:Bool)(HO:Hid (okK 12=true))(d0:decide (id<1)=false)(d1:decide (500<id)=false)(d2:decide (tk<0)=false)(d3:decide (1099511627776<tk)=false)(hid:1≤id∧id≤500)(E0:Hid (einB (!noB (evB 12) 1) rf 1 (id - 1)=true))(E1:Hid (einB (!noB (evB 12) 2) sp 0 15=true))(E2:Hid (einB (!noB (evB 12) 4) ty 1 5=true))(bd:(dt == [])=bb)(q16:(bits .and .i64 (evB 12) 16==0)=false)(hdt:dt.length≤maxLen)(hd:decide (zCi dt)=false)(w:World):Calls Tryz.prog 37 #[.agg #[.int .i64 id,.int .i64 12,.int .i64 tk,.int .i64 rf,.int .i64 sp,.int .i64 ty,.bool false,.string ⟨dt.toArray⟩]] w fun e w'=>e=.returned (.int .i64 120)∧Below w.heap.size w w':=by
 cases bb
 all_goals
  go_enter Tryz.func37,Tryz.ntmps37
  simp only[List.append_eq,List.cons_append,List.nil_append]
  go_wp2_with fail
  refine(zA2 12 _).mono ?_
  rintro _ w9 ⟨rfl,hw9⟩
  rw[hw9,HO.out]
  clear hw9 w9
  go_wp2_with fail
  refine(zAe _ _ _ _ (evB 12) (w.heap.size+1) _ (zAk _ _ _ _)).mono ?_
  rintro _ w9 ⟨rfl,hw9⟩
  rw[hw9,E0.out]
  clear hw9 w9
  go_wp2_with fail
  refine(zAe _ _ _ _ (evB 12) (w.heap.size+1) _ (zAk _ _ _ _)).mono ?_
  rintro _ w9 ⟨rfl,hw9⟩
  rw[hw9,E1.out]
  clear hw9 w9
  go_wp2_with fail
  refine(zAe _ _ _ _ (evB 12) (w.heap.size+1) _ (zAk _ _ _ _)).mono ?_
  rintro _ w9 ⟨rfl,hw9⟩
  rw[hw9,E2.out]
  clear hw9 w9
  go_wp2_with fail
  refine(zDd dt hdt _).mono ?_
  rintro _ w9 ⟨rfl,hw9⟩
  rw[hw9,hd]
  clear hw9 w9
  go_wp2_with fail
  go_ret
  exact⟨rfl,zCs _ _ _⟩
theorem zTz(id tk rf sp ty:Int)(dt:List UInt8)(bb:Bool)(HO:Hid (okK 1=true))(d0:decide (id<1)=false)(d1:decide (500<id)=false)(d2:decide (tk<0)=false)(d3:decide (1099511627776<tk)=false)(hid:1≤id∧id≤500)(E0:Hid (einB (!noB (evB 1) 1) rf 1 (id - 1)=true))(E1:Hid (einB (!noB (evB 1) 2) sp 0 15=true))(E2:Hid (einB (!noB (evB 1) 4) ty 1 5=true))(q8:(bits .and .i64 (evB 1) 8==0)=false)(bd:(dt == [])=bb)(q16:(bits .and .i64 (evB 1) 16==0)=false)(hdt:dt.length≤140737488355328)(hp:∃lim ss,zDf dt=some (lim,ss))(w:World):Calls Tryz.prog 37 #[.agg #[.int .i64 id,.int .i64 1,.int .i64 tk,.int .i64 rf,.int .i64 sp,.int .i64 ty,.bool true,.string ⟨dt.toArray⟩]] w fun e w'=>e=.returned (.int .i64 0)∧Below w.heap.size w w':=by
 cases bb
 all_goals
  go_enter Tryz.func37,Tryz.ntmps37
  simp only[List.append_eq,List.cons_append,List.nil_append]
  go_wp2_with fail
  refine(zA2 1 _).mono ?_
  rintro _ w9 ⟨rfl,hw9⟩
  rw[hw9,HO.out]
  clear hw9 w9
  go_wp2_with fail
  refine(zAe _ _ _ _ (evB 1) (w.heap.size+1) _ (zAk _ _ _ _)).mono ?_
  rintro _ w9 ⟨rfl,hw9⟩
  rw[hw9,E0.out]
  clear hw9 w9
  go_wp2_with fail
  refine(zAe _ _ _ _ (evB 1) (w.heap.size+1) _ (zAk _ _ _ _)).mono ?_
  rintro _ w9 ⟨rfl,hw9⟩
  rw[hw9,E1.out]
  clear hw9 w9
  go_wp2_with fail
  refine(zAe _ _ _ _ (evB 1) (w.heap.size+1) _ (zAk _ _ _ _)).mono ?_
  rintro _ w9 ⟨rfl,hw9⟩
  rw[hw9,E2.out]
  clear hw9 w9
  go_wp2_with fail
  refine(zFh dt hdt _).mono ?_
  rintro _ w8 ⟨v,lim,ss,er,rfl,hsl,b8,hres⟩
  have b8':=zAl (zCs _ _ _) b8
  obtain⟨_,_,a,cap,rfl,_⟩:=hsl
  rcases hres with ⟨h1,rfl⟩ | ⟨h1,rfl,_⟩
  · clear h1
    go_wp2_with fail
    go_ret
    exact⟨rfl,b8'.alloc b8'.size _⟩
  · obtain⟨_,_,q⟩:=hp;rw[h1] at q;cases q
theorem zTy(id tk rf sp ty:Int)(dt:List UInt8)(bb:Bool)(HO:Hid (okK 1=true))(d0:decide (id<1)=false)(d1:decide (500<id)=false)(d2:decide (tk<0)=false)(d3:decide (1099511627776<tk)=false)(hid:1≤id∧id≤500)(E0:Hid (einB (!noB (evB 1) 1) rf 1 (id - 1)=true))(E1:Hid (einB (!noB (evB 1) 2) sp 0 15=true))(E2:Hid (einB (!noB (evB 1) 4) ty 1 5=true))(q8:(bits .and .i64 (evB 1) 8==0)=false)(bd:(dt == [])=bb)(q16:(bits .and .i64 (evB 1) 16==0)=false)(hdt:dt.length≤140737488355328)(hp:zDf dt=none)(w:World):Calls Tryz.prog 37 #[.agg #[.int .i64 id,.int .i64 1,.int .i64 tk,.int .i64 rf,.int .i64 sp,.int .i64 ty,.bool true,.string ⟨dt.toArray⟩]] w fun e w'=>e=.returned (.int .i64 120)∧Below w.heap.size w w':=by
 cases bb
 all_goals
  go_enter Tryz.func37,Tryz.ntmps37
  simp only[List.append_eq,List.cons_append,List.nil_append]
  go_wp2_with fail
  refine(zA2 1 _).mono ?_
  rintro _ w9 ⟨rfl,hw9⟩
  rw[hw9,HO.out]
  clear hw9 w9
  go_wp2_with fail
  refine(zAe _ _ _ _ (evB 1) (w.heap.size+1) _ (zAk _ _ _ _)).mono ?_
  rintro _ w9 ⟨rfl,hw9⟩
  rw[hw9,E0.out]
  clear hw9 w9
  go_wp2_with fail
  refine(zAe _ _ _ _ (evB 1) (w.heap.size+1) _ (zAk _ _ _ _)).mono ?_
  rintro _ w9 ⟨rfl,hw9⟩
  rw[hw9,E1.out]
  clear hw9 w9
  go_wp2_with fail
  refine(zAe _ _ _ _ (evB 1) (w.heap.size+1) _ (zAk _ _ _ _)).mono ?_
  rintro _ w9 ⟨rfl,hw9⟩
  rw[hw9,E2.out]
  clear hw9 w9
  go_wp2_with fail
  refine(zFh dt hdt _).mono ?_
  rintro _ w8 ⟨v,lim,ss,er,rfl,hsl,b8,hres⟩
  have b8':=zAl (zCs _ _ _) b8
  obtain⟨_,_,a,cap,rfl,_⟩:=hsl
  rcases hres with ⟨h1,rfl⟩ | ⟨h1,rfl,_⟩
  · rw[h1] at hp;cases hp
  · clear h1
    go_wp2_with fail
    go_ret
    exact⟨rfl,b8'.alloc b8'.size _⟩
theorem zT3(id tk rf sp ty:Int)(dt:List UInt8)(bb:Bool)(HO:Hid (okK 12=true))(d0:decide (id<1)=false)(d1:decide (500<id)=false)(d2:decide (tk<0)=false)(d3:decide (1099511627776<tk)=false)(hid:1≤id∧id≤500)(E0:Hid (einB (!noB (evB 12) 1) rf 1 (id - 1)=true))(E1:Hid (einB (!noB (evB 12) 2) sp 0 15=true))(E2:Hid (einB (!noB (evB 12) 4) ty 1 5=true))(q8:(bits .and .i64 (evB 12) 8==0)=false)(bd:(dt == [])=bb)(q16:(bits .and .i64 (evB 12) 16==0)=false)(hdt:dt.length≤maxLen)(hd:decide (zCi dt)=true)(w:World):Calls Tryz.prog 37 #[.agg #[.int .i64 id,.int .i64 12,.int .i64 tk,.int .i64 rf,.int .i64 sp,.int .i64 ty,.bool true,.string ⟨dt.toArray⟩]] w fun e w'=>e=.returned (.int .i64 0)∧Below w.heap.size w w':=by
 cases bb
 all_goals
  go_enter Tryz.func37,Tryz.ntmps37
  simp only[List.append_eq,List.cons_append,List.nil_append]
  go_wp2_with fail
  refine(zA2 12 _).mono ?_
  rintro _ w9 ⟨rfl,hw9⟩
  rw[hw9,HO.out]
  clear hw9 w9
  go_wp2_with fail
  refine(zAe _ _ _ _ (evB 12) (w.heap.size+1) _ (zAk _ _ _ _)).mono ?_
  rintro _ w9 ⟨rfl,hw9⟩
  rw[hw9,E0.out]
  clear hw9 w9
  go_wp2_with fail
  refine(zAe _ _ _ _ (evB 12) (w.heap.size+1) _ (zAk _ _ _ _)).mono ?_
  rintro _ w9 ⟨rfl,hw9⟩
  rw[hw9,E1.out]
  clear hw9 w9
  go_wp2_with fail
  refine(zAe _ _ _ _ (evB 12) (w.heap.size+1) _ (zAk _ _ _ _)).mono ?_
  rintro _ w9 ⟨rfl,hw9⟩
  rw[hw9,E2.out]
  clear hw9 w9
  go_wp2_with fail
  refine(zDd dt hdt _).mono ?_
  rintro _ w9 ⟨rfl,hw9⟩
  rw[hw9,hd]
  clear hw9 w9
  go_wp2_with fail
  go_ret
  exact⟨rfl,zCs _ _ _⟩
theorem zT2(id tk rf sp ty:Int)(dt:List UInt8)(bb:Bool)(HO:Hid (okK 12=true))(d0:decide (id<1)=false)(d1:decide (500<id)=false)(d2:decide (tk<0)=false)(d3:decide (1099511627776<tk)=false)(hid:1≤id∧id≤500)(E0:Hid (einB (!noB (evB 12) 1) rf 1 (id - 1)=true))(E1:Hid (einB (!noB (evB 12) 2) sp 0 15=true))(E2:Hid (einB (!noB (evB 12) 4) ty 1 5=true))(q8:(bits .and .i64 (evB 12) 8==0)=false)(bd:(dt == [])=bb)(q16:(bits .and .i64 (evB 12) 16==0)=false)(hdt:dt.length≤maxLen)(hd:decide (zCi dt)=false)(w:World):Calls Tryz.prog 37 #[.agg #[.int .i64 id,.int .i64 12,.int .i64 tk,.int .i64 rf,.int .i64 sp,.int .i64 ty,.bool true,.string ⟨dt.toArray⟩]] w fun e w'=>e=.returned (.int .i64 120)∧Below w.heap.size w w':=by
 cases bb
 all_goals
  go_enter Tryz.func37,Tryz.ntmps37
  simp only[List.append_eq,List.cons_append,List.nil_append]
  go_wp2_with fail
  refine(zA2 12 _).mono ?_
  rintro _ w9 ⟨rfl,hw9⟩
  rw[hw9,HO.out]
  clear hw9 w9
  go_wp2_with fail
  refine(zAe _ _ _ _ (evB 12) (w.heap.size+1) _ (zAk _ _ _ _)).mono ?_
  rintro _ w9 ⟨rfl,hw9⟩
  rw[hw9,E0.out]
  clear hw9 w9
  go_wp2_with fail
  refine(zAe _ _ _ _ (evB 12) (w.heap.size+1) _ (zAk _ _ _ _)).mono ?_
  rintro _ w9 ⟨rfl,hw9⟩
  rw[hw9,E1.out]
  clear hw9 w9
  go_wp2_with fail
  refine(zAe _ _ _ _ (evB 12) (w.heap.size+1) _ (zAk _ _ _ _)).mono ?_
  rintro _ w9 ⟨rfl,hw9⟩
  rw[hw9,E2.out]
  clear hw9 w9
  go_wp2_with fail
  refine(zDd dt hdt _).mono ?_
  rintro _ w9 ⟨rfl,hw9⟩
  rw[hw9,hd]
  clear hw9 w9
  go_wp2_with fail
  go_ret
  exact⟨rfl,zCs _ _ _⟩
end Go.Proofs.YtkedafopdkhnfaaGreat
