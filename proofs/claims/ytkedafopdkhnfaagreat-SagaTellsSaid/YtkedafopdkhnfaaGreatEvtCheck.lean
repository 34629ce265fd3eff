/- CONTRACT: event.Check. -/
import Derived.Test.YtkedafopdkhnfaaGreatEvtCheck2
namespace Go.Proofs.YtkedafopdkhnfaaGreat
open Go.RowKit
set_option linter.unusedVariables false
theorem zBx(id k tk rf sp ty:Int)(ud:Bool)(dt:List UInt8)(hdt:dt.length≤140737488355328)(w:World):Calls Tryz.prog 37 #[.agg #[.int .i64 id,.int .i64 k,.int .i64 tk,.int .i64 rf,.int .i64 sp,.int .i64 ty,.bool ud,.string ⟨dt.toArray⟩]] w fun e w'=>e=.returned (.int .i64 (evV (id,k,tk,rf,sp,ty,ud,dt)))∧Below w.heap.size w w':=by
 have hpt:=zKu (id,k,tk,rf,sp,ty,ud,dt)
 simp only[Ev.id,Ev.kd,Ev.tk,Ev.rf,Ev.sp,Ev.ty,Ev.ud,Ev.dt] at hpt
 cases ho:okK k with
 | false =>
   rw[zHo (fun q=>by have:=(hpt.1 q).1;rw[ho] at this;cases this)]
   exact zV9 id k tk rf sp ty ud dt (hid ho) w
 | true =>
   by_cases c0:id<1
   · rw[zHo (fun q=>(hpt.1 q).2.1.1 c0)]
     exact zVi id k tk rf sp ty ud dt (hid ho) (decide_eq_true c0) w
   by_cases c1:500<id
   · rw[zHo (fun q=>(hpt.1 q).2.1.2 c1)]
     exact zVj id k tk rf sp ty ud dt (hid ho) (decide_eq_false c0) (decide_eq_true c1) w
   by_cases c2:tk<0
   · rw[zHo (fun q=>(hpt.1 q).2.2.1.1 c2)]
     exact zVk id k tk rf sp ty ud dt (hid ho) (decide_eq_false c0) (decide_eq_false c1) (decide_eq_true c2) w
   by_cases c3:1099511627776<tk
   · rw[zHo (fun q=>(hpt.1 q).2.2.1.2 c3)]
     exact zVl id k tk rf sp ty ud dt (hid ho) (decide_eq_false c0) (decide_eq_false c1) (decide_eq_false c2) (decide_eq_true c3) w
   have d0:=decide_eq_false c0
   have d1:=decide_eq_false c1
   have d2:=decide_eq_false c2
   have d3:=decide_eq_false c3
   have hib:1≤id∧id≤500:=by omega
   cases e0:einB (!noB (evB k) 1) rf 1 (id - 1) with
   | false =>
     rw[zHo (fun q=>by have:=(hpt.1 q).2.2.2.1;rw[e0] at this;cases this)]
     exact zVm id k tk rf sp ty ud dt (hid ho) d0 d1 d2 d3 hib (hid e0) w
   | true =>
     cases e1:einB (!noB (evB k) 2) sp 0 15 with
     | false =>
       rw[zHo (fun q=>by have:=(hpt.1 q).2.2.2.2.1;rw[e1] at this;cases this)]
       exact zVn id k tk rf sp ty ud dt (hid ho) d0 d1 d2 d3 hib (hid e0) (hid e1) w
     | true =>
       cases e2:einB (!noB (evB k) 4) ty 1 5 with
       | false =>
         rw[zHo (fun q=>by have:=(hpt.1 q).2.2.2.2.2.1;rw[e2] at this;cases this)]
         exact zVo id k tk rf sp ty ud dt (hid ho) d0 d1 d2 d3 hib (hid e0) (hid e1) (hid e2) w
       | true =>
         by_cases u:ud=true∧noB (evB k) 8=true
         · rw[zHo (fun q=>(hpt.1 q).2.2.2.2.2.2.1 u)]
           obtain⟨rfl,u8⟩:=u
           exact zWa id k tk rf sp ty dt (hid ho) d0 d1 d2 d3 hib (hid e0) (hid e1) (hid e2) u8 w
         · have hu : ud=false∨(ud=true∧noB (evB k) 8=false):=by
            cases ud with
            | false=>exact .inl rfl
            | true =>
              refine .inr ⟨rfl,?_⟩
              cases h:noB (evB k) 8 with
              | false=>rfl
              | true=>exact absurd ⟨rfl,h⟩ u
           by_cases dd:dt≠[]∧noB (evB k) 16=true
           · rw[zHo (fun q=>(hpt.1 q).2.2.2.2.2.2.2.1 dd)]
             have bd:(dt == [])=false:=by rw[beq_eq_false_iff_ne];exact dd.1
             rcases hu with rfl | ⟨rfl,u8⟩
             · exact zVp id k tk rf sp ty dt (hid ho) d0 d1 d2 d3 hib (hid e0) (hid e1) (hid e2) bd dd.2 w
             · exact zVq id k tk rf sp ty dt (hid ho) d0 d1 d2 d3 hib (hid e0) (hid e1) (hid e2) u8 bd dd.2 w
           · cases u16:noB (evB k) 16 with
             | true =>
               have hnil:dt=[]:=by
                by_cases h:dt=[]
                · exact h
                · exact absurd ⟨h,u16⟩ dd
               subst hnil
               have hk1:¬k=1:=fun e=>by rw[zGz,e] at u16;exact absurd u16 (by decide)
               have hk12:¬k=12:=fun e=>by rw[zGz,e] at u16;exact absurd u16 (by decide)
               rw[zPr (hpt.2 ⟨ho,⟨c0,c1⟩,⟨c2,c3⟩,e0,e1,e2,u,dd,fun q=>absurd q hk1,fun q=>absurd q hk12⟩)]
               rcases hu with rfl | ⟨rfl,u8⟩
               · exact zVr id k tk rf sp ty (hid ho) d0 d1 d2 d3 hib (hid e0) (hid e1) (hid e2) hk1 hk12 w
               · exact zVs id k tk rf sp ty (hid ho) d0 d1 d2 d3 hib (hid e0) (hid e1) (hid e2) u8 hk1 hk12 w
             | false =>
               have hk:k=1∨k=12:=(zGb k).1 (by rw[zGz] at u16;simpa using u16)
               rcases hk with rfl | rfl
               · cases hp:zDf dt with
                 | none =>
                   rw[zHo (fun q=>by obtain⟨_,_,h⟩:=(hpt.1 q).2.2.2.2.2.2.2.2.1 rfl;rw[hp] at h;cases h)]
                   rcases hu with rfl | ⟨rfl,u8⟩
                   · exact zTw id tk rf sp ty dt _ (hid ho) d0 d1 d2 d3 hib (hid e0) (hid e1) (hid e2) rfl u16 hdt hp w
                   · exact zTy id tk rf sp ty dt _ (hid ho) d0 d1 d2 d3 hib (hid e0) (hid e1) (hid e2) u8 rfl u16 hdt hp w
                 | some y =>
                   rw[zPr (hpt.2 ⟨ho,⟨c0,c1⟩,⟨c2,c3⟩,e0,e1,e2,u,dd,fun _=>⟨_,_,hp⟩,fun q=>absurd q (by decide)⟩)]
                   rcases hu with rfl | ⟨rfl,u8⟩
                   · exact zTx id tk rf sp ty dt _ (hid ho) d0 d1 d2 d3 hib (hid e0) (hid e1) (hid e2) rfl u16 hdt ⟨_,_,hp⟩ w
                   · exact zTz id tk rf sp ty dt _ (hid ho) d0 d1 d2 d3 hib (hid e0) (hid e1) (hid e2) u8 rfl u16 hdt ⟨_,_,hp⟩ w
               · have hml:dt.length≤maxLen:=by unfold maxLen;omega
                 by_cases cn:zCi dt
                 · rw[zPr (hpt.2 ⟨ho,⟨c0,c1⟩,⟨c2,c3⟩,e0,e1,e2,u,dd,fun q=>absurd q (by decide),fun _=>cn⟩)]
                   rcases hu with rfl | ⟨rfl,u8⟩
                   · exact zT1 id tk rf sp ty dt _ (hid ho) d0 d1 d2 d3 hib (hid e0) (hid e1) (hid e2) rfl u16 hml (decide_eq_true cn) w
                   · exact zT3 id tk rf sp ty dt _ (hid ho) d0 d1 d2 d3 hib (hid e0) (hid e1) (hid e2) u8 rfl u16 hml (decide_eq_true cn) w
                 · rw[zHo (fun q=>cn ((hpt.1 q).2.2.2.2.2.2.2.2.2 rfl))]
                   rcases hu with rfl | ⟨rfl,u8⟩
                   · exact zT0 id tk rf sp ty dt _ (hid ho) d0 d1 d2 d3 hib (hid e0) (hid e1) (hid e2) rfl u16 hml (decide_eq_false cn) w
                   · exact zT2 id tk rf sp ty dt _ (hid ho) d0 d1 d2 d3 hib (hid e0) (hid e1) (hid e2) u8 rfl u16 hml (decide_eq_false cn) w
end Go.Proofs.YtkedafopdkhnfaaGreat
