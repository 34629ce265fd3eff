/- CONTRACT: the reference's Right, Encode. -/
import Derived.Test.YtkedafopdkhnfaaGreatEvtRight1
namespace Go.Proofs.YtkedafopdkhnfaaGreat
open Go.RowKit
set_option linter.unusedVariables false
theorem zL8(l:List UInt8):l.isEmpty=decide (l=[]):=by cases l <;> rfl
theorem zN7(id k tk rf sp ty:Int)(ud:Bool)(dt:List UInt8)(hdt:dt.length≤140737488355328)(w:World):Calls Tryz.prog 46 #[.agg #[.int .i64 id,.int .i64 k,.int .i64 tk,.int .i64 rf,.int .i64 sp,.int .i64 ty,.bool ud,.string ⟨dt.toArray⟩]] w fun e w'=>e=.returned (.bool (decide (EvP (id,k,tk,rf,sp,ty,ud,dt))))∧Below w.heap.size w w':=by
 have hpt:=zKu (id,k,tk,rf,sp,ty,ud,dt)
 simp only[Ev.id,Ev.kd,Ev.tk,Ev.rf,Ev.sp,Ev.ty,Ev.ud,Ev.dt] at hpt
 cases ho:okK k with
 | false =>
   rw[decide_eq_false (fun q=>by have:=(hpt.1 q).1;rw[ho] at this;cases this)]
   exact zV0 id k tk rf sp ty ud dt (hid ho) w
 | true =>
   by_cases c0:id<1
   · rw[decide_eq_false (fun q=>(hpt.1 q).2.1.1 c0)]
     exact zUr id k tk rf sp ty ud dt (hid ho) (decide_eq_true c0) w
   by_cases c1:500<id
   · rw[decide_eq_false (fun q=>(hpt.1 q).2.1.2 c1)]
     exact zUs id k tk rf sp ty ud dt (hid ho) (decide_eq_false c0) (decide_eq_true c1) w
   by_cases c2:tk<0
   · rw[decide_eq_false (fun q=>(hpt.1 q).2.2.1.1 c2)]
     exact zUt id k tk rf sp ty ud dt (hid ho) (decide_eq_false c0) (decide_eq_false c1) (decide_eq_true c2) w
   by_cases c3:1099511627776<tk
   · rw[decide_eq_false (fun q=>(hpt.1 q).2.2.1.2 c3)]
     exact zUu id k tk rf sp ty ud dt (hid ho) (decide_eq_false c0) (decide_eq_false c1) (decide_eq_false c2) (decide_eq_true c3) w
   have d0:=decide_eq_false c0
   have d1:=decide_eq_false c1
   have d2:=decide_eq_false c2
   have d3:=decide_eq_false c3
   have hib:1≤id∧id≤500:=by omega
   have z0:einB (hasC (evS k) 114) rf 1 (id - 1)=einB (!noB (evB k) 1) rf 1 (id - 1):=by rw[zWd]
   have z1:einB (hasC (evS k) 115) sp 0 15=einB (!noB (evB k) 2) sp 0 15:=by rw[zWe]
   have z2:einB (hasC (evS k) 116) ty 1 5=einB (!noB (evB k) 4) ty 1 5:=by rw[zWf]
   cases e0:einB (!noB (evB k) 1) rf 1 (id - 1) with
   | false =>
     rw[decide_eq_false (fun q=>by have:=(hpt.1 q).2.2.2.1;rw[e0] at this;cases this)]
     exact zUv id k tk rf sp ty ud dt (hid ho) d0 d1 d2 d3 hib (hid (z0.trans e0)) w
   | true =>
     cases e1:einB (!noB (evB k) 2) sp 0 15 with
     | false =>
       rw[decide_eq_false (fun q=>by have:=(hpt.1 q).2.2.2.2.1;rw[e1] at this;cases this)]
       exact zUw id k tk rf sp ty ud dt (hid ho) d0 d1 d2 d3 hib (hid (z0.trans e0)) (hid (z1.trans e1)) w
     | true =>
       cases e2:einB (!noB (evB k) 4) ty 1 5 with
       | false =>
         rw[decide_eq_false (fun q=>by have:=(hpt.1 q).2.2.2.2.2.1;rw[e2] at this;cases this)]
         exact zUx id k tk rf sp ty ud dt (hid ho) d0 d1 d2 d3 hib (hid (z0.trans e0)) (hid (z1.trans e1)) (hid (z2.trans e2)) w
       | true =>
         by_cases u:ud=true∧noB (evB k) 8=true
         · rw[decide_eq_false (fun q=>(hpt.1 q).2.2.2.2.2.2.1 u)]
           obtain⟨rfl,u8⟩:=u
           exact zV1 id k tk rf sp ty dt (hid ho) d0 d1 d2 d3 hib (hid (z0.trans e0)) (hid (z1.trans e1)) (hid (z2.trans e2)) (by rw[zTk,u8];rfl) w
         · have hu:ud=false∨(ud=true∧noB (evB k) 8=false):=by
            cases ud with
            | false=>exact .inl rfl
            | true =>
              refine .inr ⟨rfl,?_⟩
              cases h:noB (evB k) 8 with
              | false=>rfl
              | true=>exact absurd ⟨rfl,h⟩ u
           by_cases hk:k=1∨k=12
           · have u16:noB (evB k) 16=false:=by rw[zGz,decide_eq_false];exact fun q=>q ((zGb k).2 hk)
             have dd:¬(dt≠[]∧noB (evB k) 16=true):=fun q=>by rw[u16] at q;exact absurd q.2 (by decide)
             have hud:ud=false:=by
              rcases hu with h | ⟨h,u8⟩
              · exact h
              · rcases hk with rfl | rfl
                · exact absurd u8 (by rw[zJu];decide)
                · exact absurd u8 (by rw[zJu];decide)
             subst hud
             rcases hk with rfl | rfl
             · cases hp:zDf dt with
               | none =>
                 rw[decide_eq_false (fun q=>by obtain⟨_,_,h⟩:=(hpt.1 q).2.2.2.2.2.2.2.2.1 rfl;rw[hp] at h;cases h)]
                 exact zU0 id tk rf sp ty dt (hid ho) d0 d1 d2 d3 hib (hid (z0.trans e0)) (hid (z1.trans e1)) (hid (z2.trans e2)) hdt hp w
               | some y =>
                 rw[decide_eq_true (hpt.2 ⟨ho,⟨c0,c1⟩,⟨c2,c3⟩,e0,e1,e2,u,dd,fun _=>⟨_,_,hp⟩,fun q=>absurd q (by decide)⟩)]
                 exact zU1 id tk rf sp ty dt (hid ho) d0 d1 d2 d3 hib (hid (z0.trans e0)) (hid (z1.trans e1)) (hid (z2.trans e2)) hdt ⟨_,_,hp⟩ w
             · have hml:dt.length≤maxLen:=by unfold maxLen;omega
               have hde:decide (EvP (id,12,tk,rf,sp,ty,false,dt))=decide (zCi dt):=by
                rw[Bool.eq_iff_iff,decide_eq_true_eq,decide_eq_true_eq]
                constructor
                · intro q;exact(hpt.1 q).2.2.2.2.2.2.2.2.2 rfl
                · intro q;exact hpt.2 ⟨ho,⟨c0,c1⟩,⟨c2,c3⟩,e0,e1,e2,u,dd,fun q=>absurd q (by decide),fun _=>q⟩
               rw[hde]
               exact zV2 id tk rf sp ty dt (hid ho) d0 d1 d2 d3 hib (hid (z0.trans e0)) (hid (z1.trans e1)) (hid (z2.trans e2)) hml w
           · have hk1:¬k=1:=fun h=>hk (.inl h)
             have hk12:¬k=12:=fun h=>hk (.inr h)
             have u16:noB (evB k) 16=true:=by rw[zGz,decide_eq_true];exact fun q=>hk ((zGb k).1 q)
             have hde:decide (EvP (id,k,tk,rf,sp,ty,ud,dt))=dt.isEmpty:=by
              rw[zL8,Bool.eq_iff_iff,decide_eq_true_eq,decide_eq_true_eq]
              constructor
              · intro q
                by_cases h:dt=[]
                · exact h
                · exact absurd ⟨h,u16⟩ (hpt.1 q).2.2.2.2.2.2.2.1
              · intro q;exact hpt.2 ⟨ho,⟨c0,c1⟩,⟨c2,c3⟩,e0,e1,e2,u,fun h=>h.1 q,fun h=>absurd h hk1,fun h=>absurd h hk12⟩
             rw[hde]
             obtain⟨s1,s2⟩:=zVx hk1 hk12
             rcases hu with rfl | ⟨rfl,u8⟩
             · exact zUy id k tk rf sp ty dt (hid ho) d0 d1 d2 d3 hib (hid (z0.trans e0)) (hid (z1.trans e1)) (hid (z2.trans e2)) s1 s2 w
             · exact zUz id k tk rf sp ty dt (hid ho) d0 d1 d2 d3 hib (hid (z0.trans e0)) (hid (z1.trans e1)) (hid (z2.trans e2)) (by rw[zTk,u8];rfl) s1 s2 w
end Go.Proofs.YtkedafopdkhnfaaGreat
