/- CONTRACTS: prog.right; the reference's Step. -/
import Derived.Test.YtkedafopdkhnfaaGreatPgmNamed
import Derived.Deep.RegionHeld3
import Derived.Deep.QuietTactic
import Derived.BigQuiet
namespace Go.Proofs.YtkedafopdkhnfaaGreat
set_option maxHeartbeats 3200000
open Go.RowKit
set_option linter.unusedVariables false
set_option linter.unusedSimpArgs false
theorem zDe:¬zCi []:=fun h=>by have:=h.1;simp at this
def stV(x:St):Value:=.agg #[.int .i64 x.kd,.string ⟨x.nm.toArray⟩,.string ⟨x.un.toArray⟩,.int .i64 x.tr,.int .i64 x.ut,.int .i64 x.wt]
theorem zLd(x:St)(h1:x.nm.length≤maxLen)(h2:x.un.length≤maxLen)(w:World):Calls Tryz.prog 88 #[stV x] w fun e w'=>e=.returned (.bool (decide (zBg x)))∧Below w.heap.size w w':=by
 obtain⟨kd,nm,un,tr,ut,wt⟩:=x
 simp only[St.nm,St.un] at h1 h2
 simp only[stV,St.kd,St.nm,St.un,St.tr,St.ut,St.wt]
 have hb:∀c,Below w.heap.size w (w.alloc (.cells c 77)):=fun c=>(Below.refl _ _).alloc (Nat.le_refl _) _
 by_cases k1:kd=1
 · subst k1
   go_enter Tryz.func88,Tryz.ntmps88
   go_wp2_with fail
   repeat' (first | (refine(zDd _ (by first | assumption | exact Nat.zero_le _) _).mono ?_;rintro _ _ ⟨rfl,rfl⟩;go_wp2_with fail) | (refine(zDt _ _ _ _).mono ?_;rintro _ _ ⟨rfl,rfl⟩;go_wp2_with fail))
   all_goals
    go_ret
    refine⟨congrArg (fun b=>Ending.returned (Value.bool b)) (?_:_=decide _),hb _⟩
    clear hb
    simp_all [zDe,zBg,zE4,zFq,zFp,St.kd,St.nm,St.un,St.tr,St.ut,St.wt]
    try first
     | omega
     | exact Bool.eq_iff_iff.2 (by simp)
     | exact Bool.eq_iff_iff.2 (by simp;omega)
 · by_cases k2:kd=2
   · subst k2
     clear k1
     go_enter Tryz.func88,Tryz.ntmps88
     go_wp2_with fail
     repeat' (first | (refine(zDd _ (by first | assumption | exact Nat.zero_le _) _).mono ?_;rintro _ _ ⟨rfl,rfl⟩;go_wp2_with fail) | (refine(zDt _ _ _ _).mono ?_;rintro _ _ ⟨rfl,rfl⟩;go_wp2_with fail))
     all_goals
      go_ret
      refine⟨congrArg (fun b=>Ending.returned (Value.bool b)) (?_:_=decide _),hb _⟩
      clear hb
      simp_all [zDe,zBg,zE4,zFq,zFp,St.kd,St.nm,St.un,St.tr,St.ut,St.wt]
      try first
       | omega
       | exact Bool.eq_iff_iff.2 (by simp)
       | exact Bool.eq_iff_iff.2 (by simp;omega)
   · by_cases k3:kd=3
     · subst k3
       clear k1 k2
       go_enter Tryz.func88,Tryz.ntmps88
       go_wp2_with fail
       repeat' (first | (refine(zDd _ (by first | assumption | exact Nat.zero_le _) _).mono ?_;rintro _ _ ⟨rfl,rfl⟩;go_wp2_with fail) | (refine(zDt _ _ _ _).mono ?_;rintro _ _ ⟨rfl,rfl⟩;go_wp2_with fail))
       all_goals
        go_ret
        refine⟨congrArg (fun b=>Ending.returned (Value.bool b)) (?_:_=decide _),hb _⟩
        clear hb
        simp_all [zDe,zBg,zE4,zFq,zFp,St.kd,St.nm,St.un,St.tr,St.ut,St.wt]
        try first
         | omega
         | exact Bool.eq_iff_iff.2 (by simp)
         | exact Bool.eq_iff_iff.2 (by simp;omega)
     · have e1:(kd==1)=false:=by simpa using k1
       have e2:(kd==2)=false:=by simpa using k2
       have e3:(kd==3)=false:=by simpa using k3
       go_enter Tryz.func88,Tryz.ntmps88
       go_wp2_with fail
       repeat' (first | (refine(zDd _ (by first | assumption | exact Nat.zero_le _) _).mono ?_;rintro _ _ ⟨rfl,rfl⟩;go_wp2_with fail) | (refine(zDt _ _ _ _).mono ?_;rintro _ _ ⟨rfl,rfl⟩;go_wp2_with fail))
       all_goals
        go_ret
        refine⟨congrArg (fun b=>Ending.returned (Value.bool b)) (?_:_=decide _),hb _⟩
        clear hb
        simp_all [zDe,zBg,zE4,zFq,zFp,St.kd,St.nm,St.un,St.tr,St.ut,St.wt]
        try first
         | omega
         | exact Bool.eq_iff_iff.2 (by simp)
         | exact Bool.eq_iff_iff.2 (by simp;omega)
theorem zLf(x:St)(h1:x.nm.length≤maxLen)(h2:x.un.length≤maxLen)(w:World):Calls Tryz.prog 108 #[stV x] w fun e w'=>e=.returned (.bool (decide (zBg x)))∧Below w.heap.size w w':=by
 obtain⟨kd,nm,un,tr,ut,wt⟩:=x
 simp only[St.nm,St.un] at h1 h2
 simp only[stV,St.kd,St.nm,St.un,St.tr,St.ut,St.wt]
 have hb:∀c,Below w.heap.size w (w.alloc (.cells c 77)):=fun c=>(Below.refl _ _).alloc (Nat.le_refl _) _
 by_cases k1:kd=1
 · subst k1
   go_enter Tryz.func108,Tryz.ntmps108
   go_wp2_with fail
   repeat' (first | (refine(zEk _ (by first | assumption | exact Nat.zero_le _) _).mono ?_;rintro _ _ ⟨rfl,rfl⟩;go_wp2_with fail) | (refine(zI0 _ _ _ _).mono ?_;rintro _ _ ⟨rfl,rfl⟩;go_wp2_with fail))
   all_goals
    go_ret
    refine⟨congrArg (fun b=>Ending.returned (Value.bool b)) (?_:_=decide _),hb _⟩
    clear hb
    simp_all [zDe,zBg,zE4,zFq,zFp,St.kd,St.nm,St.un,St.tr,St.ut,St.wt]
    try first
     | omega
     | exact Bool.eq_iff_iff.2 (by simp)
     | exact Bool.eq_iff_iff.2 (by simp;omega)
 · by_cases k2:kd=2
   · subst k2
     clear k1
     go_enter Tryz.func108,Tryz.ntmps108
     go_wp2_with fail
     repeat' (first | (refine(zEk _ (by first | assumption | exact Nat.zero_le _) _).mono ?_;rintro _ _ ⟨rfl,rfl⟩;go_wp2_with fail) | (refine(zI0 _ _ _ _).mono ?_;rintro _ _ ⟨rfl,rfl⟩;go_wp2_with fail))
     all_goals
      go_ret
      refine⟨congrArg (fun b=>Ending.returned (Value.bool b)) (?_:_=decide _),hb _⟩
      clear hb
      simp_all [zDe,zBg,zE4,zFq,zFp,St.kd,St.nm,St.un,St.tr,St.ut,St.wt]
      try first
       | omega
       | exact Bool.eq_iff_iff.2 (by simp)
       | exact Bool.eq_iff_iff.2 (by simp;omega)
   · by_cases k3:kd=3
     · subst k3
       clear k1 k2
       go_enter Tryz.func108,Tryz.ntmps108
       go_wp2_with fail
       repeat' (first | (refine(zEk _ (by first | assumption | exact Nat.zero_le _) _).mono ?_;rintro _ _ ⟨rfl,rfl⟩;go_wp2_with fail) | (refine(zI0 _ _ _ _).mono ?_;rintro _ _ ⟨rfl,rfl⟩;go_wp2_with fail))
       all_goals
        go_ret
        refine⟨congrArg (fun b=>Ending.returned (Value.bool b)) (?_:_=decide _),hb _⟩
        clear hb
        simp_all [zDe,zBg,zE4,zFq,zFp,St.kd,St.nm,St.un,St.tr,St.ut,St.wt]
        try first
         | omega
         | exact Bool.eq_iff_iff.2 (by simp)
         | exact Bool.eq_iff_iff.2 (by simp;omega)
     · have e1:(kd==1)=false:=by simpa using k1
       have e2:(kd==2)=false:=by simpa using k2
       have e3:(kd==3)=false:=by simpa using k3
       go_enter Tryz.func108,Tryz.ntmps108
       go_wp2_with fail
       repeat' (first | (refine(zEk _ (by first | assumption | exact Nat.zero_le _) _).mono ?_;rintro _ _ ⟨rfl,rfl⟩;go_wp2_with fail) | (refine(zI0 _ _ _ _).mono ?_;rintro _ _ ⟨rfl,rfl⟩;go_wp2_with fail))
       all_goals
        go_ret
        refine⟨congrArg (fun b=>Ending.returned (Value.bool b)) (?_:_=decide _),hb _⟩
        clear hb
        simp_all [zDe,zBg,zE4,zFq,zFp,St.kd,St.nm,St.un,St.tr,St.ut,St.wt]
        try first
         | omega
         | exact Bool.eq_iff_iff.2 (by simp)
         | exact Bool.eq_iff_iff.2 (by simp;omega)
end Go.Proofs.YtkedafopdkhnfaaGreat
