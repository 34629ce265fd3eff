/- EVENTS, in plain Lean: what is one, its bytes, what is read; there and back. -/
import Derived.Test.YtkedafopdkhnfaaGreatPgmPlain
namespace Go.Proofs.YtkedafopdkhnfaaGreat
open Go.RowKit
set_option linter.unusedVariables false
abbrev Ev:=Int×Int×Int×Int×Int×Int×Bool×List UInt8
abbrev Ev.id (x:Ev):Int:=x.1
abbrev Ev.kd (x:Ev):Int:=x.2.1
abbrev Ev.tk (x:Ev):Int:=x.2.2.1
abbrev Ev.rf (x:Ev):Int:=x.2.2.2.1
abbrev Ev.sp (x:Ev):Int:=x.2.2.2.2.1
abbrev Ev.ty (x:Ev):Int:=x.2.2.2.2.2.1
abbrev Ev.ud (x:Ev):Bool:=x.2.2.2.2.2.2.1
abbrev Ev.dt (x:Ev):List UInt8:=x.2.2.2.2.2.2.2
def evB(k:Int):Int:=if k=1∨k=12 then 16 else if k=3∨k=4∨k=5∨k=11 then 1 else if k=6 then 10 else if k=7∨k=8∨k=9 then 5 else if k=10 then 2 else 0
theorem zCt(k:Int):evB k=16∨evB k=1∨evB k=10∨evB k=5∨evB k=2∨evB k=0:=by
 unfold evB;split <;> (try split) <;> (try split) <;> (try split) <;> (try split) <;> simp
def zRj(k:Int)(d:List UInt8):Prop:=(k=1→∃lim ss,zDf d=some (lim,ss))∧(k=12→zCi d)∧(k≠1→k≠12→d=[])
instance (k:Int) (d:List UInt8):Decidable (zRj k d):=by
 by_cases h1:k=1
 · cases h:zDf d with
   | none=>exact isFalse (fun q=>by obtain⟨a,b,e⟩:=q.1 h1;rw[h] at e;cases e)
   | some y=>exact isTrue ⟨fun _=>⟨y.1,y.2,h⟩,fun q=>by omega,fun q=>absurd h1 q⟩
 · by_cases h2:k=12
   · by_cases h3:zCi d
     · exact isTrue ⟨fun q=>absurd q h1,fun _=>h3,fun _ q=>absurd h2 q⟩
     · exact isFalse (fun q=>h3 (q.2.1 h2))
   · by_cases h3:d=[]
     · exact isTrue ⟨fun q=>absurd q h1,fun q=>absurd q h2,fun _ _=>h3⟩
     · exact isFalse (fun q=>h3 (q.2.2 h1 h2))
def EvP(x:Ev):Prop:=(1≤x.kd∧x.kd≤18)∧(1≤x.id∧x.id≤500)∧(0≤x.tk∧x.tk≤1099511627776) ∧
 (if evB x.kd=1∨evB x.kd=5 then 1≤x.rf∧x.rf≤x.id - 1 else x.rf=0)∧(if evB x.kd=2∨evB x.kd=10 then 0≤x.sp∧x.sp≤15 else x.sp=0)∧(if evB x.kd=5 then 1≤x.ty∧x.ty≤5 else x.ty=0) ∧
 (x.ud=true→evB x.kd=10)∧zRj x.kd x.dt
instance (x:Ev):Decidable (EvP x):=inferInstanceAs (Decidable (_∧_∧_∧_∧_∧_∧_∧_))
def evV(x:Ev):Int:=if EvP x then 0 else 120
theorem zGc{k:Int}{d:List UInt8}(h:zRj k d):d.length≤1400:=by
 by_cases h1:k=1
 · obtain⟨lim,ss,e⟩:=h.1 h1
   obtain⟨hp,rfl⟩:=zGm.1 e
   exact zR8 hp
 · by_cases h2:k=12
   · have:=(h.2.1 h2).2.1;omega
   · rw[h.2.2 h1 h2];simp
/-! what is read -/
/-! histories -/
def zV5(l:List Ev):Prop:=l.length≤500∧∀x∈l,EvP x
instance (l:List Ev):Decidable (zV5 l):=inferInstanceAs (Decidable (_∧_))
end Go.Proofs.YtkedafopdkhnfaaGreat
