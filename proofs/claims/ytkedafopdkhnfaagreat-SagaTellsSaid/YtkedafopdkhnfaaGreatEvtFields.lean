/- CONTRACTS: event.fields; the reference's fields. -/
import Derived.Test.YtkedafopdkhnfaaGreatEvtPlain
import Derived.Test.YtkedafopdkhnfaaGreatSlices
import Derived.RegionTactic
import Derived.BigRegion
namespace Go.Proofs.YtkedafopdkhnfaaGreat
set_option maxHeartbeats 1600000
set_option maxRecDepth 100000
open Go.RowKit
set_option linter.unusedVariables false
def okK(k:Int):Bool:=decide (1≤k∧k≤18)
theorem zNi(k:Int):(k<1∨18<k)∨k=1∨k=2∨k=3∨k=4∨k=5∨k=6∨k=7∨k=8∨k=9∨k=10∨k=11∨k=12∨k=13∨k=14∨k=15∨k=16∨k=17∨k=18:=by omega
theorem zA2(k:Int)(w:World):Calls Tryz.prog 59 #[.int .i64 k] w fun e w'=>e=.returned (.tuple #[.int .i64 (evB k),.bool (okK k)])∧w'=w:=by
 rcases zNi k with h | rfl | rfl | rfl | rfl | rfl | rfl | rfl | rfl | rfl | rfl | rfl | rfl | rfl | rfl | rfl | rfl | rfl | rfl
 · have h1:evB k=0:=by unfold evB;repeat (first | rw[if_neg (by omega)] | rfl)
   have h2:okK k=false:=decide_eq_false (by omega)
   rw[h1,h2]
   clear h1 h2
   rcases h with h | h
   all_goals
    go_enter Tryz.func59,Tryz.ntmps59
    go_wp2_with fail
    go_ret2
    exact⟨rfl,rfl⟩
 all_goals
  rw[show okK _=true from rfl]
  unfold evB
  go_enter Tryz.func59,Tryz.ntmps59
  go_wp2_with fail
  go_ret2
  exact⟨rfl,rfl⟩
def evS(k:Int):List UInt8:=if k=1 then [112] else if k=12 then [110] else if evB k=1 then [114] else if evB k=10 then [115,117] else if evB k=5 then [114,116] else if evB k=2 then [115] else []
theorem zBh(k:Int)(w:World):Calls Tryz.prog 76 #[.int .i64 k] w fun e w'=>e=.returned (.tuple #[.string ⟨(evS k).toArray⟩,.bool (okK k)])∧Below w.heap.size w w':=by
 rcases zNi k with h | rfl | rfl | rfl | rfl | rfl | rfl | rfl | rfl | rfl | rfl | rfl | rfl | rfl | rfl | rfl | rfl | rfl | rfl
 · have h1:evB k=0:=by unfold evB;repeat (first | rw[if_neg (by omega)] | rfl)
   have h3:evS k=[]:=by unfold evS;rw[h1,if_neg (by omega),if_neg (by omega)];rfl
   have h2:okK k=false:=decide_eq_false (by omega)
   rw[h3,h2]
   clear h1 h2 h3
   rcases h with h | h
   all_goals
    go_enter Tryz.func76,Tryz.ntmps76
    go_wp2_with fail
    go_ret2
    exact⟨rfl,(Below.refl _ _).alloc (Nat.le_refl _) _⟩
 all_goals
  rw[show okK _=true from rfl]
  unfold evS
  go_enter Tryz.func76,Tryz.ntmps76
  go_wp2_with fail
  go_ret2
  exact⟨rfl,(Below.refl _ _).alloc (Nat.le_refl _) _⟩
end Go.Proofs.YtkedafopdkhnfaaGreat
