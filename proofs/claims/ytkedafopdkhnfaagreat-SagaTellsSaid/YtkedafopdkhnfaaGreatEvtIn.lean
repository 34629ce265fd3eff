/- CONTRACTS: strings.Contains at a letter; the reference's in. -/
import Derived.Test.YtkedafopdkhnfaaGreatEvtFields
import Derived.Lib.Bytealg
import Derived.Laws.Externs
namespace Go.Proofs.YtkedafopdkhnfaaGreat
set_option maxHeartbeats 1600000
set_option maxRecDepth 100000
open Go.RowKit
set_option linter.unusedVariables false
theorem zJv(l:List UInt8)(c:Int)(w:World):Calls Tryz.prog 110 #[.string ⟨l.toArray⟩,.int .u8 c] w fun e w'=>e=.returned (.int .i64 (Lib.indexByte l c.toNat.toUInt8))∧w'=w:=by
 go_enter Tryz.func110,Tryz.ntmps110
 go_wp2
 rw[run_callFunc_extern Tryz.func114 (by kernel_rfl) (by kernel_rfl) (by kernel_rfl) (e:=Extern.BytealgIndexByte.indexByte) (by kernel_rfl),Lib.run_indexByteString]
 simp only[Result.andThen]
 rw[Oper.upon_value]
 go_wp2
 go_ret
 exact⟨rfl,rfl⟩
theorem zMo(l:List UInt8)(c:UInt8)(w:World):Calls Tryz.prog 105 #[.string ⟨l.toArray⟩,.string ⟨#[c]⟩] w fun e w'=>e=.returned (.int .i64 (Lib.indexByte l c))∧w'=w:=by
 have h0:(((⟨#[c]⟩:ByteArray)[0]'(by show 0<1;omega)).toNat:Int)=(c.toNat:Int):=rfl
 have hc:((c.toNat:Int)).toNat.toUInt8=c:=by simp
 by_cases hd:l=[c]
 · subst hd
   rw[show Lib.indexByte [c] c=0 by simp[Lib.indexByte]]
   go_enter Tryz.func105,Tryz.ntmps105
   go_wp2_with fail
   go_ret
   exact⟨rfl,rfl⟩
 · have hb:([c]==l)=false:=by rw[beq_eq_false_iff_ne];exact fun h=>hd h.symm
   go_enter Tryz.func105,Tryz.ntmps105
   go_wp2_with fail
   refine(zJv l c.toNat w).mono ?_
   rw[hc]
   rintro _ w1 ⟨rfl,hw1⟩
   rw[hw1]
   clear hw1 w1
   go_wp2
   go_ret
   exact⟨rfl,rfl⟩
theorem zOt(l:List UInt8)(c:UInt8)(w:World):Calls Tryz.prog 98 #[.string ⟨l.toArray⟩,.string ⟨#[c]⟩] w fun e w'=>e=.returned (.int .i64 (Lib.indexByte l c))∧w'=w:=by
 go_enter Tryz.func98,Tryz.ntmps98
 go_wp2_with fail
 refine(zMo l c w).mono ?_
 rintro _ w1 ⟨rfl,hw1⟩
 rw[hw1]
 clear hw1 w1
 go_wp2
 go_ret
 exact⟨rfl,rfl⟩
def hasC(l:List UInt8)(c:UInt8):Bool:=decide (0≤Lib.indexByte l c)
theorem zHg(l:List UInt8)(c:UInt8)(w:World):Calls Tryz.prog 91 #[.string ⟨l.toArray⟩,.string ⟨#[c]⟩] w fun e w'=>e=.returned (.bool (hasC l c))∧w'=w:=by
 go_enter Tryz.func91,Tryz.ntmps91
 go_wp2_with fail
 refine(zOt l c w).mono ?_
 rintro _ w1 ⟨rfl,hw1⟩
 rw[hw1]
 clear hw1 w1
 go_wp2
 go_ret
 exact⟨rfl,rfl⟩
def einB(b:Bool)(n lo hi:Int):Bool:=if b then decide (lo≤n∧n≤hi) else decide (n=0)
theorem zI1(n:Int):(n==0)=decide (n=0):=by
 rw[Bool.eq_iff_iff,beq_iff_eq,decide_eq_true_eq]
theorem zBs(l:List UInt8)(c:UInt8)(n lo hi:Int)(w:World):Calls Tryz.prog 77 #[.string ⟨l.toArray⟩,.string ⟨#[c]⟩,.int .i64 n,.int .i64 lo,.int .i64 hi] w fun e w'=>e=.returned (.bool (einB (hasC l c) n lo hi))∧w'=w:=by
 cases hb:hasC l c
 · go_enter Tryz.func77,Tryz.ntmps77
   go_wp2_with fail
   refine(zHg l c w).mono ?_
   rintro _ w1 ⟨rfl,hw1⟩
   rw[hw1,hb]
   clear hw1 w1
   go_wp2_with fail
   go_ret
   exact⟨by simp[einB,zI1],rfl⟩
 · go_enter Tryz.func77,Tryz.ntmps77
   go_wp2_with fail
   refine(zHg l c w).mono ?_
   rintro _ w1 ⟨rfl,hw1⟩
   rw[hw1,hb]
   clear hw1 w1
   go_wp2_with fail
   all_goals
    go_ret
    exact⟨by simp[einB] <;> omega,rfl⟩
end Go.Proofs.YtkedafopdkhnfaaGreat
