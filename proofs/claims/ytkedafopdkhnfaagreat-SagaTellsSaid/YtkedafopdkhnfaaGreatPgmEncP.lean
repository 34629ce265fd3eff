/- A NUMBER THAT IS TURNED ON ITS WAY; cells that stay. A PROGRAM's BYTES, step by step. -/
import Derived.Test.YtkedafopdkhnfaaGreatVaryRPut
import Derived.Test.YtkedafopdkhnfaaGreatObj
import Derived.Test.YtkedafopdkhnfaaGreatBytes
import Derived.Test.YtkedafopdkhnfaaGreatPgmCheck
import Derived.Deep.RegionHeld3
import Derived.Deep.QuietTactic
import Derived.BigQuiet
namespace Go.Proofs.YtkedafopdkhnfaaGreat
open Go.RowKit
set_option linter.unusedVariables false
theorem zWg{w2 w' w'':World}{A C:Addr}{x y:Value}(ha:A.block<w2.heap.size)(hc:C.block<w2.heap.size)(h0:w2.cell? A=some x)(h1:w2.cell? C=some y)(h:Below w2.heap.size w2 w'∧w'.cell? A=some x∧w'.cell? C=some y)(k:Below w'.heap.size w' w'') :
 Below w2.heap.size w2 w''∧w''.cell? A=some x∧w''.cell? C=some y:=by
 have hb:=zAl h.1 k
 exact⟨hb,(hb.cell ha).trans h0,(hb.cell hc).trans h1⟩
theorem zWh{w2 w' w'':World}{A C D E:Addr}{x y z u:Value}(ha:A.block<w2.heap.size)(hc:C.block<w2.heap.size)(hd:D.block<w2.heap.size)(he:E.block<w2.heap.size)(h0:w2.cell? A=some x)(h1:w2.cell? C=some y)(h2:w2.cell? D=some z)(h3:w2.cell? E=some u)
 (h:Below w2.heap.size w2 w'∧w'.cell? A=some x∧w'.cell? C=some y∧w'.cell? D=some z∧w'.cell? E=some u)(k:Below w'.heap.size w' w'') :
 Below w2.heap.size w2 w''∧w''.cell? A=some x∧w''.cell? C=some y∧w''.cell? D=some z∧w''.cell? E=some u:=by
 have hb:=zAl h.1 k
 exact⟨hb,(hb.cell ha).trans h0,(hb.cell hc).trans h1,(hb.cell hd).trans h2,(hb.cell he).trans h3⟩
end Go.Proofs.YtkedafopdkhnfaaGreat
namespace Go.Proofs.YtkedafopdkhnfaaGreat
open Go.RowKit
set_option linter.unusedVariables false
def encV(lim:Int)(ss:List St):List UInt8:=if zCr lim ss then encP lim ss else []
def encK(lim:Nat)(ss:List St)(k:Nat):List UInt8:=putL lim++(putL ss.length++(ss.take k).flatMap encS)
theorem zPl(lim:Nat)(ss:List St)(k:Nat)(h:k<ss.length):encK lim ss (k+1)=encK lim ss k++encS ss[k]:=by
 unfold encK
 rw[List.take_succ_eq_append_getElem h,List.flatMap_append,List.flatMap_cons,List.flatMap_nil,List.append_nil]
 simp only[List.append_assoc]
theorem zM5{lim:Nat}{ss:List St}(h:zCr lim ss)(k:Nat):(encK lim ss k).length≤1400:=by
 have h1:=zKs (ss:=ss.take k) (fun x hx=>h.2.2 x (List.mem_of_mem_take hx))
 have h2:=zA7 lim (by have:=h.2.1;omega)
 have h3:=zA7 ss.length (by have:=h.1;omega)
 have h4:=h.1
 have h5:(ss.take k).length≤ss.length:=by rw[List.length_take];omega
 unfold encK
 simp only[List.length_append];omega
theorem zR7(lim:Nat)(ss:List St):encK lim ss ss.length=encP lim ss:=by
 unfold encK encP;rw[List.take_of_length_le (Nat.le_refl _),Int.toNat_natCast]
end Go.Proofs.YtkedafopdkhnfaaGreat
