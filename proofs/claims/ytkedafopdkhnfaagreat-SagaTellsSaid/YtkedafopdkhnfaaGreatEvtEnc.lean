/- CONTRACT: event.Encode. -/
import Derived.Test.YtkedafopdkhnfaaGreatEvtCheck
import Derived.Test.YtkedafopdkhnfaaGreatPgmEncP
import Derived.Deep.RegionHeld3
import Derived.Deep.QuietTactic
import Derived.BigQuiet
namespace Go.Proofs.YtkedafopdkhnfaaGreat
open Go.RowKit
set_option linter.unusedVariables false
set_option linter.unusedSimpArgs false
structure EHeld (w0 w:World) (g:Nat) (x:Ev):Prop where
 c0:w.cell? ⟨g,0,none⟩=some (.int .i64 x.id)
 c1:w.cell? ⟨g,1,none⟩=some (.int .i64 x.kd)
 c2:w.cell? ⟨g,2,none⟩=some (.int .i64 x.tk)
 c3:w.cell? ⟨g,3,none⟩=some (.int .i64 x.rf)
 c4:w.cell? ⟨g,4,none⟩=some (.int .i64 x.sp)
 c5:w.cell? ⟨g,5,none⟩=some (.int .i64 x.ty)
 c6:w.cell? ⟨g,6,none⟩=some (.bool x.ud)
 c7:w.cell? ⟨g,7,none⟩=some (.string ⟨x.dt.toArray⟩)
 below:Below w0.heap.size w0 w
 lt:g<w.heap.size
theorem EHeld.next{w0 w w':World}{g:Nat}{x:Ev}(h:EHeld w0 w g x)(b:Below w.heap.size w w'):EHeld w0 w' g x :=
 ⟨(b.cell (p:=⟨g,0,none⟩) h.lt).trans h.c0,(b.cell (p:=⟨g,1,none⟩) h.lt).trans h.c1,(b.cell (p:=⟨g,2,none⟩) h.lt).trans h.c2,(b.cell (p:=⟨g,3,none⟩) h.lt).trans h.c3,(b.cell (p:=⟨g,4,none⟩) h.lt).trans h.c4,(b.cell (p:=⟨g,5,none⟩) h.lt).trans h.c5,(b.cell (p:=⟨g,6,none⟩) h.lt).trans h.c6,(b.cell (p:=⟨g,7,none⟩) h.lt).trans h.c7,zAl h.below b,Nat.lt_of_lt_of_le h.lt b.size⟩
abbrev evC (x:Ev):Array Value:=#[.int .i64 x.id,.int .i64 x.kd,.int .i64 x.tk,.int .i64 x.rf,.int .i64 x.sp,.int .i64 x.ty,.bool x.ud,.string ⟨x.dt.toArray⟩]
theorem EHeld.new(w:World)(x:Ev):EHeld w (w.alloc (.cells (evC x) 52)) w.heap.size x:=by
 obtain⟨W,hW⟩:∃W,W=w.alloc (.cells (evC x) 52):=⟨_,rfl⟩
 have bW:Below w.heap.size w W:=by rw[hW];exact(Below.refl _ _).alloc (Nat.le_refl _) _
 have hC:W.heap[w.heap.size]?=some (.cells (evC x) 52 (0,0)):=by rw[hW];exact heap_alloc_new w _
 rw[← hW]
 refine⟨?_,?_,?_,?_,?_,?_,?_,?_,bW,(gL hC)⟩
 · rw[cell_of_row W _ 0 _ _ (0,0) hC];rfl
 · rw[cell_of_row W _ 1 _ _ (0,0) hC];rfl
 · rw[cell_of_row W _ 2 _ _ (0,0) hC];rfl
 · rw[cell_of_row W _ 3 _ _ (0,0) hC];rfl
 · rw[cell_of_row W _ 4 _ _ (0,0) hC];rfl
 · rw[cell_of_row W _ 5 _ _ (0,0) hC];rfl
 · rw[cell_of_row W _ 6 _ _ (0,0) hC];rfl
 · rw[cell_of_row W _ 7 _ _ (0,0) hC];rfl
end Go.Proofs.YtkedafopdkhnfaaGreat
