/- CONTRACT: course.ends. CONTRACT: course.forward. CONTRACT: course.backward. -/
import Derived.Test.YtkedafopdkhnfaaGreatPmM
import Derived.RegionTactic
import Derived.ChangeAlike
import Derived.BigRegion
import Derived.Deep.RegionLaw
import Derived.Deep.QuietTactic
import Derived.BigQuiet
import Derived.Outline
import Derived.IntWalk
import Derived.StillTailTactics
set_option maxHeartbeats 32000000
set_option maxRecDepth 100000
namespace Go.Proofs.YtkedafopdkhnfaaGreat
open Go.RowKit
set_option linter.unusedVariables false
set_option linter.unusedSimpArgs false
theorem zTf(w:World):(zeroValue 93).run Tryz.prog w=.ok z2 w:=by kernel_rfl
def zDy(B D g N:Nat)(ss:List St)(lim:Int)(c:Crs)(vs vw vu:Value)(pm sm:Nat)(w:World)(e:Ending)(w':World):Prop:=e=.returned (.tuple #[])∧∃vd',CM B D w' g ss lim c vs vw vu vd' pm sm N∧Below B w w'
theorem zUn{w:World}{B k n m:Nat}{e:TypeId}{a:Option Addr}{c:Nat}{xs:List Value}(h:w.ownsRow B e k (.slice a n c) m xs):n=m:=by
 rcases h.2 with ⟨q,h0⟩ | ⟨_,_,_,q,_⟩ <;> simp at q
 · rw[q.2.1,h0]
 · exact q.2.1
theorem zHj{w:World}{B n k c:Nat}{e:TypeId}{xs:List Value}{a:Option Addr}(h:w.ownsRow B e k (.slice a n c) n xs)(hn:n≠0):∃g,a=some ⟨g,0,none⟩:=by
 rcases h.2 with ⟨h',h0⟩ | ⟨g,cap,cur,h',_⟩
 · exact absurd h0 hn
 · rw[Value.slice.injEq] at h'
   exact⟨g,h'.1⟩
theorem zD8{w:World}{B g n cap i:Nat}{l:List Int}(h:w.ownsRow B 3 1 (.slice (some ⟨g,0,none⟩) n cap) l.length (l.map iv))(hi:i<n):w.cell? ⟨g,i,none⟩=some (.int .i64 (l.getD i 0))∧w.frozen? ⟨g,i,none⟩=false:=by
 have hn:=zUn h
 subst hn
 refine⟨?_,h.frozenAt i⟩
 rw[h.cellAt i (by omega),List.getElem?_map,List.getD_eq_getElem?_getD,List.getElem?_eq_getElem hi];rfl
theorem CM.done_new{B D:Nat}{w w':World}{g:Nat}{ss:List St}{lim:Int}{c:Crs}{vs vw vu vd vd':Value}{pm sm N:Nat}{x:Int}(h:CM B D w g ss lim c vs vw vu vd pm sm N)(hg:w.grownBy w' vd.ownBlock)(ho:w'.ownsRow D 3 1 vd' (c.done.length+1) ((c.done ++ [x]).flatMap ivC)):CM B D (w'.setCell ⟨g,5,none⟩ vd') g ss lim { c with done:=c.done ++ [x] } vs vw vu vd' pm sm N∧Below B w (w'.setCell ⟨g,5,none⟩ vd'):=by
 obtain⟨e1,e2,e3,e4,e5⟩:=h.gw
 obtain⟨f,hf,hf'⟩:=h.hp
 obtain⟨k,hk,hk'⟩:=h.hg
 have kk:∀ {b:Nat},(∀d,vd.ownBlock=some d→d≠b)→some b≠vd.ownBlock:=fun q z=>q _ z.symm rfl
 have hdn:∀d,vd.ownBlock=some d→d≠g∧d≠pm∧d≠sm:=fun d q=>h.own_ne h.hd q
 have r1:w'.heap[g]?=_:=(hg.block _ (gL h.row) (kk (fun d q=>(hdn d q).1))).trans h.row
 have w1:w'.ownsRow B 3 1 vw c.went.length (c.went.map iv):=h.hw.kept hg (by
  cases hq:vw.ownBlock with
  | none=>exact .inl rfl
  | some b=>exact .inr (fun z=>h.awd b hq z.symm))
 have u1:w'.ownsRow B 3 1 vu c.undone.length (c.undone.map iv):=h.hu.kept hg (by
  cases hq:vu.ownBlock with
  | none=>exact .inl rfl
  | some b=>exact .inr (fun z=>h.aud b hq z.symm))
 have bl:Below B w w':=(Below.refl B w).grown hg h.lB (fun d q=>Nat.le_trans h.lD.1 (h.hd.lt d q).1)
 have a:At g w' (w'.setCell ⟨g,5,none⟩ vd'):=(At.refl g w').set 5 _
 have bl2:Below B w (w'.setCell ⟨g,5,none⟩ vd'):=bl.trans (zA3 a h.lg (Nat.le_trans h.lB hg.size))
 have ho':vd'.ownBlock≠some g:=fun q=>by
  obtain⟨cur,z⟩:=zBp ho q
  rw[r1] at z;cases z
 refine⟨⟨heap_setCell_same w' g 5 _ _ _ r1,h.hs.under h.us bl2,h.us,w1.kept a (.inr e1),u1.kept a (.inr e2),?_,⟨f,(hf.kept hg (kk (fun d q=>(hdn d q).2.1))).kept a (by simpa using Ne.symm e4),hf'⟩,⟨k,(hk.kept hg (kk (fun d q=>(hdn d q).2.2))).kept a (by simpa using Ne.symm e5),hk'⟩,h.awu,h.uw,h.uu,h.aps,h.lg,h.lp,h.ls,Nat.le_trans h.lB (Nat.le_trans hg.size a.size),h.lD.1,Nat.le_trans h.lD.2 (Nat.le_trans hg.size a.size)⟩,bl2⟩
 rw[List.length_append,List.length_singleton]
 exact ho.kept a (.inr ho')
theorem zPq(B D g N:Nat)(ss:List St)(lim:Int)(c:Crs)(vs vw vd:Value)(gu n cap:Nat)(pm sm:Nat)(rf how:Int)(i:Nat)(hi:c.pl rf=((i:Int),1))(hin:i<n)(hn:n≤16)(hr:i64B rf)(w:World)(hc:CM B D w g ss lim c vs vw (.slice (some ⟨gu,0,none⟩) n cap) vd pm sm N) :
 Calls Tryz.prog 36 #[.pointer (some ⟨g,0,none⟩),.int .i64 rf,.int .i64 how] w (zDy B D g N ss lim { c with undone:=c.undone.set i how } vs vw (.slice (some ⟨gu,0,none⟩) n cap) pm sm w):=by
 obtain⟨f,hf,hpl⟩:=hc.hp
 have hx:=hid (hpl rf hr)
 have hk:=hid (keyI hr)
 have c4:w.cell? ⟨g,4,none⟩=some (.map (some pm)):=cR hc.row rfl
 have hpq:(.agg #[.int .i64 (c.pl rf).1,.int .i64 (c.pl rf).2]:Value)=.agg #[.int .i64 (i:Int),.int .i64 1]:=by rw[hi]
 have HPQ:=hid hpq
 clear hpq
 obtain⟨w1,hw1⟩:∃x,x=w.alloc (.cells #[.int .i64 (i:Int),.int .i64 1] 93):=⟨_,rfl⟩
 have b1:Below w.heap.size w w1:=by rw[hw1];exact(Below.refl _ _).alloc (Nat.le_refl _) _
 have h1:w1.heap[w.heap.size]?=some (.cells #[.int .i64 (i:Int),.int .i64 1] 93 (0,0)):=by rw[hw1];exact heap_alloc_new w _
 have hc1:=hc.below b1
 obtain⟨x0,x1⟩:=cA h1
 have hi0:(0:Int)≤(i:Int):=by omega
 have hi1:(i:Int)<(n:Int):=by omega
 have hB:=hid ((Below.refl B w).trans (b1.mono hc.lB))
 have HW:=hid hw1
 clear hw1
 have c3:w1.cell? ⟨g,3,none⟩=some (.slice (some ⟨gu,0,none⟩) n cap):=cR hc1.row rfl
 obtain⟨hold,hfr⟩:=zD8 hc1.hu hin
 have hset:=hid (hc1.setUndone i how)
 go_enter Tryz.func36,Tryz.ntmps36
 go_wp2_with (first | (at_lookup;refine zCn _ rfl _ _ 89 rfl 3 93 kInt Tryz.underlying89 (zTf _) pm N f rfl hf _ (.int .i64 rf) rfl hk.out (.agg #[.int .i64 (i:Int),.int .i64 1]) (hx.out.trans HPQ.out) ?_))
 rw[← HW.out]
 clear b1 h1 hc1 hf hpl c4 hc hi
 go_region
 all_goals go_wp2_with fail
 all_goals refine bodyPost_ret (results_none rfl _ _ _) rfl ⟨rfl,vd,hset.out.1.below (zAa _ _ 1),hB.out.trans (hset.out.2.trans ⟨rfl,rfl,rfl,Nat.le_refl _,fun _ _=>rfl⟩)⟩
theorem zSc(B D g N:Nat)(ss:List St)(lim:Int)(c:Crs)(vs vu vd:Value)(gu n cap:Nat)(pm sm:Nat)(rf:Int)(i:Nat)(hi:c.pl rf=((i:Int),0))(hin:i<n)(hn:n≤16)(hr:i64B rf)(w:World)(hc:CM B D w g ss lim c vs (.slice (some ⟨gu,0,none⟩) n cap) vu vd pm sm N) :
 Calls Tryz.prog 36 #[.pointer (some ⟨g,0,none⟩),.int .i64 rf,.int .i64 3] w (zDy B D g N ss lim { c with went:=c.went.set i 3 } vs (.slice (some ⟨gu,0,none⟩) n cap) vu pm sm w):=by
 obtain⟨f,hf,hpl⟩:=hc.hp
 have hx:=hid (hpl rf hr)
 have hk:=hid (keyI hr)
 have c4:w.cell? ⟨g,4,none⟩=some (.map (some pm)):=cR hc.row rfl
 have hpq:(.agg #[.int .i64 (c.pl rf).1,.int .i64 (c.pl rf).2]:Value)=.agg #[.int .i64 (i:Int),.int .i64 0]:=by rw[hi]
 have HPQ:=hid hpq
 clear hpq
 obtain⟨w1,hw1⟩:∃x,x=w.alloc (.cells #[.int .i64 (i:Int),.int .i64 0] 93):=⟨_,rfl⟩
 have b1:Below w.heap.size w w1:=by rw[hw1];exact(Below.refl _ _).alloc (Nat.le_refl _) _
 have h1:w1.heap[w.heap.size]?=some (.cells #[.int .i64 (i:Int),.int .i64 0] 93 (0,0)):=by rw[hw1];exact heap_alloc_new w _
 have hc1:=hc.below b1
 obtain⟨x0,x1⟩:=cA h1
 have hi0:(0:Int)≤(i:Int):=by omega
 have hi1:(i:Int)<(n:Int):=by omega
 have hB:=hid ((Below.refl B w).trans (b1.mono hc.lB))
 have HW:=hid hw1
 clear hw1
 have c2:w1.cell? ⟨g,2,none⟩=some (.slice (some ⟨gu,0,none⟩) n cap):=cR hc1.row rfl
 obtain⟨hold,hfr⟩:=zD8 hc1.hw hin
 have hset:=hid (hc1.setWent i 3)
 go_enter Tryz.func36,Tryz.ntmps36
 go_wp2_with (first | (at_lookup;refine zCn _ rfl _ _ 89 rfl 3 93 kInt Tryz.underlying89 (zTf _) pm N f rfl hf _ (.int .i64 rf) rfl hk.out (.agg #[.int .i64 (i:Int),.int .i64 0]) (hx.out.trans HPQ.out) ?_))
 rw[← HW.out]
 clear b1 h1 hc1 hf hpl c4 hc hi
 go_region
 all_goals go_wp2_with fail
 all_goals go_quiet (fail)
 all_goals go_wp2_with fail
 all_goals go_end0
 all_goals exact⟨rfl,vd,(hset.out.1.below (zAa _ _ 1)).below (zAa _ _ _),hB.out.trans (hset.out.2.trans ⟨rfl,rfl,rfl,Nat.le_refl _,fun _ _=>rfl⟩)⟩
theorem zN6(B D g N:Nat)(ss:List St)(lim:Int)(c:Crs)(vu vd:Value)(va:Option Addr)(vc:Nat)(gu n cap:Nat)(pm sm:Nat)(rf:Int)(i:Nat)(hi:c.pl rf=((i:Int),0))(hin:i<n)(hn:n≤16)(hr:i64B rf)(w:World)(hc:CM B D w g ss lim c (.slice va ss.length vc) (.slice (some ⟨gu,0,none⟩) n cap) vu vd pm sm N)(his:i<ss.length)(hkd:(ss[i]).1≠1) :
 Calls Tryz.prog 36 #[.pointer (some ⟨g,0,none⟩),.int .i64 rf,.int .i64 2] w (zDy B D g N ss lim { c with went:=c.went.set i 2 } (.slice va ss.length vc) (.slice (some ⟨gu,0,none⟩) n cap) vu pm sm w):=by
 have hgl:gu<w.heap.size:=(hc.hw.lt gu rfl).2
 obtain⟨f,hf,hpl⟩:=hc.hp
 have hx:=hid (hpl rf hr)
 have hk:=hid (keyI hr)
 have c4:w.cell? ⟨g,4,none⟩=some (.map (some pm)):=cR hc.row rfl
 have hpq:(.agg #[.int .i64 (c.pl rf).1,.int .i64 (c.pl rf).2]:Value)=.agg #[.int .i64 (i:Int),.int .i64 0]:=by rw[hi]
 have HPQ:=hid hpq
 clear hpq
 obtain⟨w1,hw1⟩:∃x,x=w.alloc (.cells #[.int .i64 (i:Int),.int .i64 0] 93):=⟨_,rfl⟩
 have b1:Below w.heap.size w w1:=by rw[hw1];exact(Below.refl _ _).alloc (Nat.le_refl _) _
 have h1:w1.heap[w.heap.size]?=some (.cells #[.int .i64 (i:Int),.int .i64 0] 93 (0,0)):=by rw[hw1];exact heap_alloc_new w _
 have hc1:=hc.below b1
 obtain⟨x0,x1⟩:=cA h1
 have hi0:(0:Int)≤(i:Int):=by omega
 have hi1:(i:Int)<(n:Int):=by omega
 have hB:=hid ((Below.refl B w).trans (b1.mono hc.lB))
 have HW:=hid hw1
 clear hw1
 have c2:w1.cell? ⟨g,2,none⟩=some (.slice (some ⟨gu,0,none⟩) n cap):=cR hc1.row rfl
 obtain⟨hold,hfr⟩:=zD8 hc1.hw hin
 have hset:=hid (hc1.setWent i 2)
 obtain⟨w2,hw2⟩:∃x,x=(w1.setCell ⟨gu,i,none⟩ (.int .i64 2)).drew:=⟨_,rfl⟩
 have hc2:CM B D w2 g ss lim { c with went:=c.went.set i 2 } (.slice va ss.length vc) (.slice (some ⟨gu,0,none⟩) n cap) vu vd pm sm N:=by rw[hw2];exact hset.out.1.below (zAa _ _ 1)
 have hB2:Below B w w2:=by rw[hw2];exact hB.out.trans (hset.out.2.trans ⟨rfl,rfl,rfl,Nat.le_refl _,fun _ _=>rfl⟩)
 have hx2:w2.heap[w.heap.size]?=some (.cells #[.int .i64 (i:Int),.int .i64 0] 93 (0,0)):=by
  rw[hw2]
  exact(Below.heap_setCell _ _ _ _ (by simp;omega)).trans h1
 have y0:w2.cell? ⟨w.heap.size,0,none⟩=some (.int .i64 (i:Int)):=cR hx2 rfl
 have d0:w2.cell? ⟨g,0,none⟩=some (.slice va ss.length vc):=cR hc2.row rfl
 have hst:=hc2.hs
 obtain⟨_,_,a',cap',hv,hcc⟩:=hst
 rw[Value.slice.injEq] at hv
 obtain⟨rfl,-,rfl⟩:=hv
 obtain⟨sb,off,rfl,hblt,hcc⟩:=hcc.resolve_left (by omega)
 have s0:w2.cell? ⟨sb,off+i*6,none⟩=some (.int .i64 ss[i].1):=zAp hcc i 0 (by decide) his _ rfl
 have his':(i:Int)<(ss.length:Int):=by omega
 obtain⟨kx,hkx⟩:∃k,k=(ss[i]).1:=⟨_,rfl⟩
 rw[← hkx] at s0 hkd
 have hkq:(kx==1)=false:=by simpa using hkd
 have HW2:=hid hw2
 clear hw2 hcc hkx
 go_enter Tryz.func36,Tryz.ntmps36
 go_wp2_with (first | (at_lookup;refine zCn _ rfl _ _ 89 rfl 3 93 kInt Tryz.underlying89 (zTf _) pm N f rfl hf _ (.int .i64 rf) rfl hk.out (.agg #[.int .i64 (i:Int),.int .i64 0]) (hx.out.trans HPQ.out) ?_))
 rw[← HW.out]
 go_region
 all_goals go_wp2_with fail
 all_goals rw[← HW2.out]
 all_goals clear b1 h1 hc1 hf hpl c4 hc hi c2 hold hfr x0 x1
 all_goals go_quiet (fail)
 all_goals go_wp2_with fail
 all_goals go_end0
 all_goals exact⟨rfl,vd,hc2.below (zAa _ _ _),hB2.trans ⟨rfl,rfl,rfl,Nat.le_refl _,fun _ _=>rfl⟩⟩
theorem zPp(B D g N:Nat)(ss:List St)(lim:Int)(c:Crs)(vu vd:Value)(va:Option Addr)(vc:Nat)(gu n cap:Nat)(pm sm:Nat)(rf:Int)(i:Nat)(hi:c.pl rf=((i:Int),0))(hin:i<n)(hn:n≤16)(hr:i64B rf)(w:World)(hc:CM B D w g ss lim c (.slice va ss.length vc) (.slice (some ⟨gu,0,none⟩) n cap) vu vd pm sm N)(his:i<ss.length)(hkd:(ss[i]).1=1)(hdl:c.done.length≤1000) :
 Calls Tryz.prog 36 #[.pointer (some ⟨g,0,none⟩),.int .i64 rf,.int .i64 2] w (zDy B D g N ss lim { c with went:=c.went.set i 2,done:=c.done ++ [(i:Int)] } (.slice va ss.length vc) (.slice (some ⟨gu,0,none⟩) n cap) vu pm sm w):=by
 have hgl:gu<w.heap.size:=(hc.hw.lt gu rfl).2
 obtain⟨f,hf,hpl⟩:=hc.hp
 have hx:=hid (hpl rf hr)
 have hk:=hid (keyI hr)
 have c4:w.cell? ⟨g,4,none⟩=some (.map (some pm)):=cR hc.row rfl
 have hpq:(.agg #[.int .i64 (c.pl rf).1,.int .i64 (c.pl rf).2]:Value)=.agg #[.int .i64 (i:Int),.int .i64 0]:=by rw[hi]
 have HPQ:=hid hpq
 clear hpq
 obtain⟨w1,hw1⟩:∃x,x=w.alloc (.cells #[.int .i64 (i:Int),.int .i64 0] 93):=⟨_,rfl⟩
 have b1:Below w.heap.size w w1:=by rw[hw1];exact(Below.refl _ _).alloc (Nat.le_refl _) _
 have h1:w1.heap[w.heap.size]?=some (.cells #[.int .i64 (i:Int),.int .i64 0] 93 (0,0)):=by rw[hw1];exact heap_alloc_new w _
 have hc1:=hc.below b1
 obtain⟨x0,x1⟩:=cA h1
 have hi0:(0:Int)≤(i:Int):=by omega
 have hi1:(i:Int)<(n:Int):=by omega
 have hB:=hid ((Below.refl B w).trans (b1.mono hc.lB))
 have HW:=hid hw1
 clear hw1
 have c2:w1.cell? ⟨g,2,none⟩=some (.slice (some ⟨gu,0,none⟩) n cap):=cR hc1.row rfl
 obtain⟨hold,hfr⟩:=zD8 hc1.hw hin
 have hset:=hid (hc1.setWent i 2)
 obtain⟨w2,hw2⟩:∃x,x=(w1.setCell ⟨gu,i,none⟩ (.int .i64 2)).drew:=⟨_,rfl⟩
 have hc2:CM B D w2 g ss lim { c with went:=c.went.set i 2 } (.slice va ss.length vc) (.slice (some ⟨gu,0,none⟩) n cap) vu vd pm sm N:=by rw[hw2];exact hset.out.1.below (zAa _ _ 1)
 have hB2:Below B w w2:=by rw[hw2];exact hB.out.trans (hset.out.2.trans ⟨rfl,rfl,rfl,Nat.le_refl _,fun _ _=>rfl⟩)
 have hx2:w2.heap[w.heap.size]?=some (.cells #[.int .i64 (i:Int),.int .i64 0] 93 (0,0)):=by
  rw[hw2]
  exact(Below.heap_setCell _ _ _ _ (by simp;omega)).trans h1
 have y0:w2.cell? ⟨w.heap.size,0,none⟩=some (.int .i64 (i:Int)):=cR hx2 rfl
 have d0:w2.cell? ⟨g,0,none⟩=some (.slice va ss.length vc):=cR hc2.row rfl
 have hst:=hc2.hs
 obtain⟨_,_,a',cap',hv,hcc⟩:=hst
 rw[Value.slice.injEq] at hv
 obtain⟨rfl,-,rfl⟩:=hv
 obtain⟨sb,off,rfl,hblt,hcc⟩:=hcc.resolve_left (by omega)
 have s0:w2.cell? ⟨sb,off+i*6,none⟩=some (.int .i64 ss[i].1):=zAp hcc i 0 (by decide) his _ rfl
 have his':(i:Int)<(ss.length:Int):=by omega
 obtain⟨kx,hkx⟩:∃k,k=(ss[i]).1:=⟨_,rfl⟩
 rw[← hkx] at s0 hkd
 subst hkd
 have HW2:=hid hw2
 clear hw2 hcc hkx
 go_enter Tryz.func36,Tryz.ntmps36
 go_wp2_with (first | (at_lookup;refine zCn _ rfl _ _ 89 rfl 3 93 kInt Tryz.underlying89 (zTf _) pm N f rfl hf _ (.int .i64 rf) rfl hk.out (.agg #[.int .i64 (i:Int),.int .i64 0]) (hx.out.trans HPQ.out) ?_))
 rw[← HW.out]
 go_region
 all_goals go_wp2_with fail
 all_goals rw[← HW2.out]
 all_goals clear b1 h1 hc1 hf hpl c4 hc hi c2 hold hfr x0 x1
 go_quiet (fail)
 go_wp2_with fail
 rename_i nq _
 obtain⟨w3,hw3⟩:∃x,x=w2.drewN nq:=⟨_,rfl⟩
 rw[← hw3]
 have bd:=zAa w2.heap.size w2 nq
 rw[← hw3] at bd
 have hc3:=hc2.below bd
 have hB3:=hB2.trans (bd.mono hc2.lB)
 have hx3:=(bd.block _ (gL hx2)).trans hx2
 have y3:w3.cell? ⟨w.heap.size,0,none⟩=some (.int .i64 (i:Int)):=cR hx3 rfl
 have d5:w3.cell? ⟨g,5,none⟩=some vd:=cR hc3.row rfl
 have hinfo:(Tryz.prog.info? 3).map (fun i=>(i.zero,i.size,i.bytes))=some (some (.int .i64 0),1,8):=by kernel_rfl
 have hmx:maxLen=9223372036854775807:=rfl
 have HC3:=hid hc3
 have HB3:=hid hB3
 have hb4:Below w3.heap.size w3 (w3.alloc (.cells #[.int .i64 (i:Int)] 3)).drew:=zAl ((Below.refl _ _).alloc (Nat.le_refl _) _) (zAa _ _ 1)
 have hy4:∀(j:Nat) (u:Value),(ivC (i:Int))[j]?=some u→(w3.alloc (.cells #[.int .i64 (i:Int)] 3)).drew.cell? ⟨w3.heap.size,j,none⟩=some u:=fun j u hq=>(show _=_ from World.cell?_alloc_at _ _ _ _ rfl).trans (by rw[← hq];exact List.getElem?_toArray)
 have hc4:=hc3.below hb4
 have d5b:(w3.alloc (.cells #[.int .i64 (i:Int)] 3)).cell? ⟨g,5,none⟩=some vd:=cR ((hc3.below ((Below.refl _ _).alloc (Nat.le_refl _) _)).row) rfl
 have hB4:=hB3.trans (hb4.mono hc3.lB)
 have hd4:=hc4.hd
 have hD4:=hc4.lD.2
 have HC4:=hid hc4
 have HB4:=hid hB4
 clear hc2 hB2 hx2 y0 d0 s0 hw3 bd hc3 hB3 HW2 HW hx hk hc4 hB4 hb4
 go_region_law ((refine zDv _ rfl _ _ 33 rfl ivC 1 (by decide) zJx zJz D 3 (.int .i64 0) 8 Tryz.underlying33 hinfo rfl _ c.done.length c.done rfl hd4 _ _ rfl (i:Int) hy4 (by omega) (by omega) hD4 ?_;intro a' c' wa hown hgrow;have hcz:=(HC4.out.done_new hgrow hown);have hrz:=HC4.out.gw;have hr5:wa.heap[g]?=some _:=(hgrow.block _ (gL HC4.out.row) (fun z=>hrz.2.2.1 z.symm)).trans HC4.out.row;have v5:wa.cell? ⟨g,5,none⟩=some vd:=cR hr5 rfl;have vf5:=frozen_of_row wa _ 5 _ _ hr5))
 all_goals go_end0
 all_goals exact⟨rfl,_,hcz.1,HB4.out.trans hcz.2⟩
theorem zDy.ghost{B D g N:Nat}{ss:List St}{lim:Int}{c c':Crs}{vs vw vu:Value}{pm sm:Nat}{w:World}{e:Ending}{w':World}(h:zDy B D g N ss lim c vs vw vu pm sm w e w')(e1:c'.went=c.went)(e2:c'.undone=c.undone)(e3:c'.pl=c.pl)(e4:c'.done=c.done)(e5:c'.sig=c.sig)(e6:c'.stop=c.stop):zDy B D g N ss lim c' vs vw vu pm sm w e w':=by
 obtain⟨h1,vd',h2,h3⟩:=h
 exact⟨h1,vd',h2.ghost c' e1 e2 e3 e4 e5 e6,h3⟩
theorem zJr(B D g N:Nat)(ss:List St)(lim:Int)(c:Crs)(va wa ua:Option Addr)(vc wc uc:Nat)(vd:Value)(pm sm:Nat)(rf how:Int)(i:Nat)(x:Int)(hi:c.pl rf=((i:Int),x))(hx:x=0∨x=1)(hh:how=2∨how=3)(his:i<ss.length)(hsl:ss.length≤16)(hr:i64B rf)(hdl:c.done.length≤1000)(hwl:c.went.length=ss.length)(hul:c.undone.length=ss.length)(w:World)(hc:CM B D w g ss lim c (.slice va ss.length vc) (.slice wa ss.length wc) (.slice ua ss.length uc) vd pm sm N) :
 Calls Tryz.prog 36 #[.pointer (some ⟨g,0,none⟩),.int .i64 rf,.int .i64 how] w (zDy B D g N ss lim (zAr ss c rf how) (.slice va ss.length vc) (.slice wa ss.length wc) (.slice ua ss.length uc) pm sm w):=by
 have hw:=hc.hw
 have hu:=hc.hu
 rw[hwl] at hw
 rw[hul] at hu
 obtain⟨gw,rfl⟩:=zHj hw (by omega)
 obtain⟨gu,rfl⟩:=zHj hu (by omega)
 unfold zAr
 rw[hi]
 rcases hx with rfl | rfl
 · rw [if_neg (by simp)]
   simp only[Int.toNat_natCast]
   rcases hh with rfl | rfl
   · by_cases hk:(ss[i]).1=1
     · have hk':kdN ss i=1:=by unfold kdN;rw[List.getD_eq_getElem?_getD,List.getElem?_eq_getElem his];exact hk
       rw[if_pos ⟨rfl,hk'⟩]
       exact(zPp B D g N ss lim c _ vd va vc gw ss.length wc pm sm rf i hi his hsl hr w hc his hk hdl).mono fun e w' h=>h.ghost rfl rfl rfl rfl rfl rfl
     · have hk':¬kdN ss i=1:=by unfold kdN;rw[List.getD_eq_getElem?_getD,List.getElem?_eq_getElem his];exact hk
       rw[if_neg (fun q=>hk' q.2)]
       exact(zN6 B D g N ss lim c _ vd va vc gw ss.length wc pm sm rf i hi his hsl hr w hc his hk).mono fun e w' h=>h.ghost rfl rfl rfl rfl rfl rfl
   · rw[if_neg (fun q=>by have:=q.1;omega)]
     exact(zSc B D g N ss lim c _ _ vd gw ss.length wc pm sm rf i hi his hsl hr w hc).mono fun e w' h=>h.ghost rfl rfl rfl rfl rfl rfl
 · rw[if_pos rfl]
   simp only[Int.toNat_natCast]
   exact(zPq B D g N ss lim c _ _ vd gu ss.length uc pm sm rf how i hi his hsl hr w hc).mono fun e w' h=>h.ghost rfl rfl rfl rfl rfl rfl
end Go.Proofs.YtkedafopdkhnfaaGreat
namespace Go.Proofs.YtkedafopdkhnfaaGreat
open Go.RowKit
set_option linter.unusedVariables false
set_option linter.unusedSimpArgs false
theorem zRh(w:World):(zeroValue 3).run Tryz.prog w=.ok (.int .i64 0) w:=by kernel_rfl
def cmC(x:Cmd):List Value:=[.int .i64 x.1,.int .i64 x.2.1,.bool x.2.2]
def zBi(w:World)(B:Nat)(v:Value)(l:List Cmd):Prop:=∃(a:Option Addr)(c:Nat),v=.slice a l.length c∧w.ownsRow B 55 3 v l.length (l.flatMap cmC)
theorem zBi.nil(w:World)(B:Nat):zBi w B (.slice none 0 0) []:=⟨none,0,rfl,World.ownsRow_nil _ _ _ _⟩
theorem zBi.one(w:World)(B:Nat)(hB:B≤w.heap.size)(k i:Int)(u:Bool):zBi (w.alloc (.cells #[.int .i64 k,.int .i64 i,.bool u] 55)) B (.slice (some ⟨w.heap.size,0,none⟩) 1 1) [(k,i,u)] :=
 ⟨_,_,rfl,rfl,.inr ⟨w.heap.size,1,_,rfl,hB,heap_alloc_new w _,Nat.le_refl _,by unfold maxLen;omega,rfl,rfl⟩⟩
theorem CM.over{B D:Nat}{w w1 w2:World}{g:Nat}{ss:List St}{lim:Int}{c:Crs}{vs vw vu vd:Value}{pm sm N b:Nat}(h0:CM B D w g ss lim c vs vw vu vd pm sm N)(h:CM B D w1 g ss lim c vs vw vu vd pm sm N)(hg:w1.grownBy w2 (some b))(hb:w.heap.size≤b):CM B D w2 g ss lim c vs vw vu vd pm sm N:=by
 obtain⟨f,hf,-⟩:=h0.hp
 obtain⟨k,hk,-⟩:=h0.hg
 have g1:=(gL h0.row)
 have p1:=hf.lt
 have s1:=hk.lt
 refine h.kept hg (Nat.le_trans h0.lB hb) (by omega) (fun q=>?_) (fun q=>?_) (fun q=>?_) (by omega) (by omega)
 · have:=(h0.hw.lt b q).2;omega
 · have:=(h0.hu.lt b q).2;omega
 · have:=(h0.hd.lt b q).2;omega
def zTr(ss:List St)(c:Crs)(w:World)(e:Ending)(w':World):Prop:=∃(v:Value)(ok:Bool),e=.returned (.tuple #[v,.bool ok,.bool (fwdF ss c).2])∧zBi w' w.heap.size v (fwdF ss c).1∧Below w.heap.size w w'
theorem zSg{ss:List St}{c:Crs}{k:Nat}(hk:k<ss.length)(u:List UInt8→Int):fwdG c k (ss.drop k) u=(if(ss[k]).kd=3 then(if c.sig (ss[k]).nm<u (ss[k]).nm+1 then([],c.stop) else fwdG c (k+1) (ss.drop (k+1)) (updS u (ss[k]).nm (u (ss[k]).nm+1)))
 else if(ss[k]).kd=2∧c.W k=1 then([],c.stop)
 else if c.W k=1 then([],false)
 else if c.W k=3 then([],true)
 else if c.W k=2 then fwdG c (k+1) (ss.drop (k+1)) u
 else if c.stop=true then([],true)
 else if(ss[k]).kd=2 then([(2,(k:Int),false)],false)
 else([(1,(k:Int),false)],false)):=by
 rw[List.drop_eq_getElem_cons hk];rfl
theorem zQ5{c:Crs}{k:Nat}(hk:k<c.undone.length)(h:c.undone.getD k 0≠0):zC9 c=true:=by
 unfold zC9
 rw[List.any_eq_true]
 refine⟨c.undone[k],List.getElem_mem hk,?_⟩
 rw[List.getD_eq_getElem?_getD,List.getElem?_eq_getElem hk] at h
 simpa using h
theorem zOz{c:Crs}(h:∀j,j<c.undone.length→c.undone.getD j 0=0):zC9 c=false:=by
 unfold zC9
 rw[List.any_eq_false]
 intro x hx
 obtain⟨j,hj,rfl⟩:=List.getElem_of_mem hx
 have:=h j hj
 rw[List.getD_eq_getElem?_getD,List.getElem?_eq_getElem hj] at this
 simpa using this
theorem zL6(B D g N:Nat)(ss:List St)(lim:Int)(c:Crs)(va:Option Addr)(gw gu vc wc uc:Nat)(vd:Value)(pm sm:Nat)(hsl:ss.length≤16)(hnm:∀x∈ss,x.nm.length≤1400)(hsg:∀nm,0≤c.sig nm∧c.sig nm≤1000)(hwl:c.went.length=ss.length)(hul:c.undone.length=ss.length)(w:World)(hc:CM B D w g ss lim c (.slice va ss.length vc) (.slice (some ⟨gw,0,none⟩) ss.length wc) (.slice (some ⟨gu,0,none⟩) ss.length uc) vd pm sm N) :
 Calls Tryz.prog 29 #[.pointer (some ⟨g,0,none⟩)] w (zTr ss c w):=by
 have hmm:=@run_makeMap Tryz.prog
 have HWL:=hid hwl
 have HUL:=hid hul
 have HC:=hid hc
 have d3:w.cell? ⟨g,3,none⟩=some (.slice (some ⟨gu,0,none⟩) ss.length uc):=cR hc.row rfl
 clear hwl hul hc
 go_enter Tryz.func29,Tryz.ntmps29
 go_wp2_with fail
 go_loop [15] (fun n0=>∃k:Nat,k≤ss.length∧n0=.int .i64 (k:Int)∧∀j,j<k→c.undone.getD j 0=0) (fun n0=>ss.length - (intOf n0).toNat)
 case atStart=>exact⟨0,Nat.zero_le _,rfl,fun j hj=>by omega⟩
 case round =>
  obtain⟨k,hk,rfl,hz⟩:=hrel
  by_cases hlt:k<ss.length
  case pos =>
   have hkI:(k:Int)<(ss.length:Int):=by omega
   have hkp:(0:Int)≤(k:Int):=by omega
   have hk16:(ss.length:Int)≤16:=by omega
   obtain⟨hcell,-⟩:=zD8 HC.out.hu (i:=k) hlt
   by_cases hu:c.undone.getD k 0=0
   · rw[hu] at hcell
     have HZ:=hid (fun j (hj:j<k+1)=>show c.undone.getD j 0=0 from if e:j=k then by rw[e];exact hu else hz j (by omega))
     clear hz hu
     go_wp2_with fail
     go_round
     case rel=>exact⟨k+1,by omega,by go_num,HZ.out⟩
     case measure=>simp[intOf];omega
   · have hq:(c.undone.getD k 0 != 0)=true:=by simpa using hu
     have hq':(c.undone.getD k 0==0)=false:=by simpa using hu
     have hF:fwdF ss c=([],true):=by unfold fwdF;rw[if_pos (zQ5 (by rw[HUL.out];exact hlt) hu)]
     have HF:=hid hF
     generalize c.undone.getD k 0=uk at *
     clear hz hu hF
     go_wp2_with fail
     go_ret3
     exact⟨.slice none 0 0,false,(by rw[HF.out];rfl),by rw[HF.out];exact zBi.nil _ _,Below.refl _ _⟩
  obtain rfl:k=ss.length:=by omega
  have hF:fwdF ss c=fwdG c 0 (ss.drop 0) (fun _=>0):=by
   unfold fwdF
   rw[zOz (fun j hj=>hz j (by rw[HUL.out] at hj;exact hj)),if_neg (by simp),List.drop_zero]
  have HF:=hid hF
  have d0:w.cell? ⟨g,0,none⟩=some (.slice va ss.length vc):=cR HC.out.row rfl
  have d0':∀o:Obj,(w.alloc o).cell? ⟨g,0,none⟩=some (.slice va ss.length vc):=fun o=>by rw[cell_of_row _ _ 0 _ _ (0,0) (HC.out.below ((Below.refl _ _).alloc (Nat.le_refl _) o)).row];rfl
  have hM:=MapV.made w Tryz.prog 9
  have HM:=hid hM
  clear hz hF hM d3
  go_wp2_with fail
  go_loopw [29] (fun n0 wr=>∃(k:Nat) (u:List UInt8→Int) (f:Ent),k≤ss.length∧n0=.int .i64 (k:Int)∧fwdF ss c=fwdG c k (ss.drop k) u∧MapV Tryz.prog wr 9 w.heap.size k f∧SgOk f u∧(∀nm,0≤u nm∧u nm≤(k:Int))∧Below w.heap.size w wr) (fun n0 _=>ss.length - (intOf n0).toNat)
  case atStart=>exact⟨0,fun _=>0,Ent.none,Nat.zero_le _,rfl,HF.out,HM.out,SgOk.none,fun nm=>⟨Int.le_refl _,Int.le_refl _⟩,(Below.refl _ _).alloc (Nat.le_refl _) _⟩
  case round =>
   clear d0 d0'
   obtain⟨k,u,f,hk,rfl,hfw,hmu,hsu,hub,hb⟩:=hrel
   by_cases hlt:k<ss.length
   case neg =>
    obtain rfl:k=ss.length:=by omega
    rw[List.drop_length] at hfw
    have hF2:fwdF ss c=([(3,0,false)],false):=hfw
    have HF2:=hid hF2
    have HB:=hid hb
    have HO:=hid (zBi.one wr w.heap.size hb.size 3 0 false)
    clear hfw hmu hsu hub hb hF2
    go_wp2_with fail
    go_ret3
    exact⟨.slice (some ⟨wr.heap.size,0,none⟩) 1 1,true,(by rw[HF2.out];rfl),by rw[HF2.out];exact HO.out,HB.out.alloc HB.out.size _⟩
   rw[zSg hlt] at hfw
   have hcr:=HC.out.below (hb.mono (Nat.le_refl _))
   have hst:=hcr.hs
   obtain⟨_,_,a',cap',hv,hcc⟩:=hst
   rw[Value.slice.injEq] at hv
   obtain⟨rfl,-,rfl⟩:=hv
   obtain⟨sb,off,rfl,hblt,hcc⟩:=hcc.resolve_left (by omega)
   have k0:wr.cell? ⟨sb,off+k*6,none⟩=some (.int .i64 ss[k].1):=zAp hcc k 0 (by decide) hlt _ rfl
   have k1:wr.cell? ⟨sb,off+k*6+1,none⟩=some (.string ⟨ss[k].2.1.toArray⟩):=zAp hcc k 1 (by decide) hlt _ rfl
   have k2:wr.cell? ⟨sb,off+k*6+2,none⟩=some (.string ⟨ss[k].2.2.1.toArray⟩):=zAp hcc k 2 (by decide) hlt _ rfl
   have k3:wr.cell? ⟨sb,off+k*6+3,none⟩=some (.int .i64 ss[k].2.2.2.1):=zAp hcc k 3 (by decide) hlt _ rfl
   have k4:wr.cell? ⟨sb,off+k*6+4,none⟩=some (.int .i64 ss[k].2.2.2.2.1):=zAp hcc k 4 (by decide) hlt _ rfl
   have k5:wr.cell? ⟨sb,off+k*6+5,none⟩=some (.int .i64 ss[k].2.2.2.2.2):=zAp hcc k 5 (by decide) hlt _ rfl
   have hnk:=hnm _ (List.getElem_mem hlt)
   obtain⟨X,hX⟩:∃X,X=ss[k]:=⟨_,rfl⟩
   rw[← hX] at hfw hnk k0 k1 k2 k3 k4 k5
   clear hX hcc
   obtain⟨kd,nm,un,tr,ut,wt⟩:=X
   simp only at k0 k1 k2 k3 k4 k5
   simp only[St.kd,St.nm] at hfw hnk
   have hkI:(k:Int)<(ss.length:Int):=by omega
   have hkp:(0:Int)≤(k:Int):=by omega
   have hk16:(ss.length:Int)≤16:=by omega
   obtain⟨we,hwe⟩:∃x,x=wr.alloc (.cells #[.int .i64 kd,.string ⟨nm.toArray⟩,.string ⟨un.toArray⟩,.int .i64 tr,.int .i64 ut,.int .i64 wt] 77):=⟨_,rfl⟩
   have be:Below wr.heap.size wr we:=by rw[hwe];exact(Below.refl _ _).alloc (Nat.le_refl _) _
   have hxe:we.heap[wr.heap.size]?=some (.cells #[.int .i64 kd,.string ⟨nm.toArray⟩,.string ⟨un.toArray⟩,.int .i64 tr,.int .i64 ut,.int .i64 wt] 77 (0,0)):=by rw[hwe];exact heap_alloc_new wr _
   have hce:=hcr.below be
   have hbe:=hb.trans (be.mono hb.size)
   have HWE:=hid hwe
   have HFW:=hid hfw
   clear hfw hwe hcr
   by_cases hk3:kd=3
   · subst hk3
     rw[if_pos rfl] at HFW
     obtain⟨hu0,hu1⟩:=hub nm
     have hkey:=hid (keyS (l:=nm) (by omega))
     have hmw:=hmu.below be
     have hlk:(Instr.lookup 90 (.map (some w.heap.size)) (.string ⟨nm.toArray⟩) false).run Tryz.prog we=.ok (.int .i64 (u nm)) we:=by
      have:=hmw.look kStr Tryz.underlying90 (zRh _) hkey.out
      rw[hsu nm] at this;exact this
     have hwr:IntKind.i64.wrap (u nm+1)=u nm+1:=IntWalk.i64_in _ (by omega)
     have hu2:u nm≤1000:=by omega
     rw[HWE.out] at hlk hmw
     clear hwr
     have hnmlt:w.heap.size<wr.heap.size:=hmu.lt
     go_wp2_with (first | (at_mapUpdate;refine zC0 _ rfl _ _ _ 90 rfl 9 3 kStr Tryz.underlying90 w.heap.size k f rfl hmw (by unfold maxLen;omega) _ (.int .i64 (u nm+1)) (.string nm) rfl rfl hkey.out ?_;intro w7 hown7 hgrow7))
     have hgrow8:=hgrow7
     rw[← HWE.out] at hgrow8
     have hc7:=HC.out.over hce hgrow8 (Nat.le_refl _)
     have hx7:=(hgrow8.block _ (gL hxe) (by simp;omega)).trans hxe
     have hb7:=hbe.grown hgrow8 hbe.size (fun j q=>by cases q;exact Nat.le_refl _)
     have hsu7:=hsu.put nm (u nm+1)
     have hlk1:∀n,(Instr.lookup 90 (.map (some sm)) (.string ⟨nm.toArray⟩) false).run Tryz.prog (w7.drewN n)=.ok (.int .i64 (c.sig nm)) (w7.drewN n):=fun n=>by
      obtain⟨f2,hf2,hsf2⟩:=hc7.hg
      have:=(hf2.below (zAa _ _ n)).look kStr Tryz.underlying90 (zRh _) hkey.out
      rw[hsf2 nm] at this;exact this
     have hlk2:∀n,(Instr.lookup 90 (.map (some w.heap.size)) (.string ⟨nm.toArray⟩) false).run Tryz.prog (w7.drewN n)=.ok (.int .i64 (u nm+1)) (w7.drewN n):=fun n=>by
      have:=(hown7.below (zAa _ _ n)).look kStr Tryz.underlying90 (zRh _) hkey.out
      rw[hsu7 nm] at this
      rw[this];simp[updS]
     have y1:w7.cell? ⟨wr.heap.size,1,none⟩=some (.string ⟨nm.toArray⟩):=cR hx7 rfl
     have d6:w7.cell? ⟨g,6,none⟩=some (.map (some sm)):=cR hc7.row rfl
     have d7:w7.cell? ⟨g,7,none⟩=some (.bool c.stop):=cR hc7.row rfl
     have HM7:=hid hown7
     have HS7:=hid hsu7
     have HB7:=hid hb7
     clear hown7 hgrow7 hgrow8 hc7 hx7 hb7 hsu7 hlk hmw hxe hce hbe hmu hsu
     by_cases hlt1:c.sig nm<u nm+1
     · rw[if_pos hlt1] at HFW
       have HF3:=HFW
       go_quiet (fail)
       go_wp2_with fail
       go_quiet (fail)
       go_wp2_with fail
       go_ret3
       exact⟨.slice none 0 0,false,(by rw[HF3.out];rfl),by rw[HF3.out];exact zBi.nil _ _,HB7.out.trans ((zAa _ _ _).trans (zAa _ _ _))⟩
     · rw[if_neg hlt1] at HFW
       have HQ:=hid (fun n=>(⟨HFW.out,HM7.out.below (zAa _ _ n),HS7.out,(fun x=>by unfold updS;split <;> (have:=hub x;have:=hub nm;push_cast;omega)),HB7.out.trans (zAa _ _ n)⟩:fwdF ss c=fwdG c (k+1) (ss.drop (k+1)) (updS u nm (u nm+1))∧MapV Tryz.prog (w7.drewN n) 9 w.heap.size (k+1) _∧SgOk _ (updS u nm (u nm+1))∧(∀x,0≤updS u nm (u nm+1) x∧updS u nm (u nm+1) x≤((k+1:Nat):Int))∧Below w.heap.size w (w7.drewN n)))
       go_quiet (fail)
       go_wp2_with fail
       go_roundw
       case rel=>exact⟨k+1,_,_,by omega,by go_num,(HQ.out _)⟩
       case measure=>simp[intOf];omega
   have e3:(kd==3)=false:=by simpa using hk3
   rw[if_neg hk3] at HFW
   obtain⟨hcell,-⟩:=zD8 hce.hw (i:=k) hlt
   have y0:we.cell? ⟨wr.heap.size,0,none⟩=some (.int .i64 kd):=cR hxe rfl
   have d2:we.cell? ⟨g,2,none⟩=some (.slice (some ⟨gw,0,none⟩) ss.length wc):=cR hce.row rfl
   have d7:we.cell? ⟨g,7,none⟩=some (.bool c.stop):=cR hce.row rfl
   obtain⟨v,hv9⟩:∃v,v=c.W k:=⟨_,rfl⟩
   rw[show c.went.getD k 0=v from hv9.symm] at hcell
   rw[← hv9] at HFW
   obtain⟨sto,hsto⟩:∃x,x=c.stop:=⟨_,rfl⟩
   rw[← hsto] at HFW d7
   clear hv9 hsto hk3
   by_cases hk2:kd=2
   · subst hk2
     by_cases hW1:v=1
     · rw[if_pos ⟨rfl,hW1⟩] at HFW
       subst hW1
       rw[HWE.out] at y0 d2 hcell d7 hbe
       have HB:=hid hbe
       clear be hxe hce hmu hsu hub hbe
       go_wp2_with fail
       go_quiet (fail)
       go_wp2_with fail
       go_ret3
       exact⟨.slice none 0 0,false,(by rw[HFW.out];rfl),by rw[HFW.out];exact zBi.nil _ _,HB.out.trans (zAa _ _ _)⟩
     rw[if_neg (fun q=>hW1 q.2)] at HFW
     rw[if_neg hW1] at HFW
     have w1:(v==1)=false:=by simpa using hW1
     by_cases hW3:v=3
     · rw[if_pos hW3] at HFW
       subst hW3
       rw[HWE.out] at y0 d2 hcell d7 hbe
       have HB:=hid hbe
       clear be hxe hce hmu hsu hub hbe
       go_wp2_with fail
       go_ret3
       exact⟨.slice none 0 0,false,(by rw[HFW.out];rfl),by rw[HFW.out];exact zBi.nil _ _,HB.out⟩
     rw[if_neg hW3] at HFW
     have w3:(v==3)=false:=by simpa using hW3
     by_cases hW2:v=2
     · rw[if_pos hW2] at HFW
       subst hW2
       have HQ:=hid (⟨HFW.out,(hmu.below be).mono (Nat.le_succ k),hsu,(fun x=>by have:=hub x;push_cast;omega),hbe⟩:fwdF ss c=fwdG c (k+1) (ss.drop (k+1)) u∧MapV Tryz.prog we 9 w.heap.size (k+1) f∧SgOk f u∧(∀x,0≤u x∧u x≤((k+1:Nat):Int))∧Below w.heap.size w we)
       rw[HWE.out] at y0 d2 hcell d7
       clear be hxe hce hbe hmu hsu hub
       go_wp2_with fail
       rw[← HWE.out]
       go_roundw
       case rel=>exact⟨k+1,_,_,by omega,by go_num,HQ.out⟩
       case measure=>simp[intOf];omega
     rw[if_neg hW2] at HFW
     have w2:(v==2)=false:=by simpa using hW2
     by_cases hS:sto=true
     · rw[if_pos hS] at HFW
       subst hS
       rw[HWE.out] at y0 d2 hcell d7 hbe
       have HB:=hid hbe
       clear be hxe hce hmu hsu hub hbe
       go_wp2_with fail
       go_ret3
       exact⟨.slice none 0 0,false,(by rw[HFW.out];rfl),by rw[HFW.out];exact zBi.nil _ _,HB.out⟩
     rw[if_neg hS] at HFW
     obtain rfl:sto=false:=by simpa using hS
     rw[if_pos rfl] at HFW
     rw[HWE.out] at y0 d2 hcell d7 hbe
     have HB:=hid hbe
     clear be hxe hce hmu hsu hub hbe
     have HO:=hid (zBi.one (wr.alloc (.cells #[.int .i64 2,.string ⟨nm.toArray⟩,.string ⟨un.toArray⟩,.int .i64 tr,.int .i64 ut,.int .i64 wt] 77)) w.heap.size HB.out.size 2 (k:Int) false)
     go_wp2_with fail
     go_ret3
     exact⟨.slice (some ⟨(wr.alloc (.cells #[.int .i64 2,.string ⟨nm.toArray⟩,.string ⟨un.toArray⟩,.int .i64 tr,.int .i64 ut,.int .i64 wt] 77)).heap.size,0,none⟩) 1 1,false,(by rw[HFW.out,World.size_alloc];rfl),by rw[HFW.out];exact HO.out,HB.out.alloc HB.out.size _⟩
   have e2:(kd==2)=false:=by simpa using hk2
   rw[if_neg (fun q=>hk2 q.1)] at HFW
   by_cases hW1:v=1
   · rw[if_pos hW1] at HFW
     subst hW1
     rw[HWE.out] at y0 d2 hcell d7 hbe
     have HB:=hid hbe
     clear be hxe hce hmu hsu hub hbe
     go_wp2_with fail
     go_ret3
     exact⟨.slice none 0 0,false,(by rw[HFW.out];rfl),by rw[HFW.out];exact zBi.nil _ _,HB.out⟩
   rw[if_neg hW1] at HFW
   have w1:(v==1)=false:=by simpa using hW1
   by_cases hW3:v=3
   · rw[if_pos hW3] at HFW
     subst hW3
     rw[HWE.out] at y0 d2 hcell d7 hbe
     have HB:=hid hbe
     clear be hxe hce hmu hsu hub hbe
     go_wp2_with fail
     go_ret3
     exact⟨.slice none 0 0,false,(by rw[HFW.out];rfl),by rw[HFW.out];exact zBi.nil _ _,HB.out⟩
   rw[if_neg hW3] at HFW
   have w3:(v==3)=false:=by simpa using hW3
   by_cases hW2:v=2
   · rw[if_pos hW2] at HFW
     subst hW2
     have HQ:=hid (⟨HFW.out,(hmu.below be).mono (Nat.le_succ k),hsu,(fun x=>by have:=hub x;push_cast;omega),hbe⟩:fwdF ss c=fwdG c (k+1) (ss.drop (k+1)) u∧MapV Tryz.prog we 9 w.heap.size (k+1) f∧SgOk f u∧(∀x,0≤u x∧u x≤((k+1:Nat):Int))∧Below w.heap.size w we)
     rw[HWE.out] at y0 d2 hcell d7
     clear be hxe hce hbe hmu hsu hub
     go_wp2_with fail
     rw[← HWE.out]
     go_roundw
     case rel=>exact⟨k+1,_,_,by omega,by go_num,HQ.out⟩
     case measure=>simp[intOf];omega
   rw[if_neg hW2] at HFW
   have w2:(v==2)=false:=by simpa using hW2
   by_cases hS:sto=true
   · rw[if_pos hS] at HFW
     subst hS
     rw[HWE.out] at y0 d2 hcell d7 hbe
     have HB:=hid hbe
     clear be hxe hce hmu hsu hub hbe
     go_wp2_with fail
     go_ret3
     exact⟨.slice none 0 0,false,(by rw[HFW.out];rfl),by rw[HFW.out];exact zBi.nil _ _,HB.out⟩
   rw[if_neg hS] at HFW
   obtain rfl:sto=false:=by simpa using hS
   rw[if_neg hk2] at HFW
   rw[HWE.out] at y0 d2 hcell d7 hbe
   have HB:=hid hbe
   clear be hxe hce hmu hsu hub hbe
   have HO:=hid (zBi.one (wr.alloc (.cells #[.int .i64 kd,.string ⟨nm.toArray⟩,.string ⟨un.toArray⟩,.int .i64 tr,.int .i64 ut,.int .i64 wt] 77)) w.heap.size HB.out.size 1 (k:Int) false)
   go_wp2_with fail
   go_ret3
   exact⟨.slice (some ⟨(wr.alloc (.cells #[.int .i64 kd,.string ⟨nm.toArray⟩,.string ⟨un.toArray⟩,.int .i64 tr,.int .i64 ut,.int .i64 wt] 77)).heap.size,0,none⟩) 1 1,false,(by rw[HFW.out,World.size_alloc];rfl),by rw[HFW.out];exact HO.out,HB.out.alloc HB.out.size _⟩
end Go.Proofs.YtkedafopdkhnfaaGreat
namespace Go.Proofs.YtkedafopdkhnfaaGreat
open Go.RowKit Go.Shelf
set_option linter.unusedVariables false
set_option linter.unusedSimpArgs false
attribute [local go_sem] Oper.semAt_some
def zGd{α:Type}(zs:List α):List (Nat×α):=(zs.zipIdx.reverse).map (fun p=>(p.2,p.1))
theorem zH2{α:Type}(zs:List α):(zGd zs).length=zs.length:=by simp[zGd]
theorem zR5{α:Type}(zs:List α)(k:Nat)(h:k<(zGd zs).length):(zGd zs)[k]=(zs.length - 1 - k,zs[zs.length - 1 - k]'(by rw[zH2] at h;omega)):=by
 simp[zGd]
theorem zKr{α:Type}(zs:List α):(zGd zs).map (·.2)=zs.reverse:=by
 unfold zGd
 rw[List.map_map]
 show(zs.zipIdx.reverse).map (fun p=>p.1)=_
 rw[List.map_reverse,List.zipIdx_map_fst]
theorem zM6{n:Nat}:∀l:List Int,(∀x∈l,∃i:Nat,x=(i:Int)∧i<n)→∃zs:List (Fin n),l=zs.map (fun i=>((i.val:Nat):Int))
 | [],_=>⟨[],rfl⟩
 | x :: r,h=>by
   obtain⟨i,hi,hl⟩:=h x (List.mem_cons_self ..)
   obtain⟨zs,hz⟩:=zM6 r (fun y hy=>h y (List.mem_cons_of_mem _ hy))
   exact⟨⟨i,hl⟩ :: zs,by rw[hz,hi];rfl⟩
def zKd(ss:List St)(c:Crs)(x:Int):Prop:=zB2 ss x=[]∨(c.U x.toNat≠0∧c.U x.toNat≠1∧c.U x.toNat≠3)
theorem zGv{ss:List St}{c:Crs}:∀(l r:List Int),(∀x∈l,zKd ss c x)→zB4 ss c (l++r)=zB4 ss c r
 | [],r,_=>rfl
 | x :: l,r,h=>by
   have ih:=zGv l r (fun y hy=>h y (List.mem_cons_of_mem _ hy))
   rw[List.cons_append]
   simp only[zB4]
   rcases h x (List.mem_cons_self ..) with q | ⟨q0,q1,q3⟩
   · rw[if_pos q];exact ih
   · rw[if_neg q0,if_neg q1,if_neg q3,ih];split <;> rfl
def zKb(ss:List St)(c:Crs)(x:Int)(r:List Cmd):Prop:=zB2 ss x≠[]∧((c.U x.toNat=0∧r=[(1,x,true)])∨(c.U x.toNat=1∧r=[])∨(c.U x.toNat=3∧r=[(5,0,false)]))
theorem zRv{ss:List St}{c:Crs}{x:Int}{r:List Cmd}(h:zKb ss c x r)(l:List Int):zB4 ss c (x :: l)=r:=by
 obtain⟨h0,h1⟩:=h
 simp only[zB4]
 rw[if_neg h0]
 rcases h1 with ⟨q,rfl⟩ | ⟨q,rfl⟩ | ⟨q,rfl⟩
 · rw[if_pos q]
 · rw[if_neg (by omega),if_pos q]
 · rw[if_neg (by omega),if_neg (by omega),if_pos q]
def zMv(ss:List St)(c:Crs)(w:World)(e:Ending)(w':World):Prop:=∃v:Value,e=.returned v∧zBi w' w.heap.size v (zB4 ss c c.done.reverse)∧Below w.heap.size w w'
theorem zJ5{w w':World}{B k n:Nat}{e:TypeId}{v:Value}{xs:List Value}{row:Option Nat}(h:w.ownsRow B e k v n xs)(hg:w.grownBy w' row)(hr:∀r,row=some r→∃o,w.heap[r]?=some o∧o.isCells=false):w'.ownsRow B e k v n xs:=by
 refine h.kept hg ?_
 rcases h.2 with ⟨rfl,_⟩ | ⟨g',cap',cur,rfl,_,hg',_⟩
 · exact .inl rfl
 · right
   intro q
   obtain⟨o,ho,hc⟩:=hr g' q.symm
   rw[hg'] at ho
   cases ho
   cases hc
theorem zBi.kept{w w':World}{B:Nat}{v:Value}{l:List Cmd}{row:Option Nat}(h:zBi w B v l)(hg:w.grownBy w' row)(hr:∀r,row=some r→∃o,w.heap[r]?=some o∧o.isCells=false):zBi w' B v l:=by
 obtain⟨a,c,h1,h2⟩:=h
 exact⟨a,c,h1,zJ5 h2 hg hr⟩
theorem zBi.at_other{w:World}{B:Nat}{v:Value}{l:List Cmd}(h:zBi w B v l){g:Nat}(u:Value)(hg:v.ownBlock≠some g):zBi (w.setCell ⟨g,0,none⟩ u) B v l:=by
 obtain⟨a,c,h1,h2⟩:=h
 exact⟨a,c,h1,h2.kept ((At.refl g w).set 0 u) (.inr hg)⟩
theorem zLw(B D g N:Nat)(ss:List St)(lim:Int)(c:Crs)(va:Option Addr)(gw gu vc wc uc:Nat)(da:Option Addr)(dc:Nat)(pm sm:Nat)(hsl:ss.length≤16)(hwl:c.went.length=ss.length)(hul:c.undone.length=ss.length)(hdl:c.done.length≤1000)(zs:List (Fin ss.length))(hz:c.done=zs.map (fun i=>((i.val:Nat):Int)))
 (w:World)(hc:CM B D w g ss lim c (.slice va ss.length vc) (.slice (some ⟨gw,0,none⟩) ss.length wc) (.slice (some ⟨gu,0,none⟩) ss.length uc) (.slice da c.done.length dc) pm sm N)
 (F:Fence)(n:Nat)(h4:F.fn 30)(h6:F.fn 27)(h8:F.fn 35)(hro:F.round=none)(hn:3≤n) :
 CallsIn F n Tryz.prog 30 #[.pointer (some ⟨g,0,none⟩)] w (zMv ss c w):=by
 have h1:1≤n:=by omega
 have HZ:=hid hz
 have HC:=hid hc
 refine callsIn_of_wp_marks Tryz.func30 rfl h4 ?_ hro
 simp only[Tryz.ntmps30,List.size_toArray,List.length_cons,List.length_nil,Nat.reduceAdd,Nat.reduceSub,Array.replicate_succ,Array.replicate_zero,List.push_toArray,List.append_toArray,List.nil_append,List.cons_append]
 have d5:w.cell? ⟨g,5,none⟩=some (.slice da c.done.length dc):=cR hc.row rfl
 have hgl:g<w.heap.size:=(gL hc.row)
 clear hz hc
 gi_wp2_with (gi_at_call 27;refine(zPb F (n - 1) h6 hro _ _ _ _).mono ?_;rintro e w' ⟨rfl,rfl⟩)
 have hcdl:c.done.length=zs.length:=by rw[HZ.out,List.length_map]
 have HCDL:=hid hcdl
 obtain⟨w2,hw2⟩:∃x,x=(((w.alloc (.cells #[.pointer (some ⟨g,0,none⟩)] 78)).alloc (.cells #[.slice none 0 0] 48)).alloc (.cells #[.slice da c.done.length dc] 33)):=⟨_,rfl⟩
 have s0:(w.alloc (.cells #[.pointer (some ⟨g,0,none⟩)] 78)).heap.size=w.heap.size+1:=Array.size_push ..
 have s1:((w.alloc (.cells #[.pointer (some ⟨g,0,none⟩)] 78)).alloc (.cells #[.slice none 0 0] 48)).heap.size=w.heap.size+1+1:=by rw[World.size_alloc,s0]
 have hB0:Below w.heap.size w w2:=by rw[hw2];exact(((Below.refl _ w).alloc (Nat.le_refl _) _).alloc (by omega) _).alloc (by omega) _
 have sz:w2.heap.size=w.heap.size+1+1+1:=by rw[hw2,World.size_alloc,s1]
 have m2:=(Below.refl (w.alloc (.cells #[.pointer (some ⟨g,0,none⟩)] 78)).heap.size _).alloc (Nat.le_refl _) (.cells #[.slice none 0 0] 48)
 have m3:=(Below.refl ((w.alloc (.cells #[.pointer (some ⟨g,0,none⟩)] 78)).alloc (.cells #[.slice none 0 0] 48)).heap.size _).alloc (Nat.le_refl _) (.cells #[.slice da c.done.length dc] 33)
 have r0:w2.heap[w.heap.size]?=some (.cells #[.pointer (some ⟨g,0,none⟩)] 78 (0,0)):=by rw[hw2,m3.block _ (by omega),m2.block _ (by omega)];exact heap_alloc_new w _
 have r1:w2.heap[w.heap.size+1]?=some (.cells #[.slice none 0 0] 48 (0,0)):=by rw[hw2,m3.block _ (by omega),← s0];exact heap_alloc_new _ _
 have r2:w2.heap[w.heap.size+1+1]?=some (.cells #[.slice da c.done.length dc] 33 (0,0)):=by rw[hw2,← s1];exact heap_alloc_new _ _
 have c2:w2.cell? ⟨w.heap.size+1+1,0,none⟩=some (.slice da c.done.length dc):=cR r2 rfl
 have hc2:=HC.out.below (hB0)
 have hdm:c.done.length≤maxLen:=by unfold maxLen;omega
 have hSd:Sl w2 (.slice da c.done.length dc) 1 c.done.length (c.done.map iv):=by
  have:=Sl.of_own hc2.hd hdm
  rw[zJy] at this;exact this
 have hund:zIr w2.heap.size (.slice da c.done.length dc):=fun b q=>by have:=(HC.out.hd.lt b q).2;omega
 have hDl:(zGd zs).length=c.done.length:=by rw[zH2,hcdl]
 have hen:∀k (h:k<(zGd zs).length),(fun x:Nat×Fin ss.length=>(#[Value.int .i64 (x.1:Int),Value.int .i64 ((x.2.val:Nat):Int)]:Array Value)) (zGd zs)[k]=#[.int .i64 ((c.done.length - 1 - k:Nat):Int),.int .i64 (c.done[c.done.length - 1 - k]?.getD 0)]:=fun k h=>by
  rw[zR5 zs k h]
  have hk:zs.length - 1 - k<zs.length:=by rw[zH2] at h;omega
  simp only[HZ.out,List.length_map,List.getElem?_map,List.getElem?_eq_getElem hk]
  rfl
 have HW2:=hid hw2
 have HR0:=hid r0
 have HR1:=hid r1
 have HSZ:=hid sz
 rw[← hw2]
 have hst:=zNz (fun x:Nat×Fin ss.length=>(#[Value.int .i64 (x.1:Int),Value.int .i64 ((x.2.val:Nat):Int)]:Array Value)) (zGd zs) c.done hDl hen F (n - 1) h8 hro (by omega) (w.heap.size+1+1) w2.heap.size da dc (by omega) w2 (by omega) (Nat.le_refl _) c2 hSd hund
 clear hw2 r0 r1 r2 sz s0 s1 m2 m3 c2 hSd hund hDl hen hcdl d5
 refine wpIn_rangeFunc_ownF hro h1 (gf:=35) (lb:=#[.pointer (some ⟨w.heap.size+1+1,0,none⟩)]) rfl h8 (enters_of Tryz.func35 (by kernel_rfl) rfl)
  hst belowK_t (belowK_b (Nat.le_refl _)) (Below.refl _ _) (fun _=>rfl)
  (fun pre W=>(∀p∈pre,zKd ss c ((p.2.val:Nat):Int))∧Below w2.heap.size w2 W)
  (fun cde pre W=>(cde=.ret∧∃ini last r v,pre=ini ++ [last]∧(∀p∈ini,zKd ss c ((p.2.val:Nat):Int))∧zKb ss c ((last.2.val:Nat):Int) r∧W.cell? ⟨w.heap.size+1,0,none⟩=some v∧zBi W w.heap.size v r)∧Below w.heap.size w W)
  (OwnFrom.and (ownFrom_pure _ _) (ownFrom_below (Nat.le_refl _) (Nat.le_refl _)))
  (fun cde=>OwnFrom.and (Own.from (fun s A B row hs hg hr=>by obtain⟨hc,ini,last,r,v,e1,e2,e3,e4,e5⟩:=hs;exact⟨hc,ini,last,r,v,e1,e2,e3,cell_kept e4 hg hr,e5.kept hg hr⟩) _) (ownFrom_below (Nat.le_refl _) (by have:=HSZ.out;omega)))
  ⟨by simp,Below.refl _ _⟩
  (fun x=>{ tmps:=#[.pointer (some ⟨g,0,none⟩),.pointer (some ⟨w.heap.size,0,none⟩),.pointer (some ⟨w.heap.size+1,0,none⟩),undef,.int .i64 ((x.2.val:Nat):Int),.pointer (some ⟨g,0,none⟩),.pointer (some ⟨g,0,none⟩),.pointer (some ⟨g,5,none⟩),.slice da c.done.length dc,.func (.func 35) #[] #[.pointer (some ⟨w.heap.size+1+1,0,none⟩)],.int .i64 (x.1:Int),.int .i64 ((x.2.val:Nat):Int),undef,undef,undef,undef,undef,undef,undef,undef,undef,undef,undef,undef,undef,undef,undef,undef,undef,undef,undef,undef,undef,undef,undef,undef,undef,undef,undef,undef,undef,undef],defers:=[] }) ?assign ?body ?done ?stop
 case assign =>
  intro l x W K hK
  gi_wp2
  exact hK
 case body =>
  rintro l pre ⟨j,⟨i,hil⟩⟩ W ⟨hp,hB⟩ _
  have hx0:=(hB.block _ (by have:=HSZ.out;omega)).trans HR0.out
  have hx1:=(hB.block _ (by have:=HSZ.out;omega)).trans HR1.out
  have hcw:=hc2.below hB
  have x0:W.cell? ⟨w.heap.size,0,none⟩=some (.pointer (some ⟨g,0,none⟩)):=cR hx0 rfl
  have x1:W.cell? ⟨w.heap.size+1,0,none⟩=some (.slice none 0 0):=cR hx1 rfl
  have xf1:=frozen_of_row W _ 0 _ _ hx1
  have d0:W.cell? ⟨g,0,none⟩=some (.slice va ss.length vc):=cR hcw.row rfl
  have d3:W.cell? ⟨g,3,none⟩=some (.slice (some ⟨gu,0,none⟩) ss.length uc):=cR hcw.row rfl
  have hstp:=hcw.hs
  obtain⟨_,_,a',cap',hv,hcc⟩:=hstp
  rw[Value.slice.injEq] at hv
  obtain⟨rfl,-,rfl⟩:=hv
  obtain⟨sb,off,rfl,hblt,hcc⟩:=hcc.resolve_left (by omega)
  have k2:W.cell? ⟨sb,off+i*6+2,none⟩=some (.string ⟨ss[i].2.2.1.toArray⟩):=zAp hcc i 2 (by decide) hil _ rfl
  obtain⟨hcell,-⟩:=zD8 hcw.hu (i:=i) hil
  have hun:zB2 ss ((i:Nat):Int)=ss[i].2.2.1:=by
   unfold zB2
   rw[Int.toNat_natCast,List.getD_eq_getElem?_getD,List.getElem?_eq_getElem hil];rfl
  have hU:c.U ((i:Nat):Int).toNat=c.undone.getD i 0:=by rw[Int.toNat_natCast];rfl
  have hi0:(0:Int)≤(i:Int):=by omega
  have hi1:(i:Int)<(ss.length:Int):=by omega
  obtain⟨un,hunq⟩:∃un,un=ss[i].2.2.1:=⟨_,rfl⟩
  rw[← hunq] at k2 hun
  obtain⟨u,huq⟩:∃u,u=c.undone.getD i 0:=⟨_,rfl⟩
  rw[← huq] at hcell hU
  have HUN:=hid hun
  have HU:=hid hU
  have HP:=hid hp
  have HB:=hid hB
  have hwl2:Below w.heap.size w W:=hB0.trans (hB.mono (by have:=HSZ.out;omega))
  have HBW:=hid hwl2
  clear hx0 hx1 hcw hcc hunq huq hun hU hp hB hwl2
  have pass:zKd ss c ((i:Nat):Int)→∀p∈pre ++ [(⟨j,⟨i,hil⟩⟩:Nat×Fin ss.length)],zKd ss c ((p.2.val:Nat):Int):=fun h p hp=>by
   rcases List.mem_append.1 hp with q | q
   · exact HP.out p q
   · rw[List.mem_singleton] at q;subst q;exact h
  have HPASS:=hid pass
  clear pass
  cases un with
  | nil =>
    have hpp:=hid (HPASS.out (.inl HUN.out))
    gi_wp2
    exact⟨KeepsOthers.refl _,Below.refl _ _,hpp.out,HB.out⟩
  | cons u0 ur =>
    have hne:zB2 ss ((i:Nat):Int)≠[]:=by rw[HUN.out];simp
    have HNE:=hid hne
    clear hne
    by_cases hu0:u=0
    · subst hu0
      have HBA:=hid (show zKb ss c ((i:Nat):Int) [(1,(i:Int),true)] from⟨HNE.out,.inl ⟨HU.out,rfl⟩⟩)
      have hno:=hid ((zBi.one W w.heap.size HBW.out.size 1 (i:Int) true).at_other (g:=w.heap.size+1) (.slice (some ⟨W.heap.size,0,none⟩) 1 1) (fun q=>by simp[Value.ownBlock] at q;have:=HB.out.size;have:=HSZ.out;omega))
      have hbw:=hid ((HBW.out.alloc HBW.out.size (.cells #[.int .i64 1,.int .i64 (i:Int),.bool true] 55)).setCell (p:=⟨w.heap.size+1,0,none⟩) (Nat.le_succ _) (.slice (some ⟨W.heap.size,0,none⟩) 1 1))
      have x1':(W.alloc (.cells #[.int .i64 1,.int .i64 (i:Int),.bool true] 55)).cell? ⟨w.heap.size+1,0,none⟩=some (.slice none 0 0):=(((Below.refl W.heap.size W).alloc (Nat.le_refl _) _).cell (p:=⟨w.heap.size+1,0,none⟩) (by have:=HB.out.size;have:=HSZ.out;simp;omega)).trans x1
      have xf1':(W.alloc (.cells #[.int .i64 1,.int .i64 (i:Int),.bool true] 55)).frozen? ⟨w.heap.size+1,0,none⟩=false:=(((Below.refl W.heap.size W).alloc (Nat.le_refl _) _).frozen (p:=⟨w.heap.size+1,0,none⟩) (by have:=HB.out.size;have:=HSZ.out;simp;omega)).trans xf1
      gi_wp2
      exact⟨(KeepsOthers.alloc _ _).trans (KeepsOthers.setCell _ _ _),⟨⟨rfl,pre,⟨j,⟨i,hil⟩⟩,[(1,(i:Int),true)],_,rfl,HP.out,HBA.out,World.cell?_setCell_same' _ _ _ (by rw[x1'];rfl),hno.out⟩,hbw.out⟩⟩
    have e0:(u==0)=false:=by simpa using hu0
    by_cases hu1:u=1
    · subst hu1
      have HBA:=hid (show zKb ss c ((i:Nat):Int) [] from⟨HNE.out,.inr (.inl ⟨HU.out,rfl⟩)⟩)
      have hbw:=hid (HBW.out.setCell (p:=⟨w.heap.size+1,0,none⟩) (Nat.le_succ _) (.slice none 0 0))
      gi_wp2
      exact⟨KeepsOthers.setCell _ _ _,⟨⟨rfl,pre,⟨j,⟨i,hil⟩⟩,[],.slice none 0 0,rfl,HP.out,HBA.out,World.cell?_setCell_same' _ _ _ (by rw[x1];rfl),zBi.nil _ _⟩,hbw.out⟩⟩
    have e1:(u==1)=false:=by simpa using hu1
    by_cases hu3:u=3
    · subst hu3
      have HBA:=hid (show zKb ss c ((i:Nat):Int) [(5,0,false)] from⟨HNE.out,.inr (.inr ⟨HU.out,rfl⟩)⟩)
      have hno:=hid ((zBi.one W w.heap.size HBW.out.size 5 0 false).at_other (g:=w.heap.size+1) (.slice (some ⟨W.heap.size,0,none⟩) 1 1) (fun q=>by simp[Value.ownBlock] at q;have:=HB.out.size;have:=HSZ.out;omega))
      have hbw:=hid ((HBW.out.alloc HBW.out.size (.cells #[.int .i64 5,.int .i64 0,.bool false] 55)).setCell (p:=⟨w.heap.size+1,0,none⟩) (Nat.le_succ _) (.slice (some ⟨W.heap.size,0,none⟩) 1 1))
      have x1':(W.alloc (.cells #[.int .i64 5,.int .i64 0,.bool false] 55)).cell? ⟨w.heap.size+1,0,none⟩=some (.slice none 0 0):=(((Below.refl W.heap.size W).alloc (Nat.le_refl _) _).cell (p:=⟨w.heap.size+1,0,none⟩) (by have:=HB.out.size;have:=HSZ.out;simp;omega)).trans x1
      have xf1':(W.alloc (.cells #[.int .i64 5,.int .i64 0,.bool false] 55)).frozen? ⟨w.heap.size+1,0,none⟩=false:=(((Below.refl W.heap.size W).alloc (Nat.le_refl _) _).frozen (p:=⟨w.heap.size+1,0,none⟩) (by have:=HB.out.size;have:=HSZ.out;simp;omega)).trans xf1
      gi_wp2
      exact⟨(KeepsOthers.alloc _ _).trans (KeepsOthers.setCell _ _ _),⟨⟨rfl,pre,⟨j,⟨i,hil⟩⟩,[(5,0,false)],_,rfl,HP.out,HBA.out,World.cell?_setCell_same' _ _ _ (by rw[x1'];rfl),hno.out⟩,hbw.out⟩⟩
    have e3:(u==3)=false:=by simpa using hu3
    have hpp:=hid (HPASS.out (.inr (by rw[HU.out];exact⟨hu0,hu1,hu3⟩)))
    clear hu0 hu1 hu3
    gi_wp2
    exact⟨KeepsOthers.refl _,Below.refl _ _,hpp.out,HB.out⟩
 case done =>
  rintro Dd ys W hD rfl ⟨hp,hB⟩ hK
  have hx1:=(hB.block _ (by have:=HSZ.out;omega)).trans HR1.out
  have x1:W.cell? ⟨w.heap.size+1,0,none⟩=some (.slice none 0 0):=cR hx1 rfl
  have xf1:=frozen_of_row W _ 0 _ _ hx1
  have hbg:zB4 ss c c.done.reverse=[(4,0,false)]:=by
   have e:c.done.reverse=(zGd zs).map (fun p=>((p.2.val:Nat):Int)):=by
    rw[HZ.out,← List.map_reverse,← zKr,List.map_map];rfl
   rw[e,← List.append_nil ((zGd zs).map _),zGv _ _ (fun x hx=>by obtain⟨p,h1,rfl⟩:=List.mem_map.1 hx;exact hp p h1)]
   rfl
  have HBG:=hid hbg
  have hwl2:Below w.heap.size w W:=hB0.trans (hB.mono (by have:=HSZ.out;omega))
  have HBW:=hid hwl2
  have hno:=hid ((zBi.one W w.heap.size hwl2.size 4 0 false).at_other (g:=w.heap.size+1) (.slice (some ⟨W.heap.size,0,none⟩) 1 1) (fun q=>by simp[Value.ownBlock] at q;have:=hB.size;have:=HSZ.out;omega))
  have hbw:=hid ((hwl2.alloc hwl2.size (.cells #[.int .i64 4,.int .i64 0,.bool false] 55)).setCell (p:=⟨w.heap.size+1,0,none⟩) (Nat.le_succ _) (.slice (some ⟨W.heap.size,0,none⟩) 1 1))
  have x1':(W.alloc (.cells #[.int .i64 4,.int .i64 0,.bool false] 55)).cell? ⟨w.heap.size+1,0,none⟩=some (.slice none 0 0):=(((Below.refl W.heap.size W).alloc (Nat.le_refl _) _).cell (p:=⟨w.heap.size+1,0,none⟩) (by have:=hB.size;have:=HSZ.out;simp;omega)).trans x1
  have xf1':(W.alloc (.cells #[.int .i64 4,.int .i64 0,.bool false] 55)).frozen? ⟨w.heap.size+1,0,none⟩=false:=(((Below.refl W.heap.size W).alloc (Nat.le_refl _) _).frozen (p:=⟨w.heap.size+1,0,none⟩) (by have:=hB.size;have:=HSZ.out;simp;omega)).trans xf1
  clear hp hB hx1 hbg hwl2
  gi_wp2
  have hK':=((KeepsOthers.alloc W (.cells #[.int .i64 4,.int .i64 0,.bool false] 55)).trans (KeepsOthers.setCell _ ⟨w.heap.size+1,0,none⟩ (.slice (some ⟨W.heap.size,0,none⟩) 1 1))).same Dd _ hK rfl
  refine⟨by simp,.inl ⟨_,_,rfl,run_takeDeferred hK',?_⟩⟩
  have hrow:∀r,some Dd=some r→∃o,((W.alloc (.cells #[.int .i64 4,.int .i64 0,.bool false] 55)).setCell ⟨w.heap.size+1,0,none⟩ (.slice (some ⟨W.heap.size,0,none⟩) 1 1)).heap[r]?=some o∧o.isCells=false:=fun r e=>by cases e;exact⟨_,hK',rfl⟩
  have hc5:=cell_kept (World.cell?_setCell_same' (W.alloc (.cells #[.int .i64 4,.int .i64 0,.bool false] 55)) ⟨w.heap.size+1,0,none⟩ (.slice (some ⟨W.heap.size,0,none⟩) 1 1) (by rw[x1'];rfl)) (grownBy_putObj' _ Dd (.deferred none)) hrow
  refine⟨.slice (some ⟨W.heap.size,0,none⟩) 1 1,?_,_,rfl,by rw[HBG.out];exact hno.out.kept (grownBy_putObj' _ Dd (.deferred none)) hrow,hbw.out.trans (belowK_b (w:=w) (Nat.le_refl _) _ Dd _ _ (by have:=HSZ.out;omega) hK' rfl rfl)⟩
  simp[results,Tryz.f30,go_sem,hc5]
 case stop =>
  rintro Dd cde pre W hD hpre ⟨⟨rfl,ini,last,r,v,e1,e2,e3,hcr,hcm⟩,hB⟩ hK
  gi_wp2
  refine⟨by simp,.inl ⟨_,_,rfl,run_takeDeferred hK,?_⟩⟩
  have hrow:∀q,some Dd=some q→∃o,W.heap[q]?=some o∧o.isCells=false:=fun q e=>by cases e;exact⟨_,hK,rfl⟩
  have hc5:=cell_kept hcr (grownBy_putObj' _ Dd (.deferred none)) hrow
  have hbg:zB4 ss c c.done.reverse=r:=by
   obtain⟨t,ht⟩:=hpre
   have e:c.done.reverse=(zGd zs).map (fun p=>((p.2.val:Nat):Int)):=by
    rw[HZ.out,← List.map_reverse,← zKr,List.map_map];rfl
   rw[e,← ht,e1,List.append_assoc,List.map_append,zGv _ _ (fun x hx=>by obtain⟨p,h1,rfl⟩:=List.mem_map.1 hx;exact e2 p h1),List.singleton_append,List.map_cons]
   exact zRv e3 _
  refine⟨v,?_,_,rfl,by rw[hbg];exact hcm.kept (grownBy_putObj' _ Dd (.deferred none)) hrow,hB.trans (belowK_b (w:=w) (Nat.le_refl _) _ Dd _ _ (by have:=HSZ.out;omega) hK rfl rfl)⟩
  simp[results,Tryz.f30,go_sem,hc5]
theorem zKh(B D g N:Nat)(ss:List St)(lim:Int)(c:Crs)(va:Option Addr)(gw gu vc wc uc:Nat)(vd:Value)(pm sm:Nat)(hsl:ss.length≤16)(hwl:c.went.length=ss.length)(hul:c.undone.length=ss.length)(hdl:c.done.length≤1000)(hz:∀x∈c.done,∃i:Nat,x=(i:Int)∧i<ss.length)
 (w:World)(hc:CM B D w g ss lim c (.slice va ss.length vc) (.slice (some ⟨gw,0,none⟩) ss.length wc) (.slice (some ⟨gu,0,none⟩) ss.length uc) vd pm sm N) :
 Calls Tryz.prog 30 #[.pointer (some ⟨g,0,none⟩)] w (zMv ss c w):=by
 obtain⟨zs,hzs⟩:=zM6 c.done hz
 have hd:∃(da:Option Addr) (dc:Nat),vd=.slice da c.done.length dc:=by
  rcases hc.hd.2 with ⟨h1,h2⟩ | ⟨g',cap',cur,h1,_⟩
  · exact⟨none,0,by rw[h1,h2]⟩
  · exact⟨_,_,h1⟩
 obtain⟨da,dc,rfl⟩:=hd
 exact callsIn_wide.1 (zLw B D g N ss lim c va gw gu vc wc uc da dc pm sm hsl hwl hul hdl zs hzs w hc Fence.wide 3 trivial trivial trivial rfl (Nat.le_refl _))
end Go.Proofs.YtkedafopdkhnfaaGreat
