/- CONTRACT: Build. CONTRACT: wherrylaw14.awake. WHAT COMES IN: an event; a slice of events, with its capacity. -/
import Derived.Test.YtkedafopdkhnfaaGreatSmC
import Derived.Test.YtkedafopdkhnfaaGreatSmS
import Derived.Test.YtkedafopdkhnfaaGreatSmR
import Derived.Test.YtkedafopdkhnfaaGreatRows
import Derived.Test.YtkedafopdkhnfaaGreatSlices
import Derived.ProofKit
import Derived.OpenShut
import Derived.ShutString
import Derived.SliceStrings
import Derived.Deep.Fields
import Derived.SizedLaws
namespace Go.Proofs.YtkedafopdkhnfaaGreat
set_option maxRecDepth 100000
open Go.RowKit
set_option linter.unusedVariables false
set_option linter.unusedSimpArgs false
theorem StO.mono{w:World}{B B':Nat}{s:Sta}{v u c:Value}(h:StO w B s v u c)(hB:B'≤B):StO w B' s v u c:=⟨zAw h.hs hB,zAw h.hj hB,zAw h.hc hB⟩
theorem Hs.sok{l:List Ev}(h:Hs l):SOK (stOf l):=by
 by_cases hl:l=[]
 · subst hl
   refine⟨⟨by decide,by decide,by decide⟩,(fun j hj=>by cases hj),⟨⟨by decide,by decide⟩,by decide,by decide⟩,(fun x hx=>by cases hx),by decide,by decide⟩
 · have hp:=h.prog hl
   have hs:=h.short
   have hb:=h.beg hl
   have hjl:=zP0 l
   have hcl:=zL2 l
   rw[zC5 hl]
   refine⟨⟨by have:=hp.1;show(prgL l).2.length≤1000;omega,by show(zAn l).length≤1000;omega,by show(zAi l).length≤1000;omega⟩,?_,hb,?_,by show(0:Int)≤(l.length:Int)+1∧(l.length:Int)+1≤1000;omega⟩
   · intro j hj
     obtain⟨x,h1,h2,h3⟩:=h.jok j hj
     have hr:=zLc (zMz hp h1) (zCj h1).2.2
     have ht:zE0 x j.ud≤5:=by
      unfold zE0
      split
      · rcases hr.1 with ⟨_,q⟩ | ⟨_,_,q⟩ <;> omega
      · exact hr.2.2.1.2
     show 0≤j.ty∧j.ty≤100
     omega
   · intro x hx
     show 0≤x.wt∧x.wt≤1000
     rcases hp.2.2 x hx with ⟨_,q⟩ | ⟨_,q⟩ | ⟨_,q⟩
     · have:=q.2.2.2;omega
     · have:=q.2.2.2.2;omega
     · have:=q.2.2.2.2;omega
theorem zQo{w:World}{g:Nat}{t:TypeId}{a0 a1 a2 a3 a4 a5 a6 a7 a8 a9 a10 a11:Value}(h:w.heap[g]?=some (.cells #[a0,a1,a2,a3,a4,a5,a6,a7,a8,a9,a10,a11] t (0,0)))(r0 r1 r2 r3 r4 r5 r6 r7 r8 r9 r10 r11:Value):((((((((((((w.setCell ⟨g,0,none⟩ r0).setCell ⟨g,1,none⟩ r1).setCell ⟨g,2,none⟩ r2).setCell ⟨g,3,none⟩ r3).setCell ⟨g,4,none⟩ r4).setCell ⟨g,5,none⟩ r5).setCell ⟨g,6,none⟩ r6).setCell ⟨g,7,none⟩ r7).setCell ⟨g,8,none⟩ r8).setCell ⟨g,9,none⟩ r9).setCell ⟨g,10,none⟩ r10).setCell ⟨g,11,none⟩ r11).heap[g]?=some (.cells #[r0,r1,r2,r3,r4,r5,r6,r7,r8,r9,r10,r11] t (0,0)):=by
 have y1:=heap_setCell_same _ g 0 _ _ r0 h
 have y2:=heap_setCell_same _ g 1 _ _ r1 y1
 have y3:=heap_setCell_same _ g 2 _ _ r2 y2
 have y4:=heap_setCell_same _ g 3 _ _ r3 y3
 have y5:=heap_setCell_same _ g 4 _ _ r4 y4
 have y6:=heap_setCell_same _ g 5 _ _ r5 y5
 have y7:=heap_setCell_same _ g 6 _ _ r6 y6
 have y8:=heap_setCell_same _ g 7 _ _ r7 y7
 have y9:=heap_setCell_same _ g 8 _ _ r8 y8
 have y10:=heap_setCell_same _ g 9 _ _ r9 y9
 have y11:=heap_setCell_same _ g 10 _ _ r10 y10
 have y12:=heap_setCell_same _ g 11 _ _ r11 y11
 exact y12.trans (by rw[zTo])
set_option maxHeartbeats 32000000 in
theorem zHx(a:Option Addr)(c:Nat)(l:List Ev)(w:World)(hs:Sl w (.slice a l.length c) 8 l.length (l.flatMap evc))(hfit:FitE l) :
 Calls Tryz.prog 17 #[.slice a l.length c] w fun e' w'=>∃(va ua ca:Option Addr)(vc uc cc:Nat),e'=.returned (.tuple #[staV (zAm l).1 (.slice va (zAm l).1.ss.length vc) (.slice ua (zAm l).1.jobs.length uc) (.slice ca (zAm l).1.clocks.length cc),.int .i64 (zAm l).2.1,.int .i64 (zAm l).2.2])∧StO w' w.heap.size (zAm l).1 (.slice va (zAm l).1.ss.length vc) (.slice ua (zAm l).1.jobs.length uc) (.slice ca (zAm l).1.clocks.length cc)∧Below w.heap.size w w':=by
 have hm:l.length≤9223372036854775807:=hs.2.1.1
 obtain⟨w0,hw0,hg0,hg1,bW,sW⟩:=lay2 w #[.slice none 0 0,.int .i64 0,.int .i64 0,.int .i64 0,.int .i64 0,.int .i64 0,.int .i64 0,.bool false,.slice none 0 0,.slice none 0 0,.bool false,.bool false] #[.slice none 0 0,.int .i64 0,.int .i64 0,.int .i64 0,.int .i64 0,.int .i64 0,.int .i64 0,.bool false,.slice none 0 0,.slice none 0 0,.bool false,.bool false] 59 59
 have HW:=hid hw0
 have HFB:=hid (show zA9 [] l=zA9 (l.take 0) (l.drop 0) by rw[List.take_zero,List.drop_zero])
 clear hw0
 go_enter Tryz.func17,Tryz.ntmps17
 go_wp2_with fail
 rw[← HW.out]
 clear HW
 go_loopw [12] (fun n0 wr=>∃(k:Nat) (s:Sta) (va ua ca:Option Addr) (vc uc cc:Nat),k≤l.length∧n0=.int .i64 (k:Int)∧s=stOf (l.take k)∧Hs (l.take k)∧zA9 [] l=zA9 (l.take k) (l.drop k)∧wr.heap[w.heap.size]?=some (.cells #[.slice none 0 0,.int .i64 0,.int .i64 0,.int .i64 0,.int .i64 0,.int .i64 0,.int .i64 0,.bool false,.slice none 0 0,.slice none 0 0,.bool false,.bool false] 59 (0,0))∧wr.heap[w.heap.size+1]?=some (.cells #[.slice va s.ss.length vc,.int .i64 s.lim,.int .i64 s.status,.int .i64 s.next,.int .i64 s.began,.int .i64 s.asked,.int .i64 s.taken,.bool s.fresh,.slice ua s.jobs.length uc,.slice ca s.clocks.length cc,.bool s.cancel,.bool s.overdue] 59 (0,0))∧StO wr w.heap.size s (.slice va s.ss.length vc) (.slice ua s.jobs.length uc) (.slice ca s.clocks.length cc)∧Below w.heap.size w wr) (fun n0 _=>l.length - (intOf n0).toNat)
 case atStart=>exact⟨0,s0,none,none,none,0,0,0,by omega,rfl,by rw[List.take_zero];rfl,by rw[List.take_zero];exact .nil,HFB.out,hg0,hg1,StO.none _ _ s0 rfl rfl rfl,bW⟩
 case round =>
  obtain⟨k,s,va,ua,ca,vc,uc,cc,hk,rfl,hsq,hH,hfb,hz,hx,hst,hb⟩:=hrel
  have hsr:=hs.below hb
  have hbr:=hb
  clear hs hg0 hg1 sW bW
  by_cases hlt:k<l.length
  case neg =>
   obtain rfl:k=l.length:=by omega
   rw[List.take_length] at hsq hH
   rw[List.take_length,List.drop_length] at hfb
   have hR:zAm l=(s,0,0):=by unfold zAm;rw[hfb,hsq];rfl
   have HR:=hid hR
   have HBF:=hid (At.below hbr (((((((((((((At.refl w.heap.size wr).set 0 (.slice va s.ss.length vc)).set 1 (.int .i64 s.lim)).set 2 (.int .i64 s.status)).set 3 (.int .i64 s.next)).set 4 (.int .i64 s.began)).set 5 (.int .i64 s.asked)).set 6 (.int .i64 s.taken)).set 7 (.bool s.fresh)).set 8 (.slice ua s.jobs.length uc)).set 9 (.slice ca s.clocks.length cc)).set 10 (.bool s.cancel)).set 11 (.bool s.overdue)) (Nat.le_refl _))
   have HO:=hid (hst.at hz (by decide) (((((((((((((At.refl w.heap.size wr).set 0 (.slice va s.ss.length vc)).set 1 (.int .i64 s.lim)).set 2 (.int .i64 s.status)).set 3 (.int .i64 s.next)).set 4 (.int .i64 s.began)).set 5 (.int .i64 s.asked)).set 6 (.int .i64 s.taken)).set 7 (.bool s.fresh)).set 8 (.slice ua s.jobs.length uc)).set 9 (.slice ca s.clocks.length cc)).set 10 (.bool s.cancel)).set 11 (.bool s.overdue)))
   have q0:wr.cell? ⟨w.heap.size,0,none⟩=some (.slice none 0 0):=cR hz rfl
   have q1:wr.cell? ⟨w.heap.size,1,none⟩=some (.int .i64 0):=cR hz rfl
   have q2:wr.cell? ⟨w.heap.size,2,none⟩=some (.int .i64 0):=cR hz rfl
   have q3:wr.cell? ⟨w.heap.size,3,none⟩=some (.int .i64 0):=cR hz rfl
   have q4:wr.cell? ⟨w.heap.size,4,none⟩=some (.int .i64 0):=cR hz rfl
   have q5:wr.cell? ⟨w.heap.size,5,none⟩=some (.int .i64 0):=cR hz rfl
   have q6:wr.cell? ⟨w.heap.size,6,none⟩=some (.int .i64 0):=cR hz rfl
   have q7:wr.cell? ⟨w.heap.size,7,none⟩=some (.bool false):=cR hz rfl
   have q8:wr.cell? ⟨w.heap.size,8,none⟩=some (.slice none 0 0):=cR hz rfl
   have q9:wr.cell? ⟨w.heap.size,9,none⟩=some (.slice none 0 0):=cR hz rfl
   have q10:wr.cell? ⟨w.heap.size,10,none⟩=some (.bool false):=cR hz rfl
   have q11:wr.cell? ⟨w.heap.size,11,none⟩=some (.bool false):=cR hz rfl
   have qf0:=frozen_of_row wr _ 0 _ _ hz
   have qf1:=frozen_of_row wr _ 1 _ _ hz
   have qf2:=frozen_of_row wr _ 2 _ _ hz
   have qf3:=frozen_of_row wr _ 3 _ _ hz
   have qf4:=frozen_of_row wr _ 4 _ _ hz
   have qf5:=frozen_of_row wr _ 5 _ _ hz
   have qf6:=frozen_of_row wr _ 6 _ _ hz
   have qf7:=frozen_of_row wr _ 7 _ _ hz
   have qf8:=frozen_of_row wr _ 8 _ _ hz
   have qf9:=frozen_of_row wr _ 9 _ _ hz
   have qf10:=frozen_of_row wr _ 10 _ _ hz
   have qf11:=frozen_of_row wr _ 11 _ _ hz
   have x0:wr.cell? ⟨w.heap.size+1,0,none⟩=some (.slice va s.ss.length vc):=cR hx rfl
   have x1:wr.cell? ⟨w.heap.size+1,1,none⟩=some (.int .i64 s.lim):=cR hx rfl
   have x2:wr.cell? ⟨w.heap.size+1,2,none⟩=some (.int .i64 s.status):=cR hx rfl
   have x3:wr.cell? ⟨w.heap.size+1,3,none⟩=some (.int .i64 s.next):=cR hx rfl
   have x4:wr.cell? ⟨w.heap.size+1,4,none⟩=some (.int .i64 s.began):=cR hx rfl
   have x5:wr.cell? ⟨w.heap.size+1,5,none⟩=some (.int .i64 s.asked):=cR hx rfl
   have x6:wr.cell? ⟨w.heap.size+1,6,none⟩=some (.int .i64 s.taken):=cR hx rfl
   have x7:wr.cell? ⟨w.heap.size+1,7,none⟩=some (.bool s.fresh):=cR hx rfl
   have x8:wr.cell? ⟨w.heap.size+1,8,none⟩=some (.slice ua s.jobs.length uc):=cR hx rfl
   have x9:wr.cell? ⟨w.heap.size+1,9,none⟩=some (.slice ca s.clocks.length cc):=cR hx rfl
   have x10:wr.cell? ⟨w.heap.size+1,10,none⟩=some (.bool s.cancel):=cR hx rfl
   have x11:wr.cell? ⟨w.heap.size+1,11,none⟩=some (.bool s.overdue):=cR hx rfl
   have xf0:=frozen_of_row wr _ 0 _ _ hx
   have xf1:=frozen_of_row wr _ 1 _ _ hx
   have xf2:=frozen_of_row wr _ 2 _ _ hx
   have xf3:=frozen_of_row wr _ 3 _ _ hx
   have xf4:=frozen_of_row wr _ 4 _ _ hx
   have xf5:=frozen_of_row wr _ 5 _ _ hx
   have xf6:=frozen_of_row wr _ 6 _ _ hx
   have xf7:=frozen_of_row wr _ 7 _ _ hx
   have xf8:=frozen_of_row wr _ 8 _ _ hx
   have xf9:=frozen_of_row wr _ 9 _ _ hx
   have xf10:=frozen_of_row wr _ 10 _ _ hx
   have xf11:=frozen_of_row wr _ 11 _ _ hx
   clear hsr hbr hb hH hst hz hx hsq hR hfb
   go_wp2_with fail
   refine bodyPost_ret (v:=.tuple #[.agg #[.slice va s.ss.length vc,.int .i64 s.lim,.int .i64 s.status,.int .i64 s.next,.int .i64 s.began,.int .i64 s.asked,.int .i64 s.taken,.bool s.fresh,.slice ua s.jobs.length uc,.slice ca s.clocks.length cc,.bool s.cancel,.bool s.overdue],.int .i64 0,.int .i64 0]) ?_ rfl (by rw[HR.out];exact⟨va,ua,ca,vc,uc,cc,rfl,HO.out,HBF.out⟩)
   rw[zEw rfl]
   go_simp
  have hgo:=zLb hlt
  have happ:zA0 s l[k]=if zA5 (l.take k) l[k]=0 then(stOf (l.take (k+1)),0) else(s0,zA5 (l.take k) l[k]):=by rw[hsq,hH.apply,zCu hlt]
  have hok:SOK s:=by rw[hsq];exact hH.sok
  obtain⟨_,_,a',cap,hv,hc⟩:=hsr
  rw[Value.slice.injEq] at hv
  obtain⟨rfl,-,rfl⟩:=hv
  obtain⟨b,off,rfl,hblt,hc⟩:=hc.resolve_left (by omega)
  have c0:wr.cell? ⟨b,off+k*8,none⟩=some (.int .i64 (l[k]).1):=zAd hc k 0 (by decide) hlt _ rfl
  have c1:wr.cell? ⟨b,off+k*8+1,none⟩=some (.int .i64 (l[k]).2.1):=zAd hc k 1 (by decide) hlt _ rfl
  have c2:wr.cell? ⟨b,off+k*8+2,none⟩=some (.int .i64 (l[k]).2.2.1):=zAd hc k 2 (by decide) hlt _ rfl
  have c3:wr.cell? ⟨b,off+k*8+3,none⟩=some (.int .i64 (l[k]).2.2.2.1):=zAd hc k 3 (by decide) hlt _ rfl
  have c4:wr.cell? ⟨b,off+k*8+4,none⟩=some (.int .i64 (l[k]).2.2.2.2.1):=zAd hc k 4 (by decide) hlt _ rfl
  have c5:wr.cell? ⟨b,off+k*8+5,none⟩=some (.int .i64 (l[k]).2.2.2.2.2.1):=zAd hc k 5 (by decide) hlt _ rfl
  have c6:wr.cell? ⟨b,off+k*8+6,none⟩=some (.bool (l[k]).2.2.2.2.2.2.1):=zAd hc k 6 (by decide) hlt _ rfl
  have c7:wr.cell? ⟨b,off+k*8+7,none⟩=some (.string ⟨(l[k]).2.2.2.2.2.2.2.toArray⟩):=zAd hc k 7 (by decide) hlt _ rfl
  have hdt:(l[k]).2.2.2.2.2.2.2.length≤140737488355328:=hfit _ (List.getElem_mem hlt)
  clear hc hsq
  obtain⟨X,hX⟩:∃X,X=l[k]:=⟨_,rfl⟩
  rw[← hX] at hgo happ hdt c0 c1 c2 c3 c4 c5 c6 c7
  have HX:=hid hX
  clear hX
  obtain⟨id,kd,tk,rf,sp,ty,ud,dt⟩:=X
  obtain⟨ss,lim,st,nx,bg,ak,tn,fr,js,cs,cn,ov⟩:=s
  simp only at hdt c0 c1 c2 c3 c4 c5 c6 c7 hst hx
  have hkI:(k:Int)<(l.length:Int):=by omega
  have be:Below wr.heap.size wr (wr.alloc (.cells #[.int .i64 id,.int .i64 kd,.int .i64 tk,.int .i64 rf,.int .i64 sp,.int .i64 ty,.bool ud,.string ⟨dt.toArray⟩] 52)):=(Below.refl _ _).alloc (Nat.le_refl _) _
  have hxe:=(be.block _ (gL hx)).trans hx
  have hze:=(be.block _ (gL hz)).trans hz
  have hste:=hst.read.below be
  have hbe:=zAl hb be
  have x0:(wr.alloc (.cells #[.int .i64 id,.int .i64 kd,.int .i64 tk,.int .i64 rf,.int .i64 sp,.int .i64 ty,.bool ud,.string ⟨dt.toArray⟩] 52)).cell? ⟨w.heap.size+1,0,none⟩=some (.slice va ss.length vc):=cR hxe rfl
  have xf0:=frozen_of_row (wr.alloc (.cells #[.int .i64 id,.int .i64 kd,.int .i64 tk,.int .i64 rf,.int .i64 sp,.int .i64 ty,.bool ud,.string ⟨dt.toArray⟩] 52)) _ 0 _ _ hxe
  have x1:(wr.alloc (.cells #[.int .i64 id,.int .i64 kd,.int .i64 tk,.int .i64 rf,.int .i64 sp,.int .i64 ty,.bool ud,.string ⟨dt.toArray⟩] 52)).cell? ⟨w.heap.size+1,1,none⟩=some (.int .i64 lim):=cR hxe rfl
  have xf1:=frozen_of_row (wr.alloc (.cells #[.int .i64 id,.int .i64 kd,.int .i64 tk,.int .i64 rf,.int .i64 sp,.int .i64 ty,.bool ud,.string ⟨dt.toArray⟩] 52)) _ 1 _ _ hxe
  have x2:(wr.alloc (.cells #[.int .i64 id,.int .i64 kd,.int .i64 tk,.int .i64 rf,.int .i64 sp,.int .i64 ty,.bool ud,.string ⟨dt.toArray⟩] 52)).cell? ⟨w.heap.size+1,2,none⟩=some (.int .i64 st):=cR hxe rfl
  have xf2:=frozen_of_row (wr.alloc (.cells #[.int .i64 id,.int .i64 kd,.int .i64 tk,.int .i64 rf,.int .i64 sp,.int .i64 ty,.bool ud,.string ⟨dt.toArray⟩] 52)) _ 2 _ _ hxe
  have x3:(wr.alloc (.cells #[.int .i64 id,.int .i64 kd,.int .i64 tk,.int .i64 rf,.int .i64 sp,.int .i64 ty,.bool ud,.string ⟨dt.toArray⟩] 52)).cell? ⟨w.heap.size+1,3,none⟩=some (.int .i64 nx):=cR hxe rfl
  have xf3:=frozen_of_row (wr.alloc (.cells #[.int .i64 id,.int .i64 kd,.int .i64 tk,.int .i64 rf,.int .i64 sp,.int .i64 ty,.bool ud,.string ⟨dt.toArray⟩] 52)) _ 3 _ _ hxe
  have x4:(wr.alloc (.cells #[.int .i64 id,.int .i64 kd,.int .i64 tk,.int .i64 rf,.int .i64 sp,.int .i64 ty,.bool ud,.string ⟨dt.toArray⟩] 52)).cell? ⟨w.heap.size+1,4,none⟩=some (.int .i64 bg):=cR hxe rfl
  have xf4:=frozen_of_row (wr.alloc (.cells #[.int .i64 id,.int .i64 kd,.int .i64 tk,.int .i64 rf,.int .i64 sp,.int .i64 ty,.bool ud,.string ⟨dt.toArray⟩] 52)) _ 4 _ _ hxe
  have x5:(wr.alloc (.cells #[.int .i64 id,.int .i64 kd,.int .i64 tk,.int .i64 rf,.int .i64 sp,.int .i64 ty,.bool ud,.string ⟨dt.toArray⟩] 52)).cell? ⟨w.heap.size+1,5,none⟩=some (.int .i64 ak):=cR hxe rfl
  have xf5:=frozen_of_row (wr.alloc (.cells #[.int .i64 id,.int .i64 kd,.int .i64 tk,.int .i64 rf,.int .i64 sp,.int .i64 ty,.bool ud,.string ⟨dt.toArray⟩] 52)) _ 5 _ _ hxe
  have x6:(wr.alloc (.cells #[.int .i64 id,.int .i64 kd,.int .i64 tk,.int .i64 rf,.int .i64 sp,.int .i64 ty,.bool ud,.string ⟨dt.toArray⟩] 52)).cell? ⟨w.heap.size+1,6,none⟩=some (.int .i64 tn):=cR hxe rfl
  have xf6:=frozen_of_row (wr.alloc (.cells #[.int .i64 id,.int .i64 kd,.int .i64 tk,.int .i64 rf,.int .i64 sp,.int .i64 ty,.bool ud,.string ⟨dt.toArray⟩] 52)) _ 6 _ _ hxe
  have x7:(wr.alloc (.cells #[.int .i64 id,.int .i64 kd,.int .i64 tk,.int .i64 rf,.int .i64 sp,.int .i64 ty,.bool ud,.string ⟨dt.toArray⟩] 52)).cell? ⟨w.heap.size+1,7,none⟩=some (.bool fr):=cR hxe rfl
  have xf7:=frozen_of_row (wr.alloc (.cells #[.int .i64 id,.int .i64 kd,.int .i64 tk,.int .i64 rf,.int .i64 sp,.int .i64 ty,.bool ud,.string ⟨dt.toArray⟩] 52)) _ 7 _ _ hxe
  have x8:(wr.alloc (.cells #[.int .i64 id,.int .i64 kd,.int .i64 tk,.int .i64 rf,.int .i64 sp,.int .i64 ty,.bool ud,.string ⟨dt.toArray⟩] 52)).cell? ⟨w.heap.size+1,8,none⟩=some (.slice ua js.length uc):=cR hxe rfl
  have xf8:=frozen_of_row (wr.alloc (.cells #[.int .i64 id,.int .i64 kd,.int .i64 tk,.int .i64 rf,.int .i64 sp,.int .i64 ty,.bool ud,.string ⟨dt.toArray⟩] 52)) _ 8 _ _ hxe
  have x9:(wr.alloc (.cells #[.int .i64 id,.int .i64 kd,.int .i64 tk,.int .i64 rf,.int .i64 sp,.int .i64 ty,.bool ud,.string ⟨dt.toArray⟩] 52)).cell? ⟨w.heap.size+1,9,none⟩=some (.slice ca cs.length cc):=cR hxe rfl
  have xf9:=frozen_of_row (wr.alloc (.cells #[.int .i64 id,.int .i64 kd,.int .i64 tk,.int .i64 rf,.int .i64 sp,.int .i64 ty,.bool ud,.string ⟨dt.toArray⟩] 52)) _ 9 _ _ hxe
  have x10:(wr.alloc (.cells #[.int .i64 id,.int .i64 kd,.int .i64 tk,.int .i64 rf,.int .i64 sp,.int .i64 ty,.bool ud,.string ⟨dt.toArray⟩] 52)).cell? ⟨w.heap.size+1,10,none⟩=some (.bool cn):=cR hxe rfl
  have xf10:=frozen_of_row (wr.alloc (.cells #[.int .i64 id,.int .i64 kd,.int .i64 tk,.int .i64 rf,.int .i64 sp,.int .i64 ty,.bool ud,.string ⟨dt.toArray⟩] 52)) _ 10 _ _ hxe
  have x11:(wr.alloc (.cells #[.int .i64 id,.int .i64 kd,.int .i64 tk,.int .i64 rf,.int .i64 sp,.int .i64 ty,.bool ud,.string ⟨dt.toArray⟩] 52)).cell? ⟨w.heap.size+1,11,none⟩=some (.bool ov):=cR hxe rfl
  have xf11:=frozen_of_row (wr.alloc (.cells #[.int .i64 id,.int .i64 kd,.int .i64 tk,.int .i64 rf,.int .i64 sp,.int .i64 ty,.bool ud,.string ⟨dt.toArray⟩] 52)) _ 11 _ _ hxe
  have HAPP:=hid happ
  clear happ hst hx hz hb
  go_wp2_with fail
  refine(zO6 ss lim st nx bg ak tn fr js cs cn ov va ua ca vc uc cc id kd tk rf sp ty ud dt _ hste hok hdt).mono ?_
  rintro e' w2 hap
  rw[HAPP.out] at hap
  clear x0 xf0 x1 xf1 x2 xf2 x3 xf3 x4 xf4 x5 xf5 x6 xf6 x7 xf7 x8 xf8 x9 xf9 x10 xf10 x11 xf11 c0 c1 c2 c3 c4 c5 c6 c7 hste hok HAPP
  by_cases hcm:zA5 (l.take k) (id,kd,tk,rf,sp,ty,ud,dt)=0
  · rw[if_neg (not_not_intro hcm)] at hgo
    rw[if_pos hcm] at hap
    have HN:=hid (And.intro (show Hs (l.take (k+1)) from by rw[zCu hlt];exact .snoc hH (by rw[← HX.out];exact hcm)) (hfb.trans hgo))
    obtain⟨b2,vb,ub,cb,vd,ud',cd,rfl,hO2⟩:=hap
    obtain⟨s2,hs2⟩:∃s2,s2=stOf (l.take (k+1)):=⟨_,rfl⟩
    simp only at hO2
    rw[← hs2] at hO2 ⊢
    rw[stvE]
    have b3:Below w2.heap.size w2 (w2.alloc (.cells #[.slice vb s2.ss.length vd,.int .i64 s2.lim,.int .i64 s2.status,.int .i64 s2.next,.int .i64 s2.began,.int .i64 s2.asked,.int .i64 s2.taken,.bool s2.fresh,.slice ub s2.jobs.length ud',.slice cb s2.clocks.length cd,.bool s2.cancel,.bool s2.overdue] 59)):=(Below.refl _ _).alloc (Nat.le_refl _) _
    have hx3:=(b3.block _ (gL ((b2.block _ (Array.getElem?_eq_some_iff.1 hxe).1).trans hxe))).trans ((b2.block _ (gL hxe)).trans hxe)
    have hz3:=(b3.block _ (gL ((b2.block _ (Array.getElem?_eq_some_iff.1 hze).1).trans hze))).trans ((b2.block _ (gL hze)).trans hze)
    have x0:(w2.alloc (.cells #[.slice vb s2.ss.length vd,.int .i64 s2.lim,.int .i64 s2.status,.int .i64 s2.next,.int .i64 s2.began,.int .i64 s2.asked,.int .i64 s2.taken,.bool s2.fresh,.slice ub s2.jobs.length ud',.slice cb s2.clocks.length cd,.bool s2.cancel,.bool s2.overdue] 59)).cell? ⟨w.heap.size+1,0,none⟩=some (.slice va ss.length vc):=cR hx3 rfl
    have xf0:=frozen_of_row (w2.alloc (.cells #[.slice vb s2.ss.length vd,.int .i64 s2.lim,.int .i64 s2.status,.int .i64 s2.next,.int .i64 s2.began,.int .i64 s2.asked,.int .i64 s2.taken,.bool s2.fresh,.slice ub s2.jobs.length ud',.slice cb s2.clocks.length cd,.bool s2.cancel,.bool s2.overdue] 59)) _ 0 _ _ hx3
    have x1:(w2.alloc (.cells #[.slice vb s2.ss.length vd,.int .i64 s2.lim,.int .i64 s2.status,.int .i64 s2.next,.int .i64 s2.began,.int .i64 s2.asked,.int .i64 s2.taken,.bool s2.fresh,.slice ub s2.jobs.length ud',.slice cb s2.clocks.length cd,.bool s2.cancel,.bool s2.overdue] 59)).cell? ⟨w.heap.size+1,1,none⟩=some (.int .i64 lim):=cR hx3 rfl
    have xf1:=frozen_of_row (w2.alloc (.cells #[.slice vb s2.ss.length vd,.int .i64 s2.lim,.int .i64 s2.status,.int .i64 s2.next,.int .i64 s2.began,.int .i64 s2.asked,.int .i64 s2.taken,.bool s2.fresh,.slice ub s2.jobs.length ud',.slice cb s2.clocks.length cd,.bool s2.cancel,.bool s2.overdue] 59)) _ 1 _ _ hx3
    have x2:(w2.alloc (.cells #[.slice vb s2.ss.length vd,.int .i64 s2.lim,.int .i64 s2.status,.int .i64 s2.next,.int .i64 s2.began,.int .i64 s2.asked,.int .i64 s2.taken,.bool s2.fresh,.slice ub s2.jobs.length ud',.slice cb s2.clocks.length cd,.bool s2.cancel,.bool s2.overdue] 59)).cell? ⟨w.heap.size+1,2,none⟩=some (.int .i64 st):=cR hx3 rfl
    have xf2:=frozen_of_row (w2.alloc (.cells #[.slice vb s2.ss.length vd,.int .i64 s2.lim,.int .i64 s2.status,.int .i64 s2.next,.int .i64 s2.began,.int .i64 s2.asked,.int .i64 s2.taken,.bool s2.fresh,.slice ub s2.jobs.length ud',.slice cb s2.clocks.length cd,.bool s2.cancel,.bool s2.overdue] 59)) _ 2 _ _ hx3
    have x3:(w2.alloc (.cells #[.slice vb s2.ss.length vd,.int .i64 s2.lim,.int .i64 s2.status,.int .i64 s2.next,.int .i64 s2.began,.int .i64 s2.asked,.int .i64 s2.taken,.bool s2.fresh,.slice ub s2.jobs.length ud',.slice cb s2.clocks.length cd,.bool s2.cancel,.bool s2.overdue] 59)).cell? ⟨w.heap.size+1,3,none⟩=some (.int .i64 nx):=cR hx3 rfl
    have xf3:=frozen_of_row (w2.alloc (.cells #[.slice vb s2.ss.length vd,.int .i64 s2.lim,.int .i64 s2.status,.int .i64 s2.next,.int .i64 s2.began,.int .i64 s2.asked,.int .i64 s2.taken,.bool s2.fresh,.slice ub s2.jobs.length ud',.slice cb s2.clocks.length cd,.bool s2.cancel,.bool s2.overdue] 59)) _ 3 _ _ hx3
    have x4:(w2.alloc (.cells #[.slice vb s2.ss.length vd,.int .i64 s2.lim,.int .i64 s2.status,.int .i64 s2.next,.int .i64 s2.began,.int .i64 s2.asked,.int .i64 s2.taken,.bool s2.fresh,.slice ub s2.jobs.length ud',.slice cb s2.clocks.length cd,.bool s2.cancel,.bool s2.overdue] 59)).cell? ⟨w.heap.size+1,4,none⟩=some (.int .i64 bg):=cR hx3 rfl
    have xf4:=frozen_of_row (w2.alloc (.cells #[.slice vb s2.ss.length vd,.int .i64 s2.lim,.int .i64 s2.status,.int .i64 s2.next,.int .i64 s2.began,.int .i64 s2.asked,.int .i64 s2.taken,.bool s2.fresh,.slice ub s2.jobs.length ud',.slice cb s2.clocks.length cd,.bool s2.cancel,.bool s2.overdue] 59)) _ 4 _ _ hx3
    have x5:(w2.alloc (.cells #[.slice vb s2.ss.length vd,.int .i64 s2.lim,.int .i64 s2.status,.int .i64 s2.next,.int .i64 s2.began,.int .i64 s2.asked,.int .i64 s2.taken,.bool s2.fresh,.slice ub s2.jobs.length ud',.slice cb s2.clocks.length cd,.bool s2.cancel,.bool s2.overdue] 59)).cell? ⟨w.heap.size+1,5,none⟩=some (.int .i64 ak):=cR hx3 rfl
    have xf5:=frozen_of_row (w2.alloc (.cells #[.slice vb s2.ss.length vd,.int .i64 s2.lim,.int .i64 s2.status,.int .i64 s2.next,.int .i64 s2.began,.int .i64 s2.asked,.int .i64 s2.taken,.bool s2.fresh,.slice ub s2.jobs.length ud',.slice cb s2.clocks.length cd,.bool s2.cancel,.bool s2.overdue] 59)) _ 5 _ _ hx3
    have x6:(w2.alloc (.cells #[.slice vb s2.ss.length vd,.int .i64 s2.lim,.int .i64 s2.status,.int .i64 s2.next,.int .i64 s2.began,.int .i64 s2.asked,.int .i64 s2.taken,.bool s2.fresh,.slice ub s2.jobs.length ud',.slice cb s2.clocks.length cd,.bool s2.cancel,.bool s2.overdue] 59)).cell? ⟨w.heap.size+1,6,none⟩=some (.int .i64 tn):=cR hx3 rfl
    have xf6:=frozen_of_row (w2.alloc (.cells #[.slice vb s2.ss.length vd,.int .i64 s2.lim,.int .i64 s2.status,.int .i64 s2.next,.int .i64 s2.began,.int .i64 s2.asked,.int .i64 s2.taken,.bool s2.fresh,.slice ub s2.jobs.length ud',.slice cb s2.clocks.length cd,.bool s2.cancel,.bool s2.overdue] 59)) _ 6 _ _ hx3
    have x7:(w2.alloc (.cells #[.slice vb s2.ss.length vd,.int .i64 s2.lim,.int .i64 s2.status,.int .i64 s2.next,.int .i64 s2.began,.int .i64 s2.asked,.int .i64 s2.taken,.bool s2.fresh,.slice ub s2.jobs.length ud',.slice cb s2.clocks.length cd,.bool s2.cancel,.bool s2.overdue] 59)).cell? ⟨w.heap.size+1,7,none⟩=some (.bool fr):=cR hx3 rfl
    have xf7:=frozen_of_row (w2.alloc (.cells #[.slice vb s2.ss.length vd,.int .i64 s2.lim,.int .i64 s2.status,.int .i64 s2.next,.int .i64 s2.began,.int .i64 s2.asked,.int .i64 s2.taken,.bool s2.fresh,.slice ub s2.jobs.length ud',.slice cb s2.clocks.length cd,.bool s2.cancel,.bool s2.overdue] 59)) _ 7 _ _ hx3
    have x8:(w2.alloc (.cells #[.slice vb s2.ss.length vd,.int .i64 s2.lim,.int .i64 s2.status,.int .i64 s2.next,.int .i64 s2.began,.int .i64 s2.asked,.int .i64 s2.taken,.bool s2.fresh,.slice ub s2.jobs.length ud',.slice cb s2.clocks.length cd,.bool s2.cancel,.bool s2.overdue] 59)).cell? ⟨w.heap.size+1,8,none⟩=some (.slice ua js.length uc):=cR hx3 rfl
    have xf8:=frozen_of_row (w2.alloc (.cells #[.slice vb s2.ss.length vd,.int .i64 s2.lim,.int .i64 s2.status,.int .i64 s2.next,.int .i64 s2.began,.int .i64 s2.asked,.int .i64 s2.taken,.bool s2.fresh,.slice ub s2.jobs.length ud',.slice cb s2.clocks.length cd,.bool s2.cancel,.bool s2.overdue] 59)) _ 8 _ _ hx3
    have x9:(w2.alloc (.cells #[.slice vb s2.ss.length vd,.int .i64 s2.lim,.int .i64 s2.status,.int .i64 s2.next,.int .i64 s2.began,.int .i64 s2.asked,.int .i64 s2.taken,.bool s2.fresh,.slice ub s2.jobs.length ud',.slice cb s2.clocks.length cd,.bool s2.cancel,.bool s2.overdue] 59)).cell? ⟨w.heap.size+1,9,none⟩=some (.slice ca cs.length cc):=cR hx3 rfl
    have xf9:=frozen_of_row (w2.alloc (.cells #[.slice vb s2.ss.length vd,.int .i64 s2.lim,.int .i64 s2.status,.int .i64 s2.next,.int .i64 s2.began,.int .i64 s2.asked,.int .i64 s2.taken,.bool s2.fresh,.slice ub s2.jobs.length ud',.slice cb s2.clocks.length cd,.bool s2.cancel,.bool s2.overdue] 59)) _ 9 _ _ hx3
    have x10:(w2.alloc (.cells #[.slice vb s2.ss.length vd,.int .i64 s2.lim,.int .i64 s2.status,.int .i64 s2.next,.int .i64 s2.began,.int .i64 s2.asked,.int .i64 s2.taken,.bool s2.fresh,.slice ub s2.jobs.length ud',.slice cb s2.clocks.length cd,.bool s2.cancel,.bool s2.overdue] 59)).cell? ⟨w.heap.size+1,10,none⟩=some (.bool cn):=cR hx3 rfl
    have xf10:=frozen_of_row (w2.alloc (.cells #[.slice vb s2.ss.length vd,.int .i64 s2.lim,.int .i64 s2.status,.int .i64 s2.next,.int .i64 s2.began,.int .i64 s2.asked,.int .i64 s2.taken,.bool s2.fresh,.slice ub s2.jobs.length ud',.slice cb s2.clocks.length cd,.bool s2.cancel,.bool s2.overdue] 59)) _ 10 _ _ hx3
    have x11:(w2.alloc (.cells #[.slice vb s2.ss.length vd,.int .i64 s2.lim,.int .i64 s2.status,.int .i64 s2.next,.int .i64 s2.began,.int .i64 s2.asked,.int .i64 s2.taken,.bool s2.fresh,.slice ub s2.jobs.length ud',.slice cb s2.clocks.length cd,.bool s2.cancel,.bool s2.overdue] 59)).cell? ⟨w.heap.size+1,11,none⟩=some (.bool ov):=cR hx3 rfl
    have xf11:=frozen_of_row (w2.alloc (.cells #[.slice vb s2.ss.length vd,.int .i64 s2.lim,.int .i64 s2.status,.int .i64 s2.next,.int .i64 s2.began,.int .i64 s2.asked,.int .i64 s2.taken,.bool s2.fresh,.slice ub s2.jobs.length ud',.slice cb s2.clocks.length cd,.bool s2.cancel,.bool s2.overdue] 59)) _ 11 _ _ hx3
    have a4:=(((((((((((((At.refl (w.heap.size+1) (w2.alloc (.cells #[.slice vb s2.ss.length vd,.int .i64 s2.lim,.int .i64 s2.status,.int .i64 s2.next,.int .i64 s2.began,.int .i64 s2.asked,.int .i64 s2.taken,.bool s2.fresh,.slice ub s2.jobs.length ud',.slice cb s2.clocks.length cd,.bool s2.cancel,.bool s2.overdue] 59))).set 0 (.slice vb s2.ss.length vd)).set 1 (.int .i64 s2.lim)).set 2 (.int .i64 s2.status)).set 3 (.int .i64 s2.next)).set 4 (.int .i64 s2.began)).set 5 (.int .i64 s2.asked)).set 6 (.int .i64 s2.taken)).set 7 (.bool s2.fresh)).set 8 (.slice ub s2.jobs.length ud')).set 9 (.slice cb s2.clocks.length cd)).set 10 (.bool s2.cancel)).set 11 (.bool s2.overdue))
    have hx4:=zQo hx3 (.slice vb s2.ss.length vd) (.int .i64 s2.lim) (.int .i64 s2.status) (.int .i64 s2.next) (.int .i64 s2.began) (.int .i64 s2.asked) (.int .i64 s2.taken) (.bool s2.fresh) (.slice ub s2.jobs.length ud') (.slice cb s2.clocks.length cd) (.bool s2.cancel) (.bool s2.overdue)
    have hz4:=(a4.block _ (gL hz3) (by simp)).trans hz3
    have hst4:=((hO2.new b3).at hx3 (by decide) a4).mono hbe.size
    have hb4:=At.below (zAl (zAl hbe b2) b3) a4 (by omega)
    have HF:=hid (And.intro hz4 (And.intro hx4 (And.intro hst4 hb4)))
    have HS2:=hid hs2
    clear hfb hgo HFB hxe hze hcm hO2 b2 b3 hx3 hz3 a4 hx4 hz4 hst4 hb4 hs2 be hbe
    go_wp2_with fail
    go_roundw
    case rel=>first
     | exact⟨k+1,s2,vb,ub,cb,vd,ud',cd,by omega,by go_num,HS2.out,HN.out.1,HN.out.2,HF.out.1,HF.out.2.1,HF.out.2.2.1,HF.out.2.2.2⟩
     | ((repeat apply Exists.intro);exact⟨⟨k+1,s2,vb,ub,cb,vd,ud',cd,by omega,by go_num,HS2.out,HN.out.1,HN.out.2,HF.out.1,HF.out.2.1,HF.out.2.2.1,HF.out.2.2.2⟩,rfl⟩)
    case measure=>simp[intOf];omega
  · rw[if_pos hcm] at hgo
    rw[if_neg hcm] at hap
    obtain⟨b2,vb,ub,cb,vd,ud',cd,rfl,hO2⟩:=hap
    have hR:zAm l=(s0,(k:Int),zA5 (l.take k) (id,kd,tk,rf,sp,ty,ud,dt)):=by unfold zAm;rw[hfb,hgo]
    have HR:=hid hR
    have hq:(zA5 (l.take k) (id,kd,tk,rf,sp,ty,ud,dt)==0)=false:=by simpa using hcm
    have hq':(zA5 (l.take k) (id,kd,tk,rf,sp,ty,ud,dt) != 0)=true:=by simpa using hcm
    rw[show staV (s0,zA5 (l.take k) (id,kd,tk,rf,sp,ty,ud,dt)).1 (.slice vb (s0,zA5 (l.take k) (id,kd,tk,rf,sp,ty,ud,dt)).1.ss.length vd) (.slice ub (s0,zA5 (l.take k) (id,kd,tk,rf,sp,ty,ud,dt)).1.jobs.length ud') (.slice cb (s0,zA5 (l.take k) (id,kd,tk,rf,sp,ty,ud,dt)).1.clocks.length cd)=.agg #[.slice vb 0 vd,.int .i64 0,.int .i64 0,.int .i64 0,.int .i64 0,.int .i64 0,.int .i64 0,.bool false,.slice ub 0 ud',.slice cb 0 cd,.bool false,.bool false] from rfl]
    have b3:Below w2.heap.size w2 (w2.alloc (.cells #[.slice vb 0 vd,.int .i64 0,.int .i64 0,.int .i64 0,.int .i64 0,.int .i64 0,.int .i64 0,.bool false,.slice ub 0 ud',.slice cb 0 cd,.bool false,.bool false] 59)):=(Below.refl _ _).alloc (Nat.le_refl _) _
    have hz3:=(b3.block _ (gL ((b2.block _ (Array.getElem?_eq_some_iff.1 hze).1).trans hze))).trans ((b2.block _ (gL hze)).trans hze)
    have HBF:=hid (At.below (zAl (zAl (zAl hbr be) b2) b3) (((((((((((((At.refl w.heap.size (w2.alloc (.cells #[.slice vb 0 vd,.int .i64 0,.int .i64 0,.int .i64 0,.int .i64 0,.int .i64 0,.int .i64 0,.bool false,.slice ub 0 ud',.slice cb 0 cd,.bool false,.bool false] 59))).set 0 (.slice none 0 0)).set 1 (.int .i64 0)).set 2 (.int .i64 0)).set 3 (.int .i64 0)).set 4 (.int .i64 0)).set 5 (.int .i64 0)).set 6 (.int .i64 0)).set 7 (.bool false)).set 8 (.slice none 0 0)).set 9 (.slice none 0 0)).set 10 (.bool false)).set 11 (.bool false)) (Nat.le_refl _))
    have q0:(w2.alloc (.cells #[.slice vb 0 vd,.int .i64 0,.int .i64 0,.int .i64 0,.int .i64 0,.int .i64 0,.int .i64 0,.bool false,.slice ub 0 ud',.slice cb 0 cd,.bool false,.bool false] 59)).cell? ⟨w.heap.size,0,none⟩=some (.slice none 0 0):=cR hz3 rfl
    have qf0:=frozen_of_row (w2.alloc (.cells #[.slice vb 0 vd,.int .i64 0,.int .i64 0,.int .i64 0,.int .i64 0,.int .i64 0,.int .i64 0,.bool false,.slice ub 0 ud',.slice cb 0 cd,.bool false,.bool false] 59)) _ 0 _ _ hz3
    have q1:(w2.alloc (.cells #[.slice vb 0 vd,.int .i64 0,.int .i64 0,.int .i64 0,.int .i64 0,.int .i64 0,.int .i64 0,.bool false,.slice ub 0 ud',.slice cb 0 cd,.bool false,.bool false] 59)).cell? ⟨w.heap.size,1,none⟩=some (.int .i64 0):=cR hz3 rfl
    have qf1:=frozen_of_row (w2.alloc (.cells #[.slice vb 0 vd,.int .i64 0,.int .i64 0,.int .i64 0,.int .i64 0,.int .i64 0,.int .i64 0,.bool false,.slice ub 0 ud',.slice cb 0 cd,.bool false,.bool false] 59)) _ 1 _ _ hz3
    have q2:(w2.alloc (.cells #[.slice vb 0 vd,.int .i64 0,.int .i64 0,.int .i64 0,.int .i64 0,.int .i64 0,.int .i64 0,.bool false,.slice ub 0 ud',.slice cb 0 cd,.bool false,.bool false] 59)).cell? ⟨w.heap.size,2,none⟩=some (.int .i64 0):=cR hz3 rfl
    have qf2:=frozen_of_row (w2.alloc (.cells #[.slice vb 0 vd,.int .i64 0,.int .i64 0,.int .i64 0,.int .i64 0,.int .i64 0,.int .i64 0,.bool false,.slice ub 0 ud',.slice cb 0 cd,.bool false,.bool false] 59)) _ 2 _ _ hz3
    have q3:(w2.alloc (.cells #[.slice vb 0 vd,.int .i64 0,.int .i64 0,.int .i64 0,.int .i64 0,.int .i64 0,.int .i64 0,.bool false,.slice ub 0 ud',.slice cb 0 cd,.bool false,.bool false] 59)).cell? ⟨w.heap.size,3,none⟩=some (.int .i64 0):=cR hz3 rfl
    have qf3:=frozen_of_row (w2.alloc (.cells #[.slice vb 0 vd,.int .i64 0,.int .i64 0,.int .i64 0,.int .i64 0,.int .i64 0,.int .i64 0,.bool false,.slice ub 0 ud',.slice cb 0 cd,.bool false,.bool false] 59)) _ 3 _ _ hz3
    have q4:(w2.alloc (.cells #[.slice vb 0 vd,.int .i64 0,.int .i64 0,.int .i64 0,.int .i64 0,.int .i64 0,.int .i64 0,.bool false,.slice ub 0 ud',.slice cb 0 cd,.bool false,.bool false] 59)).cell? ⟨w.heap.size,4,none⟩=some (.int .i64 0):=cR hz3 rfl
    have qf4:=frozen_of_row (w2.alloc (.cells #[.slice vb 0 vd,.int .i64 0,.int .i64 0,.int .i64 0,.int .i64 0,.int .i64 0,.int .i64 0,.bool false,.slice ub 0 ud',.slice cb 0 cd,.bool false,.bool false] 59)) _ 4 _ _ hz3
    have q5:(w2.alloc (.cells #[.slice vb 0 vd,.int .i64 0,.int .i64 0,.int .i64 0,.int .i64 0,.int .i64 0,.int .i64 0,.bool false,.slice ub 0 ud',.slice cb 0 cd,.bool false,.bool false] 59)).cell? ⟨w.heap.size,5,none⟩=some (.int .i64 0):=cR hz3 rfl
    have qf5:=frozen_of_row (w2.alloc (.cells #[.slice vb 0 vd,.int .i64 0,.int .i64 0,.int .i64 0,.int .i64 0,.int .i64 0,.int .i64 0,.bool false,.slice ub 0 ud',.slice cb 0 cd,.bool false,.bool false] 59)) _ 5 _ _ hz3
    have q6:(w2.alloc (.cells #[.slice vb 0 vd,.int .i64 0,.int .i64 0,.int .i64 0,.int .i64 0,.int .i64 0,.int .i64 0,.bool false,.slice ub 0 ud',.slice cb 0 cd,.bool false,.bool false] 59)).cell? ⟨w.heap.size,6,none⟩=some (.int .i64 0):=cR hz3 rfl
    have qf6:=frozen_of_row (w2.alloc (.cells #[.slice vb 0 vd,.int .i64 0,.int .i64 0,.int .i64 0,.int .i64 0,.int .i64 0,.int .i64 0,.bool false,.slice ub 0 ud',.slice cb 0 cd,.bool false,.bool false] 59)) _ 6 _ _ hz3
    have q7:(w2.alloc (.cells #[.slice vb 0 vd,.int .i64 0,.int .i64 0,.int .i64 0,.int .i64 0,.int .i64 0,.int .i64 0,.bool false,.slice ub 0 ud',.slice cb 0 cd,.bool false,.bool false] 59)).cell? ⟨w.heap.size,7,none⟩=some (.bool false):=cR hz3 rfl
    have qf7:=frozen_of_row (w2.alloc (.cells #[.slice vb 0 vd,.int .i64 0,.int .i64 0,.int .i64 0,.int .i64 0,.int .i64 0,.int .i64 0,.bool false,.slice ub 0 ud',.slice cb 0 cd,.bool false,.bool false] 59)) _ 7 _ _ hz3
    have q8:(w2.alloc (.cells #[.slice vb 0 vd,.int .i64 0,.int .i64 0,.int .i64 0,.int .i64 0,.int .i64 0,.int .i64 0,.bool false,.slice ub 0 ud',.slice cb 0 cd,.bool false,.bool false] 59)).cell? ⟨w.heap.size,8,none⟩=some (.slice none 0 0):=cR hz3 rfl
    have qf8:=frozen_of_row (w2.alloc (.cells #[.slice vb 0 vd,.int .i64 0,.int .i64 0,.int .i64 0,.int .i64 0,.int .i64 0,.int .i64 0,.bool false,.slice ub 0 ud',.slice cb 0 cd,.bool false,.bool false] 59)) _ 8 _ _ hz3
    have q9:(w2.alloc (.cells #[.slice vb 0 vd,.int .i64 0,.int .i64 0,.int .i64 0,.int .i64 0,.int .i64 0,.int .i64 0,.bool false,.slice ub 0 ud',.slice cb 0 cd,.bool false,.bool false] 59)).cell? ⟨w.heap.size,9,none⟩=some (.slice none 0 0):=cR hz3 rfl
    have qf9:=frozen_of_row (w2.alloc (.cells #[.slice vb 0 vd,.int .i64 0,.int .i64 0,.int .i64 0,.int .i64 0,.int .i64 0,.int .i64 0,.bool false,.slice ub 0 ud',.slice cb 0 cd,.bool false,.bool false] 59)) _ 9 _ _ hz3
    have q10:(w2.alloc (.cells #[.slice vb 0 vd,.int .i64 0,.int .i64 0,.int .i64 0,.int .i64 0,.int .i64 0,.int .i64 0,.bool false,.slice ub 0 ud',.slice cb 0 cd,.bool false,.bool false] 59)).cell? ⟨w.heap.size,10,none⟩=some (.bool false):=cR hz3 rfl
    have qf10:=frozen_of_row (w2.alloc (.cells #[.slice vb 0 vd,.int .i64 0,.int .i64 0,.int .i64 0,.int .i64 0,.int .i64 0,.int .i64 0,.bool false,.slice ub 0 ud',.slice cb 0 cd,.bool false,.bool false] 59)) _ 10 _ _ hz3
    have q11:(w2.alloc (.cells #[.slice vb 0 vd,.int .i64 0,.int .i64 0,.int .i64 0,.int .i64 0,.int .i64 0,.int .i64 0,.bool false,.slice ub 0 ud',.slice cb 0 cd,.bool false,.bool false] 59)).cell? ⟨w.heap.size,11,none⟩=some (.bool false):=cR hz3 rfl
    have qf11:=frozen_of_row (w2.alloc (.cells #[.slice vb 0 vd,.int .i64 0,.int .i64 0,.int .i64 0,.int .i64 0,.int .i64 0,.int .i64 0,.bool false,.slice ub 0 ud',.slice cb 0 cd,.bool false,.bool false] 59)) _ 11 _ _ hz3
    clear hfb hgo HFB hxe hze hR hcm hO2 b2 b3 hz3 be hbe hbr
    generalize zA5 (l.take k) (id,kd,tk,rf,sp,ty,ud,dt)=cm at *
    go_wp2_with fail
    refine bodyPost_ret (v:=.tuple #[.agg #[.slice none 0 0,.int .i64 0,.int .i64 0,.int .i64 0,.int .i64 0,.int .i64 0,.int .i64 0,.bool false,.slice none 0 0,.slice none 0 0,.bool false,.bool false],.int .i64 (k:Int),.int .i64 cm]) ?_ rfl (by rw[HR.out];exact⟨none,none,none,0,0,0,rfl,StO.none _ _ s0 rfl rfl rfl,HBF.out⟩)
    rw[zEw rfl]
    go_simp
def aw2:List Ev:=[(1,1,0,0,0,0,false,[0,1,1,1,97,2,0,0]),(2,6,0,0,0,0,false,[])]
theorem zV8:FitE aw2:=by
 intro x hx
 simp only[aw2,List.mem_cons,List.not_mem_nil,or_false] at hx
 rcases hx with rfl | rfl <;> decide
open Go.ChangeShapes Go.WideShapes Go.ChangeAt Go.RowKit Go.Deep
def LenB(n:Nat):Prop:=n≤140737488351232
theorem zUi{H:Type}{P:Program}{ts:List TypeId}{ds:List (DataW H)}(h:(DataW.weightsEach P ts ds).all (· ≤ reachBytes)=true){j:Nat}{t:TypeId}{d:DataW H}(ht:ts[j]?=some t)(hd:ds[j]?=some d):∀n∈d.weights P t,LenB n:=fun n hn=>by
 have:=List.all_eq_true.1 h _ (DataW.weights_mem_each ht hd n hn)
 exact Nat.le_trans (of_decide_eq_true this) (by decide)
theorem zR6{H:Type}{P:Program}{fs:Array Field}{t:TypeId}{ps:List (DataW H)}(ht:P.underlying t=some (.struct fs)):(DataW.agg ps).weights P t=DataW.weightsEach P (fs.toList.map (·.type)) ps:=by
 simp only[DataW.weights,ht]
theorem zUp{H:Type}{P:Program}{fs:Array Field}{t:TypeId}{ps:List (DataW H)}(ht:P.underlying t=some (.struct fs))(h:∀n∈(DataW.agg ps).weights P t,LenB n){j:Nat}{f:Field}{d:DataW H}(hf:fs[j]?=some f)(hd:ps[j]?=some d):∀n∈d.weights P f.type,LenB n:=fun n hn=>by
 rw[zR6 ht] at h
 refine h n (DataW.weights_mem_each (t:=f.type) (j:=j) ?_ hd n hn)
 rw[List.getElem?_map]
 have:fs.toList[j]?=some f:=by rw[Array.getElem?_toList];exact hf
 rw[this];rfl
theorem zVa{H:Type}{P:Program}{t:TypeId}{l:List UInt8}(h:∀n∈(DataW.lit (H:=H) (.string l)).weights P t,LenB n):l.length≤140737488351232:=h _ (by simp[DataW.weights])
theorem zL5{H:Type}{enc:TypeId×Value→H}{W:World}{base:Nat}{spare:Nat→Bool}{held:Bool}{fuel:Nat}{cs:List Value}{x:DataW H×List MemPlace}
 (h:DataW.trod enc Tryz.prog W base spare held fuel 52 cs=some x):∃(y:Ev)(ps:List (DataW H)),cs=evc y∧x.1=.agg ps∧ps[7]?=some (.lit (.string y.dt)):=by
 obtain⟨ys,n,hx,_,hcl,hf⟩:=zF3 Tryz.underlying52 (by kernel_rfl) (by kernel_rfl) h
 obtain⟨c0,y0,e0,z0,t0⟩:=hf 0 _ rfl
 obtain⟨c1,y1,e1,z1,t1⟩:=hf 1 _ rfl
 obtain⟨c2,y2,e2,z2,t2⟩:=hf 2 _ rfl
 obtain⟨c3,y3,e3,z3,t3⟩:=hf 3 _ rfl
 obtain⟨c4,y4,e4,z4,t4⟩:=hf 4 _ rfl
 obtain⟨c5,y5,e5,z5,t5⟩:=hf 5 _ rfl
 obtain⟨c6,y6,e6,z6,t6⟩:=hf 6 _ rfl
 obtain⟨c7,y7,e7,z7,t7⟩:=hf 7 _ rfl
 obtain⟨A,k0,_,_⟩:=DataW.trod_int Tryz.underlying3 t0
 obtain⟨B,k1,_,_⟩:=DataW.trod_int Tryz.underlying3 t1
 obtain⟨C,k2,_,_⟩:=DataW.trod_int Tryz.underlying3 t2
 obtain⟨D,k3,_,_⟩:=DataW.trod_int Tryz.underlying3 t3
 obtain⟨E,k4,_,_⟩:=DataW.trod_int Tryz.underlying3 t4
 obtain⟨F,k5,_,_⟩:=DataW.trod_int Tryz.underlying3 t5
 obtain⟨G,k6,_⟩:=DataW.trod_bool Tryz.underlying4 t6
 obtain⟨s,k7,j7,_⟩:=DataW.trod_string Tryz.underlying9 t7
 simp only[List.cons.injEq,and_true] at k0 k1 k2 k3 k4 k5 k6 k7
 subst k0;subst k1;subst k2;subst k3;subst k4;subst k5;subst k6;subst k7;subst j7
 refine⟨(A,B,C,D,E,F,G,s.data.toList),ys.map (·.1),?_,hx,by rw[List.getElem?_map,z7];rfl⟩
 match cs,hcl with
 | [d0,d1,d2,d3,d4,d5,d6,d7],_ =>
   simp at e0 e1 e2 e3 e4 e5 e6 e7
   subst e0;subst e1;subst e2;subst e3;subst e4;subst e5;subst e6;subst e7
   rfl
theorem zSd{H:Type}{ps:List (DataW H)}{l:List UInt8}(hw:∀n∈(DataW.agg ps).weights Tryz.prog 52,LenB n)(h:ps[7]?=some (.lit (.string l))):l.length≤140737488351232 :=
 zVa (zUp Tryz.underlying52 hw (j:=7) rfl h)
theorem zTd{P:Program}{H:Type}{enc:TypeId×Value→H}{W:World}{t e:TypeId}{fuel:Nat}{v:Value}{d:DataW H×List MemPlace}{α:Type} [Inhabited α]
 (ht:P.underlying t=some (.slice e))(k:Nat)(hk:P.cellsOf e=k)(hk0:0<k)(cells:α→List Value)(hlen:∀a,(cells a).length=k)(rel:α→DataW H→Prop)
 (hel:∀(n:Nat)(cs:List Value)(x:DataW H×List MemPlace),DataW.trod enc P W 0 (fun _=>true) true n e cs=some x→∃a:α,cs=cells a∧rel a x.1)
 (hf:DataW.trod enc P W 0 (fun _=>true) true fuel t [v]=some d) :
 ∃zs:List α,Sl W v k zs.length (zs.flatMap cells)∧((d.1=.nil∧zs=[])∨∃es rest:List (DataW H),d.1=.slice es rest∧∀a∈zs,∃y∈es,rel a y)∧(∀a n c,v=.slice a n c→n≤c):=by
 rcases open_slice ht hf with ⟨hcs,hx⟩ | ⟨a,len,cap,m,n,D,Pl,hcs,_,hl,hm,hmm,hx,hi⟩
 · simp at hcs
   subst hcs
   subst hx
   exact⟨[],Sl.none _ _,.inl ⟨rfl,rfl⟩,(fun a n c h=>by cases h;exact Nat.le_refl _)⟩
 · simp at hcs
   subst hcs
   simp only[if_true] at hmm
   subst hmm
   have hi':∀i,i<len→∃y:α,W.cells? 0 (a.add (i*k)) k=some (cells y)∧rel y (D i):=fun i hil=>by
    obtain⟨cs',h1,h2⟩:=hi i (by omega)
    rw[hk] at h1
    obtain⟨y,rfl,h3⟩:=hel n cs' _ h2
    exact⟨y,h1,h3⟩
   obtain⟨f,hf'⟩:=choose_lt hi'
   have hll:((List.range len).map f).length=len:=by simp
   refine⟨(List.range len).map f,?_,.inr ⟨_,_,by rw[hx],?_⟩,(fun a n c h=>by cases h;omega)⟩
   · rw[hll]
     refine Sl.of_add (by rw[zAx hlen,hll]) (by omega) hk0 (fun j hj=>?_)
     rw[zAx hlen,hll] at hj
     have hq:j / k<len:=by rw[Nat.div_lt_iff_lt_mul hk0];exact hj
     have hr:j % k<k:=Nat.mod_lt _ hk0
     obtain⟨hc,_⟩:=hf' (j / k) hq
     obtain⟨_,_,hat⟩:=World.cells?_some hc
     have h1:=hat (j % k) hr
     rw[add_add] at h1
     have e:j / k*k+j % k=j:=Nat.div_add_mod' _ _
     rw[e] at h1
     rw[h1,← List.getElem?_eq_getElem]
     have h2:=zAq hlen ((List.range len).map f) (j / k) (j % k) hr (by rw[hll];exact hq)
     rw[e] at h2
     rw[h2];simp
   · intro y hy
     simp only[List.mem_map,List.mem_range] at hy
     obtain⟨i,hil,rfl⟩:=hy
     exact⟨D i,List.mem_map.2 ⟨i,List.mem_range.2 hil,rfl⟩,(hf' i hil).2⟩
theorem zTt{H:Type}{P:Program}{e:TypeId}{es:List (DataW H)}{y:DataW H}(hy:y∈es):∀n∈y.weights P e,n∈DataW.weightsAll P e es:=by
 induction es with
 | nil=>cases hy
 | cons z r ih =>
   intro n hn
   simp only[DataW.weightsAll,List.mem_append]
   rcases List.mem_cons.1 hy with rfl | h
   · exact .inl hn
   · exact .inr (ih h n hn)
theorem zT8{H:Type}{P:Program}{t e:TypeId}{es rest:List (DataW H)}(ht:P.underlying t=some (.slice e))(h:∀n∈(DataW.slice es rest).weights P t,LenB n){y:DataW H}(hy:y∈es):∀n∈y.weights P e,LenB n:=fun n hn=>by
 refine h n ?_
 simp only[DataW.weights,ht,List.mem_cons,List.mem_append]
 exact .inr (.inl (zTt hy n hn))
instance:Inhabited Ev:=⟨(0,0,0,0,0,0,false,[])⟩
theorem zMf{H:Type}{enc:TypeId×Value→H}{W:World}{base:Nat}{v:Value}{d:DataW H}{p:List MemPlace}(hw:∀n∈d.weights Tryz.prog 22,LenB n)(hv:Value.okWide Tryz.prog W .any base 22 v)
 (h:DataW.Trod enc Tryz.prog W 0 (fun _=>true) true 22 v d p):∃(l:List Ev)(a:Option Addr)(c:Nat),v=.slice a l.length c∧Sl W v 8 l.length (l.flatMap evc)∧l.length≤c∧FitE l:=by
 obtain⟨a0,len0,cap0,rfl⟩:=okWide_slice Tryz.underlying22 hv
 obtain⟨fuel,hf⟩:=h
 obtain⟨l,g1,g2,g3⟩:=zTd (P:=Tryz.prog) Tryz.underlying22 8 (by kernel_rfl) (by omega) evc zL4 (fun a y=>∃ps:List (DataW H),y=.agg ps∧ps[7]?=some (.lit (.string a.dt))) (fun n cs x hx=>by
  obtain⟨y,ps,e1,e2,e3⟩:=zL5 hx
  exact⟨y,e1,ps,e2,e3⟩) (by simpa [Value.cells] using hf)
 obtain⟨_,_,aa,cc,hv9,_⟩:=id g1
 refine⟨l,aa,cc,hv9,g1,g3 _ _ _ hv9,fun x hx=>?_⟩
 rcases g2 with ⟨_,rfl⟩ | ⟨es,rest,hd,hrel⟩
 · cases hx
 · obtain⟨y,hy,ps,rfl,h7⟩:=hrel x hx
   have hd':d=.slice es rest:=hd
   rw[hd'] at hw
   have:=zSd (zT8 Tryz.underlying22 hw hy) h7
   omega
end Go.Proofs.YtkedafopdkhnfaaGreat
