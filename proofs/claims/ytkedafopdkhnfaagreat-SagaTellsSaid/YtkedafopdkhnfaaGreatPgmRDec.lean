/- CONTRACT: the reference's Decode. -/
import Derived.Test.YtkedafopdkhnfaaGreatPgmDec
import Derived.Test.YtkedafopdkhnfaaGreatRTextFull
namespace Go.Proofs.YtkedafopdkhnfaaGreat
open Go.RowKit
set_option linter.unusedVariables false
theorem zJb{r r1 r2 r3 r4 r5 n u:List UInt8}{b b1 b2 b3 b4 b5:Bool}{t v:Nat}(h0:intF r b 9=(1,r1,b1))(h1:zB0 r1 b1=(n,r2,b2))(h2:intF r2 b2 9=(t,r3,b3))(h3:zB0 r3 b3=(u,r4,b4))(h4:intF r4 b4 9=(v,r5,b5)) :
 zBk (r,b)=(((1,n,u,(t:Int),(v:Int),0):St),r5,b5):=by
 simp only[zBk,zGq,rdI,tx2,h0,h1,h2,h3,h4,if_true]
theorem zHk{r r1 r2:List UInt8}{b b1 b2:Bool}{t:Nat}(h0:intF r b 9=(2,r1,b1))(h1:intF r1 b1 9999=(t,r2,b2)) :
 zBk (r,b)=(((2,[],[],0,0,(t:Int)):St),r2,b2):=by
 simp only[zBk,zGq,rdI,tx2,h0,h1]
 rw[if_neg (by decide),if_pos trivial]
theorem zIf{r r1 r2 n:List UInt8}{b b1 b2:Bool}{K:Nat}(h0:intF r b 9=(K,r1,b1))(k1:K≠1)(k2:K≠2)(h1:zB0 r1 b1=(n,r2,b2)) :
 zBk (r,b)=((((K:Int),n,[],0,0,0):St),r2,b2):=by
 simp only[zBk,zGq,rdI,tx2,h0,h1]
 rw[if_neg k1,if_neg k2,if_neg (by simp)]
theorem zG8(r:List UInt8)(b:Bool):(zB0 r b).1.length≤r.length:=Nat.le_trans (zLl _ _ _) (zEt r b)
theorem zJc(s:RS):(zBk s).2.1.length≤s.1.length∧(zBk s).1.nm.length≤s.1.length∧(zBk s).1.un.length≤s.1.length:=by
 obtain⟨r,b⟩:=s
 obtain⟨⟨k,r1,b1⟩,h0⟩:∃x,intF r b 9=x:=⟨_,rfl⟩
 have l0:=zBj r b 9
 rw[h0] at l0
 simp only at l0
 by_cases k1:k=1
 · subst k1
   obtain⟨⟨n,r2,b2⟩,h1⟩:∃x,zB0 r1 b1=x:=⟨_,rfl⟩
   obtain⟨⟨t,r3,b3⟩,h2⟩:∃x,intF r2 b2 9=x:=⟨_,rfl⟩
   obtain⟨⟨u,r4,b4⟩,h3⟩:∃x,zB0 r3 b3=x:=⟨_,rfl⟩
   obtain⟨⟨v,r5,b5⟩,h4⟩:∃x,intF r4 b4 9=x:=⟨_,rfl⟩
   have l1:=zDr r1 b1
   have l2:=zBj r2 b2 9
   have l3:=zDr r3 b3
   have l4:=zBj r4 b4 9
   have m1:=zG8 r1 b1
   have m3:=zG8 r3 b3
   rw[h1] at l1 m1;rw[h2] at l2;rw[h3] at l3 m3;rw[h4] at l4
   rw[zJb h0 h1 h2 h3 h4]
   simp only[St.nm,St.un] at l1 l2 l3 l4 m1 m3 ⊢
   exact⟨by omega,by omega,by omega⟩
 · by_cases k2:k=2
   · subst k2
     obtain⟨⟨t,r2,b2⟩,h1⟩:∃x,intF r1 b1 9999=x:=⟨_,rfl⟩
     have l1:=zBj r1 b1 9999
     rw[h1] at l1
     rw[zHk h0 h1]
     exact⟨by simp only at l1 ⊢;omega,Nat.zero_le _,Nat.zero_le _⟩
   · obtain⟨⟨n,r2,b2⟩,h1⟩:∃x,zB0 r1 b1=x:=⟨_,rfl⟩
     have l1:=zDr r1 b1
     have m1:=zG8 r1 b1
     rw[h1] at l1 m1
     rw[zIf h0 k1 k2 h1]
     simp only[St.nm,St.un] at l1 m1 ⊢
     exact⟨by omega,by omega,Nat.zero_le _⟩
theorem zIg:∀(k:Nat)(s:RS),∀x∈(zA4 zBk k s).1,x.nm.length≤s.1.length∧x.un.length≤s.1.length
 | 0,s,x,h=>by simp[zA4] at h
 | k + 1,s,x,h=>by
   rw[zA4] at h
   have h2:=zJc s
   rcases List.mem_cons.1 h with h | h
   · rw[h];exact h2.2
   · have h1:=zIg k (zBk s).2 x h
     exact⟨by omega,by omega⟩
set_option maxHeartbeats 800000 in
set_option maxRecDepth 100000 in
theorem zFy(l:List UInt8)(hl:l.length≤140737488355328)(w:World) :
 Calls Tryz.prog 78 #[.string ⟨l.toArray⟩] w fun e w'=>∃(v:Value)(lim:Int)(ss:List St)(er:Int),e=.returned (.tuple #[.agg #[v,.int .i64 lim],.int .i64 er])∧Sl w' v 6 ss.length (ss.flatMap stC)∧Below w.heap.size w w'∧((zE3 l=some (lim,ss)∧er=0)∨(zE3 l=none∧er=60∧v=.slice none 0 0∧lim=0∧ss=[])):=by
 have hinfo:(Tryz.prog.info? 77).map (fun i=>(i.zero,i.size,i.bytes))=some (some (.agg #[.int .i64 0,.string .empty,.string .empty,.int .i64 0,.int .i64 0,.int .i64 0]),6,64):=by kernel_rfl
 go_enter Tryz.func78,Tryz.ntmps78
 go_wp2_with fail
 obtain⟨w3,hw3⟩:∃w3,w3=((w.alloc (.cells #[.slice none 0 0,.int .i64 0] 32)).alloc (.cells #[.string ⟨l.toArray⟩,.bool false] 155)).alloc (.cells #[.slice none 0 0,.int .i64 0] 32):=⟨_,rfl⟩
 rw[← hw3]
 have s1:(w.alloc (.cells #[.slice none 0 0,.int .i64 0] 32)).heap.size=w.heap.size+1:=Array.size_push ..
 have s2:((w.alloc (.cells #[.slice none 0 0,.int .i64 0] 32)).alloc (.cells #[.string ⟨l.toArray⟩,.bool false] 155)).heap.size=w.heap.size+1+1:=by rw[← s1];exact Array.size_push ..
 have b1:Below w.heap.size w (w.alloc (.cells #[.slice none 0 0,.int .i64 0] 32)):=(Below.refl _ _).alloc (Nat.le_refl _) _
 have b2:=(Below.refl (w.alloc (.cells #[.slice none 0 0,.int .i64 0] 32)).heap.size (w.alloc (.cells #[.slice none 0 0,.int .i64 0] 32))).alloc (Nat.le_refl _) (.cells #[.string ⟨l.toArray⟩,.bool false] 155)
 have b3':=(Below.refl ((w.alloc (.cells #[.slice none 0 0,.int .i64 0] 32)).alloc (.cells #[.string ⟨l.toArray⟩,.bool false] 155)).heap.size ((w.alloc (.cells #[.slice none 0 0,.int .i64 0] 32)).alloc (.cells #[.string ⟨l.toArray⟩,.bool false] 155))).alloc (Nat.le_refl _) (.cells #[.slice none 0 0,.int .i64 0] 32)
 have b3:Below w.heap.size w w3:=by rw[hw3];exact zAl (zAl b1 b2) b3'
 have hq3:Obj2 w3 w.heap.size 32 (.slice none 0 0) (.int .i64 0):=by rw[hw3];exact((Obj2.new w _ _ _).keep b2).keep b3'
 have hr3:RRdr w3 (w.heap.size+1) l false:=by rw[hw3,← s1];exact(Obj2.new _ _ _ _).keep b3'
 have hp3:Obj2 w3 (w.heap.size+1+1) 32 (.slice none 0 0) (.int .i64 0):=by rw[hw3,← s2];exact Obj2.new _ _ _ _
 clear hw3 s1 s2 b1 b2 b3'
 obtain⟨g,hg⟩:∃g,g=w.heap.size+1:=⟨_,rfl⟩
 obtain⟨gp,hgp⟩:∃gp,gp=w.heap.size+1+1:=⟨_,rfl⟩
 obtain⟨gr,hgr⟩:∃gr,gr=w.heap.size:=⟨_,rfl⟩
 have n1:g≠gp:=by omega
 have n2:g≠gr:=by omega
 have n3:gp≠gr:=by omega
 have n4:w.heap.size≤g∧w.heap.size≤gp∧w.heap.size≤gr:=by omega
 rw[← hgp] at hp3 ⊢
 rw[← hg] at hr3 ⊢
 rw[← hgr] at hq3 ⊢
 clear hg hgp hgr
 refine(zDq g l false 1073741824 w3 hr3 (fun h=>by cases h) (by unfold maxLen;omega) (by omega) (by omega)).mono ?_
 rintro _ w4 ⟨rfl,hr4,a4⟩
 have b4:Below w.heap.size w w4:=At.below b3 a4 n4.1
 have hp4:=hp3.grown a4 (Ne.symm n1)
 have hq4:=hq3.grown a4 (Ne.symm n2)
 have hll:=zBj l false 1073741824
 have sn4:Sane (intF l false 1073741824).2.1 (intF l false 1073741824).2.2:=zEl _ (fun h=>by cases h)
 obtain⟨⟨lim,r1,e1⟩,hx1⟩:∃x,intF l false 1073741824=x:=⟨_,rfl⟩
 rw[hx1] at hr4 hll sn4 ⊢
 simp only at hr4 hll sn4 ⊢
 have pc1:=hp4.c1
 have pf1:=hp4.fz 1
 obtain⟨w5,hw5⟩:∃w5,w5=w4.setCell ⟨gp,1,none⟩ (.int .i64 lim):=⟨_,rfl⟩
 have a5:At gp w4 w5:=by rw[hw5];exact(At.refl _ _).set 1 _
 have hr5:=hr4.grown a5 n1
 have hq5:=hq4.grown a5 (Ne.symm n3)
 have hp5:Obj2 w5 gp 32 (.slice none 0 0) (.int .i64 lim):=by rw[hw5];exact hp4.set1 _
 have b5:Below w.heap.size w w5:=At.below b4 a5 n4.2.1
 have hX5:Hid (w5=w4.setCell ⟨gp,1,none⟩ (.int .i64 lim)):=hw5
 clear hw5 hp3 hq3 hr3 b3 a4 a5 hp4 hq4 hr4 b4
 go_wp2_with (rw[← hX5.out])
 refine(zDq g r1 e1 16 w5 hr5 sn4 (by unfold maxLen;omega) (by omega) (by omega)).mono ?_
 rintro _ w6 ⟨rfl,hr6,a6⟩
 have b6:Below w.heap.size w w6:=At.below b5 a6 n4.1
 have hp6:=hp5.grown a6 (Ne.symm n1)
 have hq6:=hq5.grown a6 (Ne.symm n2)
 have hN:=zG0 (r:=r1) (b:=e1) (m:=16) (by decide)
 have hlr:=zBj r1 e1 16
 have sn6:=zEl 16 sn4
 obtain⟨⟨N,r2,e2⟩,hx2⟩:∃x,intF r1 e1 16=x:=⟨_,rfl⟩
 rw[hx2] at hr6 hN hlr sn6 ⊢
 simp only at hr6 hN hlr sn6 ⊢
 clear pc1 pf1 hX5 hp5 hq5 hr5 b5 a6 sn4
 go_wp2_with fail
 obtain⟨S,hS⟩:∃S:RS,S=(r2,e2):=⟨_,rfl⟩
 go_loopw [7] (fun i wr=>∃(k:Nat) (v:Value),k≤N∧i=.int .i64 (k:Int)∧RRdr wr g (zA4 zBk k S).2.1 (zA4 zBk k S).2.2∧Sane (zA4 zBk k S).2.1 (zA4 zBk k S).2.2∧Obj2 wr gp 32 v (.int .i64 lim)∧wr.ownsRow w.heap.size 77 6 v k ((zA4 zBk k S).1.flatMap stC)∧Obj2 wr gr 32 (.slice none 0 0) (.int .i64 0)∧Below w.heap.size w wr) (fun i _=>N - (intOf i).toNat)
 case atStart=>exact⟨0,_,by omega,rfl,by rw[hS];exact hr6,by rw[hS];exact sn6,hp6,World.ownsRow_nil _ _ _ _,hq6,b6⟩
 case round =>
  clear hr6 hp6 hq6 b6 sn6
  obtain⟨k,v,hk,rfl,hr,sn,hp,ho,hq,hb⟩:=hrel
  have hlen:=zF1 (fun s=>(zJc s).1) k S
  rw[hS] at hlen
  simp only at hlen
  have hln:=zFn zBk k S
  have hsucc:=zF2 zBk k S
  by_cases hlt:k<N
  · have hlt':(k:Int)<(N:Int):=by omega
    rw[← hS] at hlen
    generalize hst:zA4 zBk k S=st at *
    obtain⟨xs,r,b⟩:=st
    simp only at hr ho hlen hln hsucc sn
    clear hst
    have hlr':r.length≤maxLen:=by unfold maxLen;omega
    have lg:=hr.lt
    have lp:=hp.lt
    have lq:=hq.lt
    have ng:wr.heap.size≠g:=by omega
    have np:wr.heap.size≠gp:=by omega
    have nq:wr.heap.size≠gr:=by omega
    go_wp2_with fail
    obtain⟨W,hW⟩:∃W,W=wr.alloc (.cells #[.int .i64 0,.string ⟨#[]⟩,.string ⟨#[]⟩,.int .i64 0,.int .i64 0,.int .i64 0] 77):=⟨_,rfl⟩
    rw[← hW]
    have bW:Below wr.heap.size wr W:=by rw[hW];exact(Below.refl _ _).alloc (Nat.le_refl _) _
    have hCW:W.heap[wr.heap.size]?=some (.cells #[.int .i64 0,.string ⟨#[]⟩,.string ⟨#[]⟩,.int .i64 0,.int .i64 0,.int .i64 0] 77 (0,0)):=by rw[hW];exact heap_alloc_new wr _
    have howr:=ho
    have hbwr:=hb
    have hrW:=hr.keep bW
    have hpW:=hp.keep bW
    have hqW:=hq.keep bW
    have hoW:=zAf ho bW
    have hbW:=zAl hb bW
    have snW:=sn
    clear hW hr hp hq ho sn
    refine(zDq g r b 9 W hrW snW (by unfold maxLen;omega) (by omega) (by omega)).mono ?_
    rintro _ w6 ⟨rfl,hrw6,aw6⟩
    have hpw6:=hpW.grown aw6 (Ne.symm n1)
    have hqw6:=hqW.grown aw6 (Ne.symm n2)
    have how6:=zAo hoW hrW (by decide) aw6
    have hbw6:=At.below hbW aw6 n4.1
    have hCw6:=(aw6.block wr.heap.size (gL hCW) (by simpa using ng)).trans hCW
    have hlw6:=zBj r b 9
    have snw6:Sane (intF r b 9).2.1 (intF r b 9).2.2:=zEl (9) snW
    obtain⟨⟨K,r1,b1⟩,hxw6⟩:∃x,intF r b 9=x:=⟨_,rfl⟩
    rw[hxw6] at hrw6 hlw6 snw6 ⊢
    simp only at hrw6 hlw6 snw6 ⊢
    clear hrW hpW hqW hoW hbW hCW snW
    clear aw6
    obtain⟨w7,hww7⟩:∃w7,w7=(w6.setCell ⟨wr.heap.size,0,none⟩ (.int .i64 (K:Int))):=⟨_,rfl⟩
    have aw7:At wr.heap.size w6 w7:=by rw[hww7];exact((At.refl wr.heap.size w6).set 0 _)
    have hrw7:=hrw6.grown aw7 (Ne.symm ng)
    have hpw7:=hpw6.grown aw7 (Ne.symm np)
    have hqw7:=hqw6.grown aw7 (Ne.symm nq)
    have how7:=zCm howr how6 aw7 (Nat.le_refl _)
    have hbw7:=At.below hbw6 aw7 hbwr.size
    have hCw7:w7.heap[wr.heap.size]?=some (.cells #[.int .i64 (K:Int),.string ⟨#[]⟩,.string ⟨#[]⟩,.int .i64 0,.int .i64 0,.int .i64 0] 77 (0,0)):=by rw[hww7];exact(heap_setCell_same _ wr.heap.size 0 _ _ (.int .i64 (K:Int)) hCw6)
    have hXw7:Hid (w7=(w6.setCell ⟨wr.heap.size,0,none⟩ (.int .i64 (K:Int)))):=hww7
    have snw7:=snw6
    have z0:w6.frozen? ⟨wr.heap.size,0,none⟩=false:=frozen_of_row w6 _ 0 _ _ hCw6
    have u0:w6.cell? ⟨wr.heap.size,0,none⟩=some (.int .i64 0):=by rw[cell_of_row w6 _ 0 _ _ (0,0) hCw6];rfl
    clear hww7 aw7
    clear hrw6 hpw6 hqw6 how6 hbw6 hCw6 snw6
    by_cases k1:K=1
    · subst k1
      rw[show((1:Nat):Int)=(1:Int) from rfl] at hXw7 hCw7
      have y0:w7.cell? ⟨wr.heap.size,0,none⟩=some (.int .i64 1):=by rw[cell_of_row w7 _ 0 _ _ (0,0) hCw7];rfl
      go_wp2_with (rw[← hXw7.out])
      clear z0 u0 hXw7
      clear y0
      refine(zG9 g r1 b1 w7 hrw7 snw7 (by omega)).mono ?_
      rintro _ w8 ⟨rfl,hrw8,aw8⟩
      have hpw8:=hpw7.grown aw8 (Ne.symm n1)
      have hqw8:=hqw7.grown aw8 (Ne.symm n2)
      have how8:=zAo how7 hrw7 (by decide) aw8
      have hbw8:=At.below hbw7 aw8 n4.1
      have hCw8:=(aw8.block wr.heap.size (gL hCw7) (by simpa using ng)).trans hCw7
      have hlw8:=zDr r1 b1
      have snw8:Sane (zB0 r1 b1).2.1 (zB0 r1 b1).2.2:=zFz  snw7
      obtain⟨⟨n,r3,b3⟩,hxw8⟩:∃x,zB0 r1 b1=x:=⟨_,rfl⟩
      rw[hxw8] at hrw8 hlw8 snw8 ⊢
      simp only at hrw8 hlw8 snw8 ⊢
      clear hrw7 hpw7 hqw7 how7 hbw7 hCw7 snw7
      clear aw8
      obtain⟨w9,hww9⟩:∃w9,w9=(w8.setCell ⟨wr.heap.size,1,none⟩ (.string ⟨n.toArray⟩)):=⟨_,rfl⟩
      have aw9:At wr.heap.size w8 w9:=by rw[hww9];exact((At.refl wr.heap.size w8).set 1 _)
      have hrw9:=hrw8.grown aw9 (Ne.symm ng)
      have hpw9:=hpw8.grown aw9 (Ne.symm np)
      have hqw9:=hqw8.grown aw9 (Ne.symm nq)
      have how9:=zCm howr how8 aw9 (Nat.le_refl _)
      have hbw9:=At.below hbw8 aw9 hbwr.size
      have hCw9:w9.heap[wr.heap.size]?=some (.cells #[.int .i64 1,.string ⟨n.toArray⟩,.string ⟨#[]⟩,.int .i64 0,.int .i64 0,.int .i64 0] 77 (0,0)):=by rw[hww9];exact(heap_setCell_same _ wr.heap.size 1 _ _ (.string ⟨n.toArray⟩) hCw8)
      have hXw9:Hid (w9=(w8.setCell ⟨wr.heap.size,1,none⟩ (.string ⟨n.toArray⟩))):=hww9
      have snw9:=snw8
      have z1:w8.frozen? ⟨wr.heap.size,1,none⟩=false:=frozen_of_row w8 _ 1 _ _ hCw8
      have u1:w8.cell? ⟨wr.heap.size,1,none⟩=some (.string ⟨#[]⟩):=by rw[cell_of_row w8 _ 1 _ _ (0,0) hCw8];rfl
      clear hww9 aw9
      clear hrw8 hpw8 hqw8 how8 hbw8 hCw8 snw8
      go_wp2_with (rw[← hXw9.out])
      clear z1 u1 hXw9
      refine(zDq g r3 b3 9 w9 hrw9 snw9 (by unfold maxLen;omega) (by omega) (by omega)).mono ?_
      rintro _ wA ⟨rfl,hrwA,awA⟩
      have hpwA:=hpw9.grown awA (Ne.symm n1)
      have hqwA:=hqw9.grown awA (Ne.symm n2)
      have howA:=zAo how9 hrw9 (by decide) awA
      have hbwA:=At.below hbw9 awA n4.1
      have hCwA:=(awA.block wr.heap.size (gL hCw9) (by simpa using ng)).trans hCw9
      have hlwA:=zBj r3 b3 9
      have snwA:Sane (intF r3 b3 9).2.1 (intF r3 b3 9).2.2:=zEl (9) snw9
      obtain⟨⟨t,r4,b4⟩,hxwA⟩:∃x,intF r3 b3 9=x:=⟨_,rfl⟩
      rw[hxwA] at hrwA hlwA snwA ⊢
      simp only at hrwA hlwA snwA ⊢
      clear hrw9 hpw9 hqw9 how9 hbw9 hCw9 snw9
      clear awA
      obtain⟨wB,hwwB⟩:∃wB,wB=(wA.setCell ⟨wr.heap.size,3,none⟩ (.int .i64 t)):=⟨_,rfl⟩
      have awB:At wr.heap.size wA wB:=by rw[hwwB];exact((At.refl wr.heap.size wA).set 3 _)
      have hrwB:=hrwA.grown awB (Ne.symm ng)
      have hpwB:=hpwA.grown awB (Ne.symm np)
      have hqwB:=hqwA.grown awB (Ne.symm nq)
      have howB:=zCm howr howA awB (Nat.le_refl _)
      have hbwB:=At.below hbwA awB hbwr.size
      have hCwB:wB.heap[wr.heap.size]?=some (.cells #[.int .i64 1,.string ⟨n.toArray⟩,.string ⟨#[]⟩,.int .i64 t,.int .i64 0,.int .i64 0] 77 (0,0)):=by rw[hwwB];exact(heap_setCell_same _ wr.heap.size 3 _ _ (.int .i64 t) hCwA)
      have hXwB:Hid (wB=(wA.setCell ⟨wr.heap.size,3,none⟩ (.int .i64 t))):=hwwB
      have snwB:=snwA
      have z3:wA.frozen? ⟨wr.heap.size,3,none⟩=false:=frozen_of_row wA _ 3 _ _ hCwA
      have u3:wA.cell? ⟨wr.heap.size,3,none⟩=some (.int .i64 0):=by rw[cell_of_row wA _ 3 _ _ (0,0) hCwA];rfl
      clear hwwB awB
      clear hrwA hpwA hqwA howA hbwA hCwA snwA
      go_wp2_with (rw[← hXwB.out])
      clear z3 u3 hXwB
      refine(zG9 g r4 b4 wB hrwB snwB (by omega)).mono ?_
      rintro _ wC ⟨rfl,hrwC,awC⟩
      have hpwC:=hpwB.grown awC (Ne.symm n1)
      have hqwC:=hqwB.grown awC (Ne.symm n2)
      have howC:=zAo howB hrwB (by decide) awC
      have hbwC:=At.below hbwB awC n4.1
      have hCwC:=(awC.block wr.heap.size (gL hCwB) (by simpa using ng)).trans hCwB
      have hlwC:=zDr r4 b4
      have snwC:Sane (zB0 r4 b4).2.1 (zB0 r4 b4).2.2:=zFz  snwB
      obtain⟨⟨u,r5,b5⟩,hxwC⟩:∃x,zB0 r4 b4=x:=⟨_,rfl⟩
      rw[hxwC] at hrwC hlwC snwC ⊢
      simp only at hrwC hlwC snwC ⊢
      clear hrwB hpwB hqwB howB hbwB hCwB snwB
      clear awC
      obtain⟨wD,hwwD⟩:∃wD,wD=(wC.setCell ⟨wr.heap.size,2,none⟩ (.string ⟨u.toArray⟩)):=⟨_,rfl⟩
      have awD:At wr.heap.size wC wD:=by rw[hwwD];exact((At.refl wr.heap.size wC).set 2 _)
      have hrwD:=hrwC.grown awD (Ne.symm ng)
      have hpwD:=hpwC.grown awD (Ne.symm np)
      have hqwD:=hqwC.grown awD (Ne.symm nq)
      have howD:=zCm howr howC awD (Nat.le_refl _)
      have hbwD:=At.below hbwC awD hbwr.size
      have hCwD:wD.heap[wr.heap.size]?=some (.cells #[.int .i64 1,.string ⟨n.toArray⟩,.string ⟨u.toArray⟩,.int .i64 t,.int .i64 0,.int .i64 0] 77 (0,0)):=by rw[hwwD];exact(heap_setCell_same _ wr.heap.size 2 _ _ (.string ⟨u.toArray⟩) hCwC)
      have hXwD:Hid (wD=(wC.setCell ⟨wr.heap.size,2,none⟩ (.string ⟨u.toArray⟩))):=hwwD
      have snwD:=snwC
      have z2:wC.frozen? ⟨wr.heap.size,2,none⟩=false:=frozen_of_row wC _ 2 _ _ hCwC
      have u2:wC.cell? ⟨wr.heap.size,2,none⟩=some (.string ⟨#[]⟩):=by rw[cell_of_row wC _ 2 _ _ (0,0) hCwC];rfl
      clear hwwD awD
      clear hrwC hpwC hqwC howC hbwC hCwC snwC
      go_wp2_with (rw[← hXwD.out])
      clear z2 u2 hXwD
      refine(zDq g r5 b5 9 wD hrwD snwD (by unfold maxLen;omega) (by omega) (by omega)).mono ?_
      rintro _ wE ⟨rfl,hrwE,awE⟩
      have hpwE:=hpwD.grown awE (Ne.symm n1)
      have hqwE:=hqwD.grown awE (Ne.symm n2)
      have howE:=zAo howD hrwD (by decide) awE
      have hbwE:=At.below hbwD awE n4.1
      have hCwE:=(awE.block wr.heap.size (gL hCwD) (by simpa using ng)).trans hCwD
      have hlwE:=zBj r5 b5 9
      have snwE:Sane (intF r5 b5 9).2.1 (intF r5 b5 9).2.2:=zEl (9) snwD
      obtain⟨⟨v5,r6,b6⟩,hxwE⟩:∃x,intF r5 b5 9=x:=⟨_,rfl⟩
      rw[hxwE] at hrwE hlwE snwE ⊢
      simp only at hrwE hlwE snwE ⊢
      rw[zJb hxw6 hxw8 hxwA hxwC hxwE] at hsucc
      have HS:=hid hsucc
      clear hsucc
      clear hrwD hpwD hqwD howD hbwD hCwD snwD
      clear awE
      obtain⟨wF,hwwF⟩:∃wF,wF=(wE.setCell ⟨wr.heap.size,4,none⟩ (.int .i64 v5)):=⟨_,rfl⟩
      have awF:At wr.heap.size wE wF:=by rw[hwwF];exact((At.refl wr.heap.size wE).set 4 _)
      have hrwF:=hrwE.grown awF (Ne.symm ng)
      have hpwF:=hpwE.grown awF (Ne.symm np)
      have hqwF:=hqwE.grown awF (Ne.symm nq)
      have howF:=zCm howr howE awF (Nat.le_refl _)
      have hbwF:=At.below hbwE awF hbwr.size
      have hCwF:wF.heap[wr.heap.size]?=some (.cells #[.int .i64 1,.string ⟨n.toArray⟩,.string ⟨u.toArray⟩,.int .i64 t,.int .i64 v5,.int .i64 0] 77 (0,0)):=by rw[hwwF];exact(heap_setCell_same _ wr.heap.size 4 _ _ (.int .i64 v5) hCwE)
      have hXwF:Hid (wF=(wE.setCell ⟨wr.heap.size,4,none⟩ (.int .i64 v5))):=hwwF
      have snwF:=snwE
      have z4:wE.frozen? ⟨wr.heap.size,4,none⟩=false:=frozen_of_row wE _ 4 _ _ hCwE
      have u4:wE.cell? ⟨wr.heap.size,4,none⟩=some (.int .i64 0):=by rw[cell_of_row wE _ 4 _ _ (0,0) hCwE];rfl
      clear hwwF awF
      clear hrwE hpwE hqwE howE hbwE hCwE snwE
      clear howr hbwr
      have x0:wF.cell? ⟨wr.heap.size,0,none⟩=some (.int .i64 1):=by rw[cell_of_row wF _ 0 _ _ (0,0) hCwF];rfl
      have x1:wF.cell? ⟨wr.heap.size,1,none⟩=some (.string ⟨n.toArray⟩):=by rw[cell_of_row wF _ 1 _ _ (0,0) hCwF];rfl
      have x2:wF.cell? ⟨wr.heap.size,2,none⟩=some (.string ⟨u.toArray⟩):=by rw[cell_of_row wF _ 2 _ _ (0,0) hCwF];rfl
      have x3:wF.cell? ⟨wr.heap.size,3,none⟩=some (.int .i64 t):=by rw[cell_of_row wF _ 3 _ _ (0,0) hCwF];rfl
      have x4:wF.cell? ⟨wr.heap.size,4,none⟩=some (.int .i64 v5):=by rw[cell_of_row wF _ 4 _ _ (0,0) hCwF];rfl
      have x5:wF.cell? ⟨wr.heap.size,5,none⟩=some (.int .i64 0):=by rw[cell_of_row wF _ 5 _ _ (0,0) hCwF];rfl
      have p0:=hpwF.c0
      have bZ:Below wF.heap.size wF (wF.alloc (.cells #[.int .i64 1,.string ⟨n.toArray⟩,.string ⟨u.toArray⟩,.int .i64 t,.int .i64 v5,.int .i64 0] 77)):=(Below.refl _ _).alloc (Nat.le_refl _) _
      have oZ:=zAf howF bZ
      have pZ:=hpwF.keep bZ
      have hy:∀(j:Nat) (q9:Value),(stC ((1,n,u,(t:Int),(v5:Int),0):St))[j]?=some q9→(wF.alloc (.cells #[.int .i64 1,.string ⟨n.toArray⟩,.string ⟨u.toArray⟩,.int .i64 t,.int .i64 v5,.int .i64 0] 77)).cell? ⟨wF.heap.size,j,none⟩=some q9:=by
       intro j u hu
       refine(World.cell?_alloc_at _ _ _ _ rfl).trans ?_
       rw[← hu]
       exact List.getElem?_toArray
      have hB9:w.heap.size≤(wF.alloc (.cells #[.int .i64 1,.string ⟨n.toArray⟩,.string ⟨u.toArray⟩,.int .i64 t,.int .i64 v5,.int .i64 0] 77)).heap.size:=Nat.le_trans hbwF.size bZ.size
      go_wp2_with (first | (rw[← hXwF.out]) | (at_builtin;go_must (refine zAs _ rfl _ _ 30 rfl stC 6 (by decide) zEy zEz w.heap.size 77 (.agg #[.int .i64 0,.string .empty,.string .empty,.int .i64 0,.int .i64 0,.int .i64 0]) 64 Tryz.underlying30 hinfo rfl _ k xs rfl oZ wF.heap.size 1 rfl ((1,n,u,(t:Int),(v5:Int),0):St) hy (by unfold maxLen;omega) (by omega) hB9 ?_)))
      intro a' c' w' hown hgrow
      have pZ':=zBb oZ hgrow pZ (by decide)
      have rZ':=zBb oZ hgrow (hrwF.keep bZ) (by decide)
      have qZ':=zBb oZ hgrow (hqwF.keep bZ) (by decide)
      have bZ':=zB9 (zAl hbwF bZ) oZ hgrow (Nat.le_refl _)
      have d0:=pZ'.c0
      have d1:=pZ'.fz 0
      clear x0 x1 x2 x3 x4 x5 p0 hy
      go_wp2_with fail
      go_roundw
      case rel =>
       refine⟨k+1,.slice a' (k+1) c',by omega,by go_num,?_,by rw[HS.out];exact snwF,pZ'.set0 _,?_,qZ'.grown ((At.refl gp w').set 0 _) (Ne.symm n3),At.below bZ' ((At.refl gp w').set 0 _) n4.2.1⟩
       · rw[HS.out];exact Obj2.grown rZ' ((At.refl gp w').set 0 _) n1
       · rw[HS.out];exact zAo (xs:=((xs ++ [((1,n,u,(t:Int),(v5:Int),0):St)]).flatMap stC)) (by simpa using hown) pZ' (by decide) ((At.refl gp w').set 0 _)
      case measure=>simp[intOf];omega
    · by_cases k2:K=2
      · subst k2
        rw[show((2:Nat):Int)=(2:Int) from rfl] at hXw7 hCw7
        have y0:w7.cell? ⟨wr.heap.size,0,none⟩=some (.int .i64 2):=by rw[cell_of_row w7 _ 0 _ _ (0,0) hCw7];rfl
        go_wp2_with (rw[← hXw7.out])
        clear z0 u0 hXw7
        clear y0
        refine(zDq g r1 b1 9999 w7 hrw7 snw7 (by unfold maxLen;omega) (by omega) (by omega)).mono ?_
        rintro _ w8 ⟨rfl,hrw8,aw8⟩
        have hpw8:=hpw7.grown aw8 (Ne.symm n1)
        have hqw8:=hqw7.grown aw8 (Ne.symm n2)
        have how8:=zAo how7 hrw7 (by decide) aw8
        have hbw8:=At.below hbw7 aw8 n4.1
        have hCw8:=(aw8.block wr.heap.size (gL hCw7) (by simpa using ng)).trans hCw7
        have hlw8:=zBj r1 b1 9999
        have snw8:Sane (intF r1 b1 9999).2.1 (intF r1 b1 9999).2.2:=zEl (9999) snw7
        obtain⟨⟨t,r3,b3⟩,hxw8⟩:∃x,intF r1 b1 9999=x:=⟨_,rfl⟩
        rw[hxw8] at hrw8 hlw8 snw8 ⊢
        simp only at hrw8 hlw8 snw8 ⊢
        rw[zHk hxw6 hxw8] at hsucc
        have HS:=hid hsucc
        clear hsucc
        clear hrw7 hpw7 hqw7 how7 hbw7 hCw7 snw7
        clear aw8
        obtain⟨w9,hww9⟩:∃w9,w9=(w8.setCell ⟨wr.heap.size,5,none⟩ (.int .i64 t)):=⟨_,rfl⟩
        have aw9:At wr.heap.size w8 w9:=by rw[hww9];exact((At.refl wr.heap.size w8).set 5 _)
        have hrw9:=hrw8.grown aw9 (Ne.symm ng)
        have hpw9:=hpw8.grown aw9 (Ne.symm np)
        have hqw9:=hqw8.grown aw9 (Ne.symm nq)
        have how9:=zCm howr how8 aw9 (Nat.le_refl _)
        have hbw9:=At.below hbw8 aw9 hbwr.size
        have hCw9:w9.heap[wr.heap.size]?=some (.cells #[.int .i64 2,.string ⟨#[]⟩,.string ⟨#[]⟩,.int .i64 0,.int .i64 0,.int .i64 t] 77 (0,0)):=by rw[hww9];exact(heap_setCell_same _ wr.heap.size 5 _ _ (.int .i64 t) hCw8)
        have hXw9:Hid (w9=(w8.setCell ⟨wr.heap.size,5,none⟩ (.int .i64 t))):=hww9
        have snw9:=snw8
        have z5:w8.frozen? ⟨wr.heap.size,5,none⟩=false:=frozen_of_row w8 _ 5 _ _ hCw8
        have u5:w8.cell? ⟨wr.heap.size,5,none⟩=some (.int .i64 0):=by rw[cell_of_row w8 _ 5 _ _ (0,0) hCw8];rfl
        clear hww9 aw9
        clear hrw8 hpw8 hqw8 how8 hbw8 hCw8 snw8
        clear howr hbwr
        have x0:w9.cell? ⟨wr.heap.size,0,none⟩=some (.int .i64 2):=by rw[cell_of_row w9 _ 0 _ _ (0,0) hCw9];rfl
        have x1:w9.cell? ⟨wr.heap.size,1,none⟩=some (.string ⟨#[]⟩):=by rw[cell_of_row w9 _ 1 _ _ (0,0) hCw9];rfl
        have x2:w9.cell? ⟨wr.heap.size,2,none⟩=some (.string ⟨#[]⟩):=by rw[cell_of_row w9 _ 2 _ _ (0,0) hCw9];rfl
        have x3:w9.cell? ⟨wr.heap.size,3,none⟩=some (.int .i64 0):=by rw[cell_of_row w9 _ 3 _ _ (0,0) hCw9];rfl
        have x4:w9.cell? ⟨wr.heap.size,4,none⟩=some (.int .i64 0):=by rw[cell_of_row w9 _ 4 _ _ (0,0) hCw9];rfl
        have x5:w9.cell? ⟨wr.heap.size,5,none⟩=some (.int .i64 t):=by rw[cell_of_row w9 _ 5 _ _ (0,0) hCw9];rfl
        have p0:=hpw9.c0
        have bZ:Below w9.heap.size w9 (w9.alloc (.cells #[.int .i64 2,.string ⟨#[]⟩,.string ⟨#[]⟩,.int .i64 0,.int .i64 0,.int .i64 t] 77)):=(Below.refl _ _).alloc (Nat.le_refl _) _
        have oZ:=zAf how9 bZ
        have pZ:=hpw9.keep bZ
        have hy:∀(j:Nat) (q9:Value),(stC ((2,[],[],0,0,(t:Int)):St))[j]?=some q9→(w9.alloc (.cells #[.int .i64 2,.string ⟨#[]⟩,.string ⟨#[]⟩,.int .i64 0,.int .i64 0,.int .i64 t] 77)).cell? ⟨w9.heap.size,j,none⟩=some q9:=by
         intro j u hu
         refine(World.cell?_alloc_at _ _ _ _ rfl).trans ?_
         rw[← hu]
         exact List.getElem?_toArray
        have hB9:w.heap.size≤(w9.alloc (.cells #[.int .i64 2,.string ⟨#[]⟩,.string ⟨#[]⟩,.int .i64 0,.int .i64 0,.int .i64 t] 77)).heap.size:=Nat.le_trans hbw9.size bZ.size
        go_wp2_with (first | (rw[← hXw9.out]) | (at_builtin;go_must (refine zAs _ rfl _ _ 30 rfl stC 6 (by decide) zEy zEz w.heap.size 77 (.agg #[.int .i64 0,.string .empty,.string .empty,.int .i64 0,.int .i64 0,.int .i64 0]) 64 Tryz.underlying30 hinfo rfl _ k xs rfl oZ w9.heap.size 1 rfl ((2,[],[],0,0,(t:Int)):St) hy (by unfold maxLen;omega) (by omega) hB9 ?_)))
        intro a' c' w' hown hgrow
        have pZ':=zBb oZ hgrow pZ (by decide)
        have rZ':=zBb oZ hgrow (hrw9.keep bZ) (by decide)
        have qZ':=zBb oZ hgrow (hqw9.keep bZ) (by decide)
        have bZ':=zB9 (zAl hbw9 bZ) oZ hgrow (Nat.le_refl _)
        have d0:=pZ'.c0
        have d1:=pZ'.fz 0
        clear x0 x1 x2 x3 x4 x5 p0 hy
        go_wp2_with fail
        go_roundw
        case rel =>
         refine⟨k+1,.slice a' (k+1) c',by omega,by go_num,?_,by rw[HS.out];exact snw9,pZ'.set0 _,?_,qZ'.grown ((At.refl gp w').set 0 _) (Ne.symm n3),At.below bZ' ((At.refl gp w').set 0 _) n4.2.1⟩
         · rw[HS.out];exact Obj2.grown rZ' ((At.refl gp w').set 0 _) n1
         · rw[HS.out];exact zAo (xs:=((xs ++ [((2,[],[],0,0,(t:Int)):St)]).flatMap stC)) (by simpa using hown) pZ' (by decide) ((At.refl gp w').set 0 _)
        case measure=>simp[intOf];omega
      · have e1:((K:Int)==1)=false:=by simpa using (show(K:Int)≠1 by omega)
        have e2:((K:Int)==2)=false:=by simpa using (show(K:Int)≠2 by omega)
        have y0:w7.cell? ⟨wr.heap.size,0,none⟩=some (.int .i64 (K:Int)):=by rw[cell_of_row w7 _ 0 _ _ (0,0) hCw7];rfl
        go_wp2_with (rw[← hXw7.out])
        clear z0 u0 hXw7
        clear y0
        refine(zG9 g r1 b1 w7 hrw7 snw7 (by omega)).mono ?_
        rintro _ w8 ⟨rfl,hrw8,aw8⟩
        have hpw8:=hpw7.grown aw8 (Ne.symm n1)
        have hqw8:=hqw7.grown aw8 (Ne.symm n2)
        have how8:=zAo how7 hrw7 (by decide) aw8
        have hbw8:=At.below hbw7 aw8 n4.1
        have hCw8:=(aw8.block wr.heap.size (gL hCw7) (by simpa using ng)).trans hCw7
        have hlw8:=zDr r1 b1
        have snw8:Sane (zB0 r1 b1).2.1 (zB0 r1 b1).2.2:=zFz  snw7
        obtain⟨⟨n,r3,b3⟩,hxw8⟩:∃x,zB0 r1 b1=x:=⟨_,rfl⟩
        rw[hxw8] at hrw8 hlw8 snw8 ⊢
        simp only at hrw8 hlw8 snw8 ⊢
        rw[zIf hxw6 k1 k2 hxw8] at hsucc
        have HS:=hid hsucc
        clear hsucc
        clear hrw7 hpw7 hqw7 how7 hbw7 hCw7 snw7
        clear aw8
        obtain⟨w9,hww9⟩:∃w9,w9=(w8.setCell ⟨wr.heap.size,1,none⟩ (.string ⟨n.toArray⟩)):=⟨_,rfl⟩
        have aw9:At wr.heap.size w8 w9:=by rw[hww9];exact((At.refl wr.heap.size w8).set 1 _)
        have hrw9:=hrw8.grown aw9 (Ne.symm ng)
        have hpw9:=hpw8.grown aw9 (Ne.symm np)
        have hqw9:=hqw8.grown aw9 (Ne.symm nq)
        have how9:=zCm howr how8 aw9 (Nat.le_refl _)
        have hbw9:=At.below hbw8 aw9 hbwr.size
        have hCw9:w9.heap[wr.heap.size]?=some (.cells #[.int .i64 (K:Int),.string ⟨n.toArray⟩,.string ⟨#[]⟩,.int .i64 0,.int .i64 0,.int .i64 0] 77 (0,0)):=by rw[hww9];exact(heap_setCell_same _ wr.heap.size 1 _ _ (.string ⟨n.toArray⟩) hCw8)
        have hXw9:Hid (w9=(w8.setCell ⟨wr.heap.size,1,none⟩ (.string ⟨n.toArray⟩))):=hww9
        have snw9:=snw8
        have z1:w8.frozen? ⟨wr.heap.size,1,none⟩=false:=frozen_of_row w8 _ 1 _ _ hCw8
        have u1:w8.cell? ⟨wr.heap.size,1,none⟩=some (.string ⟨#[]⟩):=by rw[cell_of_row w8 _ 1 _ _ (0,0) hCw8];rfl
        clear hww9 aw9
        clear hrw8 hpw8 hqw8 how8 hbw8 hCw8 snw8
        clear howr hbwr
        have x0:w9.cell? ⟨wr.heap.size,0,none⟩=some (.int .i64 (K:Int)):=by rw[cell_of_row w9 _ 0 _ _ (0,0) hCw9];rfl
        have x1:w9.cell? ⟨wr.heap.size,1,none⟩=some (.string ⟨n.toArray⟩):=by rw[cell_of_row w9 _ 1 _ _ (0,0) hCw9];rfl
        have x2:w9.cell? ⟨wr.heap.size,2,none⟩=some (.string ⟨#[]⟩):=by rw[cell_of_row w9 _ 2 _ _ (0,0) hCw9];rfl
        have x3:w9.cell? ⟨wr.heap.size,3,none⟩=some (.int .i64 0):=by rw[cell_of_row w9 _ 3 _ _ (0,0) hCw9];rfl
        have x4:w9.cell? ⟨wr.heap.size,4,none⟩=some (.int .i64 0):=by rw[cell_of_row w9 _ 4 _ _ (0,0) hCw9];rfl
        have x5:w9.cell? ⟨wr.heap.size,5,none⟩=some (.int .i64 0):=by rw[cell_of_row w9 _ 5 _ _ (0,0) hCw9];rfl
        have p0:=hpw9.c0
        have bZ:Below w9.heap.size w9 (w9.alloc (.cells #[.int .i64 (K:Int),.string ⟨n.toArray⟩,.string ⟨#[]⟩,.int .i64 0,.int .i64 0,.int .i64 0] 77)):=(Below.refl _ _).alloc (Nat.le_refl _) _
        have oZ:=zAf how9 bZ
        have pZ:=hpw9.keep bZ
        have hy:∀(j:Nat) (q9:Value),(stC (((K:Int),n,[],0,0,0):St))[j]?=some q9→(w9.alloc (.cells #[.int .i64 (K:Int),.string ⟨n.toArray⟩,.string ⟨#[]⟩,.int .i64 0,.int .i64 0,.int .i64 0] 77)).cell? ⟨w9.heap.size,j,none⟩=some q9:=by
         intro j u hu
         refine(World.cell?_alloc_at _ _ _ _ rfl).trans ?_
         rw[← hu]
         exact List.getElem?_toArray
        have hB9:w.heap.size≤(w9.alloc (.cells #[.int .i64 (K:Int),.string ⟨n.toArray⟩,.string ⟨#[]⟩,.int .i64 0,.int .i64 0,.int .i64 0] 77)).heap.size:=Nat.le_trans hbw9.size bZ.size
        go_wp2_with (first | (rw[← hXw9.out]) | (at_builtin;go_must (refine zAs _ rfl _ _ 30 rfl stC 6 (by decide) zEy zEz w.heap.size 77 (.agg #[.int .i64 0,.string .empty,.string .empty,.int .i64 0,.int .i64 0,.int .i64 0]) 64 Tryz.underlying30 hinfo rfl _ k xs rfl oZ w9.heap.size 1 rfl (((K:Int),n,[],0,0,0):St) hy (by unfold maxLen;omega) (by omega) hB9 ?_)))
        intro a' c' w' hown hgrow
        have pZ':=zBb oZ hgrow pZ (by decide)
        have rZ':=zBb oZ hgrow (hrw9.keep bZ) (by decide)
        have qZ':=zBb oZ hgrow (hqw9.keep bZ) (by decide)
        have bZ':=zB9 (zAl hbw9 bZ) oZ hgrow (Nat.le_refl _)
        have d0:=pZ'.c0
        have d1:=pZ'.fz 0
        clear x0 x1 x2 x3 x4 x5 p0 hy
        go_wp2_with fail
        go_roundw
        case rel =>
         refine⟨k+1,.slice a' (k+1) c',by omega,by go_num,?_,by rw[HS.out];exact snw9,pZ'.set0 _,?_,qZ'.grown ((At.refl gp w').set 0 _) (Ne.symm n3),At.below bZ' ((At.refl gp w').set 0 _) n4.2.1⟩
         · rw[HS.out];exact Obj2.grown rZ' ((At.refl gp w').set 0 _) n1
         · rw[HS.out];exact zAo (xs:=((xs ++ [(((K:Int),n,[],0,0,0):St)]).flatMap stC)) (by simpa using hown) pZ' (by decide) ((At.refl gp w').set 0 _)
        case measure=>simp[intOf];omega
  · obtain rfl:k=N:=by omega
    obtain⟨va,vc,rfl⟩:=zCc ho
    have hpg:zC8 zBk 1073741824 l=((lim:Int),zA4 zBk k S):=by
     unfold zC8 rdI
     simp only[hx1,hx2,hS]
    have hpf:zE3 l=(if zCr (lim:Int) (zA4 zBk k S).1∧endF (zA4 zBk k S).2.1 (zA4 zBk k S).2.2=true∧encP (lim:Int) (zA4 zBk k S).1=l then some ((lim:Int),(zA4 zBk k S).1) else none):=by
     unfold zE3
     rw[hpg]
    have hfit:=zIg k S
    rw[← hS] at hlen
    generalize hst:zA4 zBk k S=st at *
    obtain⟨xs,r,b⟩:=st
    simp only at hr ho hln hsucc hpf hfit
    clear hst hpg hsucc hx1 hx2
    have hF:Fit xs:=fun x hx=>by
     have:=hfit x hx
     rw[hS] at this
     simp only at this
     unfold maxLen
     exact⟨by omega,by omega⟩
    have hsl:Sl wr (.slice va k vc) 6 xs.length (xs.flatMap stC):=by rw[hln];exact Sl.of_own ho (by unfold maxLen;omega)
    have henc:=zMi (.slice va k vc) lim xs wr hsl hF
    have p0:=hp.c0
    have p1:=hp.c1
    have HENC:=hid henc
    have HPF:=hid hpf
    have HLN:=hid hln
    clear hfit hlen hF hsl henc hpf hln
    go_wp2_with fail
    refine HENC.out.mono ?_
    rintro _ w9 ⟨rfl,hb9⟩
    have hend:=zS2 g r b w9 (hr.keep hb9)
    have p9:=hp.keep hb9
    have q9:=hq.keep hb9
    have o9:=zAf ho hb9
    have b9:=zAl hb hb9
    have p90:=p9.c0
    have p91:=p9.c1
    have q90:=q9.c0
    have q91:=q9.c1
    have qf90:=q9.fz 0
    have qf91:=q9.fz 1
    have a1:At gr w9 ((w9.setCell ⟨gr,0,none⟩ (.slice none 0 0)).setCell ⟨gr,1,none⟩ (.int .i64 0)):=((At.refl gr w9).set 0 _).set 1 _
    have HB:=hid (At.below b9 a1 n4.2.2)
    clear p0 p1
    by_cases hpp:zCr (lim:Int) xs
    · have hv:chkV lim xs=0:=by unfold chkV;rw[if_pos hpp]
      have hw:encV lim xs=encP lim xs:=by unfold encV;rw[if_pos hpp]
      rw[hv,hw]
      clear hv hw
      by_cases he:endF r b=true
      · rw [he] at hend
        by_cases hs:encP (lim:Int) xs=l
        · have HR:=hid (show zE3 l=some ((lim:Int),xs) by rw[HPF.out,if_pos ⟨hpp,he,hs⟩])
          rw[hs]
          clear he hpp hs
          go_wp2_with fail
          refine hend.mono ?_
          rintro _ w10 ⟨rfl,hw10⟩
          rw[hw10]
          clear hw10 w10
          go_wp2_with fail
          have a9:At gr w9 ((w9.setCell ⟨gr,0,none⟩ (.slice va k vc)).setCell ⟨gr,1,none⟩ (.int .i64 lim)):=((At.refl gr w9).set 0 _).set 1 _
          refine bodyPost_ret (v:=.tuple #[.agg #[.slice va k vc,.int .i64 lim],.int .i64 0]) ?_ rfl ⟨.slice va k vc,lim,xs,0,rfl,?_,At.below b9 a9 n4.2.2,.inl ⟨HR.out,rfl⟩⟩
          · rw[results_cell_tmp rfl]
            go_simp
          · rw[HLN.out]
            exact Sl.of_own (zAo o9 q9 (by decide) a9) (by unfold maxLen;omega)
        · have HR:=hid (show zE3 l=none by rw[HPF.out,if_neg (fun h=>hs h.2.2)])
          have hs':(encP (lim:Int) xs==l)=false:=by simpa using hs
          clear he hpp
          go_wp2_with fail
          refine hend.mono ?_
          rintro _ w10 ⟨rfl,hw10⟩
          rw[hw10]
          clear hw10 w10
          go_wp2_with fail
          (refine bodyPost_ret (v:=.tuple #[.agg #[.slice none 0 0,.int .i64 0],.int .i64 60]) ?_ rfl ⟨.slice none 0 0,0,[],60,rfl,Sl.none _ _,HB.out,.inr ⟨HR.out,rfl,rfl,rfl,rfl⟩⟩;rw[results_cell_tmp rfl];go_simp)
      · have he':endF r b=false:=by simpa using he
        rw[he'] at hend
        have HR:=hid (show zE3 l=none by rw[HPF.out,if_neg (fun h=>he h.2.1)])
        clear he he' hpp
        go_wp2_with fail
        refine hend.mono ?_
        rintro _ w10 ⟨rfl,hw10⟩
        rw[hw10]
        clear hw10 w10
        go_wp2_with fail
        (refine bodyPost_ret (v:=.tuple #[.agg #[.slice none 0 0,.int .i64 0],.int .i64 60]) ?_ rfl ⟨.slice none 0 0,0,[],60,rfl,Sl.none _ _,HB.out,.inr ⟨HR.out,rfl,rfl,rfl,rfl⟩⟩;rw[results_cell_tmp rfl];go_simp)
    · have hv:chkV lim xs=130:=by unfold chkV;rw[if_neg hpp]
      have HR:=hid (show zE3 l=none by rw[HPF.out,if_neg (fun h=>hpp h.1)])
      rw[hv]
      clear hv hpp
      go_wp2_with fail
      (refine bodyPost_ret (v:=.tuple #[.agg #[.slice none 0 0,.int .i64 0],.int .i64 60]) ?_ rfl ⟨.slice none 0 0,0,[],60,rfl,Sl.none _ _,HB.out,.inr ⟨HR.out,rfl,rfl,rfl,rfl⟩⟩;rw[results_cell_tmp rfl];go_simp)
end Go.Proofs.YtkedafopdkhnfaaGreat
