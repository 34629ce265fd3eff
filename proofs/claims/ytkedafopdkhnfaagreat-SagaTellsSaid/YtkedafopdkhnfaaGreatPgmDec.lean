/- CONTRACT: prog.Decode. -/
import Derived.Test.YtkedafopdkhnfaaGreatPgmREnc
import Derived.Test.YtkedafopdkhnfaaGreatRowAppend
import Derived.Laws.ResultCell
namespace Go.Proofs.YtkedafopdkhnfaaGreat
open Go.RowKit
set_option linter.unusedVariables false
theorem zF2(f:RS→St×RS):∀(k:Nat)(s:RS),zA4 f (k+1) s=((zA4 f k s).1 ++ [(f (zA4 f k s).2).1],(f (zA4 f k s).2).2)
 | 0,s=>rfl
 | k+1,s=>by
   have h:=zF2 f k (f s).2
   show((f s).1 :: (zA4 f (k+1) (f s).2).1,(zA4 f (k+1) (f s).2).2)=_
   rw[h]
   rfl
theorem zIl{r r1 r2 r3 r4 r5 n u:List UInt8}{b b1 b2 b3 b4 b5:Bool}{t v:Nat}(h0:intF r b 3=(1,r1,b1))(h1:zCz r1 b1=(n,r2,b2))(h2:intF r2 b2 5=(t,r3,b3))(h3:zCz r3 b3=(u,r4,b4))(h4:intF r4 b4 5=(v,r5,b5)) :
 zBr (r,b)=(((1,n,u,(t:Int),(v:Int),0):St),r5,b5):=by
 simp only[zBr,zGq,rdI,tx1,h0,h1,h2,h3,h4,if_true]
theorem zF0{r r1 r2:List UInt8}{b b1 b2:Bool}{t:Nat}(h0:intF r b 3=(2,r1,b1))(h1:intF r1 b1 1000=(t,r2,b2)) :
 zBr (r,b)=(((2,[],[],0,0,(t:Int)):St),r2,b2):=by
 simp only[zBr,zGq,rdI,tx1,h0,h1]
 rw[if_neg (by decide),if_pos trivial]
theorem zFd{r r1 r2 n:List UInt8}{b b1 b2:Bool}(h0:intF r b 3=(3,r1,b1))(h1:zCz r1 b1=(n,r2,b2)) :
 zBr (r,b)=(((3,n,[],0,0,0):St),r2,b2):=by
 simp only[zBr,zGq,rdI,tx1,h0,h1]
 rw[if_neg (by decide),if_neg (by decide),if_neg (by simp)]
 rfl
theorem zHb{r r1:List UInt8}{b b1:Bool}(h0:intF r b 3=(0,r1,b1)) :
 zBr (r,b)=(((0,[],[],0,0,0):St),r1,b1):=by
 simp only[zBr,zGq,rdI,tx1,h0]
 rw[if_neg (by decide),if_neg (by decide),if_pos (by simp)]
theorem zLi(s:RS):(zBr s).2.1.length≤s.1.length:=by
 obtain⟨r,b⟩:=s
 obtain⟨⟨k,r1,b1⟩,h0⟩:∃x,intF r b 3=x:=⟨_,rfl⟩
 have l0:=zBj r b 3
 have hk:=zG0 (r:=r) (b:=b) (m:=3) (by decide)
 rw[h0] at l0 hk
 simp only at l0 hk
 have hc:k=0∨k=1∨k=2∨k=3:=by omega
 rcases hc with rfl | rfl | rfl | rfl
 · rw[zHb h0];exact l0
 · obtain⟨⟨n,r2,b2⟩,h1⟩:∃x,zCz r1 b1=x:=⟨_,rfl⟩
   obtain⟨⟨t,r3,b3⟩,h2⟩:∃x,intF r2 b2 5=x:=⟨_,rfl⟩
   obtain⟨⟨u,r4,b4⟩,h3⟩:∃x,zCz r3 b3=x:=⟨_,rfl⟩
   obtain⟨⟨v,r5,b5⟩,h4⟩:∃x,intF r4 b4 5=x:=⟨_,rfl⟩
   have l1:=zDw r1 b1
   have l2:=zBj r2 b2 5
   have l3:=zDw r3 b3
   have l4:=zBj r4 b4 5
   rw[h1] at l1;rw[h2] at l2;rw[h3] at l3;rw[h4] at l4
   rw[zIl h0 h1 h2 h3 h4]
   simp only at l1 l2 l3 l4 ⊢
   omega
 · obtain⟨⟨t,r2,b2⟩,h1⟩:∃x,intF r1 b1 1000=x:=⟨_,rfl⟩
   have l1:=zBj r1 b1 1000
   rw[h1] at l1
   rw[zF0 h0 h1]
   simp only at l1 ⊢
   omega
 · obtain⟨⟨n,r2,b2⟩,h1⟩:∃x,zCz r1 b1=x:=⟨_,rfl⟩
   have l1:=zDw r1 b1
   rw[h1] at l1
   rw[zFd h0 h1]
   simp only at l1 ⊢
   omega
theorem zF1{f:RS→St×RS}(hf:∀s,(f s).2.1.length≤s.1.length):∀(k:Nat)(s:RS),(zA4 f k s).2.1.length≤s.1.length
 | 0,s=>Nat.le_refl _
 | k+1,s=>Nat.le_trans (zF1 hf k (f s).2) (hf s)
theorem zLl(r:List UInt8)(b:Bool)(n:Int):(zC1 r b n).1.length≤r.length:=by
 unfold zC1
 split
 · exact Nat.zero_le _
 · split
   · exact Nat.zero_le _
   · simp only[List.length_take];omega
theorem zIm(r:List UInt8)(b:Bool):(zCz r b).1.length≤r.length:=Nat.le_trans (zLl _ _ _) (zEt r b)
theorem zQv(s:RS):(zBr s).1.nm.length≤s.1.length∧(zBr s).1.un.length≤s.1.length:=by
 obtain⟨r,b⟩:=s
 obtain⟨⟨k,r1,b1⟩,h0⟩:∃x,intF r b 3=x:=⟨_,rfl⟩
 have l0:=zBj r b 3
 have hk:=zG0 (r:=r) (b:=b) (m:=3) (by decide)
 rw[h0] at l0 hk
 simp only at l0 hk
 have hc:k=0∨k=1∨k=2∨k=3:=by omega
 rcases hc with rfl | rfl | rfl | rfl
 · rw[zHb h0];exact⟨Nat.zero_le _,Nat.zero_le _⟩
 · obtain⟨⟨n,r2,b2⟩,h1⟩:∃x,zCz r1 b1=x:=⟨_,rfl⟩
   obtain⟨⟨t,r3,b3⟩,h2⟩:∃x,intF r2 b2 5=x:=⟨_,rfl⟩
   obtain⟨⟨u,r4,b4⟩,h3⟩:∃x,zCz r3 b3=x:=⟨_,rfl⟩
   obtain⟨⟨v,r5,b5⟩,h4⟩:∃x,intF r4 b4 5=x:=⟨_,rfl⟩
   have l1:=zDw r1 b1
   have l2:=zBj r2 b2 5
   have m1:=zIm r1 b1
   have m3:=zIm r3 b3
   rw[h1] at l1 m1;rw[h2] at l2;rw[h3] at m3
   rw[zIl h0 h1 h2 h3 h4]
   simp only[St.nm,St.un] at l1 l2 m1 m3 ⊢
   exact⟨by omega,by omega⟩
 · obtain⟨⟨t,r2,b2⟩,h1⟩:∃x,intF r1 b1 1000=x:=⟨_,rfl⟩
   rw[zF0 h0 h1];exact⟨Nat.zero_le _,Nat.zero_le _⟩
 · obtain⟨⟨n,r2,b2⟩,h1⟩:∃x,zCz r1 b1=x:=⟨_,rfl⟩
   have m1:=zIm r1 b1
   rw[h1] at m1
   rw[zFd h0 h1]
   simp only[St.nm,St.un] at m1 ⊢
   exact⟨by omega,Nat.zero_le _⟩
theorem zJf:∀(k:Nat)(s:RS),∀x∈(zA4 zBr k s).1,x.nm.length≤s.1.length∧x.un.length≤s.1.length
 | 0,s,x,h=>by simp[zA4] at h
 | k + 1,s,x,h=>by
   rw[zA4] at h
   rcases List.mem_cons.1 h with h | h
   · rw[h];exact zQv s
   · have h1:=zJf k (zBr s).2 x h
     have h2:=zLi s
     exact⟨by omega,by omega⟩
theorem zEz(x:St):∀u∈stC x,u.oneCell'=true:=by
 intro u hu
 simp only[stC,List.mem_cons,List.not_mem_nil,or_false] at hu
 rcases hu with rfl | rfl | rfl | rfl | rfl | rfl <;> rfl
set_option maxHeartbeats 800000 in
set_option maxRecDepth 100000 in
theorem zIy(l:List UInt8)(hl:l.length≤140737488355328)(w:World) :
 Calls Tryz.prog 38 #[.string ⟨l.toArray⟩] w fun e w'=>∃(v:Value)(lim:Int)(ss:List St)(er:Int),e=.returned (.tuple #[.agg #[v,.int .i64 lim],.int .i64 er])∧w'.ownsRow w.heap.size 77 6 v ss.length (ss.flatMap stC)∧Below w.heap.size w w'∧((zDf l=some (lim,ss)∧er=0)∨(zDf l=none∧er=60∧v=.slice none 0 0∧lim=0∧ss=[])):=by
 have hinfo:(Tryz.prog.info? 77).map (fun i=>(i.zero,i.size,i.bytes))=some (some (.agg #[.int .i64 0,.string .empty,.string .empty,.int .i64 0,.int .i64 0,.int .i64 0]),6,64):=by kernel_rfl
 go_enter Tryz.func38,Tryz.ntmps38
 go_wp2_with fail
 obtain⟨w0,hw0⟩:∃w0,w0=w.alloc (.cells #[.slice none 0 0,.int .i64 0] 32):=⟨_,rfl⟩
 rw[← hw0]
 have hq0:Obj2 w0 w.heap.size 32 (.slice none 0 0) (.int .i64 0):=by rw[hw0];exact Obj2.new _ _ _ _
 have b0:Below w.heap.size w w0:=by rw[hw0];exact(Below.refl _ _).alloc (Nat.le_refl _) _
 have s0:w0.heap.size=w.heap.size+1:=by rw[hw0];exact Array.size_push ..
 clear hw0
 refine(zS0 l w0).mono ?_
 rintro _ w1 ⟨rfl,hw1⟩
 have hr1:Rdr w1 w0.heap.size l false:=by rw[hw1];exact zS1 l w0
 have b1:Below w0.heap.size w0 w1:=by rw[hw1];exact(Below.refl _ _).alloc (Nat.le_refl _) _
 clear hw1
 rw[s0] at hr1
 have hp0:=hq0
 have hq1:=hq0.keep b1
 go_wp2_with fail
 refine(zG1 _ _ _ 16000 w1 hr1 (by unfold maxLen;omega) (by omega) (by omega)).mono ?_
 rintro _ w2 ⟨rfl,hr2,a2⟩
 have hq2:=hq1.grown a2 (by omega)
 have s1:=b1.size
 have b2:Below w.heap.size w w2:=At.below (zAl b0 b1) a2 (by omega)
 have s2:=b2.size
 have hlim:=zG0 (r:=l) (b:=false) (m:=16000) (by decide)
 have hll:=zBj l false 16000
 obtain⟨⟨lim,r1,e1⟩,hx1⟩:∃x,intF l false 16000=x:=⟨_,rfl⟩
 rw[hx1] at hr2 hlim hll ⊢
 simp only at hr2 hlim hll ⊢
 have hl2:=hr2.lt
 go_wp2_with fail
 obtain⟨w3,hw3⟩:∃w3,w3=w2.alloc (.cells #[.slice none 0 0,.int .i64 lim] 32):=⟨_,rfl⟩
 rw[← hw3]
 have a3:Below w2.heap.size w2 w3:=by rw[hw3];exact(Below.refl _ _).alloc (Nat.le_refl _) _
 have hp3:Obj2 w3 w2.heap.size 32 (.slice none 0 0) (.int .i64 lim):=by rw[hw3];exact Obj2.new _ _ _ _
 have hr3:=hr2.keep a3
 have hq3:=hq2.keep a3
 have b3:=zAl b2 a3
 clear hw3 hp0
 refine(zG1 _ _ _ 16 w3 hr3 (by unfold maxLen;omega) (by omega) (by omega)).mono ?_
 rintro _ w4 ⟨rfl,hr4,a4⟩
 have b4:Below w.heap.size w w4:=At.below b3 a4 (by omega)
 have hp4:=hp3.grown a4 (by omega)
 have hq4:=hq3.grown a4 (by omega)
 have hN:=zG0 (r:=r1) (b:=e1) (m:=16) (by decide)
 have hlr:=zBj r1 e1 16
 obtain⟨⟨N,r2,e2⟩,hx2⟩:∃x,intF r1 e1 16=x:=⟨_,rfl⟩
 rw[hx2] at hr4 hN hlr ⊢
 simp only at hr4 hN hlr ⊢
 obtain⟨g,hg⟩:∃g,g=w.heap.size+1:=⟨_,rfl⟩
 obtain⟨gp,hgp⟩:∃gp,gp=w2.heap.size:=⟨_,rfl⟩
 obtain⟨gr,hgr⟩:∃gr,gr=w.heap.size:=⟨_,rfl⟩
 have n1:g≠gp:=by omega
 have n2:g≠gr:=by omega
 have n3:gp≠gr:=by omega
 have n4:w.heap.size≤g∧w.heap.size≤gp∧w.heap.size≤gr:=by omega
 rw[← hg] at hr4 ⊢
 rw[← hgp] at hp4 ⊢
 rw[← hgr] at hq4 ⊢
 have HG:=hid (And.intro hgr (And.intro hgp hg))
 clear hr1 hr2 hr3 hp3 hq0 hq1 hq2 hq3 a2 a3 a4 b0 b1 b2 b3 hl2 s0 s1 s2 hg hgp hgr
 go_wp2_with fail
 obtain⟨S,hS⟩:∃S:RS,S=(r2,e2):=⟨_,rfl⟩
 go_loopw [6] (fun n wr=>∃(k:Nat) (v:Value),k≤N∧n=.int .i64 ((N - k:Nat):Int)∧Rdr wr g (zA4 zBr k S).2.1 (zA4 zBr k S).2.2∧Obj2 wr gp 32 v (.int .i64 lim)∧wr.ownsRow w.heap.size 77 6 v k ((zA4 zBr k S).1.flatMap stC)∧Obj2 wr gr 32 (.slice none 0 0) (.int .i64 0)∧Below w.heap.size w wr) (fun n _=>(intOf n).toNat)
 case atStart=>exact⟨0,_,by omega,rfl,by rw[hS];exact hr4,hp4,World.ownsRow_nil _ _ _ _,hq4,b4⟩
 case round =>
  clear hr4 hp4 hq4 b4
  obtain⟨k,v,hk,rfl,hr,hp,ho,hq,hb⟩:=hrel
  have hlen:=zF1 zLi k S
  rw[hS] at hlen
  simp only at hlen
  have hln:=zFn zBr k S
  have hsucc:=zF2 zBr k S
  by_cases hlt:k<N
  · have hpos:(0:Int)<((N - k:Nat):Int):=by omega
    have hwr:((N - k:Nat):Int) - 1=((N - (k+1):Nat):Int):=by omega
    rw[← hS] at hlen
    generalize hst:zA4 zBr k S=st at *
    obtain⟨xs,r,b⟩:=st
    simp only at hr ho hlen hln hsucc
    clear hst
    have hlr':r.length≤maxLen:=by unfold maxLen;omega
    have lg:=hr.lt
    have lp:=hp.lt
    have lq:=hq.lt
    go_wp2_with fail
    refine(zG1 g r b 3 wr hr hlr' (by omega) (by omega)).mono ?_
    rintro _ w5 ⟨rfl,hr5,a5⟩
    have hp5:=hp.grown a5 (Ne.symm n1)
    have hq5:=hq.grown a5 (Ne.symm n2)
    have ho5:=zAo ho hr (by decide) a5
    have hb5:=At.below hb a5 (by omega)
    have hk5:=zG0 (r:=r) (b:=b) (m:=3) (by decide)
    have hl5:=zBj r b 3
    obtain⟨⟨K,r1,b1⟩,hx⟩:∃x,intF r b 3=x:=⟨_,rfl⟩
    rw[hx] at hr5 hk5 hl5 ⊢
    simp only at hr5 hk5 hl5 ⊢
    clear hr hp ho hq
    have hKc:K=0∨K=1∨K=2∨K=3:=by omega
    clear hk5
    rcases hKc with rfl | rfl | rfl | rfl
    · rw[zHb hx] at hsucc
      have HS:=hid hsucc
      clear hsucc
      have bW:Below w5.heap.size w5 (w5.alloc (.cells #[.int .i64 0,.string ⟨#[]⟩,.string ⟨#[]⟩,.int .i64 0,.int .i64 0,.int .i64 0] 77)):=(Below.refl _ _).alloc (Nat.le_refl _) _
      have hC:(w5.alloc (.cells #[.int .i64 0,.string ⟨#[]⟩,.string ⟨#[]⟩,.int .i64 0,.int .i64 0,.int .i64 0] 77)).heap[w5.heap.size]?=some (.cells #[.int .i64 0,.string ⟨#[]⟩,.string ⟨#[]⟩,.int .i64 0,.int .i64 0,.int .i64 0] 77 (0,0)):=heap_alloc_new w5 _
      have hrW:=hr5.keep bW
      have hpW:=hp5.keep bW
      have hqW:=hq5.keep bW
      have hoW:=zAf ho5 bW
      have hbW:=zAl hb5 bW
      clear hr5 hp5 hq5 ho5 hb5
      have x0:(w5.alloc (.cells #[.int .i64 0,.string ⟨#[]⟩,.string ⟨#[]⟩,.int .i64 0,.int .i64 0,.int .i64 0] 77)).cell? ⟨w5.heap.size,0,none⟩=some (.int .i64 0):=by rw[cell_of_row (w5.alloc (.cells #[.int .i64 0,.string ⟨#[]⟩,.string ⟨#[]⟩,.int .i64 0,.int .i64 0,.int .i64 0] 77)) _ 0 _ _ (0,0) hC];rfl
      have x1:(w5.alloc (.cells #[.int .i64 0,.string ⟨#[]⟩,.string ⟨#[]⟩,.int .i64 0,.int .i64 0,.int .i64 0] 77)).cell? ⟨w5.heap.size,1,none⟩=some (.string ⟨#[]⟩):=by rw[cell_of_row (w5.alloc (.cells #[.int .i64 0,.string ⟨#[]⟩,.string ⟨#[]⟩,.int .i64 0,.int .i64 0,.int .i64 0] 77)) _ 1 _ _ (0,0) hC];rfl
      have x2:(w5.alloc (.cells #[.int .i64 0,.string ⟨#[]⟩,.string ⟨#[]⟩,.int .i64 0,.int .i64 0,.int .i64 0] 77)).cell? ⟨w5.heap.size,2,none⟩=some (.string ⟨#[]⟩):=by rw[cell_of_row (w5.alloc (.cells #[.int .i64 0,.string ⟨#[]⟩,.string ⟨#[]⟩,.int .i64 0,.int .i64 0,.int .i64 0] 77)) _ 2 _ _ (0,0) hC];rfl
      have x3:(w5.alloc (.cells #[.int .i64 0,.string ⟨#[]⟩,.string ⟨#[]⟩,.int .i64 0,.int .i64 0,.int .i64 0] 77)).cell? ⟨w5.heap.size,3,none⟩=some (.int .i64 0):=by rw[cell_of_row (w5.alloc (.cells #[.int .i64 0,.string ⟨#[]⟩,.string ⟨#[]⟩,.int .i64 0,.int .i64 0,.int .i64 0] 77)) _ 3 _ _ (0,0) hC];rfl
      have x4:(w5.alloc (.cells #[.int .i64 0,.string ⟨#[]⟩,.string ⟨#[]⟩,.int .i64 0,.int .i64 0,.int .i64 0] 77)).cell? ⟨w5.heap.size,4,none⟩=some (.int .i64 0):=by rw[cell_of_row (w5.alloc (.cells #[.int .i64 0,.string ⟨#[]⟩,.string ⟨#[]⟩,.int .i64 0,.int .i64 0,.int .i64 0] 77)) _ 4 _ _ (0,0) hC];rfl
      have x5:(w5.alloc (.cells #[.int .i64 0,.string ⟨#[]⟩,.string ⟨#[]⟩,.int .i64 0,.int .i64 0,.int .i64 0] 77)).cell? ⟨w5.heap.size,5,none⟩=some (.int .i64 0):=by rw[cell_of_row (w5.alloc (.cells #[.int .i64 0,.string ⟨#[]⟩,.string ⟨#[]⟩,.int .i64 0,.int .i64 0,.int .i64 0] 77)) _ 5 _ _ (0,0) hC];rfl
      have p0:=hpW.c0
      have bZ:Below (w5.alloc (.cells #[.int .i64 0,.string ⟨#[]⟩,.string ⟨#[]⟩,.int .i64 0,.int .i64 0,.int .i64 0] 77)).heap.size (w5.alloc (.cells #[.int .i64 0,.string ⟨#[]⟩,.string ⟨#[]⟩,.int .i64 0,.int .i64 0,.int .i64 0] 77)) ((w5.alloc (.cells #[.int .i64 0,.string ⟨#[]⟩,.string ⟨#[]⟩,.int .i64 0,.int .i64 0,.int .i64 0] 77)).alloc (.cells #[.int .i64 0,.string ⟨#[]⟩,.string ⟨#[]⟩,.int .i64 0,.int .i64 0,.int .i64 0] 77)):=(Below.refl _ _).alloc (Nat.le_refl _) _
      have oZ:=zAf hoW bZ
      have pZ:=hpW.keep bZ
      have hy:∀(j:Nat) (q9:Value),(stC ((0,[],[],0,0,0):St))[j]?=some q9→((w5.alloc (.cells #[.int .i64 0,.string ⟨#[]⟩,.string ⟨#[]⟩,.int .i64 0,.int .i64 0,.int .i64 0] 77)).alloc (.cells #[.int .i64 0,.string ⟨#[]⟩,.string ⟨#[]⟩,.int .i64 0,.int .i64 0,.int .i64 0] 77)).cell? ⟨(w5.heap.size+1),j,none⟩=some q9:=by
       intro j u hu
       refine(World.cell?_alloc_at _ _ _ _ (Array.size_push ..).symm).trans ?_
       rw[← hu]
       exact List.getElem?_toArray
      have hB9:w.heap.size≤((w5.alloc (.cells #[.int .i64 0,.string ⟨#[]⟩,.string ⟨#[]⟩,.int .i64 0,.int .i64 0,.int .i64 0] 77)).alloc (.cells #[.int .i64 0,.string ⟨#[]⟩,.string ⟨#[]⟩,.int .i64 0,.int .i64 0,.int .i64 0] 77)).heap.size:=Nat.le_trans hbW.size bZ.size
      go_wp2_with ((at_builtin;go_must (refine zAs _ rfl _ _ 30 rfl stC 6 (by decide) zEy zEz w.heap.size 77 (.agg #[.int .i64 0,.string .empty,.string .empty,.int .i64 0,.int .i64 0,.int .i64 0]) 64 Tryz.underlying30 hinfo rfl _ k xs rfl oZ (w5.heap.size+1) 1 rfl ((0,[],[],0,0,0):St) hy (by unfold maxLen;omega) (by omega) hB9 ?_)))
      intro a' c' w' hown hgrow
      have pZ':=zBb oZ hgrow pZ (by decide)
      have rZ':=zBb oZ hgrow (hrW.keep bZ) (by decide)
      have qZ':=zBb oZ hgrow (hqW.keep bZ) (by decide)
      have bZ':=zB9 (zAl hbW bZ) oZ hgrow (Nat.le_refl _)
      have d0:=pZ'.c0
      have d1:=pZ'.fz 0
      clear x0 x1 x2 x3 x4 x5 p0 hy
      go_wp2_with fail
      go_roundw
      case rel =>
       refine⟨k+1,.slice a' (k+1) c',by omega,rfl,?_,pZ'.set0 _,?_,qZ'.grown ((At.refl gp w').set 0 _) (Ne.symm n3),At.below bZ' ((At.refl gp w').set 0 _) n4.2.1⟩
       · rw[HS.out];exact Obj2.grown rZ' ((At.refl gp w').set 0 _) n1
       · rw[HS.out];exact zAo (xs:=((xs ++ [((0,[],[],0,0,0):St)]).flatMap stC)) (by simpa using hown) pZ' (by decide) ((At.refl gp w').set 0 _)
      case measure=>simp[intOf];omega
    · obtain⟨W,hW⟩:∃W,W=w5.alloc (.cells #[.int .i64 1,.string ⟨#[]⟩,.string ⟨#[]⟩,.int .i64 0,.int .i64 0,.int .i64 0] 77):=⟨_,rfl⟩
      have bW:Below w5.heap.size w5 W:=by rw[hW];exact(Below.refl _ _).alloc (Nat.le_refl _) _
      have hCW:W.heap[w5.heap.size]?=some (.cells #[.int .i64 1,.string ⟨#[]⟩,.string ⟨#[]⟩,.int .i64 0,.int .i64 0,.int .i64 0] 77 (0,0)):=by rw[hW];exact heap_alloc_new w5 _
      have hrW:=hr5.keep bW
      have hpW:=hp5.keep bW
      have hqW:=hq5.keep bW
      have hoW:=zAf ho5 bW
      have hbW:=zAl hb5 bW
      have ng:w5.heap.size≠g:=by have:=hr5.lt;omega
      have np:w5.heap.size≠gp:=by have:=hp5.lt;omega
      have nq:w5.heap.size≠gr:=by have:=hq5.lt;omega
      have hX:Hid (W=w5.alloc (.cells #[.int .i64 1,.string ⟨#[]⟩,.string ⟨#[]⟩,.int .i64 0,.int .i64 0,.int .i64 0] 77)):=hW
      clear hW hr5 hp5 hq5
      have y0:W.cell? ⟨w5.heap.size,0,none⟩=some (.int .i64 1):=by rw[cell_of_row W _ 0 _ _ (0,0) hCW];rfl
      go_wp2_with (rw[← hX.out])
      refine(zHd g r1 b1 W hrW (by unfold maxLen;omega)).mono ?_
      rintro _ w6 ⟨rfl,hrw6,aw6⟩
      have hpw6:=hpW.grown aw6 (Ne.symm n1)
      have hqw6:=hqW.grown aw6 (Ne.symm n2)
      have how6:=zAo hoW hrW (by decide) aw6
      have hbw6:=At.below hbW aw6 n4.1
      have hCw6:=(aw6.block w5.heap.size (gL hCW) (by simpa using ng)).trans hCW
      have hlw6:=zDw r1 b1
      obtain⟨⟨n,r3,b3⟩,hxw6⟩:∃x,zCz r1 b1=x:=⟨_,rfl⟩
      rw[hxw6] at hrw6 hlw6 ⊢
      simp only at hrw6 hlw6 ⊢
      clear y0 hrW hpW hqW hoW hbW hCW aw6
      go_wp2_with fail
      refine(zG1 g r3 b3 5 w6 hrw6 (by unfold maxLen;omega) (by omega) (by omega)).mono ?_
      rintro _ w7 ⟨rfl,hrw7,aw7⟩
      have hpw7:=hpw6.grown aw7 (Ne.symm n1)
      have hqw7:=hqw6.grown aw7 (Ne.symm n2)
      have how7:=zAo how6 hrw6 (by decide) aw7
      have hbw7:=At.below hbw6 aw7 n4.1
      have hCw7:=(aw7.block w5.heap.size (gL hCw6) (by simpa using ng)).trans hCw6
      have hlw7:=zBj r3 b3 5
      obtain⟨⟨t,r4,b4⟩,hxw7⟩:∃x,intF r3 b3 5=x:=⟨_,rfl⟩
      rw[hxw7] at hrw7 hlw7 ⊢
      simp only at hrw7 hlw7 ⊢
      clear hrw6 hpw6 hqw6 how6 hbw6 hCw6 aw7
      obtain⟨w8,hww8⟩:∃w8,w8=((w7.setCell ⟨w5.heap.size,1,none⟩ (.string ⟨n.toArray⟩)).setCell ⟨w5.heap.size,3,none⟩ (.int .i64 t)):=⟨_,rfl⟩
      have aw8:At w5.heap.size w7 w8:=by rw[hww8];exact(((At.refl w5.heap.size w7).set 1 _).set 3 _)
      have hrw8:=hrw7.grown aw8 (Ne.symm ng)
      have hpw8:=hpw7.grown aw8 (Ne.symm np)
      have hqw8:=hqw7.grown aw8 (Ne.symm nq)
      have how8:=zCm ho5 how7 aw8 (Nat.le_refl _)
      have hbw8:=At.below hbw7 aw8 hb5.size
      have hCw8:w8.heap[w5.heap.size]?=some (.cells #[.int .i64 1,.string ⟨n.toArray⟩,.string ⟨#[]⟩,.int .i64 t,.int .i64 0,.int .i64 0] 77 (0,0)):=by rw[hww8];exact(heap_setCell_same _ w5.heap.size 3 _ _ (.int .i64 t) (heap_setCell_same _ w5.heap.size 1 _ _ (.string ⟨n.toArray⟩) hCw7))
      have hXw8:Hid (w8=((w7.setCell ⟨w5.heap.size,1,none⟩ (.string ⟨n.toArray⟩)).setCell ⟨w5.heap.size,3,none⟩ (.int .i64 t))):=hww8
      have z1:w7.frozen? ⟨w5.heap.size,1,none⟩=false:=frozen_of_row w7 _ 1 _ _ hCw7
      have u1:w7.cell? ⟨w5.heap.size,1,none⟩=some (.string ⟨#[]⟩):=by rw[cell_of_row w7 _ 1 _ _ (0,0) hCw7];rfl
      have z3:w7.frozen? ⟨w5.heap.size,3,none⟩=false:=frozen_of_row w7 _ 3 _ _ hCw7
      have u3:w7.cell? ⟨w5.heap.size,3,none⟩=some (.int .i64 0):=by rw[cell_of_row w7 _ 3 _ _ (0,0) hCw7];rfl
      clear hww8 aw8 hrw7 hpw7 hqw7 how7 hbw7 hCw7
      go_wp2_with (rw[← hXw8.out])
      clear z1 z3 u1 u3
      refine(zHd g r4 b4 w8 hrw8 (by unfold maxLen;omega)).mono ?_
      rintro _ w9 ⟨rfl,hrw9,aw9⟩
      have hpw9:=hpw8.grown aw9 (Ne.symm n1)
      have hqw9:=hqw8.grown aw9 (Ne.symm n2)
      have how9:=zAo how8 hrw8 (by decide) aw9
      have hbw9:=At.below hbw8 aw9 n4.1
      have hCw9:=(aw9.block w5.heap.size (gL hCw8) (by simpa using ng)).trans hCw8
      have hlw9:=zDw r4 b4
      obtain⟨⟨u,r5,b5⟩,hxw9⟩:∃x,zCz r4 b4=x:=⟨_,rfl⟩
      rw[hxw9] at hrw9 hlw9 ⊢
      simp only at hrw9 hlw9 ⊢
      clear hrw8 hpw8 hqw8 how8 hbw8 hCw8 aw9 hXw8
      go_wp2_with fail
      refine(zG1 g r5 b5 5 w9 hrw9 (by unfold maxLen;omega) (by omega) (by omega)).mono ?_
      rintro _ wA ⟨rfl,hrwA,awA⟩
      have hpwA:=hpw9.grown awA (Ne.symm n1)
      have hqwA:=hqw9.grown awA (Ne.symm n2)
      have howA:=zAo how9 hrw9 (by decide) awA
      have hbwA:=At.below hbw9 awA n4.1
      have hCwA:=(awA.block w5.heap.size (gL hCw9) (by simpa using ng)).trans hCw9
      have hlwA:=zBj r5 b5 5
      obtain⟨⟨v5,r6,b6⟩,hxwA⟩:∃x,intF r5 b5 5=x:=⟨_,rfl⟩
      rw[hxwA] at hrwA hlwA ⊢
      simp only at hrwA hlwA ⊢
      rw[zIl hx hxw6 hxw7 hxw9 hxwA] at hsucc
      have HS:=hid hsucc
      clear hsucc hrw9 hpw9 hqw9 how9 hbw9 hCw9 awA
      obtain⟨wB,hwwB⟩:∃wB,wB=((wA.setCell ⟨w5.heap.size,2,none⟩ (.string ⟨u.toArray⟩)).setCell ⟨w5.heap.size,4,none⟩ (.int .i64 v5)):=⟨_,rfl⟩
      have awB:At w5.heap.size wA wB:=by rw[hwwB];exact(((At.refl w5.heap.size wA).set 2 _).set 4 _)
      have hrwB:=hrwA.grown awB (Ne.symm ng)
      have hpwB:=hpwA.grown awB (Ne.symm np)
      have hqwB:=hqwA.grown awB (Ne.symm nq)
      have howB:=zCm ho5 howA awB (Nat.le_refl _)
      have hbwB:=At.below hbwA awB hb5.size
      have hCwB:wB.heap[w5.heap.size]?=some (.cells #[.int .i64 1,.string ⟨n.toArray⟩,.string ⟨u.toArray⟩,.int .i64 t,.int .i64 v5,.int .i64 0] 77 (0,0)):=by rw[hwwB];exact(heap_setCell_same _ w5.heap.size 4 _ _ (.int .i64 v5) (heap_setCell_same _ w5.heap.size 2 _ _ (.string ⟨u.toArray⟩) hCwA))
      have hXwB:Hid (wB=((wA.setCell ⟨w5.heap.size,2,none⟩ (.string ⟨u.toArray⟩)).setCell ⟨w5.heap.size,4,none⟩ (.int .i64 v5))):=hwwB
      have z2:wA.frozen? ⟨w5.heap.size,2,none⟩=false:=frozen_of_row wA _ 2 _ _ hCwA
      have u2:wA.cell? ⟨w5.heap.size,2,none⟩=some (.string ⟨#[]⟩):=by rw[cell_of_row wA _ 2 _ _ (0,0) hCwA];rfl
      have z4:wA.frozen? ⟨w5.heap.size,4,none⟩=false:=frozen_of_row wA _ 4 _ _ hCwA
      have u4:wA.cell? ⟨w5.heap.size,4,none⟩=some (.int .i64 0):=by rw[cell_of_row wA _ 4 _ _ (0,0) hCwA];rfl
      clear hwwB awB hrwA hpwA hqwA howA hbwA hCwA ho5 hb5
      have x0:wB.cell? ⟨w5.heap.size,0,none⟩=some (.int .i64 1):=by rw[cell_of_row wB _ 0 _ _ (0,0) hCwB];rfl
      have x1:wB.cell? ⟨w5.heap.size,1,none⟩=some (.string ⟨n.toArray⟩):=by rw[cell_of_row wB _ 1 _ _ (0,0) hCwB];rfl
      have x2:wB.cell? ⟨w5.heap.size,2,none⟩=some (.string ⟨u.toArray⟩):=by rw[cell_of_row wB _ 2 _ _ (0,0) hCwB];rfl
      have x3:wB.cell? ⟨w5.heap.size,3,none⟩=some (.int .i64 t):=by rw[cell_of_row wB _ 3 _ _ (0,0) hCwB];rfl
      have x4:wB.cell? ⟨w5.heap.size,4,none⟩=some (.int .i64 v5):=by rw[cell_of_row wB _ 4 _ _ (0,0) hCwB];rfl
      have x5:wB.cell? ⟨w5.heap.size,5,none⟩=some (.int .i64 0):=by rw[cell_of_row wB _ 5 _ _ (0,0) hCwB];rfl
      have p0:=hpwB.c0
      have bZ:Below wB.heap.size wB (wB.alloc (.cells #[.int .i64 1,.string ⟨n.toArray⟩,.string ⟨u.toArray⟩,.int .i64 t,.int .i64 v5,.int .i64 0] 77)):=(Below.refl _ _).alloc (Nat.le_refl _) _
      have oZ:=zAf howB bZ
      have pZ:=hpwB.keep bZ
      have hy:∀(j:Nat) (q9:Value),(stC ((1,n,u,(t:Int),(v5:Int),0):St))[j]?=some q9→(wB.alloc (.cells #[.int .i64 1,.string ⟨n.toArray⟩,.string ⟨u.toArray⟩,.int .i64 t,.int .i64 v5,.int .i64 0] 77)).cell? ⟨wB.heap.size,j,none⟩=some q9:=by
       intro j u hu
       refine(World.cell?_alloc_at _ _ _ _ rfl).trans ?_
       rw[← hu]
       exact List.getElem?_toArray
      have hB9:w.heap.size≤(wB.alloc (.cells #[.int .i64 1,.string ⟨n.toArray⟩,.string ⟨u.toArray⟩,.int .i64 t,.int .i64 v5,.int .i64 0] 77)).heap.size:=Nat.le_trans hbwB.size bZ.size
      go_wp2_with (first | (rw[← hXwB.out]) | (at_builtin;go_must (refine zAs _ rfl _ _ 30 rfl stC 6 (by decide) zEy zEz w.heap.size 77 (.agg #[.int .i64 0,.string .empty,.string .empty,.int .i64 0,.int .i64 0,.int .i64 0]) 64 Tryz.underlying30 hinfo rfl _ k xs rfl oZ wB.heap.size 1 rfl ((1,n,u,(t:Int),(v5:Int),0):St) hy (by unfold maxLen;omega) (by omega) hB9 ?_)))
      intro a' c' w' hown hgrow
      have pZ':=zBb oZ hgrow pZ (by decide)
      have rZ':=zBb oZ hgrow (hrwB.keep bZ) (by decide)
      have qZ':=zBb oZ hgrow (hqwB.keep bZ) (by decide)
      have bZ':=zB9 (zAl hbwB bZ) oZ hgrow (Nat.le_refl _)
      have d0:=pZ'.c0
      have d1:=pZ'.fz 0
      clear x0 x1 x2 x3 x4 x5 p0 hy
      go_wp2_with fail
      go_roundw
      case rel =>
       refine⟨k+1,.slice a' (k+1) c',by omega,rfl,?_,pZ'.set0 _,?_,qZ'.grown ((At.refl gp w').set 0 _) (Ne.symm n3),At.below bZ' ((At.refl gp w').set 0 _) n4.2.1⟩
       · rw[HS.out];exact Obj2.grown rZ' ((At.refl gp w').set 0 _) n1
       · rw[HS.out];exact zAo (xs:=((xs ++ [((1,n,u,(t:Int),(v5:Int),0):St)]).flatMap stC)) (by simpa using hown) pZ' (by decide) ((At.refl gp w').set 0 _)
      case measure=>simp[intOf];omega
    · obtain⟨W,hW⟩:∃W,W=w5.alloc (.cells #[.int .i64 2,.string ⟨#[]⟩,.string ⟨#[]⟩,.int .i64 0,.int .i64 0,.int .i64 0] 77):=⟨_,rfl⟩
      have bW:Below w5.heap.size w5 W:=by rw[hW];exact(Below.refl _ _).alloc (Nat.le_refl _) _
      have hCW:W.heap[w5.heap.size]?=some (.cells #[.int .i64 2,.string ⟨#[]⟩,.string ⟨#[]⟩,.int .i64 0,.int .i64 0,.int .i64 0] 77 (0,0)):=by rw[hW];exact heap_alloc_new w5 _
      have hrW:=hr5.keep bW
      have hpW:=hp5.keep bW
      have hqW:=hq5.keep bW
      have hoW:=zAf ho5 bW
      have hbW:=zAl hb5 bW
      have ng:w5.heap.size≠g:=by have:=hr5.lt;omega
      have np:w5.heap.size≠gp:=by have:=hp5.lt;omega
      have nq:w5.heap.size≠gr:=by have:=hq5.lt;omega
      have hX:Hid (W=w5.alloc (.cells #[.int .i64 2,.string ⟨#[]⟩,.string ⟨#[]⟩,.int .i64 0,.int .i64 0,.int .i64 0] 77)):=hW
      clear hW hr5 hp5 hq5
      have y0:W.cell? ⟨w5.heap.size,0,none⟩=some (.int .i64 2):=by rw[cell_of_row W _ 0 _ _ (0,0) hCW];rfl
      go_wp2_with (rw[← hX.out])
      refine(zG1 g r1 b1 1000 W hrW (by unfold maxLen;omega) (by omega) (by omega)).mono ?_
      rintro _ w6 ⟨rfl,hrw6,aw6⟩
      have hpw6:=hpW.grown aw6 (Ne.symm n1)
      have hqw6:=hqW.grown aw6 (Ne.symm n2)
      have how6:=zAo hoW hrW (by decide) aw6
      have hbw6:=At.below hbW aw6 n4.1
      have hCw6:=(aw6.block w5.heap.size (gL hCW) (by simpa using ng)).trans hCW
      have hlw6:=zBj r1 b1 1000
      obtain⟨⟨t,r3,b3⟩,hxw6⟩:∃x,intF r1 b1 1000=x:=⟨_,rfl⟩
      rw[hxw6] at hrw6 hlw6 ⊢
      simp only at hrw6 hlw6 ⊢
      rw[zF0 hx hxw6] at hsucc
      have HS:=hid hsucc
      clear y0 hsucc hrW hpW hqW hoW hbW hCW aw6
      obtain⟨w7,hww7⟩:∃w7,w7=(w6.setCell ⟨w5.heap.size,5,none⟩ (.int .i64 t)):=⟨_,rfl⟩
      have aw7:At w5.heap.size w6 w7:=by rw[hww7];exact((At.refl w5.heap.size w6).set 5 _)
      have hrw7:=hrw6.grown aw7 (Ne.symm ng)
      have hpw7:=hpw6.grown aw7 (Ne.symm np)
      have hqw7:=hqw6.grown aw7 (Ne.symm nq)
      have how7:=zCm ho5 how6 aw7 (Nat.le_refl _)
      have hbw7:=At.below hbw6 aw7 hb5.size
      have hCw7:w7.heap[w5.heap.size]?=some (.cells #[.int .i64 2,.string ⟨#[]⟩,.string ⟨#[]⟩,.int .i64 0,.int .i64 0,.int .i64 t] 77 (0,0)):=by rw[hww7];exact(heap_setCell_same _ w5.heap.size 5 _ _ (.int .i64 t) hCw6)
      have hXw7:Hid (w7=(w6.setCell ⟨w5.heap.size,5,none⟩ (.int .i64 t))):=hww7
      have z5:w6.frozen? ⟨w5.heap.size,5,none⟩=false:=frozen_of_row w6 _ 5 _ _ hCw6
      have u5:w6.cell? ⟨w5.heap.size,5,none⟩=some (.int .i64 0):=by rw[cell_of_row w6 _ 5 _ _ (0,0) hCw6];rfl
      clear hww7 aw7 hrw6 hpw6 hqw6 how6 hbw6 hCw6 ho5 hb5
      have x0:w7.cell? ⟨w5.heap.size,0,none⟩=some (.int .i64 2):=by rw[cell_of_row w7 _ 0 _ _ (0,0) hCw7];rfl
      have x1:w7.cell? ⟨w5.heap.size,1,none⟩=some (.string ⟨#[]⟩):=by rw[cell_of_row w7 _ 1 _ _ (0,0) hCw7];rfl
      have x2:w7.cell? ⟨w5.heap.size,2,none⟩=some (.string ⟨#[]⟩):=by rw[cell_of_row w7 _ 2 _ _ (0,0) hCw7];rfl
      have x3:w7.cell? ⟨w5.heap.size,3,none⟩=some (.int .i64 0):=by rw[cell_of_row w7 _ 3 _ _ (0,0) hCw7];rfl
      have x4:w7.cell? ⟨w5.heap.size,4,none⟩=some (.int .i64 0):=by rw[cell_of_row w7 _ 4 _ _ (0,0) hCw7];rfl
      have x5:w7.cell? ⟨w5.heap.size,5,none⟩=some (.int .i64 t):=by rw[cell_of_row w7 _ 5 _ _ (0,0) hCw7];rfl
      have p0:=hpw7.c0
      have bZ:Below w7.heap.size w7 (w7.alloc (.cells #[.int .i64 2,.string ⟨#[]⟩,.string ⟨#[]⟩,.int .i64 0,.int .i64 0,.int .i64 t] 77)):=(Below.refl _ _).alloc (Nat.le_refl _) _
      have oZ:=zAf how7 bZ
      have pZ:=hpw7.keep bZ
      have hy:∀(j:Nat) (q9:Value),(stC ((2,[],[],0,0,(t:Int)):St))[j]?=some q9→(w7.alloc (.cells #[.int .i64 2,.string ⟨#[]⟩,.string ⟨#[]⟩,.int .i64 0,.int .i64 0,.int .i64 t] 77)).cell? ⟨w7.heap.size,j,none⟩=some q9:=by
       intro j u hu
       refine(World.cell?_alloc_at _ _ _ _ rfl).trans ?_
       rw[← hu]
       exact List.getElem?_toArray
      have hB9:w.heap.size≤(w7.alloc (.cells #[.int .i64 2,.string ⟨#[]⟩,.string ⟨#[]⟩,.int .i64 0,.int .i64 0,.int .i64 t] 77)).heap.size:=Nat.le_trans hbw7.size bZ.size
      go_wp2_with (first | (rw[← hXw7.out]) | (at_builtin;go_must (refine zAs _ rfl _ _ 30 rfl stC 6 (by decide) zEy zEz w.heap.size 77 (.agg #[.int .i64 0,.string .empty,.string .empty,.int .i64 0,.int .i64 0,.int .i64 0]) 64 Tryz.underlying30 hinfo rfl _ k xs rfl oZ w7.heap.size 1 rfl ((2,[],[],0,0,(t:Int)):St) hy (by unfold maxLen;omega) (by omega) hB9 ?_)))
      intro a' c' w' hown hgrow
      have pZ':=zBb oZ hgrow pZ (by decide)
      have rZ':=zBb oZ hgrow (hrw7.keep bZ) (by decide)
      have qZ':=zBb oZ hgrow (hqw7.keep bZ) (by decide)
      have bZ':=zB9 (zAl hbw7 bZ) oZ hgrow (Nat.le_refl _)
      have d0:=pZ'.c0
      have d1:=pZ'.fz 0
      clear x0 x1 x2 x3 x4 x5 p0 hy
      go_wp2_with fail
      go_roundw
      case rel =>
       refine⟨k+1,.slice a' (k+1) c',by omega,rfl,?_,pZ'.set0 _,?_,qZ'.grown ((At.refl gp w').set 0 _) (Ne.symm n3),At.below bZ' ((At.refl gp w').set 0 _) n4.2.1⟩
       · rw[HS.out];exact Obj2.grown rZ' ((At.refl gp w').set 0 _) n1
       · rw[HS.out];exact zAo (xs:=((xs ++ [((2,[],[],0,0,(t:Int)):St)]).flatMap stC)) (by simpa using hown) pZ' (by decide) ((At.refl gp w').set 0 _)
      case measure=>simp[intOf];omega
    · obtain⟨W,hW⟩:∃W,W=w5.alloc (.cells #[.int .i64 3,.string ⟨#[]⟩,.string ⟨#[]⟩,.int .i64 0,.int .i64 0,.int .i64 0] 77):=⟨_,rfl⟩
      have bW:Below w5.heap.size w5 W:=by rw[hW];exact(Below.refl _ _).alloc (Nat.le_refl _) _
      have hCW:W.heap[w5.heap.size]?=some (.cells #[.int .i64 3,.string ⟨#[]⟩,.string ⟨#[]⟩,.int .i64 0,.int .i64 0,.int .i64 0] 77 (0,0)):=by rw[hW];exact heap_alloc_new w5 _
      have hrW:=hr5.keep bW
      have hpW:=hp5.keep bW
      have hqW:=hq5.keep bW
      have hoW:=zAf ho5 bW
      have hbW:=zAl hb5 bW
      have ng:w5.heap.size≠g:=by have:=hr5.lt;omega
      have np:w5.heap.size≠gp:=by have:=hp5.lt;omega
      have nq:w5.heap.size≠gr:=by have:=hq5.lt;omega
      have hX:Hid (W=w5.alloc (.cells #[.int .i64 3,.string ⟨#[]⟩,.string ⟨#[]⟩,.int .i64 0,.int .i64 0,.int .i64 0] 77)):=hW
      clear hW hr5 hp5 hq5
      have y0:W.cell? ⟨w5.heap.size,0,none⟩=some (.int .i64 3):=by rw[cell_of_row W _ 0 _ _ (0,0) hCW];rfl
      go_wp2_with (rw[← hX.out])
      refine(zHd g r1 b1 W hrW (by unfold maxLen;omega)).mono ?_
      rintro _ w6 ⟨rfl,hrw6,aw6⟩
      have hpw6:=hpW.grown aw6 (Ne.symm n1)
      have hqw6:=hqW.grown aw6 (Ne.symm n2)
      have how6:=zAo hoW hrW (by decide) aw6
      have hbw6:=At.below hbW aw6 n4.1
      have hCw6:=(aw6.block w5.heap.size (gL hCW) (by simpa using ng)).trans hCW
      have hlw6:=zDw r1 b1
      obtain⟨⟨t,r3,b3⟩,hxw6⟩:∃x,zCz r1 b1=x:=⟨_,rfl⟩
      rw[hxw6] at hrw6 hlw6 ⊢
      simp only at hrw6 hlw6 ⊢
      rw[zFd hx hxw6] at hsucc
      have HS:=hid hsucc
      clear y0 hsucc hrW hpW hqW hoW hbW hCW aw6
      obtain⟨w7,hww7⟩:∃w7,w7=(w6.setCell ⟨w5.heap.size,1,none⟩ (.string ⟨t.toArray⟩)):=⟨_,rfl⟩
      have aw7:At w5.heap.size w6 w7:=by rw[hww7];exact((At.refl w5.heap.size w6).set 1 _)
      have hrw7:=hrw6.grown aw7 (Ne.symm ng)
      have hpw7:=hpw6.grown aw7 (Ne.symm np)
      have hqw7:=hqw6.grown aw7 (Ne.symm nq)
      have how7:=zCm ho5 how6 aw7 (Nat.le_refl _)
      have hbw7:=At.below hbw6 aw7 hb5.size
      have hCw7:w7.heap[w5.heap.size]?=some (.cells #[.int .i64 3,.string ⟨t.toArray⟩,.string ⟨#[]⟩,.int .i64 0,.int .i64 0,.int .i64 0] 77 (0,0)):=by rw[hww7];exact(heap_setCell_same _ w5.heap.size 1 _ _ (.string ⟨t.toArray⟩) hCw6)
      have hXw7:Hid (w7=(w6.setCell ⟨w5.heap.size,1,none⟩ (.string ⟨t.toArray⟩))):=hww7
      have z1:w6.frozen? ⟨w5.heap.size,1,none⟩=false:=frozen_of_row w6 _ 1 _ _ hCw6
      have u1:w6.cell? ⟨w5.heap.size,1,none⟩=some (.string ⟨#[]⟩):=by rw[cell_of_row w6 _ 1 _ _ (0,0) hCw6];rfl
      clear hww7 aw7 hrw6 hpw6 hqw6 how6 hbw6 hCw6 ho5 hb5
      have x0:w7.cell? ⟨w5.heap.size,0,none⟩=some (.int .i64 3):=by rw[cell_of_row w7 _ 0 _ _ (0,0) hCw7];rfl
      have x1:w7.cell? ⟨w5.heap.size,1,none⟩=some (.string ⟨t.toArray⟩):=by rw[cell_of_row w7 _ 1 _ _ (0,0) hCw7];rfl
      have x2:w7.cell? ⟨w5.heap.size,2,none⟩=some (.string ⟨#[]⟩):=by rw[cell_of_row w7 _ 2 _ _ (0,0) hCw7];rfl
      have x3:w7.cell? ⟨w5.heap.size,3,none⟩=some (.int .i64 0):=by rw[cell_of_row w7 _ 3 _ _ (0,0) hCw7];rfl
      have x4:w7.cell? ⟨w5.heap.size,4,none⟩=some (.int .i64 0):=by rw[cell_of_row w7 _ 4 _ _ (0,0) hCw7];rfl
      have x5:w7.cell? ⟨w5.heap.size,5,none⟩=some (.int .i64 0):=by rw[cell_of_row w7 _ 5 _ _ (0,0) hCw7];rfl
      have p0:=hpw7.c0
      have bZ:Below w7.heap.size w7 (w7.alloc (.cells #[.int .i64 3,.string ⟨t.toArray⟩,.string ⟨#[]⟩,.int .i64 0,.int .i64 0,.int .i64 0] 77)):=(Below.refl _ _).alloc (Nat.le_refl _) _
      have oZ:=zAf how7 bZ
      have pZ:=hpw7.keep bZ
      have hy:∀(j:Nat) (q9:Value),(stC ((3,t,[],0,0,0):St))[j]?=some q9→(w7.alloc (.cells #[.int .i64 3,.string ⟨t.toArray⟩,.string ⟨#[]⟩,.int .i64 0,.int .i64 0,.int .i64 0] 77)).cell? ⟨w7.heap.size,j,none⟩=some q9:=by
       intro j u hu
       refine(World.cell?_alloc_at _ _ _ _ rfl).trans ?_
       rw[← hu]
       exact List.getElem?_toArray
      have hB9:w.heap.size≤(w7.alloc (.cells #[.int .i64 3,.string ⟨t.toArray⟩,.string ⟨#[]⟩,.int .i64 0,.int .i64 0,.int .i64 0] 77)).heap.size:=Nat.le_trans hbw7.size bZ.size
      go_wp2_with (first | (rw[← hXw7.out]) | (at_builtin;go_must (refine zAs _ rfl _ _ 30 rfl stC 6 (by decide) zEy zEz w.heap.size 77 (.agg #[.int .i64 0,.string .empty,.string .empty,.int .i64 0,.int .i64 0,.int .i64 0]) 64 Tryz.underlying30 hinfo rfl _ k xs rfl oZ w7.heap.size 1 rfl ((3,t,[],0,0,0):St) hy (by unfold maxLen;omega) (by omega) hB9 ?_)))
      intro a' c' w' hown hgrow
      have pZ':=zBb oZ hgrow pZ (by decide)
      have rZ':=zBb oZ hgrow (hrw7.keep bZ) (by decide)
      have qZ':=zBb oZ hgrow (hqw7.keep bZ) (by decide)
      have bZ':=zB9 (zAl hbw7 bZ) oZ hgrow (Nat.le_refl _)
      have d0:=pZ'.c0
      have d1:=pZ'.fz 0
      clear x0 x1 x2 x3 x4 x5 p0 hy
      go_wp2_with fail
      go_roundw
      case rel =>
       refine⟨k+1,.slice a' (k+1) c',by omega,rfl,?_,pZ'.set0 _,?_,qZ'.grown ((At.refl gp w').set 0 _) (Ne.symm n3),At.below bZ' ((At.refl gp w').set 0 _) n4.2.1⟩
       · rw[HS.out];exact Obj2.grown rZ' ((At.refl gp w').set 0 _) n1
       · rw[HS.out];exact zAo (xs:=((xs ++ [((3,t,[],0,0,0):St)]).flatMap stC)) (by simpa using hown) pZ' (by decide) ((At.refl gp w').set 0 _)
      case measure=>simp[intOf];omega
  · obtain rfl:k=N:=by omega
    obtain⟨va,vc,rfl⟩:=zCc ho
    have hpg:zC8 zBr 16000 l=((lim:Int),zA4 zBr k S):=by
     unfold zC8 rdI
     simp only[hx1,hx2,hS]
    have hpf:zDf l=(if endF (zA4 zBr k S).2.1 (zA4 zBr k S).2.2=true∧zCr (lim:Int) (zA4 zBr k S).1 then some ((lim:Int),(zA4 zBr k S).1) else none):=by
     unfold zDf
     rw[hpg]
    have hfit:=zJf k S
    rw[← hS] at hlen
    generalize hst:zA4 zBr k S=st at *
    obtain⟨xs,r,b⟩:=st
    simp only at hr ho hln hsucc hpf hfit
    clear hst hpg hsucc hx1 hx2
    have hF:Fit xs:=fun x hx=>by
     have:=hfit x hx
     rw[hS] at this
     simp only at this
     unfold maxLen
     exact⟨by omega,by omega⟩
    have hsl:Sl wr (.slice va k vc) 6 xs.length (xs.flatMap stC):=by rw[hln];exact Sl.of_own ho (by unfold maxLen;omega)
    have hchk:=zPc (.slice va k vc) lim xs wr hsl hF
    have hend:=zT9 g r b wr hr
    have p0:=hp.c0
    have p1:=hp.c1
    have q0:=hq.c0
    have q1:=hq.c1
    have qf0:=hq.fz 0
    have qf1:=hq.fz 1
    have a1:At gr wr ((wr.setCell ⟨gr,0,none⟩ (.slice none 0 0)).setCell ⟨gr,1,none⟩ (.int .i64 0)):=((At.refl gr wr).set 0 _).set 1 _
    have HB:=hid (At.below hb a1 n4.2.2)
    have HCHK:=hid hchk
    have HPF:=hid hpf
    have HLN:=hid hln
    clear hfit hlen hF hsl hchk hpf hln
    by_cases he:endF r b=true
    · rw [he] at hend
      by_cases hpp:zCr (lim:Int) xs
      · have hv:chkV lim xs=0:=by unfold chkV;rw[if_pos hpp]
        have HV:=hid hv
        have HR:=hid (show zDf l=some ((lim:Int),xs) by rw[HPF.out,if_pos ⟨he,hpp⟩])
        clear hv he hpp
        go_wp2_with fail
        refine hend.mono ?_
        rintro _ w9 ⟨rfl,hw9⟩
        rw[hw9]
        clear hw9 w9
        go_wp2_with fail
        refine HCHK.out.mono ?_
        rintro _ w9 ⟨rfl,hb9⟩
        rw[HV.out]
        have p9:=hp.keep hb9
        have q9:=hq.keep hb9
        have o9:=zAf ho hb9
        have b9:=zAl hb hb9
        have p90:=p9.c0
        have p91:=p9.c1
        have q90:=q9.c0
        have q91:=q9.c1
        have qf90:=q9.fz 0
        have qf91:=q9.fz 1
        clear p0 p1 q0 q1 qf0 qf1
        go_wp2_with fail
        have a9:At gr w9 ((w9.setCell ⟨gr,0,none⟩ (.slice va k vc)).setCell ⟨gr,1,none⟩ (.int .i64 lim)):=((At.refl gr w9).set 0 _).set 1 _
        refine bodyPost_ret (v:=.tuple #[.agg #[.slice va k vc,.int .i64 lim],.int .i64 0]) ?_ rfl ⟨.slice va k vc,lim,xs,0,rfl,?_,At.below b9 a9 n4.2.2,.inl ⟨HR.out,rfl⟩⟩
        · rw[results_cell_tmp rfl]
          go_simp
        · rw[HLN.out]
          exact zAo o9 q9 (by decide) a9
      · have hv:chkV lim xs=130:=by unfold chkV;rw[if_neg hpp]
        have HV:=hid hv
        have HR:=hid (show zDf l=none by rw[HPF.out,if_neg (fun h=>hpp h.2)])
        clear hv he hpp
        go_wp2_with fail
        refine hend.mono ?_
        rintro _ w9 ⟨rfl,hw9⟩
        rw[hw9]
        clear hw9 w9
        go_wp2_with fail
        refine HCHK.out.mono ?_
        rintro _ w9 ⟨rfl,hb9⟩
        rw[HV.out]
        have p9:=hp.keep hb9
        have q9:=hq.keep hb9
        have b9:=zAl hb hb9
        have q90:=q9.c0
        have q91:=q9.c1
        have qf90:=q9.fz 0
        have qf91:=q9.fz 1
        clear p0 p1 q0 q1 qf0 qf1
        go_wp2_with fail
        have a9:At gr w9 ((w9.setCell ⟨gr,0,none⟩ (.slice none 0 0)).setCell ⟨gr,1,none⟩ (.int .i64 0)):=((At.refl gr w9).set 0 _).set 1 _
        refine bodyPost_ret (v:=.tuple #[.agg #[.slice none 0 0,.int .i64 0],.int .i64 60]) ?_ rfl ⟨.slice none 0 0,0,[],60,rfl,World.ownsRow_nil _ _ _ _,At.below b9 a9 n4.2.2,.inr ⟨HR.out,rfl,rfl,rfl,rfl⟩⟩
        rw[results_cell_tmp rfl]
        go_simp
    · have he':endF r b=false:=by simpa using he
      rw[he'] at hend
      have HR:=hid (show zDf l=none by rw[HPF.out,if_neg (fun h=>he h.1)])
      clear he he'
      go_wp2_with fail
      refine hend.mono ?_
      rintro _ w9 ⟨rfl,hw9⟩
      rw[hw9]
      clear hw9 w9
      go_wp2_with fail
      refine bodyPost_ret (v:=.tuple #[.agg #[.slice none 0 0,.int .i64 0],.int .i64 60]) ?_ rfl ⟨.slice none 0 0,0,[],60,rfl,World.ownsRow_nil _ _ _ _,HB.out,.inr ⟨HR.out,rfl,rfl,rfl,rfl⟩⟩
      rw[results_cell_tmp rfl]
      go_simp
theorem zUo{w:World}{B n k:Nat}{e:TypeId}{v:Value}{xs:List Value}(h:w.ownsRow B e k v n xs):n≤maxLen:=by
 rcases h.2 with ⟨_,rfl⟩ | ⟨_,_,_,_,_,_,h1,h2,_⟩
 · exact Nat.zero_le _
 · omega
theorem zFh(l:List UInt8)(hl:l.length≤140737488355328)(w:World) :
 Calls Tryz.prog 38 #[.string ⟨l.toArray⟩] w fun e w'=>∃(v:Value)(lim:Int)(ss:List St)(er:Int),e=.returned (.tuple #[.agg #[v,.int .i64 lim],.int .i64 er])∧Sl w' v 6 ss.length (ss.flatMap stC)∧Below w.heap.size w w'∧((zDf l=some (lim,ss)∧er=0)∨(zDf l=none∧er=60∧v=.slice none 0 0∧lim=0∧ss=[])) :=
 (zIy l hl w).mono fun _ _ ⟨v,lim,ss,er,h1,h2,h3⟩=>⟨v,lim,ss,er,h1,Sl.of_own h2 (zUo h2),h3⟩
end Go.Proofs.YtkedafopdkhnfaaGreat
