/- WHAT A STATE IS IN MEMORY. CONTRACTS: step, Tries, idle, ended. CONTRACTS: Tries, idle, ended, decision. CONTRACT: decision. -/
import Derived.Test.YtkedafopdkhnfaaGreatSmP
import Derived.Test.YtkedafopdkhnfaaGreatPgmCheck
import Derived.Test.YtkedafopdkhnfaaGreatEvtFields
import Derived.Test.YtkedafopdkhnfaaGreatRowAppend
import Derived.Test.YtkedafopdkhnfaaGreatObj
import Derived.Laws.ResultCell
import Derived.RegionTactic
import Derived.Deep.RegionHeld3
namespace Go.Proofs.YtkedafopdkhnfaaGreat
open Go.Value renaming int → vI, bool → vB, slice → vS
open Go.IntKind renaming i64 → kI
set_option maxHeartbeats 3200000
set_option maxRecDepth 100000
open Go.RowKit
set_option linter.unusedVariables false
theorem zEu{w:World}{B n k:Nat}{e:TypeId}{v:Value}{xs:List Value}(h:w.ownsRow B e k v n xs):n≤maxLen:=by
 rcases h.2 with ⟨_,rfl⟩ | ⟨_,_,_,_,_,_,h1,h2,_⟩
 · exact Nat.zero_le _
 · omega
def jbC(j:Jb):List Value:=[vI kI j.1,vI kI j.2.1,vB j.2.2.1,vI kI j.2.2.2]
theorem zCk(j:Jb):(jbC j).length=4:=rfl
theorem zJ0(j:Jb):∀u∈jbC j,u.oneCell'=true:=by
 intro u hu
 simp only[jbC,List.mem_cons,List.not_mem_nil,or_false] at hu
 rcases hu with rfl | rfl | rfl | rfl <;> rfl
def ckC(c:Ck):List Value:=[vI kI c.1,vI kI c.2.1,vI kI c.2.2]
theorem zFt(c:Ck):(ckC c).length=3:=rfl
theorem zLy(c:Ck):∀u∈ckC c,u.oneCell'=true:=by
 intro u hu
 simp only[ckC,List.mem_cons,List.not_mem_nil,or_false] at hu
 rcases hu with rfl | rfl | rfl <;> rfl
theorem zEz(x:St):∀u∈stC x,u.oneCell'=true:=by
 intro u hu
 simp only[stC,List.mem_cons,List.not_mem_nil,or_false] at hu
 rcases hu with rfl | rfl | rfl | rfl | rfl | rfl <;> rfl
def staV(s:Sta)(v u c:Value):Value:=.agg #[v,vI kI s.lim,vI kI s.status,vI kI s.next,vI kI s.began,vI kI s.asked,vI kI s.taken,vB s.fresh,u,c,vB s.cancel,vB s.overdue]
theorem stvE(s:Sta)(v u c:Value):staV s v u c=.agg #[v,vI kI s.lim,vI kI s.status,vI kI s.next,vI kI s.began,vI kI s.asked,vI kI s.taken,vB s.fresh,u,c,vB s.cancel,vB s.overdue]:=rfl
structure StR (w:World) (s:Sta) (v u c:Value):Prop where
 hs:Sl w v 6 s.ss.length (s.ss.flatMap stC)
 hj:Sl w u 4 s.jobs.length (s.jobs.flatMap jbC)
 hc:Sl w c 3 s.clocks.length (s.clocks.flatMap ckC)
structure StO (w:World) (B:Nat) (s:Sta) (v u c:Value):Prop where
 hs:w.ownsRow B 77 6 v s.ss.length (s.ss.flatMap stC)
 hj:w.ownsRow B 100 4 u s.jobs.length (s.jobs.flatMap jbC)
 hc:w.ownsRow B 103 3 c s.clocks.length (s.clocks.flatMap ckC)
theorem StR.below{w w':World}{s:Sta}{v u c:Value}(h:StR w s v u c)(b:Below w.heap.size w w'):StR w' s v u c:=⟨h.hs.below b,h.hj.below b,h.hc.below b⟩
theorem StO.read{w:World}{B:Nat}{s:Sta}{v u c:Value}(h:StO w B s v u c):StR w s v u c:=⟨Sl.of_own h.hs (zEu h.hs),Sl.of_own h.hj (zEu h.hj),Sl.of_own h.hc (zEu h.hc)⟩
theorem StO.new{w w':World}{B:Nat}{s:Sta}{v u c:Value}(h:StO w B s v u c)(b:Below w.heap.size w w'):StO w' B s v u c:=⟨zAf h.hs b,zAf h.hj b,zAf h.hc b⟩
theorem StO.none(w:World)(B:Nat)(s:Sta)(h1:s.ss=[])(h2:s.jobs=[])(h3:s.clocks=[]):StO w B s (vS none 0 0) (vS none 0 0) (vS none 0 0):=by
 refine⟨?_,?_,?_⟩
 · rw[h1];exact World.ownsRow_nil _ _ _ _
 · rw[h2];exact World.ownsRow_nil _ _ _ _
 · rw[h3];exact World.ownsRow_nil _ _ _ _
theorem lay3(w:World)(r1 r2 r3:Array Value)(t1 t2 t3:TypeId):∃W,W=((w.alloc (.cells r1 t1)).alloc (.cells r2 t2)).alloc (.cells r3 t3)∧W.heap[w.heap.size]?=some (.cells r1 t1 (0,0))∧W.heap[w.heap.size+1]?=some (.cells r2 t2 (0,0))∧W.heap[w.heap.size+2]?=some (.cells r3 t3 (0,0))∧Below w.heap.size w W∧W.heap.size=w.heap.size+3:=by
 have s1:(w.alloc (.cells r1 t1)).heap.size=w.heap.size+1:=Array.size_push ..
 have s2:((w.alloc (.cells r1 t1)).alloc (.cells r2 t2)).heap.size=w.heap.size+2:=by rw[show((w.alloc (.cells r1 t1)).alloc (.cells r2 t2)).heap.size=(w.alloc (.cells r1 t1)).heap.size+1 from Array.size_push ..,s1]
 have b1:Below w.heap.size w (w.alloc (.cells r1 t1)):=(Below.refl _ _).alloc (Nat.le_refl _) _
 have b2:=b1.alloc (by omega) (.cells r2 t2)
 have b3:=b2.alloc (by omega) (.cells r3 t3)
 have n1:=(Below.refl (w.alloc (.cells r1 t1)).heap.size (w.alloc (.cells r1 t1))).alloc (Nat.le_refl _) (.cells r2 t2)
 have n2:=(Below.refl ((w.alloc (.cells r1 t1)).alloc (.cells r2 t2)).heap.size ((w.alloc (.cells r1 t1)).alloc (.cells r2 t2))).alloc (Nat.le_refl _) (.cells r3 t3)
 refine⟨_,rfl,?_,?_,?_,b3,?_⟩
 · rw[n2.block _ (by omega),n1.block _ (by omega)];exact heap_alloc_new w _
 · rw[n2.block _ (by omega),← s1];exact heap_alloc_new _ _
 · rw[← s2];exact heap_alloc_new _ _
 · rw[show(((w.alloc (.cells r1 t1)).alloc (.cells r2 t2)).alloc (.cells r3 t3)).heap.size=((w.alloc (.cells r1 t1)).alloc (.cells r2 t2)).heap.size+1 from Array.size_push ..,s2]
theorem lay2(w:World)(r1 r2:Array Value)(t1 t2:TypeId):∃W,W=(w.alloc (.cells r1 t1)).alloc (.cells r2 t2)∧W.heap[w.heap.size]?=some (.cells r1 t1 (0,0))∧W.heap[w.heap.size+1]?=some (.cells r2 t2 (0,0))∧Below w.heap.size w W∧W.heap.size=w.heap.size+2:=by
 have s1:(w.alloc (.cells r1 t1)).heap.size=w.heap.size+1:=Array.size_push ..
 have b1:Below w.heap.size w (w.alloc (.cells r1 t1)):=(Below.refl _ _).alloc (Nat.le_refl _) _
 have b2:=b1.alloc (by omega) (.cells r2 t2)
 have n1:=(Below.refl (w.alloc (.cells r1 t1)).heap.size (w.alloc (.cells r1 t1))).alloc (Nat.le_refl _) (.cells r2 t2)
 refine⟨_,rfl,?_,?_,b2,?_⟩
 · rw[n1.block _ (by omega)];exact heap_alloc_new w _
 · rw[← s1];exact heap_alloc_new _ _
 · rw[show((w.alloc (.cells r1 t1)).alloc (.cells r2 t2)).heap.size=(w.alloc (.cells r1 t1)).heap.size+1 from Array.size_push ..,s1]
set_option linter.unusedSimpArgs false
def zKa:Option St→Value
 | none=>.agg #[vI kI 0,.string ⟨#[]⟩,.string ⟨#[]⟩,vI kI 0,vI kI 0,vI kI 0]
 | some x=>.agg #[vI kI x.1,.string ⟨x.2.1.toArray⟩,.string ⟨x.2.2.1.toArray⟩,vI kI x.2.2.2.1,vI kI x.2.2.2.2.1,vI kI x.2.2.2.2.2]
theorem zIv{ss:List St}{n k:Int}(h:¬0≤n):zB1 ss n k=none:=by unfold zB1;rw[if_neg h]
theorem zIw{ss:List St}{n:Nat}{k:Int}(h:¬n<ss.length):zB1 ss (n:Int) k=none:=by
 unfold zB1
 rw[if_pos (Int.natCast_nonneg n),Int.toNat_natCast,List.getElem?_eq_none (by omega)];rfl
theorem zIu{ss:List St}{n:Nat}{k:Int}(h:n<ss.length):zB1 ss (n:Int) k=if(ss[n]).1=k then some ss[n] else none:=by
 unfold zB1
 rw[if_pos (Int.natCast_nonneg n),Int.toNat_natCast,List.getElem?_eq_getElem h]
 by_cases hk:(ss[n]).1=k <;> simp[Option.filter,hk]
theorem zD6(ss:List St)(lim st nx bg ak tn:Int)(fr:Bool)(va ua ca:Option Addr)(un cm vc uc cc:Nat)(cn ov:Bool)(n kd:Int)(w:World)(hs:Sl w (vS va ss.length vc) 6 ss.length (ss.flatMap stC)) :
 Calls Tryz.prog 67 #[.agg #[vS va ss.length vc,vI kI lim,vI kI st,vI kI nx,vI kI bg,vI kI ak,vI kI tn,vB fr,vS ua un uc,vS ca cm cc,vB cn,vB ov],vI kI n,vI kI kd] w fun e w'=>e=.returned (.tuple #[zKa (zB1 ss n kd),vB (zB1 ss n kd).isSome])∧Below w.heap.size w w':=by
 have hm:=hs.2.1.1
 have hmx:maxLen=9223372036854775807:=rfl
 obtain⟨_,_,a,cap,hv,hc⟩:=hs
 rw[Value.slice.injEq] at hv
 obtain⟨rfl,-,rfl⟩:=hv
 by_cases h0:0≤n
 case neg =>
  have ha:=hid (zIv (ss:=ss) (k:=kd) h0)
  clear hc
  have h1:n<0:=by omega
  go_enter Tryz.func67,Tryz.ntmps67
  go_wp2_with fail
  refine bodyPost_ret (v:=.tuple #[.agg #[vI kI 0,.string ⟨#[]⟩,.string ⟨#[]⟩,vI kI 0,vI kI 0,vI kI 0],vB false]) ?_ rfl ⟨by rw[ha.out];rfl,((Below.refl _ _).alloc (Nat.le_refl _) _).alloc (Nat.le_of_lt (by simp)) _⟩
  rw[results_cell_tmp rfl]
  go_simp
 obtain⟨m,rfl⟩:=Int.eq_ofNat_of_zero_le h0
 by_cases h1:m<ss.length
 case neg =>
  have ha:=hid (zIw (k:=kd) h1)
  clear hc
  go_enter Tryz.func67,Tryz.ntmps67
  go_wp2_with fail
  refine bodyPost_ret (v:=.tuple #[.agg #[vI kI 0,.string ⟨#[]⟩,.string ⟨#[]⟩,vI kI 0,vI kI 0,vI kI 0],vB false]) ?_ rfl ⟨by rw[ha.out];rfl,((Below.refl _ _).alloc (Nat.le_refl _) _).alloc (Nat.le_of_lt (by simp)) _⟩
  rw[results_cell_tmp rfl]
  go_simp
 obtain⟨b,off,rfl,hblt,hc⟩:=hc.resolve_left (by omega)
 have ha0:=zIu (k:=kd) h1
 have k0:w.cell? ⟨b,off+m*6,none⟩=some (vI kI ss[m].1):=zAp hc m 0 (by decide) h1 _ rfl
 have k1:w.cell? ⟨b,off+m*6+1,none⟩=some (.string ⟨ss[m].2.1.toArray⟩):=zAp hc m 1 (by decide) h1 _ rfl
 have k2:w.cell? ⟨b,off+m*6+2,none⟩=some (.string ⟨ss[m].2.2.1.toArray⟩):=zAp hc m 2 (by decide) h1 _ rfl
 have k3:w.cell? ⟨b,off+m*6+3,none⟩=some (vI kI ss[m].2.2.2.1):=zAp hc m 3 (by decide) h1 _ rfl
 have k4:w.cell? ⟨b,off+m*6+4,none⟩=some (vI kI ss[m].2.2.2.2.1):=zAp hc m 4 (by decide) h1 _ rfl
 have k5:w.cell? ⟨b,off+m*6+5,none⟩=some (vI kI ss[m].2.2.2.2.2):=zAp hc m 5 (by decide) h1 _ rfl
 clear hc
 generalize ss[m]=x at *
 obtain⟨kx,nm,un',tr,ut,wt⟩:=x
 simp only at k0 k1 k2 k3 k4 k5 ha0
 by_cases hk:kx=kd
 case neg =>
  rw[if_neg hk] at ha0
  have hq:(kx != kd)=true:=by simpa using hk
  have hq2:(kx==kd)=false:=by simpa using hk
  have ha:=hid ha0
  clear ha0
  go_enter Tryz.func67,Tryz.ntmps67
  go_wp2_with fail
  refine bodyPost_ret (v:=.tuple #[.agg #[vI kI 0,.string ⟨#[]⟩,.string ⟨#[]⟩,vI kI 0,vI kI 0,vI kI 0],vB false]) ?_ rfl ⟨by rw[ha.out];rfl,((Below.refl _ _).alloc (Nat.le_refl _) _).alloc (Nat.le_of_lt (by simp)) _⟩
  rw[results_cell_tmp rfl]
  go_simp
 subst hk
 rw[if_pos rfl] at ha0
 have ha:=hid ha0
 clear ha0
 have bb:=hid (((Below.refl w.heap.size w).alloc (Nat.le_refl _) (.cells #[vS (some ⟨b,off,none⟩) ss.length vc,vI kI lim,vI kI st,vI kI nx,vI kI bg,vI kI ak,vI kI tn,vB fr,vS ua un uc,vS ca cm cc,vB cn,vB ov] 59)).alloc (by simp) (.cells #[vI kI 0,.string ⟨#[]⟩,.string ⟨#[]⟩,vI kI 0,vI kI 0,vI kI 0] 77))
 go_enter Tryz.func67,Tryz.ntmps67
 go_wp2_with fail
 refine bodyPost_ret (v:=.tuple #[.agg #[vI kI kx,.string ⟨nm.toArray⟩,.string ⟨un'.toArray⟩,vI kI tr,vI kI ut,vI kI wt],vB true]) ?_ rfl ⟨by rw[ha.out];rfl,((Below.refl _ _).alloc (Nat.le_refl _) _).alloc (Nat.le_of_lt (by simp)) _⟩
 rw[results_cell_tmp rfl]
 go_simp
def Keep(w w':World):Prop:=∀(k:Nat)(R:Array Value)(T:TypeId)(f:Nat×Nat),w.heap[k]?=some (.cells R T f)→T ≠ 100 → T ≠ 103 → w'.heap[k]?=some (.cells R T f)
structure BK (B:Nat) (w w':World):Prop where
 below:Below B w w'
 keep:Keep w w'
theorem BK.of{B:Nat}{w w':World}(hB:B≤w.heap.size)(h:Below w.heap.size w w'):BK B w w':=⟨h.mono hB,fun k R T f hk _ _=>(h.block k (gL hk)).trans hk⟩
theorem BK.then{B:Nat}{w0 w w':World}(h:BK B w0 w)(k:Below w.heap.size w w')(hs:B≤w.heap.size):BK B w0 w':=⟨h.below.trans (k.mono hs),fun j R T f hj h1 h2=>(k.block j (gL (h.keep j R T f hj h1 h2))).trans (h.keep j R T f hj h1 h2)⟩
theorem BK.at{B k:Nat}{w0 w w':World}(h:BK B w0 w)(a:At k w w')(hs:B≤w.heap.size)(hB:B≤w0.heap.size)(hk:w0.heap.size≤k):BK B w0 w' :=
 ⟨h.below.grown a hs (fun j hj=>by cases hj;omega),fun j R T f hj h1 h2=>(a.block j (gL (h.keep j R T f hj h1 h2)) (by have:=(gL hj);simp;omega)).trans (h.keep j R T f hj h1 h2)⟩
def zHn(B:Nat)(w:World)(t:Option Sta)(e':Ending)(w':World):Prop:=BK B w w'∧match t with
 | none=>∃(s':Sta) (va ua ca:Option Addr) (vn un cm vc uc cc:Nat),e'=.returned (.tuple #[staV s' (vS va vn vc) (vS ua un uc) (vS ca cm cc),vB false])
 | some t=>∃(va ua ca:Option Addr) (vc uc cc:Nat),e'=.returned (.tuple #[staV t (vS va t.ss.length vc) (vS ua t.jobs.length uc) (vS ca t.clocks.length cc),vB true])∧StO w' B t (vS va t.ss.length vc) (vS ua t.jobs.length uc) (vS ca t.clocks.length cc)
theorem zBn{fn:Func}{p:Tmp}{ty:TypeId}(h:fn.results=#[.cell p ty])(tmps:Array Value)(P:Program)(w:World) :
 (results fn tmps).run P w=((asAddr (tmps.getD p undef)).run P w).andThen fun a w₁=>((loadVar ty a).run P w₁).andThen fun v w₂=>.ok v w₂:=by
 simp only[results,h]
 simp[Sem.run_bind,Result.andThen]
 split <;> (try split) <;> simp_all
theorem zFf(ss:List St)(lim st nx bg ak tn:Int)(fr:Bool)(va ua ca:Option Addr)(un cm vc uc cc:Nat)(cn ov:Bool)(ji jp:Int)(ju:Bool)(jt:Int)(w:World)(hs:Sl w (vS va ss.length vc) 6 ss.length (ss.flatMap stC)) :
 Calls Tryz.prog 69 #[.agg #[vS va ss.length vc,vI kI lim,vI kI st,vI kI nx,vI kI bg,vI kI ak,vI kI tn,vB fr,vS ua un uc,vS ca cm cc,vB cn,vB ov],.agg #[vI kI ji,vI kI jp,vB ju,vI kI jt]] w fun e w'=>e=.returned (vI kI (zBc ss (ji,jp,ju,jt)))∧Below w.heap.size w w':=by
 cases ha:zB1 ss jp 1 with
 | none =>
   have ht:zBc ss (ji,jp,ju,jt)=0:=by unfold zBc;simp only[Jb.sp];rw[ha]
   rw[ht]
   have HA:=hid ha
   clear ht ha
   obtain⟨W,hW,hS,hJ,bW,sW⟩:=lay2 w #[vS va ss.length vc,vI kI lim,vI kI st,vI kI nx,vI kI bg,vI kI ak,vI kI tn,vB fr,vS ua un uc,vS ca cm cc,vB cn,vB ov] #[vI kI ji,vI kI jp,vB ju,vI kI jt] 59 100
   have HW:=hid hW
   clear hW
   go_enter Tryz.func69,Tryz.ntmps69
   go_wp2_with fail
   rw[← HW.out]
   refine(zD6 ss lim st nx bg ak tn fr va ua ca un cm vc uc cc cn ov jp 1 W (hs.below bW)).mono ?_
   rintro _ w1 ⟨rfl,b1⟩
   have hJ1:=(b1.block _ (by omega)).trans hJ
   have z2:w1.cell? ⟨w.heap.size+1,2,none⟩=some (vB ju):=by rw[cell_of_row w1 _ 2 _ _ (0,0) hJ1];rfl
   have ltJ:=(gL hJ1)
   have hb:=zAl bW b1
   clear hS hJ hJ1 b1 bW sW HW
   rw[HA.out]
   have hb2:=hid (hb.alloc hb.size (.cells #[vI kI 0,.string ⟨#[]⟩,.string ⟨#[]⟩,vI kI 0,vI kI 0,vI kI 0] 77))
   clear hb
   rw[show zKa none=.agg #[vI kI 0,.string ⟨#[]⟩,.string ⟨#[]⟩,vI kI 0,vI kI 0,vI kI 0] from rfl,show(none:Option St).isSome=false from rfl]
   go_wp2_with fail
   go_ret
   exact⟨rfl,hb2.out⟩
 | some x =>
   obtain⟨kx,nm,un',tr,ut,wt⟩:=x
   have ht:zBc ss (ji,jp,ju,jt)=zE0 (kx,nm,un',tr,ut,wt) ju:=by unfold zBc;simp only[Jb.sp,Jb.ud];rw[ha]
   rw[ht]
   have HA:=hid ha
   clear ht ha
   obtain⟨W,hW,hS,hJ,bW,sW⟩:=lay2 w #[vS va ss.length vc,vI kI lim,vI kI st,vI kI nx,vI kI bg,vI kI ak,vI kI tn,vB fr,vS ua un uc,vS ca cm cc,vB cn,vB ov] #[vI kI ji,vI kI jp,vB ju,vI kI jt] 59 100
   have HW:=hid hW
   clear hW
   go_enter Tryz.func69,Tryz.ntmps69
   go_wp2_with fail
   rw[← HW.out]
   refine(zD6 ss lim st nx bg ak tn fr va ua ca un cm vc uc cc cn ov jp 1 W (hs.below bW)).mono ?_
   rintro _ w1 ⟨rfl,b1⟩
   have hJ1:=(b1.block _ (by omega)).trans hJ
   have z2:w1.cell? ⟨w.heap.size+1,2,none⟩=some (vB ju):=by rw[cell_of_row w1 _ 2 _ _ (0,0) hJ1];rfl
   have ltJ:=(gL hJ1)
   have hb:=zAl bW b1
   clear hS hJ hJ1 b1 bW sW HW
   rw[HA.out]
   have z3:(w1.alloc (.cells #[vI kI kx,.string ⟨nm.toArray⟩,.string ⟨un'.toArray⟩,vI kI tr,vI kI ut,vI kI wt] 77)).cell? ⟨w.heap.size+1,2,none⟩=some (vB ju):=(((Below.refl w1.heap.size w1).alloc (Nat.le_refl _) _).cell (p:=⟨w.heap.size+1,2,none⟩) ltJ).trans z2
   clear z2 ltJ
   have hb2:=hid (hb.alloc hb.size (.cells #[vI kI kx,.string ⟨nm.toArray⟩,.string ⟨un'.toArray⟩,vI kI tr,vI kI ut,vI kI wt] 77))
   clear hb
   rw[show zKa (some (kx,nm,un',tr,ut,wt))=.agg #[vI kI kx,.string ⟨nm.toArray⟩,.string ⟨un'.toArray⟩,vI kI tr,vI kI ut,vI kI wt] from rfl,show(some ((kx,nm,un',tr,ut,wt):St)).isSome=true from rfl]
   cases ju
   · go_wp2_with fail
     go_ret
     exact⟨rfl,hb2.out⟩
   · go_wp2_with fail
     go_ret
     exact⟨rfl,hb2.out⟩
theorem zCv(lim st nx bg ak tn:Int)(fr:Bool)(va ua ca:Option Addr)(vn un cm vc uc cc:Nat)(cn ov:Bool)(w:World) :
 Calls Tryz.prog 75 #[.agg #[vS va vn vc,vI kI lim,vI kI st,vI kI nx,vI kI bg,vI kI ak,vI kI tn,vB fr,vS ua un uc,vS ca cm cc,vB cn,vB ov]] w fun e w'=>e=.returned (vB (decide (ak=0)&&(decide (tn=0)&&decide (un=0))))∧Below w.heap.size w w':=by
 have hb:=hid ((Below.refl w.heap.size w).alloc (Nat.le_refl _) (.cells #[vS va vn vc,vI kI lim,vI kI st,vI kI nx,vI kI bg,vI kI ak,vI kI tn,vB fr,vS ua un uc,vS ca cm cc,vB cn,vB ov] 59))
 by_cases h1:ak=0
 · subst h1
   by_cases h2:tn=0
   · subst h2
     by_cases h3:un=0
     · subst h3
       go_enter Tryz.func75,Tryz.ntmps75
       go_wp2_with fail
       go_ret
       exact⟨rfl,hb.out⟩
     · rw[decide_eq_false h3]
       go_enter Tryz.func75,Tryz.ntmps75
       go_wp2_with fail
       go_ret
       exact⟨by simp_all,hb.out⟩
   · have hq:(tn==0)=false:=by simpa using h2
     rw[decide_eq_false h2]
     go_enter Tryz.func75,Tryz.ntmps75
     go_wp2_with fail
     go_ret
     exact⟨by simp_all,hb.out⟩
 · have hq:(ak==0)=false:=by simpa using h1
   rw[decide_eq_false h1]
   go_enter Tryz.func75,Tryz.ntmps75
   go_wp2_with fail
   go_ret
   exact⟨by simp_all,hb.out⟩
theorem zEp(lim st nx bg ak tn:Int)(fr:Bool)(va ua ca:Option Addr)(vn un cm vc uc cc:Nat)(cn ov:Bool)(n:Int)(w:World) :
 Calls Tryz.prog 74 #[.agg #[vS va vn vc,vI kI lim,vI kI st,vI kI nx,vI kI bg,vI kI ak,vI kI tn,vB fr,vS ua un uc,vS ca cm cc,vB cn,vB ov],vI kI n] w fun e w'=>e=.returned (.agg #[vS va vn vc,vI kI lim,vI kI n,vI kI nx,vI kI bg,vI kI 0,vI kI 0,vB false,vS none 0 0,vS none 0 0,vB cn,vB ov])∧Below w.heap.size w w':=by
 have hb:=hid (((Below.refl w.heap.size w).alloc (Nat.le_refl _) (.cells #[vS va vn vc,vI kI lim,vI kI n,vI kI nx,vI kI bg,vI kI 0,vI kI 0,vB false,vS none 0 0,vS none 0 0,vB cn,vB ov] 59)).alloc (by simp) (.cells #[vS va vn vc,vI kI lim,vI kI n,vI kI nx,vI kI bg,vI kI 0,vI kI 0,vB false,vS none 0 0,vS none 0 0,vB cn,vB ov] 59))
 go_enter Tryz.func74,Tryz.ntmps74
 go_wp2_with fail
 refine bodyPost_ret (v:=.agg #[vS va vn vc,vI kI lim,vI kI n,vI kI nx,vI kI bg,vI kI 0,vI kI 0,vB false,vS none 0 0,vS none 0 0,vB cn,vB ov]) ?_ rfl ⟨rfl,?_⟩
 · rw[zBn rfl]
   go_simp
 · exact hb.out
theorem zF7{B:Nat}{w w':World}(h:Below B w w'):Below B w w'.drew:=⟨h.os,h.tape,h.output,h.size,h.block⟩
theorem zD0(ss:List St)(lim st nx bg ak tn:Int)(fr:Bool)(js:List Jb)(cs:List Ck)(cn ov:Bool)(va ua ca:Option Addr)(vc uc cc:Nat)(id kd tk rf sp ty:Int)(ud:Bool)(dt:List UInt8)(B:Nat)(w:World)(hB:B≤w.heap.size)(h0:StO w B ⟨ss,lim,st,nx,bg,ak,tn,fr,js,cs,cn,ov⟩ (vS va ss.length vc) (vS ua js.length uc) (vS ca cs.length cc))(hk:kd=2∨kd=3∨kd=4∨kd=5) :
 Calls Tryz.prog 42 #[.agg #[vS va ss.length vc,vI kI lim,vI kI st,vI kI nx,vI kI bg,vI kI ak,vI kI tn,vB fr,vS ua js.length uc,vS ca cs.length cc,vB cn,vB ov],.agg #[vI kI id,vI kI kd,vI kI tk,vI kI rf,vI kI sp,vI kI ty,vB ud,.string ⟨dt.toArray⟩]] w fun e' w'=>zHn B w (zAu ⟨ss,lim,st,nx,bg,ak,tn,fr,js,cs,cn,ov⟩ (id,kd,tk,rf,sp,ty,ud,dt)) e' w':=by
 have ho:=hid h0
 clear h0
 have bel:=hid (fun(r1 r2 r3:Array Value)=>BK.of hB ((((Below.refl w.heap.size w).alloc (Nat.le_refl _) (.cells r1 59)).alloc (by simp) (.cells r2 52)).alloc (by simp;omega) (.cells r3 59)))
 have beo:=hid (fun(r1 r2 r3:Array Value)=>((((Below.refl w.heap.size w).alloc (Nat.le_refl _) (.cells r1 59)).alloc (by simp) (.cells r2 52)).alloc (by simp;omega) (.cells r3 59)))
 rcases hk with rfl | rfl | rfl | rfl
 · by_cases h1:ak=0
   case neg =>
    have hq:(ak==0)=false:=by simpa using h1
    rw[show zAu ⟨ss,lim,st,nx,bg,ak,tn,fr,js,cs,cn,ov⟩ (id,2,tk,rf,sp,ty,ud,dt)=none from by unfold zAu;simp[Ev.kd,Ev.rf,Ev.id,h1]]
    go_enter Tryz.func42,Tryz.ntmps42
    go_wp2_with fail
    refine bodyPost_ret (v:=.tuple #[.agg #[vS va ss.length vc,vI kI lim,vI kI st,vI kI nx,vI kI bg,vI kI ak,vI kI tn,vB fr,vS ua js.length uc,vS ca cs.length cc,vB cn,vB ov],vB false]) ?_ rfl ⟨bel.out _ _ _,⟨ss,lim,st,nx,bg,ak,tn,fr,js,cs,cn,ov⟩,va,ua,ca,_,_,_,vc,uc,cc,rfl⟩
    rw[results_cell_tmp rfl]
    go_simp
   subst h1
   by_cases h2:tn=0
   case neg =>
    have hq:(tn==0)=false:=by simpa using h2
    rw[show zAu ⟨ss,lim,st,nx,bg,0,tn,fr,js,cs,cn,ov⟩ (id,2,tk,rf,sp,ty,ud,dt)=none from by unfold zAu;simp[Ev.kd,Ev.rf,Ev.id,h2]]
    go_enter Tryz.func42,Tryz.ntmps42
    go_wp2_with fail
    refine bodyPost_ret (v:=.tuple #[.agg #[vS va ss.length vc,vI kI lim,vI kI st,vI kI nx,vI kI bg,vI kI 0,vI kI tn,vB fr,vS ua js.length uc,vS ca cs.length cc,vB cn,vB ov],vB false]) ?_ rfl ⟨bel.out _ _ _,⟨ss,lim,st,nx,bg,0,tn,fr,js,cs,cn,ov⟩,va,ua,ca,_,_,_,vc,uc,cc,rfl⟩
    rw[results_cell_tmp rfl]
    go_simp
   subst h2
   cases fr
   · rw[show zAu ⟨ss,lim,st,nx,bg,0,0,false,js,cs,cn,ov⟩ (id,2,tk,rf,sp,ty,ud,dt)=none from by unfold zAu;simp[Ev.kd,Ev.rf,Ev.id]]
     go_enter Tryz.func42,Tryz.ntmps42
     go_wp2_with fail
     refine bodyPost_ret (v:=.tuple #[.agg #[vS va ss.length vc,vI kI lim,vI kI st,vI kI nx,vI kI bg,vI kI 0,vI kI 0,vB false,vS ua js.length uc,vS ca cs.length cc,vB cn,vB ov],vB false]) ?_ rfl ⟨bel.out _ _ _,⟨ss,lim,st,nx,bg,0,0,false,js,cs,cn,ov⟩,va,ua,ca,_,_,_,vc,uc,cc,rfl⟩
     rw[results_cell_tmp rfl]
     go_simp
   · rw[show zAu ⟨ss,lim,st,nx,bg,0,0,true,js,cs,cn,ov⟩ (id,2,tk,rf,sp,ty,ud,dt)=some ⟨ss,lim,st,nx,bg,id,0,true,js,cs,cn,ov⟩ from by unfold zAu;simp[Ev.kd,Ev.rf,Ev.id]]
     go_enter Tryz.func42,Tryz.ntmps42
     go_wp2_with fail
     refine bodyPost_ret (v:=.tuple #[.agg #[vS va ss.length vc,vI kI lim,vI kI st,vI kI nx,vI kI bg,vI kI id,vI kI 0,vB true,vS ua js.length uc,vS ca cs.length cc,vB cn,vB ov],vB true]) ?_ rfl ⟨bel.out _ _ _,va,ua,ca,vc,uc,cc,rfl,zAf ho.out.hs (beo.out _ _ _),zAf ho.out.hj (beo.out _ _ _),zAf ho.out.hc (beo.out _ _ _)⟩
     rw[results_cell_tmp rfl]
     go_simp
 · by_cases h1:ak=rf
   case neg =>
    have hq:(ak==rf)=false:=by simpa using h1
    rw[show zAu ⟨ss,lim,st,nx,bg,ak,tn,fr,js,cs,cn,ov⟩ (id,3,tk,rf,sp,ty,ud,dt)=none from by unfold zAu;simp[Ev.kd,Ev.rf,Ev.id,h1]]
    go_enter Tryz.func42,Tryz.ntmps42
    go_wp2_with fail
    refine bodyPost_ret (v:=.tuple #[.agg #[vS va ss.length vc,vI kI lim,vI kI st,vI kI nx,vI kI bg,vI kI ak,vI kI tn,vB fr,vS ua js.length uc,vS ca cs.length cc,vB cn,vB ov],vB false]) ?_ rfl ⟨bel.out _ _ _,⟨ss,lim,st,nx,bg,ak,tn,fr,js,cs,cn,ov⟩,va,ua,ca,_,_,_,vc,uc,cc,rfl⟩
    rw[results_cell_tmp rfl]
    go_simp
   subst h1
   rw[show zAu ⟨ss,lim,st,nx,bg,ak,tn,fr,js,cs,cn,ov⟩ (id,3,tk,ak,sp,ty,ud,dt)=some ⟨ss,lim,st,nx,bg,0,id,false,js,cs,cn,ov⟩ from by unfold zAu;simp[Ev.kd,Ev.rf,Ev.id]]
   go_enter Tryz.func42,Tryz.ntmps42
   go_wp2_with fail
   go_region
   go_wp2_with fail
   refine bodyPost_ret (v:=.tuple #[.agg #[vS va ss.length vc,vI kI lim,vI kI st,vI kI nx,vI kI bg,vI kI 0,vI kI id,vB false,vS ua js.length uc,vS ca cs.length cc,vB cn,vB ov],vB true]) ?_ rfl ⟨BK.of hB (zF7 (beo.out _ _ _)),va,ua,ca,vc,uc,cc,rfl,zAf ho.out.hs (zF7 (beo.out _ _ _)),zAf ho.out.hj (zF7 (beo.out _ _ _)),zAf ho.out.hc (zF7 (beo.out _ _ _))⟩
   rw[results_cell_tmp rfl]
   go_simp
 · by_cases h1:tn=rf
   case neg =>
    have hq:(tn==rf)=false:=by simpa using h1
    rw[show zAu ⟨ss,lim,st,nx,bg,ak,tn,fr,js,cs,cn,ov⟩ (id,4,tk,rf,sp,ty,ud,dt)=none from by unfold zAu;simp[Ev.kd,Ev.rf,Ev.id,h1]]
    go_enter Tryz.func42,Tryz.ntmps42
    go_wp2_with fail
    refine bodyPost_ret (v:=.tuple #[.agg #[vS va ss.length vc,vI kI lim,vI kI st,vI kI nx,vI kI bg,vI kI ak,vI kI tn,vB fr,vS ua js.length uc,vS ca cs.length cc,vB cn,vB ov],vB false]) ?_ rfl ⟨bel.out _ _ _,⟨ss,lim,st,nx,bg,ak,tn,fr,js,cs,cn,ov⟩,va,ua,ca,_,_,_,vc,uc,cc,rfl⟩
    rw[results_cell_tmp rfl]
    go_simp
   subst h1
   rw[show zAu ⟨ss,lim,st,nx,bg,ak,tn,fr,js,cs,cn,ov⟩ (id,4,tk,tn,sp,ty,ud,dt)=some ⟨ss,lim,st,nx,bg,ak,0,fr,js,cs,cn,ov⟩ from by unfold zAu;simp[Ev.kd,Ev.rf,Ev.id]]
   go_enter Tryz.func42,Tryz.ntmps42
   go_wp2_with fail
   refine bodyPost_ret (v:=.tuple #[.agg #[vS va ss.length vc,vI kI lim,vI kI st,vI kI nx,vI kI bg,vI kI ak,vI kI 0,vB fr,vS ua js.length uc,vS ca cs.length cc,vB cn,vB ov],vB true]) ?_ rfl ⟨bel.out _ _ _,va,ua,ca,vc,uc,cc,rfl,zAf ho.out.hs (beo.out _ _ _),zAf ho.out.hj (beo.out _ _ _),zAf ho.out.hc (beo.out _ _ _)⟩
   rw[results_cell_tmp rfl]
   go_simp
 · by_cases h1:tn=rf
   case neg =>
    have hq:(tn==rf)=false:=by simpa using h1
    rw[show zAu ⟨ss,lim,st,nx,bg,ak,tn,fr,js,cs,cn,ov⟩ (id,5,tk,rf,sp,ty,ud,dt)=none from by unfold zAu;simp[Ev.kd,Ev.rf,Ev.id,h1]]
    go_enter Tryz.func42,Tryz.ntmps42
    go_wp2_with fail
    refine bodyPost_ret (v:=.tuple #[.agg #[vS va ss.length vc,vI kI lim,vI kI st,vI kI nx,vI kI bg,vI kI ak,vI kI tn,vB fr,vS ua js.length uc,vS ca cs.length cc,vB cn,vB ov],vB false]) ?_ rfl ⟨bel.out _ _ _,⟨ss,lim,st,nx,bg,ak,tn,fr,js,cs,cn,ov⟩,va,ua,ca,_,_,_,vc,uc,cc,rfl⟩
    rw[results_cell_tmp rfl]
    go_simp
   subst h1
   rw[show zAu ⟨ss,lim,st,nx,bg,ak,tn,fr,js,cs,cn,ov⟩ (id,5,tk,tn,sp,ty,ud,dt)=some ⟨ss,lim,st,nx,bg,ak,0,true,js,cs,cn,ov⟩ from by unfold zAu;simp[Ev.kd,Ev.rf,Ev.id]]
   go_enter Tryz.func42,Tryz.ntmps42
   go_wp2_with fail
   refine bodyPost_ret (v:=.tuple #[.agg #[vS va ss.length vc,vI kI lim,vI kI st,vI kI nx,vI kI bg,vI kI ak,vI kI 0,vB true,vS ua js.length uc,vS ca cs.length cc,vB cn,vB ov],vB true]) ?_ rfl ⟨bel.out _ _ _,va,ua,ca,vc,uc,cc,rfl,zAf ho.out.hs (beo.out _ _ _),zAf ho.out.hj (beo.out _ _ _),zAf ho.out.hc (beo.out _ _ _)⟩
   rw[results_cell_tmp rfl]
   go_simp
end Go.Proofs.YtkedafopdkhnfaaGreat
