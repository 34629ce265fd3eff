/- CONTRACT: saga.Owed. -/
import Derived.Test.YtkedafopdkhnfaaGreatSnP
import Derived.Test.YtkedafopdkhnfaaGreatPmE
import Derived.Test.YtkedafopdkhnfaaGreatSmR
namespace Go.Proofs.YtkedafopdkhnfaaGreat
open Go.RowKit Go.Shelf
set_option linter.unusedVariables false
set_option linter.unusedSimpArgs false
attribute [local go_sem] Oper.semAt_some
def zC3(zs:List Int):List (Nat×Int):=(zs.zipIdx.reverse).map (fun p=>(p.2,p.1))
theorem zH0(zs:List Int):(zC3 zs).length=zs.length:=by simp[zC3]
theorem zR4(zs:List Int)(k:Nat)(h:k<(zC3 zs).length):(zC3 zs)[k]=(zs.length - 1 - k,zs[zs.length - 1 - k]'(by rw[zH0] at h;omega)):=by
 simp[zC3]
theorem zH1(zs:List Int):(zC3 zs).map (·.2)=zs.reverse:=by
 unfold zC3
 rw[List.map_map]
 show(zs.zipIdx.reverse).map (fun p=>p.1)=_
 rw[List.map_reverse,List.zipIdx_map_fst]
theorem zB6{w:World}{B k n:Nat}{e:TypeId}{v:Value}{xs:List Value}(h:w.ownsRow B e k v n xs):∃(a:Option Addr)(c:Nat),v=.slice a n c:=by
 rcases h.2 with ⟨h1,h2⟩ | ⟨g',cap',cur,h1,_⟩
 · exact⟨none,0,by rw[h1,h2]⟩
 · exact⟨_,_,h1⟩
def OwOk(ss:List St)(x:Int):Prop:=0≤x∧x<(ss.length:Int)∧kdN ss x.toNat=1
theorem zK8{ss:List St}{zs:List Int}(h:∀x∈zs,OwOk ss x):zFw ss zs=some (zBq ss zs):=by
 unfold zFw
 rw[if_pos]
 rw[List.all_eq_true]
 intro x hx
 obtain⟨a,b,c⟩:=h x hx
 simp[a,b,c]
theorem zNk{ss:List St}{zs:List Int}{x:Int}(hx:x∈zs)(h:¬OwOk ss x):zFw ss zs=none:=by
 unfold zFw
 rw[if_neg]
 rw[List.all_eq_true]
 intro q
 have:=q x hx
 simp only[Bool.and_eq_true,decide_eq_true_eq] at this
 exact h ⟨this.1.1,this.1.2,this.2⟩
def zLu(N x:Nat)(A B:World):Prop:=∀b,b<N→b≠x→B.heap[b]?=A.heap[b]?
theorem zMb{N x:Nat}{A B C:World}(h:zLu N x A B)(k:zLu N x B C):zLu N x A C:=fun b h1 h2=>(k b h1 h2).trans (h b h1 h2)
theorem zUh{N x:Nat}{w:World}(hN:N≤w.heap.size)(W:World)(l:Nat)(o o':Obj)(hl:w.heap.size≤l)(_:W.heap[l]?=some o)(_:o.isCells=false)(_:o.isWalk=false):zLu N x W (W.putObj l o'):=fun b hb _=>World.putObj_heap_other (by omega)
def owL(ss:List St)(pre:List (Nat×Int)):List Int:=(pre.map (·.2)).filter (fun i=>decide (zB2 ss i≠[]))
structure OwI (ss:List St) (s N:Nat) (w2:World) (pre:List (Nat×Int)) (W:World):Prop where
 ok:∀p∈pre,OwOk ss p.2
 kp:zLu N (s+1+1+1) w2 W
 bl:Below s w2 W
 own:∃vl,W.heap[s+1+1+1]?=some (.cells #[vl] 33 (0,0))∧W.ownsRow N 3 1 vl (owL ss pre).length ((owL ss pre).flatMap ivC)
theorem zH9{W W':World}{row:Option Nat}{b:Nat}{cur:Array Value}{T:TypeId}{fz:Nat×Nat}(h:W.heap[b]?=some (.cells cur T fz))(hg:W.grownBy W' row)(hr:∀r,row=some r→∃o:Obj,W.heap[r]?=some o∧o.isCells=false):W'.heap[b]?=some (.cells cur T fz):=by
 refine(hg.block b (gL h) (fun e=>?_)).trans h
 obtain⟨o,ho,hc⟩:=hr b e.symm
 rw[h] at ho
 cases ho
 cases hc
theorem zSu{ss:List St}{s N:Nat}{w2:World}(hN:N≤w2.heap.size)(hs:s≤N):OwnFrom N (OwI ss s N w2):=fun pre A B row h hg hr=>by
 obtain⟨vl,h1,h2⟩:=h.own
 have hA:N≤A.heap.size:=by have:=h.bl.size;omega
 refine⟨h.ok,fun b hb hx=>(hg.block b (by omega) (fun e=>?_)).trans (h.kp b hb hx),h.bl.grown hg (by omega) (fun k e=>by have:=(hr k e).1;omega),vl,zH9 h1 hg (fun r e=>(hr r e).2),zJ5 h2 hg (fun r e=>(hr r e).2)⟩
 have:=(hr b e.symm).1
 omega
structure OwX (ss:List St) (s:Nat) (w2:World) (cde:Code) (pre:List (Nat×Int)) (W:World):Prop where
 rt:cde=.ret
 at':∃ini last,pre=ini ++ [last]∧¬OwOk ss last.2
 r1:W.heap[s+1]?=some (.cells #[.slice none 0 0] 33 (0,0))
 r2:W.heap[s+1+1]?=some (.cells #[.int .i64 1] 24 (0,0))
 bl:Below s w2 W
theorem zSv{ss:List St}{s N:Nat}{w2:World}(hN:N≤w2.heap.size)(hs:s≤N)(cde:Code):OwnFrom N (OwX ss s w2 cde):=fun pre A B row h hg hr=>by
 exact⟨h.rt,h.at',zH9 h.r1 hg (fun r e=>(hr r e).2),zH9 h.r2 hg (fun r e=>(hr r e).2),h.bl.grown hg (by have:=h.bl.size;omega) (fun k e=>by have:=(hr k e).1;omega)⟩
def zF5(ss:List St)(zs:List Int)(w:World)(e:Ending)(w':World):Prop:=∃v,e=.returned (.tuple #[v,.int .i64 (if zFw ss zs=none then 1 else 0)])∧w'.ownsRow w.heap.size 3 1 v ((zFw ss zs).getD []).length (((zFw ss zs).getD []).flatMap ivC)∧Below w.heap.size w w'
set_option maxRecDepth 100000 in
set_option maxHeartbeats 16000000 in
theorem zUl(ss:List St)(lim:Int)(va:Option Addr)(vc:Nat)(zs:List Int)(da:Option Addr)(dc:Nat)(hzl:zs.length≤17592186043904)
 (w:World)(hp:Sl w (.slice va ss.length vc) 6 ss.length (ss.flatMap stC))(hd:Sl w (.slice da zs.length dc) 1 zs.length (zs.map iv))
 (F:Fence)(n:Nat)(h4:F.fn 11)(h6:F.fn 27)(h8:F.fn 35)(hro:F.round=none)(hn:3≤n) :
 CallsIn F n Tryz.prog 11 #[.agg #[.slice va ss.length vc,.int .i64 lim],.slice da zs.length dc] w (zF5 ss zs w):=by
 have h1:1≤n:=by omega
 have hsl:ss.length≤9223372036854775807:=hp.2.1.1
 have HPS:=hid hp
 have hdu:∀b,Value.ownBlock (.slice da zs.length dc)=some b→b<w.heap.size∨zs.length=0:=fun b q=>by
  obtain⟨_,_,a',cap,hv,hc⟩:=hd
  rw[Value.slice.injEq] at hv
  obtain⟨rfl,-,rfl⟩:=hv
  rcases hc with hz | ⟨b',off,rfl,hlt,-⟩
  · exact .inr hz
  · simp[Value.ownBlock] at q
    subst q;exact .inl hlt
 refine callsIn_of_wp_marks Tryz.func11 rfl h4 ?_ hro
 simp only[Tryz.ntmps11,List.size_toArray,List.length_cons,List.length_nil,Nat.reduceAdd,Nat.reduceSub,Array.replicate_succ,Array.replicate_zero,List.push_toArray,List.append_toArray,List.nil_append,List.cons_append]
 have HD:=hid hd
 clear hp hd
 gi_wp2_with (gi_at_call 27;refine(zPb F (n - 1) h6 hro _ _ _ _).mono ?_;rintro e w' ⟨rfl,rfl⟩)
 obtain⟨w2,hw2⟩:∃x,x=(((((w.alloc (.cells #[.slice va ss.length vc,.int .i64 lim] 32)).alloc (.cells #[.slice none 0 0] 33)).alloc (.cells #[.int .i64 0] 24)).alloc (.cells #[.slice none 0 0] 33)).alloc (.cells #[.slice da zs.length dc] 33)):=⟨_,rfl⟩
 have s0:(w.alloc (.cells #[.slice va ss.length vc,.int .i64 lim] 32)).heap.size=w.heap.size+1:=Array.size_push ..
 have s1:((w.alloc (.cells #[.slice va ss.length vc,.int .i64 lim] 32)).alloc (.cells #[.slice none 0 0] 33)).heap.size=w.heap.size+1+1:=by rw[World.size_alloc,s0]
 have s2:(((w.alloc (.cells #[.slice va ss.length vc,.int .i64 lim] 32)).alloc (.cells #[.slice none 0 0] 33)).alloc (.cells #[.int .i64 0] 24)).heap.size=w.heap.size+1+1+1:=by rw[World.size_alloc,s1]
 have s3:((((w.alloc (.cells #[.slice va ss.length vc,.int .i64 lim] 32)).alloc (.cells #[.slice none 0 0] 33)).alloc (.cells #[.int .i64 0] 24)).alloc (.cells #[.slice none 0 0] 33)).heap.size=w.heap.size+1+1+1+1:=by rw[World.size_alloc,s2]
 have sz:w2.heap.size=w.heap.size+1+1+1+1+1:=by rw[hw2,World.size_alloc,s3]
 have n1:=(Below.refl (w.alloc (.cells #[.slice va ss.length vc,.int .i64 lim] 32)).heap.size (w.alloc (.cells #[.slice va ss.length vc,.int .i64 lim] 32))).alloc (Nat.le_refl _) (.cells #[.slice none 0 0] 33)
 have n2:=(Below.refl ((w.alloc (.cells #[.slice va ss.length vc,.int .i64 lim] 32)).alloc (.cells #[.slice none 0 0] 33)).heap.size ((w.alloc (.cells #[.slice va ss.length vc,.int .i64 lim] 32)).alloc (.cells #[.slice none 0 0] 33))).alloc (Nat.le_refl _) (.cells #[.int .i64 0] 24)
 have n3:=(Below.refl (((w.alloc (.cells #[.slice va ss.length vc,.int .i64 lim] 32)).alloc (.cells #[.slice none 0 0] 33)).alloc (.cells #[.int .i64 0] 24)).heap.size (((w.alloc (.cells #[.slice va ss.length vc,.int .i64 lim] 32)).alloc (.cells #[.slice none 0 0] 33)).alloc (.cells #[.int .i64 0] 24))).alloc (Nat.le_refl _) (.cells #[.slice none 0 0] 33)
 have n4:=(Below.refl ((((w.alloc (.cells #[.slice va ss.length vc,.int .i64 lim] 32)).alloc (.cells #[.slice none 0 0] 33)).alloc (.cells #[.int .i64 0] 24)).alloc (.cells #[.slice none 0 0] 33)).heap.size ((((w.alloc (.cells #[.slice va ss.length vc,.int .i64 lim] 32)).alloc (.cells #[.slice none 0 0] 33)).alloc (.cells #[.int .i64 0] 24)).alloc (.cells #[.slice none 0 0] 33))).alloc (Nat.le_refl _) (.cells #[.slice da zs.length dc] 33)
 have hB0:Below w.heap.size w w2:=by rw[hw2];exact(((((Below.refl _ w).alloc (Nat.le_refl _) _).alloc (by omega) _).alloc (by omega) _).alloc (by omega) _).alloc (by omega) _
 have r0:w2.heap[w.heap.size]?=some (.cells #[.slice va ss.length vc,.int .i64 lim] 32 (0,0)):=by rw[hw2,n4.block _ (by omega),n3.block _ (by omega),n2.block _ (by omega),n1.block _ (by omega)];exact heap_alloc_new w _
 have r1:w2.heap[w.heap.size+1]?=some (.cells #[.slice none 0 0] 33 (0,0)):=by rw[hw2,n4.block _ (by omega),n3.block _ (by omega),n2.block _ (by omega),← s0];exact heap_alloc_new _ _
 have r2:w2.heap[w.heap.size+1+1]?=some (.cells #[.int .i64 0] 24 (0,0)):=by rw[hw2,n4.block _ (by omega),n3.block _ (by omega),← s1];exact heap_alloc_new _ _
 have r3:w2.heap[w.heap.size+1+1+1]?=some (.cells #[.slice none 0 0] 33 (0,0)):=by rw[hw2,n4.block _ (by omega),← s2];exact heap_alloc_new _ _
 have r4:w2.heap[w.heap.size+1+1+1+1]?=some (.cells #[.slice da zs.length dc] 33 (0,0)):=by rw[hw2,← s3];exact heap_alloc_new _ _
 have c4:w2.cell? ⟨w.heap.size+1+1+1+1,0,none⟩=some (.slice da zs.length dc):=cR r4 rfl
 have hSd:=HD.out.below hB0
 have hDl:(zC3 zs).length=zs.length:=zH0 zs
 have hen:∀k (h:k<(zC3 zs).length),(fun x:Nat×Int=>(#[Value.int .i64 (x.1:Int),Value.int .i64 x.2]:Array Value)) (zC3 zs)[k]=#[.int .i64 ((zs.length - 1 - k:Nat):Int),.int .i64 (zs[zs.length - 1 - k]?.getD 0)]:=fun k h=>by
  rw[zR4 zs k h]
  have hk:zs.length - 1 - k<zs.length:=by rw[zH0] at h;omega
  simp only[List.getElem?_eq_getElem hk]
  rfl
 have hst:=zLv (fun x:Nat×Int=>(#[Value.int .i64 (x.1:Int),Value.int .i64 x.2]:Array Value)) (zC3 zs) zs hDl hen F (n - 1) h8 hro (by omega) (w.heap.size+1+1+1+1) w2.heap.size da dc (by omega) (zLu w2.heap.size (w.heap.size+1+1+1)) (fun _ _ _ _=>rfl) (fun h k=>zMb h k) (fun {A B} b j hk hb=>World.cell?_of_block (hk b (by
  rcases hb with rfl | ⟨hne,hb⟩
  · omega
  · have:=(hdu b hb).resolve_right hne;omega) (by
  rcases hb with rfl | ⟨hne,hb⟩
  · omega
  · have:=(hdu b hb).resolve_right hne;omega))) w2 (by omega) (Nat.le_refl _) c4 hSd
 have HR0:=hid r0
 have HR1:=hid r1
 have HR2:=hid r2
 have HR3:=hid r3
 have HSZ:=hid sz
 have HB0:=hid hB0
 rw[← hw2]
 clear hw2 s0 s1 s2 s3 n1 n2 n3 n4 r0 r1 r2 r3 r4 sz c4 hSd hDl hen hB0
 refine wpIn_rangeFunc_ownF hro h1 (gf:=35) (lb:=#[.pointer (some ⟨w.heap.size+1+1+1+1,0,none⟩)]) rfl h8 (enters_of Tryz.func35 (by kernel_rfl) rfl)
  hst zMb (zUh (Nat.le_refl _)) (Below.refl _ _) (fun _=>rfl)
  (OwI ss w.heap.size w2.heap.size w2) (OwX ss w.heap.size w2)
  (zSu (Nat.le_refl _) HB0.out.size) (zSv (Nat.le_refl _) HB0.out.size)
  ⟨by simp,fun _ _ _=>rfl,Below.refl _ _,_,HR3.out,World.ownsRow_nil _ _ _ _⟩
  (fun x=>{ tmps:=#[.agg #[.slice va ss.length vc,.int .i64 lim],.slice da zs.length dc,.pointer (some ⟨w.heap.size,0,none⟩),undef,.pointer (some ⟨w.heap.size+1,0,none⟩),.pointer (some ⟨w.heap.size+1+1,0,none⟩),.pointer (some ⟨w.heap.size+1+1+1,0,none⟩),undef,.int .i64 x.2,.slice da zs.length dc,.func (.func 35) #[] #[.pointer (some ⟨w.heap.size+1+1+1+1,0,none⟩)],.int .i64 (x.1:Int),.int .i64 x.2,undef,undef,undef,undef,undef,undef,undef,undef,undef,undef,undef,undef,undef,undef,undef,undef,undef,undef,undef,undef,undef,undef,undef,undef,undef,undef,undef,undef,undef,undef],defers:=[] }) ?assign ?body ?done ?stop
 case assign =>
  intro l x W K hK
  gi_wp2
  exact hK
 case body =>
  rintro l pre ⟨j,x⟩ W hI hpl
  obtain⟨vl,hx3,hown⟩:=hI.own
  have hx0:=(hI.kp w.heap.size (by have:=HSZ.out;omega) (by omega)).trans HR0.out
  have hx1:=(hI.kp (w.heap.size+1) (by have:=HSZ.out;omega) (by omega)).trans HR1.out
  have hx2:=(hI.kp (w.heap.size+1+1) (by have:=HSZ.out;omega) (by omega)).trans HR2.out
  have x0:W.cell? ⟨w.heap.size,0,none⟩=some (.slice va ss.length vc):=cR hx0 rfl
  have x1:W.cell? ⟨w.heap.size+1,0,none⟩=some (.slice none 0 0):=cR hx1 rfl
  have xf1:=frozen_of_row W _ 0 _ _ hx1
  have x2:W.cell? ⟨w.heap.size+1+1,0,none⟩=some (.int .i64 0):=cR hx2 rfl
  have xf2:=frozen_of_row W _ 0 _ _ hx2
  have x3:W.cell? ⟨w.heap.size+1+1+1,0,none⟩=some vl:=cR hx3 rfl
  have xf3:=frozen_of_row W _ 0 _ _ hx3
  have hwW:Below w.heap.size w W:=HB0.out.trans hI.bl
  have hXX:¬OwOk ss x→OwX ss w.heap.size w2 .ret (pre ++ [(j,x)]) ((W.setCell ⟨w.heap.size+1,0,none⟩ (.slice none 0 0)).setCell ⟨w.heap.size+1+1,0,none⟩ (.int .i64 1)):=fun hno=>by
   have t1:=heap_setCell_same W (w.heap.size+1) 0 _ _ (.slice none 0 0) hx1
   have t2:(W.setCell ⟨w.heap.size+1,0,none⟩ (.slice none 0 0)).heap[w.heap.size+1+1]?=_:=(Below.heap_setCell _ _ _ _ (by simp)).trans hx2
   refine⟨rfl,⟨pre,(j,x),rfl,hno⟩,(Below.heap_setCell _ _ _ _ (by simp)).trans t1,heap_setCell_same _ (w.heap.size+1+1) 0 _ _ (.int .i64 1) t2,?_⟩
   exact(hI.bl.setCell (p:=⟨w.heap.size+1,0,none⟩) (show w.heap.size≤w.heap.size+1 by omega) _).setCell (p:=⟨w.heap.size+1+1,0,none⟩) (show w.heap.size≤w.heap.size+1+1 by omega) _
  have HXX:=hid hXX
  have HI:=hid hI
  have HX3:=hid hx3
  have HOWN:=hid hown
  have HSP:=hid (HPS.out.below hwW)
  clear hXX hI hx0 hx1 hx2 hx3 hown hwW
  by_cases hneg:x<0
  · have hX:=hid (HXX.out (fun q=>by have:=q.1;omega))
    gi_wp2
    exact⟨(KeepsOthers.setCell _ _ _).trans (KeepsOthers.setCell _ _ _),hX.out⟩
  by_cases hbig:(ss.length:Int)≤x
  · have hX:=hid (HXX.out (fun q=>by have:=q.2.1;omega))
    gi_wp2
    exact⟨(KeepsOthers.setCell _ _ _).trans (KeepsOthers.setCell _ _ _),hX.out⟩
  obtain⟨i,rfl⟩:∃i:Nat,x=(i:Int):=⟨x.toNat,by omega⟩
  have hil:i<ss.length:=by omega
  obtain⟨_,_,a',cap',hv,hcc⟩:=HSP.out
  rw[Value.slice.injEq] at hv
  obtain⟨rfl,-,rfl⟩:=hv
  obtain⟨sb,off,rfl,hblt,hcc⟩:=hcc.resolve_left (by omega)
  have k0:W.cell? ⟨sb,off+i*6,none⟩=some (.int .i64 ss[i].1):=zAp hcc i 0 (by decide) hil _ rfl
  have k2:W.cell? ⟨sb,off+i*6+2,none⟩=some (.string ⟨ss[i].2.2.1.toArray⟩):=zAp hcc i 2 (by decide) hil _ rfl
  have hun:zB2 ss ((i:Nat):Int)=ss[i].2.2.1:=by
   unfold zB2
   rw[Int.toNat_natCast,List.getD_eq_getElem?_getD,List.getElem?_eq_getElem hil];rfl
  have hkd:kdN ss i=ss[i].1:=by
   unfold kdN
   rw[List.getD_eq_getElem?_getD,List.getElem?_eq_getElem hil];rfl
  obtain⟨un,hunq⟩:∃un,un=ss[i].2.2.1:=⟨_,rfl⟩
  rw[← hunq] at k2 hun
  obtain⟨kx,hkq⟩:∃k,k=ss[i].1:=⟨_,rfl⟩
  rw[← hkq] at k0 hkd
  have hi0:(0:Int)≤(i:Int):=by omega
  have hi1:(i:Int)<(ss.length:Int):=by omega
  have HUN:=hid hun
  have HKD:=hid hkd
  clear hcc hun hkd hunq hkq hneg hbig
  by_cases hk1:kx=1
  case neg =>
   have hkx:(kx==1)=false:=by simpa using hk1
   have hkx':(kx != 1)=true:=by simpa using hk1
   have hX:=hid (HXX.out (fun q=>hk1 (by have:=q.2.2;rw[Int.toNat_natCast,HKD.out] at this;exact this)))
   clear hk1
   gi_wp2
   exact⟨(KeepsOthers.setCell _ _ _).trans (KeepsOthers.setCell _ _ _),hX.out⟩
  subst hk1
  have hok:∀p∈pre ++ [((j,(i:Int)):Nat×Int)],OwOk ss p.2:=fun p hp=>by
   rcases List.mem_append.1 hp with q | q
   · exact HI.out.ok p q
   · rw[List.mem_singleton] at q;subst q
     exact⟨hi0,hi1,by rw[Int.toNat_natCast,HKD.out]⟩
  have HOK:=hid hok
  clear hok
  cases un with
  | nil =>
    have hL:owL ss (pre ++ [((j,(i:Int)):Nat×Int)])=owL ss pre:=by
     unfold owL
     rw[List.map_append,List.filter_append]
     simp[HUN.out]
    have hI2:=hid (show OwI ss w.heap.size w2.heap.size w2 (pre ++ [((j,(i:Int)):Nat×Int)]) W from⟨HOK.out,HI.out.kp,HI.out.bl,vl,HX3.out,by rw[hL];exact HOWN.out⟩)
    clear hL
    gi_wp2
    exact⟨KeepsOthers.refl _,fun _ _ _=>rfl,hI2.out⟩
  | cons u0 ur =>
    have hL:owL ss (pre ++ [((j,(i:Int)):Nat×Int)])=owL ss pre ++ [(i:Int)]:=by
     unfold owL
     rw[List.map_append,List.filter_append]
     simp[HUN.out]
    have HL:=hid hL
    have hinfo:(Tryz.prog.info? 3).map (fun i=>(i.zero,i.size,i.bytes))=some (some (.int .i64 0),1,8):=by kernel_rfl
    obtain⟨i0,hi0',hz0,hz1,hz2⟩:=info_parts hinfo
    have hbA:Below W.heap.size W (W.alloc (.cells #[.int .i64 (i:Int)] 3)):=(Below.refl _ _).alloc (Nat.le_refl _) _
    have hownA:=zAf HOWN.out hbA
    have hx3A:=(hbA.block _ (gL HX3.out)).trans HX3.out
    have y3:(W.alloc (.cells #[.int .i64 (i:Int)] 3)).cell? ⟨w.heap.size+1+1+1,0,none⟩=some vl:=cR hx3A rfl
    have hNW:w2.heap.size≤W.heap.size:=by have:=HI.out.bl.size;omega
    have hlen:(owL ss pre).length≤17592186043904:=by
     unfold owL
     have h1:=List.length_filter_le (fun i=>decide (zB2 ss i≠[])) (pre.map (·.2))
     rw[List.length_map] at h1
     omega
    have hcN:∀(q:Nat) (u:Value),[Value.int .i64 (i:Int)][q]?=some u→(W.alloc (.cells #[.int .i64 (i:Int)] 3)).cell? ((⟨W.heap.size,0,none⟩:Addr).add q)=some u:=fun q u hq=>by
     have e:(⟨W.heap.size,0,none⟩:Addr).add q=⟨W.heap.size,0+q,none⟩:=Addr.add_lit ..
     rw[e,Nat.zero_add]
     exact(World.cell?_alloc_at _ _ _ _ rfl).trans (by rw[← hq];exact List.getElem?_toArray)
    have hmx:maxLen=9223372036854775807:=rfl
    have hB3:w2.heap.size≤(W.alloc (.cells #[.int .i64 (i:Int)] 3)).heap.size:=Nat.le_trans hNW hbA.size
    have hone:∀u∈[Value.int .i64 (i:Int)],u.oneCell'=true:=fun u hu=>by rw[List.mem_singleton] at hu;subst hu;rfl
    have HBA:=hid hbA
    have HX3A:=hid hx3A
    have HOA:=hid hownA
    clear hL hinfo hbA hx3A x1 xf1 x2 xf2 HXX
    gi_wp2_with (gi_at_builtin;refine wpListIn_append_own _ rfl _ _ 33 rfl w2.heap.size 3 i0 (.int .i64 0) 1 8 Tryz.underlying33 hi0' hz0 hz1 hz2 rfl (by decide) vl (owL ss pre).length _ rfl hownA ⟨W.heap.size,0,none⟩ 1 1 [.int .i64 (i:Int)] rfl rfl hcN hone (by omega) (by omega) hB3 ?_)
    intro v' wa hownB hgrowB _
    obtain⟨sa,sc,rfl⟩:=zB6 hownB
    have hlt3:w.heap.size+1+1+1<w2.heap.size:=by have:=HSZ.out;omega
    have hrow3:∀r,vl.ownBlock=some r→w2.heap.size≤r:=fun r q=>(HOA.out.lt r q).1
    have hx3B:=(hgrowB.block _ (gL HX3A.out) (fun e=>by have:=hrow3 _ e.symm;omega)).trans HX3A.out
    have y3B:wa.cell? ⟨w.heap.size+1+1+1,0,none⟩=some vl:=cR hx3B rfl
    have yf3B:=frozen_of_row wa _ 0 _ _ hx3B
    have hno:(Value.slice sa ((owL ss pre).length+1) sc).ownBlock≠some (w.heap.size+1+1+1):=fun q=>by have:=(hownB.lt _ q).1;omega
    have hKO:KeepsOthers W (wa.setCell ⟨w.heap.size+1+1+1,0,none⟩ (.slice sa ((owL ss pre).length+1) sc)):=((KeepsOthers.alloc W _).trans (KeepsOthers.of_grownBy hgrowB (fun q o e ho=>by
     obtain⟨cur,hc⟩:=zBp HOA.out e
     rw[hc] at ho;cases ho;rfl))).trans (KeepsOthers.setCell _ _ _)
    have hKP:zLu w2.heap.size (w.heap.size+1+1+1) W (wa.setCell ⟨w.heap.size+1+1+1,0,none⟩ (.slice sa ((owL ss pre).length+1) sc)):=fun b hb hne =>
     (Below.heap_setCell _ _ _ _ (by simpa using fun e=>hne e)).trans ((hgrowB.block b (by rw[World.size_alloc];omega) (fun e=>by have:=hrow3 _ e.symm;omega)).trans (HBA.out.block b (by omega)))
    have hbl:Below w.heap.size w2 (wa.setCell ⟨w.heap.size+1+1+1,0,none⟩ (.slice sa ((owL ss pre).length+1) sc)):=by
     have hs0:=HB0.out.size
     have e1:Below w.heap.size w2 (W.alloc (.cells #[.int .i64 (i:Int)] 3)):=HI.out.bl.trans (HBA.out.mono (by omega))
     exact(e1.grown hgrowB (by have:=e1.size;omega) (fun k e=>by have:=hrow3 _ e;omega)).setCell (p:=⟨w.heap.size+1+1+1,0,none⟩) (show w.heap.size≤w.heap.size+1+1+1 by omega) _
    have hI2:=hid (show OwI ss w.heap.size w2.heap.size w2 (pre ++ [((j,(i:Int)):Nat×Int)]) (wa.setCell ⟨w.heap.size+1+1+1,0,none⟩ (.slice sa ((owL ss pre).length+1) sc)) from⟨HOK.out,zMb HI.out.kp hKP,hbl,_,heap_setCell_same wa (w.heap.size+1+1+1) 0 _ _ _ hx3B,by
     rw[HL.out,List.length_append,List.length_singleton,List.flatMap_append]
     exact hownB.kept ((At.refl (w.heap.size+1+1+1) wa).set 0 _) (.inr hno)⟩)
    have HKO:=hid hKO
    have HKP:=hid hKP
    clear hownB hgrowB hx3B hno hKO hKP hbl hownA hcN hone y3 x3 xf3 hlen
    gi_wp2
    exact⟨HKO.out,HKP.out,hI2.out⟩
 case done =>
  rintro Dd ys W hD rfl hI hK
  obtain⟨vl,hx3,hown⟩:=hI.own
  obtain⟨sa,sc,rfl⟩:=zB6 hown
  have hx1:=(hI.kp (w.heap.size+1) (by have:=HSZ.out;omega) (by omega)).trans HR1.out
  have hx2:=(hI.kp (w.heap.size+1+1) (by have:=HSZ.out;omega) (by omega)).trans HR2.out
  have x1:W.cell? ⟨w.heap.size+1,0,none⟩=some (.slice none 0 0):=cR hx1 rfl
  have xf1:=frozen_of_row W _ 0 _ _ hx1
  have x2:W.cell? ⟨w.heap.size+1+1,0,none⟩=some (.int .i64 0):=cR hx2 rfl
  have xf2:=frozen_of_row W _ 0 _ _ hx2
  have x3:W.cell? ⟨w.heap.size+1+1+1,0,none⟩=some (.slice sa (owL ss (zC3 zs)).length sc):=cR hx3 rfl
  have hL:owL ss (zC3 zs)=zBq ss zs:=by unfold owL zBq;rw[zH1]
  have hall:zFw ss zs=some (zBq ss zs):=zK8 (fun x hx=>by
   have:x∈(zC3 zs).map (·.2):=by rw[zH1];exact List.mem_reverse.2 hx
   obtain⟨p,hp,rfl⟩:=List.mem_map.1 this
   exact hI.ok p hp)
  have hwW:Below w.heap.size w W:=HB0.out.trans hI.bl
  have t1:=heap_setCell_same W (w.heap.size+1) 0 _ _ (.slice sa (owL ss (zC3 zs)).length sc) hx1
  have t2:(W.setCell ⟨w.heap.size+1,0,none⟩ (.slice sa (owL ss (zC3 zs)).length sc)).heap[w.heap.size+1+1]?=_:=(Below.heap_setCell _ _ _ _ (by simp)).trans hx2
  have t3:=heap_setCell_same _ (w.heap.size+1+1) 0 _ _ (.int .i64 0) t2
  have t1':=(Below.heap_setCell (W.setCell ⟨w.heap.size+1,0,none⟩ (.slice sa (owL ss (zC3 zs)).length sc)) ⟨w.heap.size+1+1,0,none⟩ (.int .i64 0) (w.heap.size+1) (by simp)).trans t1
  have hbw:=(hwW.setCell (p:=⟨w.heap.size+1,0,none⟩) (show w.heap.size≤w.heap.size+1 by omega) (.slice sa (owL ss (zC3 zs)).length sc)).setCell (p:=⟨w.heap.size+1+1,0,none⟩) (show w.heap.size≤w.heap.size+1+1 by omega) (.int .i64 0)
  have hlt:∀r,(Value.slice sa (owL ss (zC3 zs)).length sc).ownBlock=some r→w2.heap.size≤r:=fun r q=>(hown.lt r q).1
  have hown2:=(hown.kept ((At.refl (w.heap.size+1) W).set 0 (.slice sa (owL ss (zC3 zs)).length sc)) (.inr (fun q=>by have:=hlt _ q;have:=HSZ.out;omega))).kept ((At.refl (w.heap.size+1+1) _).set 0 (.int .i64 0)) (.inr (fun q=>by have:=hlt _ q;have:=HSZ.out;omega))
  have hK':=((KeepsOthers.setCell W ⟨w.heap.size+1,0,none⟩ (.slice sa (owL ss (zC3 zs)).length sc)).trans (KeepsOthers.setCell _ ⟨w.heap.size+1+1,0,none⟩ (.int .i64 0))).same Dd _ hK rfl
  have HK':=hid hK'
  have HT3:=hid t3
  have HT1:=hid t1'
  have HOWN:=hid hown2
  have HBW:=hid hbw
  have HALL:=hid hall
  have HL:=hid hL
  clear hI hx1 hx2 hx3 hown hL hall hwW t1 t2 t3 t1' hbw hlt hown2 hK'
  gi_wp2
  refine⟨by simp,.inl ⟨_,_,rfl,run_takeDeferred HK'.out,?_⟩⟩
  have hrow:∀r,some Dd=some r→∃o,((W.setCell ⟨w.heap.size+1,0,none⟩ (.slice sa (owL ss (zC3 zs)).length sc)).setCell ⟨w.heap.size+1+1,0,none⟩ (.int .i64 0)).heap[r]?=some o∧o.isCells=false:=fun r e=>by cases e;exact⟨_,HK'.out,rfl⟩
  have hc1:=cell_kept (show((W.setCell ⟨w.heap.size+1,0,none⟩ (.slice sa (owL ss (zC3 zs)).length sc)).setCell ⟨w.heap.size+1+1,0,none⟩ (.int .i64 0)).cell? ⟨w.heap.size+1,0,none⟩=some (.slice sa (owL ss (zC3 zs)).length sc) by rw[cell_of_row _ _ 0 _ _ (0,0) HT1.out];rfl) (grownBy_putObj' _ Dd (.deferred none)) hrow
  have hc2:=cell_kept (show((W.setCell ⟨w.heap.size+1,0,none⟩ (.slice sa (owL ss (zC3 zs)).length sc)).setCell ⟨w.heap.size+1+1,0,none⟩ (.int .i64 0)).cell? ⟨w.heap.size+1+1,0,none⟩=some (.int .i64 0) by rw[cell_of_row _ _ 0 _ _ (0,0) HT3.out];rfl) (grownBy_putObj' _ Dd (.deferred none)) hrow
  have ho:=zAw (zJ5 HOWN.out (grownBy_putObj' _ Dd (.deferred none)) hrow) (HB0.out.size)
  refine⟨.tuple #[(.slice sa (owL ss (zC3 zs)).length sc),.int .i64 0],?_,(.slice sa (owL ss (zC3 zs)).length sc),(by rw[HALL.out];rfl),(by rw[HALL.out];show World.ownsRow _ _ _ _ _ (zBq ss zs).length ((zBq ss zs).flatMap ivC);rw[← HL.out];exact ho),HBW.out.trans (belowK_b (w:=w) (Nat.le_refl _) _ Dd _ _ (by have:=HSZ.out;omega) HK'.out rfl rfl)⟩
  simp[results,Tryz.f11,go_sem,hc1,hc2]
 case stop =>
  rintro Dd cde pre W hD hpre hX hK
  obtain⟨rfl,⟨ini,last,e1,e2⟩,hr1,hr2,hbl⟩:=hX
  have hno:zFw ss zs=none:=by
   refine zNk (x:=last.2) ?_ e2
   have h1:last∈zC3 zs:=hpre.subset (by rw[e1];simp)
   have h2:last.2∈(zC3 zs).map (·.2):=List.mem_map.2 ⟨last,h1,rfl⟩
   rw[zH1] at h2
   exact List.mem_reverse.1 h2
  have HNO:=hid hno
  have HR1:=hid hr1
  have HR2:=hid hr2
  clear hno hr1 hr2 e1 e2 hpre
  gi_wp2
  refine⟨by simp,.inl ⟨_,_,rfl,run_takeDeferred hK,?_⟩⟩
  have hrow:∀q,some Dd=some q→∃o,W.heap[q]?=some o∧o.isCells=false:=fun q e=>by cases e;exact⟨_,hK,rfl⟩
  have hc1:=cell_kept (show W.cell? ⟨w.heap.size+1,0,none⟩=some (.slice none 0 0) by rw[cell_of_row _ _ 0 _ _ (0,0) HR1.out];rfl) (grownBy_putObj' _ Dd (.deferred none)) hrow
  have hc2:=cell_kept (show W.cell? ⟨w.heap.size+1+1,0,none⟩=some (.int .i64 1) by rw[cell_of_row _ _ 0 _ _ (0,0) HR2.out];rfl) (grownBy_putObj' _ Dd (.deferred none)) hrow
  refine⟨.tuple #[.slice none 0 0,.int .i64 1],?_,.slice none 0 0,(by rw[HNO.out];rfl),by rw[HNO.out];exact World.ownsRow_nil _ _ _ _,(HB0.out.trans hbl).trans (belowK_b (w:=w) (Nat.le_refl _) _ Dd _ _ (by have:=HSZ.out;omega) hK rfl rfl)⟩
  simp[results,Tryz.f11,go_sem,hc1,hc2]
theorem zNl(ss:List St)(lim:Int)(va:Option Addr)(vc:Nat)(zs:List Int)(da:Option Addr)(dc:Nat)(hzl:zs.length≤17592186043904)
 (w:World)(hp:Sl w (.slice va ss.length vc) 6 ss.length (ss.flatMap stC))(hd:Sl w (.slice da zs.length dc) 1 zs.length (zs.map iv)) :
 Calls Tryz.prog 11 #[.agg #[.slice va ss.length vc,.int .i64 lim],.slice da zs.length dc] w (zF5 ss zs w) :=
 callsIn_wide.1 (zUl ss lim va vc zs da dc hzl w hp hd Fence.wide 3 trivial trivial trivial rfl (Nat.le_refl _))
end Go.Proofs.YtkedafopdkhnfaaGreat
