/- CONTRACTS: slices.Delete, slices.Clone at jobs, clocks, steps. CONTRACTS: the closures of job and clock; slices.IndexFunc at them; job. CONTRACT: work, of a job that is under way. CONTRACT: work, of a job that is under way. CONTRACT: work, of a job that is under way. CONTRACT: work. CONTRACT: clock. -/
import Derived.Test.YtkedafopdkhnfaaGreatSmM
import Derived.Shelf.RegionOpenPlain
import Derived.WalkKit
import Derived.Deep.LoopGhost
import Derived.Deep.RegionLaw
import Derived.Lib.SliceRun
import Derived.Test.YtkedafopdkhnfaaGreatSmT
import Derived.Deep.DeepCutAuto
import Derived.WalkSpells
import Derived.Deep.RegionHeld3
namespace Go.Proofs.YtkedafopdkhnfaaGreat
open Go.Value renaming int → vI, bool → vB, slice → vS
open Go.IntKind renaming i64 → kI
set_option maxHeartbeats 3200000
set_option maxRecDepth 100000
open Go.RowKit Go.Lib
set_option linter.unusedVariables false
theorem zDj(L:List Jb):(L.flatMap jbC).length=L.length*4:=zAx zCk L
theorem zDg(L:List Ck):(L.flatMap ckC).length=L.length*3:=zAx zFt L
theorem zNg(L:List Jb):∀u∈L.flatMap jbC,u.oneCell'=true:=by
 intro u hu
 obtain⟨x,_,hx⟩:=List.mem_flatMap.1 hu
 exact zJ0 x u hx
theorem zM1(L:List Ck):∀u∈L.flatMap ckC,u.oneCell'=true:=by
 intro u hu
 obtain⟨x,_,hx⟩:=List.mem_flatMap.1 hu
 exact zLy x u hx
theorem zS7(L:List St):∀u∈L.flatMap stC,u.oneCell'=true:=by
 intro u hu
 obtain⟨x,_,hx⟩:=List.mem_flatMap.1 hu
 exact zEz x u hx
theorem zGo{P:Program}(w:World)(t e ty:TypeId)(z:Value)(ht:P.underlying t=some (.slice e))(hv:∀w,(zeroValue e).run P w=.ok z w)(b o c:Nat)
 (h1:∀u∈z.cells.toList,u.oneCell'=true)
 (hc:∀j,j<z.cells.toList.length→(w.cell? ⟨b,o+j,none⟩).isSome=true)(hf:∀j,j<z.cells.toList.length→w.frozen? ⟨b,o+j,none⟩=false) :
 (Builtin.clear_ #[t] ty #[vS (some ⟨b,o,none⟩) 1 c]).run P w=.ok (.tuple #[]) (w.setCells b o z.cells.toList):=by
 have hzc:(Builtin.zeroCells z.cells 1).toList=z.cells.toList:=by
  simp[Builtin.zeroCells]
  apply List.ext_getElem
  · simp
  · intro i h1 h2
    simp at h1 ⊢
    rw[Nat.mod_eq_of_lt h1,getElem!_pos z.cells i h1]
 have hst:=run_storeCells_cells (P:=P) b o z.cells.toList 0 w (by simpa using hc) (by simpa using hf) h1
 simp only[Nat.add_zero] at hst
 simp[Builtin.clear_,run_underlying ht,hv,hzc,hst]
theorem zDi(g:Nat)(t:TypeId):∀(vs:List Value)(o:Nat)(w:World)(cur:Array Value),w.heap[g]?=some (.cells cur t (0,0)) →
 ∃cur',(w.setCells g o vs).heap[g]?=some (.cells cur' t (0,0))∧cur'.size=cur.size∧∀j,cur'[j]?=if o≤j∧j<o+vs.length∧j<cur.size then vs[j - o]? else cur[j]?:=by
 intro vs
 induction vs with
 | nil=>intro o w cur h;exact⟨cur,h,rfl,fun j=>by rw[if_neg (by simp;omega)]⟩
 | cons v vs ih =>
   intro o w cur h
   obtain⟨cur',h1,h2,h3⟩:=ih (o+1) (w.setCell ⟨g,o,none⟩ v) _ (heap_setCell_same w g o cur t v h)
   refine⟨cur',h1,by rw[h2];simp,fun j=>?_⟩
   rw[h3 j]
   simp only[Array.size_setIfInBounds,List.length_cons]
   by_cases hj:j=o
   · subst hj
     rw[if_neg (by omega)]
     by_cases hc:j<cur.size
     · rw[if_pos ⟨Nat.le_refl _,by omega,hc⟩,Array.getElem?_setIfInBounds_self_of_lt hc,Nat.sub_self];rfl
     · rw[if_neg (by omega),Array.getElem?_eq_none (by simp;omega),Array.getElem?_eq_none (by omega)]
   · by_cases hr:o+1≤j∧j<o+1+vs.length∧j<cur.size
     · rw[if_pos hr,if_pos (by omega),show j - o=(j - (o+1))+1 by omega,List.getElem?_cons_succ]
     · rw[if_neg hr,if_neg (by omega),Array.getElem?_setIfInBounds_ne (by omega)]
theorem At.setCells{w w':World}(g:Nat)(h:At g w w'):∀(vs:List Value)(o:Nat),At g w (w'.setCells g o vs):=by
 intro vs
 induction vs generalizing w' with
 | nil=>intro o;exact h
 | cons v vs ih=>intro o;exact ih (h.set o v) (o+1)
theorem zM4(w:World)(B b cap:Nat)(L:List Jb)(i:Nat)(hi:i<L.length)(hown:w.ownsRow B 100 4 (vS (some ⟨b,0,none⟩) L.length cap) L.length (L.flatMap jbC)) :
 Calls Tryz.prog 70 #[vS (some ⟨b,0,none⟩) L.length cap,vI kI i,vI kI (i+1)] w fun e w' =>
  e=.returned (vS (some ⟨b,0,none⟩) (L.length - 1) cap)∧w'.ownsRow B 100 4 (vS (some ⟨b,0,none⟩) (L.length - 1) cap) (L.length - 1) ((L.take i++L.drop (i+1)).flatMap jbC)∧At b w w':=by
 obtain⟨hlen,hd | ⟨g,cap',cur,e1,hB,hg,hnc,hm,hcs,htk⟩⟩:=hown
 · exact absurd hd.1 (by simp)
 · cases e1
   have e2:¬((i:Int)=(i:Int)+1):=by omega
   have e3:(L.length:Int)≤(cap:Int):=by omega
   have e4:(i:Int)+1≤(L.length:Int):=by omega
   have e5:(0:Int)≤(i:Int)+1:=by omega
   have mixed : Tryz.prog.follows Departure.mixedOrders=true:=by kernel_rfl
   have hinfo:(Tryz.prog.info? 100).map (fun i=>(i.zero,i.size,i.bytes))=some (some (.agg #[vI kI 0,vI kI 0,vB false,vI kI 0]),4,32):=by kernel_rfl
   obtain⟨i0,hi0,hz0,hz1,hz2⟩:=info_parts hinfo
   obtain⟨news,hnews⟩:∃news,news=(L.drop (i+1)).flatMap jbC:=⟨_,rfl⟩
   have hnl:news.length=(L.length - (i+1))*4:=by rw[hnews,zDj,List.length_drop]
   have hcell:∀(u:World),u.heap=w.heap→∀k,u.cell? ⟨b,k,none⟩=cur[k]?:=fun u hu k=>cell_of_row u b k cur _ (0,0) (by rw[hu];exact hg)
   have hsplit:L.flatMap jbC=(L.take (i+1)).flatMap jbC++news:=by rw[hnews,← List.flatMap_append,List.take_append_drop]
   have hnth:∀t u,news[t]?=some u→cur[(i+1)*4+t]?=some u:=by
    intro t u hu
    have hl:t<news.length:=(List.getElem?_eq_some_iff.1 hu).1
    have h1:(cur.toList.take (L.length*4))[(i+1)*4+t]?=some u:=by
     rw[htk,hsplit,List.getElem?_append_right (by rw[zDj,List.length_take];omega),← hu]
     congr 1
     rw[zDj,List.length_take]
     omega
    rw[List.getElem?_take] at h1
    split at h1
    · simpa using h1
    · cases h1
   obtain⟨A,hA,hsrc⟩:∃A:Addr,(if cap=i+1 then(some (⟨b,0,none⟩:Addr)) else some ⟨b,(i+1)*4,none⟩)=some A∧Hid (∀t u,news[t]?=some u→w.drew.cell? (A.add t)=some u):=by
    by_cases hci:cap=i+1
    · refine⟨⟨b,0,none⟩,by rw[if_pos hci],?_⟩
      intro t u hu
      have:=(List.getElem?_eq_some_iff.1 hu).1
      omega
    · refine⟨⟨b,(i+1)*4,none⟩,by rw[if_neg hci],?_⟩
      intro t u hu
      rw[Addr.add_lit,hcell w.drew rfl]
      exact hnth t u hu
   have s1:Hid (news.length=(L.length - (i+1))*4):=hnl
   have s2:Hid (∀u∈news,u.oneCell'=true):=by rw[hnews];exact zNg _
   have s3:Hid (∀t,t<news.length→(w.drew.cell? ⟨b,0+i*4+t,none⟩).isSome=true∧w.drew.frozen? ⟨b,0+i*4+t,none⟩=false):=by
    intro t ht
    refine⟨?_,frozen_of_row w.drew b _ cur _ hg⟩
    rw[hcell w.drew rfl,Array.getElem?_eq_getElem (by omega)];rfl
   -- the world behind the append
   obtain⟨cur1,hg1,hc1,hv1⟩:=zDi b 100 news (0+i*4) w.drew cur hg
   obtain⟨W1,hW1⟩:∃W1,W1=w.drew.setCells b (0+i*4) news:=⟨_,rfl⟩
   have a1:At b w (w.drew.setCells b (0+i*4) news):=((At.refl b w.drew).setCells b news _).of_drew
   rw[← hW1] at hg1 a1
   have hcl:∀ty,(Builtin.clear_ #[56] ty #[vS (some ⟨b,(i+(L.length - (i+1)))*4,none⟩) (L.length - (i+(L.length - (i+1)))) (cap - (i+(L.length - (i+1))))]).run Tryz.prog W1=.ok (.tuple #[]) (W1.setCells b ((i+(L.length - (i+1)))*4) [vI kI 0,vI kI 0,vB false,vI kI 0]):=by
    intro ty
    rw[show L.length - (i+(L.length - (i+1)))=1 by omega]
    refine zGo W1 56 100 ty (.agg #[vI kI 0,vI kI 0,vB false,vI kI 0]) Tryz.underlying56 (fun w=>by kernel_rfl) b _ _ ?_ ?_ ?_
    · intro u hu
      simp[Value.cells] at hu
      rcases hu with rfl | rfl | rfl | rfl <;> rfl
    · intro j hj
      simp[Value.cells] at hj
      rw[cell_of_row W1 b _ cur1 _ (0,0) hg1,Array.getElem?_eq_getElem (by omega)];rfl
    · intro j hj
      exact frozen_of_row W1 b _ cur1 _ hg1
   have hW:Hid (W1=w.drew.setCells b (0+i*4) news):=hW1
   have hic:i≤cap:=by omega
   have hjc:i+1≤cap:=by omega
   have hfin:(W1.setCells b ((i+(L.length - (i+1)))*4) [vI kI 0,vI kI 0,vB false,vI kI 0]).ownsRow B 100 4 (vS (some ⟨b,0,none⟩) (L.length - 1) cap) (L.length - 1) ((L.take i++L.drop (i+1)).flatMap jbC)∧At b w (W1.setCells b ((i+(L.length - (i+1)))*4) [vI kI 0,vI kI 0,vB false,vI kI 0]):=by
    obtain⟨cur2,hg2,hc2,hv2⟩:=zDi b 100 [vI kI 0,vI kI 0,vB false,vI kI 0] ((i+(L.length - (i+1)))*4) W1 cur1 hg1
    refine⟨⟨?_,.inr ⟨b,cap,cur2,rfl,hB,hg2,by omega,hm,by omega,?_⟩⟩,a1.setCells b _ _⟩
    · rw[zDj,List.length_append,List.length_take,List.length_drop];omega
    · rw [List.flatMap_append,← hnews]
      apply List.ext_getElem?
      intro j
      by_cases hj:j<(L.length - 1)*4
      · rw[List.getElem?_take,if_pos hj,Array.getElem?_toList,hv2 j,if_neg (by omega),hv1 j]
        by_cases hji:j<i*4
        · rw[if_neg (by omega),List.getElem?_append_left (by rw[zDj,List.length_take];omega)]
          have h1:(cur.toList.take (L.length*4))[j]?=(L.flatMap jbC)[j]?:=by rw[htk]
          rw[List.getElem?_take,if_pos (by omega),Array.getElem?_toList] at h1
          rw[h1,← List.take_append_drop i L,List.flatMap_append,List.getElem?_append_left (by rw[zDj,List.length_take];omega),List.take_append_drop]
        · rw[if_pos (by omega),List.getElem?_append_right (by rw[zDj,List.length_take];omega),zDj,List.length_take]
          congr 1
          omega
      · rw[List.getElem?_take,if_neg hj,List.getElem?_eq_none (by rw[List.length_append,zDj,List.length_take];omega)]
   clear hlen hg htk hcs hinfo hcell hnth hsplit hg1 hv1 hc1 a1 hW1 hnl hnews
   go_enter Tryz.func70,Tryz.ntmps70
   go_wp2_with fail
   go_region_law_o (refine step_append_room rfl (.tmp 22) (.tmp 25) 56 rfl 100 i0 4 Tryz.underlying56 hi0 hz1 b 0 i cap (by simp[Act.eval,Act.put]) A (L.length - (i+1)) (cap - (i+1)) news (by simp[Act.eval,Act.put]) s1.out hsrc.out s2.out (by omega) s3.out ?_;rw[← hW.out])
   go_wp2
   go_ret
   exact⟨by rw[show L.length - 1=i+(L.length - (i+1)) by omega];rfl,hfin⟩
theorem zR2(w:World)(B b cap:Nat)(L:List Ck)(i:Nat)(hi:i<L.length)(hown:w.ownsRow B 103 3 (vS (some ⟨b,0,none⟩) L.length cap) L.length (L.flatMap ckC)) :
 Calls Tryz.prog 73 #[vS (some ⟨b,0,none⟩) L.length cap,vI kI i,vI kI (i+1)] w fun e w' =>
  e=.returned (vS (some ⟨b,0,none⟩) (L.length - 1) cap)∧w'.ownsRow B 103 3 (vS (some ⟨b,0,none⟩) (L.length - 1) cap) (L.length - 1) ((L.take i++L.drop (i+1)).flatMap ckC)∧At b w w':=by
 obtain⟨hlen,hd | ⟨g,cap',cur,e1,hB,hg,hnc,hm,hcs,htk⟩⟩:=hown
 · exact absurd hd.1 (by simp)
 · cases e1
   have e2:¬((i:Int)=(i:Int)+1):=by omega
   have e3:(L.length:Int)≤(cap:Int):=by omega
   have e4:(i:Int)+1≤(L.length:Int):=by omega
   have e5:(0:Int)≤(i:Int)+1:=by omega
   have mixed : Tryz.prog.follows Departure.mixedOrders=true:=by kernel_rfl
   have hinfo:(Tryz.prog.info? 103).map (fun i=>(i.zero,i.size,i.bytes))=some (some (.agg #[vI kI 0,vI kI 0,vI kI 0]),3,24):=by kernel_rfl
   obtain⟨i0,hi0,hz0,hz1,hz2⟩:=info_parts hinfo
   obtain⟨news,hnews⟩:∃news,news=(L.drop (i+1)).flatMap ckC:=⟨_,rfl⟩
   have hnl:news.length=(L.length - (i+1))*3:=by rw[hnews,zDg,List.length_drop]
   have hcell:∀(u:World),u.heap=w.heap→∀k,u.cell? ⟨b,k,none⟩=cur[k]?:=fun u hu k=>cell_of_row u b k cur _ (0,0) (by rw[hu];exact hg)
   have hsplit:L.flatMap ckC=(L.take (i+1)).flatMap ckC++news:=by rw[hnews,← List.flatMap_append,List.take_append_drop]
   have hnth:∀t u,news[t]?=some u→cur[(i+1)*3+t]?=some u:=by
    intro t u hu
    have hl:t<news.length:=(List.getElem?_eq_some_iff.1 hu).1
    have h1:(cur.toList.take (L.length*3))[(i+1)*3+t]?=some u:=by
     rw[htk,hsplit,List.getElem?_append_right (by rw[zDg,List.length_take];omega),← hu]
     congr 1
     rw[zDg,List.length_take]
     omega
    rw[List.getElem?_take] at h1
    split at h1
    · simpa using h1
    · cases h1
   obtain⟨A,hA,hsrc⟩:∃A:Addr,(if cap=i+1 then(some (⟨b,0,none⟩:Addr)) else some ⟨b,(i+1)*3,none⟩)=some A∧Hid (∀t u,news[t]?=some u→w.drew.cell? (A.add t)=some u):=by
    by_cases hci:cap=i+1
    · refine⟨⟨b,0,none⟩,by rw[if_pos hci],?_⟩
      intro t u hu
      have:=(List.getElem?_eq_some_iff.1 hu).1
      omega
    · refine⟨⟨b,(i+1)*3,none⟩,by rw[if_neg hci],?_⟩
      intro t u hu
      rw[Addr.add_lit,hcell w.drew rfl]
      exact hnth t u hu
   have s1:Hid (news.length=(L.length - (i+1))*3):=hnl
   have s2:Hid (∀u∈news,u.oneCell'=true):=by rw[hnews];exact zM1 _
   have s3:Hid (∀t,t<news.length→(w.drew.cell? ⟨b,0+i*3+t,none⟩).isSome=true∧w.drew.frozen? ⟨b,0+i*3+t,none⟩=false):=by
    intro t ht
    refine⟨?_,frozen_of_row w.drew b _ cur _ hg⟩
    rw[hcell w.drew rfl,Array.getElem?_eq_getElem (by omega)];rfl
   -- the world behind the append
   obtain⟨cur1,hg1,hc1,hv1⟩:=zDi b 103 news (0+i*3) w.drew cur hg
   obtain⟨W1,hW1⟩:∃W1,W1=w.drew.setCells b (0+i*3) news:=⟨_,rfl⟩
   have a1:At b w (w.drew.setCells b (0+i*3) news):=((At.refl b w.drew).setCells b news _).of_drew
   rw[← hW1] at hg1 a1
   have hcl:∀ty,(Builtin.clear_ #[57] ty #[vS (some ⟨b,(i+(L.length - (i+1)))*3,none⟩) (L.length - (i+(L.length - (i+1)))) (cap - (i+(L.length - (i+1))))]).run Tryz.prog W1=.ok (.tuple #[]) (W1.setCells b ((i+(L.length - (i+1)))*3) [vI kI 0,vI kI 0,vI kI 0]):=by
    intro ty
    rw[show L.length - (i+(L.length - (i+1)))=1 by omega]
    refine zGo W1 57 103 ty (.agg #[vI kI 0,vI kI 0,vI kI 0]) Tryz.underlying57 (fun w=>by kernel_rfl) b _ _ ?_ ?_ ?_
    · intro u hu
      simp[Value.cells] at hu
      rcases hu with rfl | rfl | rfl <;> rfl
    · intro j hj
      simp[Value.cells] at hj
      rw[cell_of_row W1 b _ cur1 _ (0,0) hg1,Array.getElem?_eq_getElem (by omega)];rfl
    · intro j hj
      exact frozen_of_row W1 b _ cur1 _ hg1
   have hW:Hid (W1=w.drew.setCells b (0+i*3) news):=hW1
   have hic:i≤cap:=by omega
   have hjc:i+1≤cap:=by omega
   have hfin:(W1.setCells b ((i+(L.length - (i+1)))*3) [vI kI 0,vI kI 0,vI kI 0]).ownsRow B 103 3 (vS (some ⟨b,0,none⟩) (L.length - 1) cap) (L.length - 1) ((L.take i++L.drop (i+1)).flatMap ckC)∧At b w (W1.setCells b ((i+(L.length - (i+1)))*3) [vI kI 0,vI kI 0,vI kI 0]):=by
    obtain⟨cur2,hg2,hc2,hv2⟩:=zDi b 103 [vI kI 0,vI kI 0,vI kI 0] ((i+(L.length - (i+1)))*3) W1 cur1 hg1
    refine⟨⟨?_,.inr ⟨b,cap,cur2,rfl,hB,hg2,by omega,hm,by omega,?_⟩⟩,a1.setCells b _ _⟩
    · rw[zDg,List.length_append,List.length_take,List.length_drop];omega
    · rw [List.flatMap_append,← hnews]
      apply List.ext_getElem?
      intro j
      by_cases hj:j<(L.length - 1)*3
      · rw[List.getElem?_take,if_pos hj,Array.getElem?_toList,hv2 j,if_neg (by omega),hv1 j]
        by_cases hji:j<i*3
        · rw[if_neg (by omega),List.getElem?_append_left (by rw[zDg,List.length_take];omega)]
          have h1:(cur.toList.take (L.length*3))[j]?=(L.flatMap ckC)[j]?:=by rw[htk]
          rw[List.getElem?_take,if_pos (by omega),Array.getElem?_toList] at h1
          rw[h1,← List.take_append_drop i L,List.flatMap_append,List.getElem?_append_left (by rw[zDg,List.length_take];omega),List.take_append_drop]
        · rw[if_pos (by omega),List.getElem?_append_right (by rw[zDg,List.length_take];omega),zDg,List.length_take]
          congr 1
          omega
      · rw[List.getElem?_take,if_neg hj,List.getElem?_eq_none (by rw[List.length_append,zDg,List.length_take];omega)]
   clear hlen hg htk hcs hinfo hcell hnth hsplit hg1 hv1 hc1 a1 hW1 hnl hnews
   go_enter Tryz.func73,Tryz.ntmps73
   go_wp2_with fail
   go_region_law_o (refine step_append_room rfl (.tmp 22) (.tmp 25) 57 rfl 103 i0 3 Tryz.underlying57 hi0 hz1 b 0 i cap (by simp[Act.eval,Act.put]) A (L.length - (i+1)) (cap - (i+1)) news (by simp[Act.eval,Act.put]) s1.out hsrc.out s2.out (by omega) s3.out ?_;rw[← hW.out])
   go_wp2
   go_ret
   exact⟨by rw[show L.length - 1=i+(L.length - (i+1)) by omega];rfl,hfin⟩
theorem zDm(va:Option Addr)(vc:Nat)(L:List Jb)(hL:L.length≤1000)(w:World)(hs:Sl w (vS va L.length vc) 4 L.length (L.flatMap jbC)) :
 Calls Tryz.prog 39 #[vS va L.length vc] w fun e w'=>∃(a:Option Addr)(c:Nat),e=.returned (vS a L.length c)∧w'.ownsRow w.heap.size 100 4 (vS a L.length c) L.length (L.flatMap jbC)∧Below w.heap.size w w':=by
 have hinfo:(Tryz.prog.info? 100).map (fun i=>(i.zero,i.size,i.bytes))=some (some (.agg #[vI kI 0,vI kI 0,vB false,vI kI 0]),4,32):=by kernel_rfl
 have hmx:maxLen=9223372036854775807:=rfl
 have q22:∀(w:World) (a:Option Addr) (n c n' c':Nat),(binOp .eql 56 (vS a n c) (vS none n' c')).run Tryz.prog w=.ok (vB a.isNone) w:=fun w a n c n' c'=>Lib.run_eql_slice_nil w _ _ a n c n' c' Tryz.underlying56
 cases va with
 | none =>
   obtain⟨hl,⟨_,hnil⟩,ad,cap,he,hc⟩:=hs
   have hL0:L.length=0:=by
    rw[Value.slice.injEq] at he
    obtain⟨rfl,-,rfl⟩:=he
    rcases hc with h | ⟨b,off,h,_⟩
    · exact h
    · cases h
   have hc0:=hnil _ _ rfl
   obtain rfl:L=[]:=List.eq_nil_of_length_eq_zero hL0
   have hvc:vc=0:=by
    first
     | exact hc0.2
     | omega
   subst hvc
   clear hl hnil he hc hc0 hL0
   go_enter Tryz.func39,Tryz.ntmps39
   go_wp2_with fail
   go_ret
   exact⟨none,0,rfl,World.ownsRow_nil _ _ _ _,Below.refl _ _⟩
 | some ad =>
   have bW:Below w.heap.size w (w.alloc (.cells #[] 100)):=(Below.refl _ _).alloc (Nat.le_refl _) _
   have hC:(w.alloc (.cells #[] 100)).heap[w.heap.size]?=some (.cells #[] 100 (0,0)):=heap_alloc_new w _
   have hown:(w.alloc (.cells #[] 100)).ownsRow w.heap.size 100 4 (vS (some ⟨w.heap.size,0,none⟩) 0 0) 0 [] :=
    ⟨rfl,.inr ⟨w.heap.size,0,#[],rfl,Nat.le_refl _,hC,Nat.le_refl _,Nat.zero_le _,rfl,rfl⟩⟩
   have hsW:=hs.below bW
   have hsz:w.heap.size≤(w.alloc (.cells #[] 100)).heap.size:=bW.size
   go_enter Tryz.func39,Tryz.ntmps39
   go_wp2_with ((at_builtin;go_must (refine zCx _ rfl _ _ 56 rfl w.heap.size 100 (.agg #[vI kI 0,vI kI 0,vB false,vI kI 0]) 4 32 Tryz.underlying56 hinfo rfl (by decide) _ 0 [] rfl hown _ L.length (L.flatMap jbC) rfl hsW (zNg L) (by omega) (by omega) w hsz bW ?_)))
   intro v' w' ho hb _
   obtain⟨a',c',rfl⟩:=zCc ho
   go_wp2_with fail
   go_ret
   exact⟨a',c',rfl,ho,hb⟩
theorem zDl(va:Option Addr)(vc:Nat)(L:List Ck)(hL:L.length≤1000)(w:World)(hs:Sl w (vS va L.length vc) 3 L.length (L.flatMap ckC)) :
 Calls Tryz.prog 40 #[vS va L.length vc] w fun e w'=>∃(a:Option Addr)(c:Nat),e=.returned (vS a L.length c)∧w'.ownsRow w.heap.size 103 3 (vS a L.length c) L.length (L.flatMap ckC)∧Below w.heap.size w w':=by
 have hinfo:(Tryz.prog.info? 103).map (fun i=>(i.zero,i.size,i.bytes))=some (some (.agg #[vI kI 0,vI kI 0,vI kI 0]),3,24):=by kernel_rfl
 have hmx:maxLen=9223372036854775807:=rfl
 have q22:∀(w:World) (a:Option Addr) (n c n' c':Nat),(binOp .eql 57 (vS a n c) (vS none n' c')).run Tryz.prog w=.ok (vB a.isNone) w:=fun w a n c n' c'=>Lib.run_eql_slice_nil w _ _ a n c n' c' Tryz.underlying57
 cases va with
 | none =>
   obtain⟨hl,⟨_,hnil⟩,ad,cap,he,hc⟩:=hs
   have hL0:L.length=0:=by
    rw[Value.slice.injEq] at he
    obtain⟨rfl,-,rfl⟩:=he
    rcases hc with h | ⟨b,off,h,_⟩
    · exact h
    · cases h
   have hc0:=hnil _ _ rfl
   obtain rfl:L=[]:=List.eq_nil_of_length_eq_zero hL0
   have hvc:vc=0:=by
    first
     | exact hc0.2
     | omega
   subst hvc
   clear hl hnil he hc hc0 hL0
   go_enter Tryz.func40,Tryz.ntmps40
   go_wp2_with fail
   go_ret
   exact⟨none,0,rfl,World.ownsRow_nil _ _ _ _,Below.refl _ _⟩
 | some ad =>
   have bW:Below w.heap.size w (w.alloc (.cells #[] 103)):=(Below.refl _ _).alloc (Nat.le_refl _) _
   have hC:(w.alloc (.cells #[] 103)).heap[w.heap.size]?=some (.cells #[] 103 (0,0)):=heap_alloc_new w _
   have hown:(w.alloc (.cells #[] 103)).ownsRow w.heap.size 103 3 (vS (some ⟨w.heap.size,0,none⟩) 0 0) 0 [] :=
    ⟨rfl,.inr ⟨w.heap.size,0,#[],rfl,Nat.le_refl _,hC,Nat.le_refl _,Nat.zero_le _,rfl,rfl⟩⟩
   have hsW:=hs.below bW
   have hsz:w.heap.size≤(w.alloc (.cells #[] 103)).heap.size:=bW.size
   go_enter Tryz.func40,Tryz.ntmps40
   go_wp2_with ((at_builtin;go_must (refine zCx _ rfl _ _ 57 rfl w.heap.size 103 (.agg #[vI kI 0,vI kI 0,vI kI 0]) 3 24 Tryz.underlying57 hinfo rfl (by decide) _ 0 [] rfl hown _ L.length (L.flatMap ckC) rfl hsW (zM1 L) (by omega) (by omega) w hsz bW ?_)))
   intro v' w' ho hb _
   obtain⟨a',c',rfl⟩:=zCc ho
   go_wp2_with fail
   go_ret
   exact⟨a',c',rfl,ho,hb⟩
theorem zDn(va:Option Addr)(vc:Nat)(L:List St)(hL:L.length≤1000)(w:World)(hs:Sl w (vS va L.length vc) 6 L.length (L.flatMap stC)) :
 Calls Tryz.prog 41 #[vS va L.length vc] w fun e w'=>∃(a:Option Addr)(c:Nat),e=.returned (vS a L.length c)∧w'.ownsRow w.heap.size 77 6 (vS a L.length c) L.length (L.flatMap stC)∧Below w.heap.size w w':=by
 have hinfo:(Tryz.prog.info? 77).map (fun i=>(i.zero,i.size,i.bytes))=some (some (.agg #[vI kI 0,.string .empty,.string .empty,vI kI 0,vI kI 0,vI kI 0]),6,64):=by kernel_rfl
 have hmx:maxLen=9223372036854775807:=rfl
 have q22:∀(w:World) (a:Option Addr) (n c n' c':Nat),(binOp .eql 30 (vS a n c) (vS none n' c')).run Tryz.prog w=.ok (vB a.isNone) w:=fun w a n c n' c'=>Lib.run_eql_slice_nil w _ _ a n c n' c' Tryz.underlying30
 cases va with
 | none =>
   obtain⟨hl,⟨_,hnil⟩,ad,cap,he,hc⟩:=hs
   have hL0:L.length=0:=by
    rw[Value.slice.injEq] at he
    obtain⟨rfl,-,rfl⟩:=he
    rcases hc with h | ⟨b,off,h,_⟩
    · exact h
    · cases h
   have hc0:=hnil _ _ rfl
   obtain rfl:L=[]:=List.eq_nil_of_length_eq_zero hL0
   have hvc:vc=0:=by
    first
     | exact hc0.2
     | omega
   subst hvc
   clear hl hnil he hc hc0 hL0
   go_enter Tryz.func41,Tryz.ntmps41
   go_wp2_with fail
   go_ret
   exact⟨none,0,rfl,World.ownsRow_nil _ _ _ _,Below.refl _ _⟩
 | some ad =>
   have bW:Below w.heap.size w (w.alloc (.cells #[] 77)):=(Below.refl _ _).alloc (Nat.le_refl _) _
   have hC:(w.alloc (.cells #[] 77)).heap[w.heap.size]?=some (.cells #[] 77 (0,0)):=heap_alloc_new w _
   have hown:(w.alloc (.cells #[] 77)).ownsRow w.heap.size 77 6 (vS (some ⟨w.heap.size,0,none⟩) 0 0) 0 [] :=
    ⟨rfl,.inr ⟨w.heap.size,0,#[],rfl,Nat.le_refl _,hC,Nat.le_refl _,Nat.zero_le _,rfl,rfl⟩⟩
   have hsW:=hs.below bW
   have hsz:w.heap.size≤(w.alloc (.cells #[] 77)).heap.size:=bW.size
   go_enter Tryz.func41,Tryz.ntmps41
   go_wp2_with ((at_builtin;go_must (refine zCx _ rfl _ _ 30 rfl w.heap.size 77 (.agg #[vI kI 0,.string .empty,.string .empty,vI kI 0,vI kI 0,vI kI 0]) 6 64 Tryz.underlying30 hinfo rfl (by decide) _ 0 [] rfl hown _ L.length (L.flatMap stC) rfl hsW (zS7 L) (by omega) (by omega) w hsz bW ?_)))
   intro v' w' ho hb _
   obtain⟨a',c',rfl⟩:=zCc ho
   go_wp2_with fail
   go_ret
   exact⟨a',c',rfl,ho,hb⟩
open Go.RowKit
set_option linter.unusedSimpArgs false
theorem zQf(ji:Int)(jp:Int)(ju:Bool)(jt:Int)(g:Nat)(id kd tk rf sp ty:Int)(ud:Bool)(dt:List UInt8)(w:World)(hE:w.heap[g]?=some (.cells #[vI kI id,vI kI kd,vI kI tk,vI kI rf,vI kI sp,vI kI ty,vB ud,.string ⟨dt.toArray⟩] 52 (0,0))) :
 Calls Tryz.prog 90 #[.agg #[vI kI ji,vI kI jp,vB ju,vI kI jt],.pointer (some ⟨g,0,none⟩)] w fun e' w'=>e'=.returned (vB (decide (ji=rf)&&decide (jt=ty)))∧Below w.heap.size w w':=by
 have hb:=(Below.refl w.heap.size w).alloc (Nat.le_refl _) (.cells #[vI kI ji,vI kI jp,vB ju,vI kI jt] 100)
 have hE1:=(hb.block _ (gL hE)).trans hE
 have e3:(w.alloc (.cells #[vI kI ji,vI kI jp,vB ju,vI kI jt] 100)).cell? ⟨g,3,none⟩=some (vI kI rf):=cR hE1 rfl
 have e5:(w.alloc (.cells #[vI kI ji,vI kI jp,vB ju,vI kI jt] 100)).cell? ⟨g,5,none⟩=some (vI kI ty):=cR hE1 rfl
 have HB:=hid hb
 clear hb hE1 hE
 by_cases h1:ji=rf
 · by_cases h2:jt=ty
   · rw[decide_eq_true h1,decide_eq_true h2]
     subst h1;subst h2
     go_enter Tryz.func90,Tryz.ntmps90
     go_wp2_with fail
     go_ret
     exact⟨by simp_all,HB.out⟩
   · rw[decide_eq_false h2,decide_eq_true h1]
     have hq:(jt==ty)=false:=by simpa using h2
     subst h1
     go_enter Tryz.func90,Tryz.ntmps90
     go_wp2_with fail
     go_ret
     exact⟨by simp_all,HB.out⟩
 · rw[decide_eq_false h1]
   have hq:(ji==rf)=false:=by simpa using h1
   go_enter Tryz.func90,Tryz.ntmps90
   go_wp2_with fail
   go_ret
   exact⟨by simp_all,HB.out⟩
theorem zSm(va:Option Addr)(vc:Nat)(L:List Jb)(hL:L.length≤1000)(g:Nat)(id kd tk rf sp ty:Int)(ud:Bool)(dt:List UInt8)(w:World)(hs:Sl w (vS va L.length vc) 4 L.length (L.flatMap jbC))(hE:w.heap[g]?=some (.cells #[vI kI id,vI kI kd,vI kI tk,vI kI rf,vI kI sp,vI kI ty,vB ud,.string ⟨dt.toArray⟩] 52 (0,0))) :
 Calls Tryz.prog 89 #[vS va L.length vc,.func (.func 90) #[] #[.pointer (some ⟨g,0,none⟩)]] w fun e' w'=>e'=.returned (vI kI (if jobI L rf ty<L.length then((jobI L rf ty:Nat):Int) else -1))∧Below w.heap.size w w':=by
 obtain⟨_,_,a,cap,hv,hc⟩:=hs
 rw[Value.slice.injEq] at hv
 obtain⟨rfl,-,rfl⟩:=hv
 have C1:=hid hc
 have HE:=hid hE
 clear hc hE
 have hlt0:=(gL HE.out)
 generalize hR:(if jobI L rf ty<L.length then((jobI L rf ty:Nat):Int) else -1)=R
 have HR:=hid hR
 clear hR
 go_enter Tryz.func89,Tryz.ntmps89
 go_wp2_with fail
 go_loopw [8] (fun n0 wr=>∃k:Nat,k≤L.length∧n0=vI kI (k:Int)∧(∀j (hj:j<L.length),j<k→(fun j:Jb=>decide (j.id=rf)&&decide (j.ty=ty)) L[j]=false)∧Below w.heap.size w wr) (fun n0 _=>L.length - (intOf n0).toNat)
 case atStart=>exact⟨0,by omega,rfl,fun j _ h=>absurd h (Nat.not_lt_zero _),Below.refl _ _⟩
 case round =>
  obtain⟨k,hk,rfl,hall,hb⟩:=hrel
  by_cases hlt:k<L.length
  · obtain⟨b,off,rfl,hblt,hc⟩:=C1.out.resolve_left (by omega)
    have k0:wr.cell? ⟨b,off+k*4,none⟩=some (vI kI L[k].1):=(hb.cell (p:=⟨b,off+k*4+0,none⟩) hblt).trans (by rw[Nat.add_assoc];exact Sl.cell zCk hc k 0 (by decide) hlt _ rfl)
    have k1:wr.cell? ⟨b,off+k*4+1,none⟩=some (vI kI L[k].2.1):=(hb.cell (p:=⟨b,off+k*4+1,none⟩) hblt).trans (by rw[Nat.add_assoc];exact Sl.cell zCk hc k 1 (by decide) hlt _ rfl)
    have k2:wr.cell? ⟨b,off+k*4+2,none⟩=some (vB L[k].2.2.1):=(hb.cell (p:=⟨b,off+k*4+2,none⟩) hblt).trans (by rw[Nat.add_assoc];exact Sl.cell zCk hc k 2 (by decide) hlt _ rfl)
    have k3:wr.cell? ⟨b,off+k*4+3,none⟩=some (vI kI L[k].2.2.2):=(hb.cell (p:=⟨b,off+k*4+3,none⟩) hblt).trans (by rw[Nat.add_assoc];exact Sl.cell zCk hc k 3 (by decide) hlt _ rfl)
    clear hc
    have hEr:=(hb.block g hlt0).trans HE.out
    have HALL:=hid hall
    have hp:(fun j:Jb=>decide (j.id=rf)&&decide (j.ty=ty)) L[k]=((fun j:Jb=>decide (j.id=rf)&&decide (j.ty=ty)) (L[k])):=rfl
    obtain⟨y,hy⟩:∃y,y=L[k]:=⟨_,rfl⟩
    rw[← hy] at k0 k1 k2 k3
    have HY:=hid hy
    clear hy hp hall
    obtain⟨ji,jp,ju,jt⟩:=y
    simp only at k0 k1 k2 k3
    have hcall:=zQf ji jp ju jt g id kd tk rf sp ty ud dt wr hEr
    clear hEr
    by_cases hq:(decide (ji=rf)&&decide (jt=ty))=true
    · rw[hq] at hcall
      have HQ:=hid hq
      clear hq
      go_wp2_with fail
      refine hcall.mono ?_
      rintro _ w' ⟨rfl,hb'⟩
      go_wp2_with fail
      go_ret
      refine⟨?_,zAl hb hb'⟩
      have hf:jobI L rf ty=k:=(List.findIdx_eq hlt).2 ⟨by rw[← HY.out];exact HQ.out,fun j hj=>HALL.out j (by omega) hj⟩
      rw[← HR.out,hf,if_pos hlt]
      rfl
    · have hq':(decide (ji=rf)&&decide (jt=ty))=false:=by simpa using hq
      rw[hq'] at hcall
      have HQ:=hid hq'
      clear hq hq'
      go_wp2_with fail
      refine hcall.mono ?_
      rintro _ w' ⟨rfl,hb'⟩
      go_wp2_with fail
      go_roundw
      case rel =>
       refine⟨k+1,by omega,by go_num,fun j hj hjk=>?_,zAl hb hb'⟩
       by_cases ej:j=k
       · subst ej;rw[← HY.out];exact HQ.out
       · exact HALL.out j hj (by omega)
      case measure=>simp[intOf];omega
  · obtain rfl:k=L.length:=by omega
    have hf:jobI L rf ty=L.length:=List.findIdx_eq_length_of_false (fun x hx=>by
     obtain⟨j,hj,rfl⟩:=List.getElem_of_mem hx
     have:=hall j hj hj
     simpa using this)
    have HF:=hid hf
    clear hf hall
    go_wp2_with fail
    go_ret
    exact⟨by rw[← HR.out,HF.out,if_neg (Nat.lt_irrefl _)];rfl,hb⟩
theorem zQe(ji:Int)(jp:Int)(jt:Int)(g:Nat)(id kd tk rf sp ty:Int)(ud:Bool)(dt:List UInt8)(w:World)(hE:w.heap[g]?=some (.cells #[vI kI id,vI kI kd,vI kI tk,vI kI rf,vI kI sp,vI kI ty,vB ud,.string ⟨dt.toArray⟩] 52 (0,0))) :
 Calls Tryz.prog 72 #[.agg #[vI kI ji,vI kI jp,vI kI jt],.pointer (some ⟨g,0,none⟩)] w fun e' w'=>e'=.returned (vB (decide (ji=rf)&&decide (jt≤tk)))∧Below w.heap.size w w':=by
 have hb:=(Below.refl w.heap.size w).alloc (Nat.le_refl _) (.cells #[vI kI ji,vI kI jp,vI kI jt] 103)
 have hE1:=(hb.block _ (gL hE)).trans hE
 have e3:(w.alloc (.cells #[vI kI ji,vI kI jp,vI kI jt] 103)).cell? ⟨g,3,none⟩=some (vI kI rf):=cR hE1 rfl
 have e2:(w.alloc (.cells #[vI kI ji,vI kI jp,vI kI jt] 103)).cell? ⟨g,2,none⟩=some (vI kI tk):=cR hE1 rfl
 have HB:=hid hb
 clear hb hE1 hE
 by_cases h1:ji=rf
 · by_cases h2:jt≤tk
   · rw[decide_eq_true h1,decide_eq_true h2]
     subst h1
     go_enter Tryz.func72,Tryz.ntmps72
     go_wp2_with fail
     go_ret
     exact⟨by simp_all,HB.out⟩
   · rw[decide_eq_false h2,decide_eq_true h1]
     have hq:¬(jt≤tk):=h2
     subst h1
     go_enter Tryz.func72,Tryz.ntmps72
     go_wp2_with fail
     go_ret
     exact⟨by simp_all,HB.out⟩
 · rw[decide_eq_false h1]
   have hq:(ji==rf)=false:=by simpa using h1
   go_enter Tryz.func72,Tryz.ntmps72
   go_wp2_with fail
   go_ret
   exact⟨by simp_all,HB.out⟩
theorem zNd(va:Option Addr)(vc:Nat)(L:List Ck)(hL:L.length≤1000)(g:Nat)(id kd tk rf sp ty:Int)(ud:Bool)(dt:List UInt8)(w:World)(hs:Sl w (vS va L.length vc) 3 L.length (L.flatMap ckC))(hE:w.heap[g]?=some (.cells #[vI kI id,vI kI kd,vI kI tk,vI kI rf,vI kI sp,vI kI ty,vB ud,.string ⟨dt.toArray⟩] 52 (0,0))) :
 Calls Tryz.prog 71 #[vS va L.length vc,.func (.func 72) #[] #[.pointer (some ⟨g,0,none⟩)]] w fun e' w'=>e'=.returned (vI kI (if zE1 L rf tk<L.length then((zE1 L rf tk:Nat):Int) else -1))∧Below w.heap.size w w':=by
 obtain⟨_,_,a,cap,hv,hc⟩:=hs
 rw[Value.slice.injEq] at hv
 obtain⟨rfl,-,rfl⟩:=hv
 have C1:=hid hc
 have HE:=hid hE
 clear hc hE
 have hlt0:=(gL HE.out)
 generalize hR:(if zE1 L rf tk<L.length then((zE1 L rf tk:Nat):Int) else -1)=R
 have HR:=hid hR
 clear hR
 go_enter Tryz.func71,Tryz.ntmps71
 go_wp2_with fail
 go_loopw [8] (fun n0 wr=>∃k:Nat,k≤L.length∧n0=vI kI (k:Int)∧(∀j (hj:j<L.length),j<k→(fun j:Ck=>decide (j.id=rf)&&decide (j.tk≤tk)) L[j]=false)∧Below w.heap.size w wr) (fun n0 _=>L.length - (intOf n0).toNat)
 case atStart=>exact⟨0,by omega,rfl,fun j _ h=>absurd h (Nat.not_lt_zero _),Below.refl _ _⟩
 case round =>
  obtain⟨k,hk,rfl,hall,hb⟩:=hrel
  by_cases hlt:k<L.length
  · obtain⟨b,off,rfl,hblt,hc⟩:=C1.out.resolve_left (by omega)
    have k0:wr.cell? ⟨b,off+k*3,none⟩=some (vI kI L[k].1):=(hb.cell (p:=⟨b,off+k*3+0,none⟩) hblt).trans (by rw[Nat.add_assoc];exact Sl.cell zFt hc k 0 (by decide) hlt _ rfl)
    have k1:wr.cell? ⟨b,off+k*3+1,none⟩=some (vI kI L[k].2.1):=(hb.cell (p:=⟨b,off+k*3+1,none⟩) hblt).trans (by rw[Nat.add_assoc];exact Sl.cell zFt hc k 1 (by decide) hlt _ rfl)
    have k2:wr.cell? ⟨b,off+k*3+2,none⟩=some (vI kI L[k].2.2):=(hb.cell (p:=⟨b,off+k*3+2,none⟩) hblt).trans (by rw[Nat.add_assoc];exact Sl.cell zFt hc k 2 (by decide) hlt _ rfl)
    clear hc
    have hEr:=(hb.block g hlt0).trans HE.out
    have HALL:=hid hall
    have hp:(fun j:Ck=>decide (j.id=rf)&&decide (j.tk≤tk)) L[k]=((fun j:Ck=>decide (j.id=rf)&&decide (j.tk≤tk)) (L[k])):=rfl
    obtain⟨y,hy⟩:∃y,y=L[k]:=⟨_,rfl⟩
    rw[← hy] at k0 k1 k2
    have HY:=hid hy
    clear hy hp hall
    obtain⟨ji,jp,jt⟩:=y
    simp only at k0 k1 k2
    have hcall:=zQe ji jp jt g id kd tk rf sp ty ud dt wr hEr
    clear hEr
    by_cases hq:(decide (ji=rf)&&decide (jt≤tk))=true
    · rw[hq] at hcall
      have HQ:=hid hq
      clear hq
      go_wp2_with fail
      refine hcall.mono ?_
      rintro _ w' ⟨rfl,hb'⟩
      go_wp2_with fail
      go_ret
      refine⟨?_,zAl hb hb'⟩
      have hf:zE1 L rf tk=k:=(List.findIdx_eq hlt).2 ⟨by rw[← HY.out];exact HQ.out,fun j hj=>HALL.out j (by omega) hj⟩
      rw[← HR.out,hf,if_pos hlt]
      rfl
    · have hq':(decide (ji=rf)&&decide (jt≤tk))=false:=by simpa using hq
      rw[hq'] at hcall
      have HQ:=hid hq'
      clear hq hq'
      go_wp2_with fail
      refine hcall.mono ?_
      rintro _ w' ⟨rfl,hb'⟩
      go_wp2_with fail
      go_roundw
      case rel =>
       refine⟨k+1,by omega,by go_num,fun j hj hjk=>?_,zAl hb hb'⟩
       by_cases ej:j=k
       · subst ej;rw[← HY.out];exact HQ.out
       · exact HALL.out j hj (by omega)
      case measure=>simp[intOf];omega
  · obtain rfl:k=L.length:=by omega
    have hf:zE1 L rf tk=L.length:=List.findIdx_eq_length_of_false (fun x hx=>by
     obtain⟨j,hj,rfl⟩:=List.getElem_of_mem hx
     have:=hall j hj hj
     simpa using this)
    have HF:=hid hf
    clear hf hall
    go_wp2_with fail
    go_ret
    exact⟨by rw[← HR.out,HF.out,if_neg (Nat.lt_irrefl _)];rfl,hb⟩
theorem zE8(lim st nx bg ak tn:Int)(fr:Bool)(va ua ca:Option Addr)(vn cm vc uc cc:Nat)(js:List Jb)(hL:js.length≤1000)(cn ov:Bool)(id kd tk rf sp ty:Int)(ud:Bool)(dt:List UInt8)(w:World)(hs:Sl w (vS ua js.length uc) 4 js.length (js.flatMap jbC)) :
 Calls Tryz.prog 68 #[.agg #[vS va vn vc,vI kI lim,vI kI st,vI kI nx,vI kI bg,vI kI ak,vI kI tn,vB fr,vS ua js.length uc,vS ca cm cc,vB cn,vB ov],.agg #[vI kI id,vI kI kd,vI kI tk,vI kI rf,vI kI sp,vI kI ty,vB ud,.string ⟨dt.toArray⟩]] w fun e' w'=>e'=.returned (vI kI (if jobI js rf ty<js.length then((jobI js rf ty:Nat):Int) else -1))∧Below w.heap.size w w':=by
 obtain⟨W,hW,hS,hE,bW,sW⟩:=lay2 w #[vS va vn vc,vI kI lim,vI kI st,vI kI nx,vI kI bg,vI kI ak,vI kI tn,vB fr,vS ua js.length uc,vS ca cm cc,vB cn,vB ov] #[vI kI id,vI kI kd,vI kI tk,vI kI rf,vI kI sp,vI kI ty,vB ud,.string ⟨dt.toArray⟩] 59 52
 have HW:=hid hW
 clear hW sW hS
 generalize hR:(if jobI js rf ty<js.length then((jobI js rf ty:Nat):Int) else -1)=R
 have HR:=hid hR
 clear hR
 go_enter Tryz.func68,Tryz.ntmps68
 go_wp2_with fail
 rw[← HW.out]
 refine(zSm ua uc js hL (w.heap.size+1) id kd tk rf sp ty ud dt W (hs.below bW) hE).mono ?_
 rintro _ w1 ⟨rfl,b1⟩
 rw[HR.out]
 have hb:=zAl bW b1
 clear HW
 go_wp2_with fail
 go_ret
 exact⟨rfl,hb⟩
theorem zDk{w:World}{B n c b k:Nat}{e:TypeId}{xs:List Value}(h:w.ownsRow B e k (vS (some ⟨b,0,none⟩) n c) n xs)(j:Nat)(v:Value)(hv:xs[j]?=some v):w.cell? ⟨b,j,none⟩=some v:=by
 obtain⟨hl,hd | ⟨g,cap,cur,e1,hB,hg,hnc,hm,hcs,htk⟩⟩:=h
 · cases hd.1
 · cases e1
   rw[zHt hg]
   rw[← htk,List.getElem?_take] at hv
   split at hv
   · rw[← Array.getElem?_toList];exact hv
   · cases hv
theorem zOi{w:World}{B n c b k:Nat}{e:TypeId}{xs:List Value}(h:w.ownsRow B e k (vS (some ⟨b,0,none⟩) n c) n xs)(j:Nat):w.frozen? ⟨b,j,none⟩=false:=by
 obtain⟨hl,hd | ⟨g,cap,cur,e1,hB,hg,hnc,hm,hcs,htk⟩⟩:=h
 · cases hd.1
 · cases e1;exact frozen_of_row w _ j _ _ hg
theorem zEv{w:World}{B n c k:Nat}{e:TypeId}{a:Option Addr}{xs:List Value}(h:w.ownsRow B e k (vS a n c) n xs)(hn:0<n):∃b,a=some ⟨b,0,none⟩:=by
 obtain⟨hl,hd | ⟨g,cap,cur,e1,hB,hg,hnc,hm,hcs,htk⟩⟩:=h
 · omega
 · cases e1;exact⟨g,rfl⟩
theorem zIp(s:Sta)(e:Ev)(hk:e.kd≠6){i:Nat}(hi:i<s.jobs.length)(h:jobI s.jobs e.rf e.ty=i):zC2 s e=if e.kd=8∧e.ty≠zBc s.ss s.jobs[i] then some { s with jobs:=s.jobs.set i (inc s.jobs[i]) }
 else if e.kd=7∨(e.kd=9∧e.ty=zBc s.ss s.jobs[i]) then some { s with jobs:=s.jobs.eraseIdx i,fresh:=true } else none:=by
 unfold zC2
 rw[if_neg hk,h,List.getElem?_eq_getElem hi]
theorem zIq(s:Sta)(e:Ev)(hk:e.kd≠6)(h:¬jobI s.jobs e.rf e.ty<s.jobs.length):zC2 s e=none:=by
 unfold zC2
 rw[if_neg hk,List.getElem?_eq_none (by omega)]
theorem zRd(ss:List St)(lim st nx bg ak tn:Int)(fr:Bool)(js:List Jb)(cs:List Ck)(cn ov:Bool)(va ua ca:Option Addr)(vc uc cc:Nat)(id kd tk rf sp ty:Int)(ud:Bool)(dt:List UInt8)(B:Nat)(w:World)(hB:B≤w.heap.size)(h0:StO w B ⟨ss,lim,st,nx,bg,ak,tn,fr,js,cs,cn,ov⟩ (vS va ss.length vc) (vS ua js.length uc) (vS ca cs.length cc))(hj9:∀j∈js,0≤j.2.2.2∧j.2.2.2≤100)(hjl:js.length≤1000)(hk:kd=7) :
 Calls Tryz.prog 43 #[.agg #[vS va ss.length vc,vI kI lim,vI kI st,vI kI nx,vI kI bg,vI kI ak,vI kI tn,vB fr,vS ua js.length uc,vS ca cs.length cc,vB cn,vB ov],.agg #[vI kI id,vI kI kd,vI kI tk,vI kI rf,vI kI sp,vI kI ty,vB ud,.string ⟨dt.toArray⟩]] w fun e' w'=>zHn B w (zC2 ⟨ss,lim,st,nx,bg,ak,tn,fr,js,cs,cn,ov⟩ (id,kd,tk,rf,sp,ty,ud,dt)) e' w':=by
 subst hk
 by_cases hi:jobI js rf ty<js.length
 case neg =>
  rw[zIq ⟨ss,lim,st,nx,bg,ak,tn,fr,js,cs,cn,ov⟩ (id,7,tk,rf,sp,ty,ud,dt) (show(7:Int)≠6 by decide) hi]
  obtain⟨W,hW,hS,hE,hR,bW,sW⟩:=lay3 w #[vS va ss.length vc,vI kI lim,vI kI st,vI kI nx,vI kI bg,vI kI ak,vI kI tn,vB fr,vS ua js.length uc,vS ca cs.length cc,vB cn,vB ov] #[vI kI id,vI kI 7,vI kI tk,vI kI rf,vI kI sp,vI kI ty,vB ud,.string ⟨dt.toArray⟩] #[vS none 0 0,vI kI 0,vI kI 0,vI kI 0,vI kI 0,vI kI 0,vI kI 0,vB false,vS none 0 0,vS none 0 0,vB false,vB false] 59 52 59
  have ht:T3 B w W w.heap.size #[vS va ss.length vc,vI kI lim,vI kI st,vI kI nx,vI kI bg,vI kI ak,vI kI tn,vB fr,vS ua js.length uc,vS ca cs.length cc,vB cn,vB ov] #[vI kI id,vI kI 7,vI kI tk,vI kI rf,vI kI sp,vI kI ty,vB ud,.string ⟨dt.toArray⟩] #[vS none 0 0,vI kI 0,vI kI 0,vI kI 0,vI kI 0,vI kI 0,vI kI 0,vB false,vS none 0 0,vS none 0 0,vB false,vB false] 59 52:=⟨hS,hE,hR,BK.of hB bW,by omega⟩
  have hO:=h0.new bW
  have HW:=hid hW
  clear hW hS hE hR sW bW
  go_enter Tryz.func43,Tryz.ntmps43
  go_wp2_with fail
  rw[← HW.out]
  clear HW
  refine(zE8 lim st nx bg ak tn fr va ua ca ss.length cs.length vc uc cc js hjl cn ov id 7 tk rf sp ty ud dt W hO.read.hj).mono ?_
  rintro _ w1 ⟨rfl,b1⟩
  have ht1:=ht.below b1
  have hO1:=hO.new b1
  clear ht hO b1 h0
  rw[if_neg hi]
  clear hi
  obtain⟨x0,x1,x2,x3,x4,x5,x6,x7,x8,x9,x10,x11⟩:=cA (ht1).hX
  obtain⟨z0,z1,z2,z3,z4,z5,z6,z7,z8,z9,z10,z11⟩:=cA (ht1).hZ
  obtain⟨zf0,zf1,zf2,zf3,zf4,zf5,zf6,zf7,zf8,zf9,zf10,zf11⟩:=fA (ht1).hZ
  have HB:=hid ((ht1).hb.at (((((((((((((At.refl (w.heap.size+1+1) w1).set 0 (vS va ss.length vc)).set 1 (vI kI lim)).set 2 (vI kI st)).set 3 (vI kI nx)).set 4 (vI kI bg)).set 5 (vI kI ak)).set 6 (vI kI tn)).set 7 (vB fr)).set 8 (vS ua js.length uc)).set 9 (vS ca cs.length cc)).set 10 (vB cn)).set 11 (vB ov)) (ht1).hs hB (by omega))
  go_wp2_with fail
  refine bodyPost_ret (v:=.tuple #[.agg #[vS va ss.length vc,vI kI lim,vI kI st,vI kI nx,vI kI bg,vI kI ak,vI kI tn,vB fr,vS ua js.length uc,vS ca cs.length cc,vB cn,vB ov],vB false]) ?_ rfl ⟨HB.out,⟨ss,lim,st,nx,bg,ak,tn,fr,js,cs,cn,ov⟩,va,ua,ca,_,_,_,vc,uc,cc,rfl⟩
  rw[results_cell_tmp rfl]
  go_simp
 obtain⟨i,hI0⟩:∃i,jobI js rf ty=i:=⟨_,rfl⟩
 have hI:=hid hI0
 have hi':i<js.length:=by omega
 clear hI0
 rw[show zC2 ⟨ss,lim,st,nx,bg,ak,tn,fr,js,cs,cn,ov⟩ (id,7,tk,rf,sp,ty,ud,dt)=some ⟨ss,lim,st,nx,bg,ak,tn,true,(js.eraseIdx i),cs,cn,ov⟩ from by rw[zIp ⟨ss,lim,st,nx,bg,ak,tn,fr,js,cs,cn,ov⟩ (id,7,tk,rf,sp,ty,ud,dt) (show(7:Int)≠6 by decide) hi' hI.out];simp[Ev.kd,Ev.ty]]
 obtain⟨W,hW,hS,hE,hR,bW,sW⟩:=lay3 w #[vS va ss.length vc,vI kI lim,vI kI st,vI kI nx,vI kI bg,vI kI ak,vI kI tn,vB fr,vS ua js.length uc,vS ca cs.length cc,vB cn,vB ov] #[vI kI id,vI kI 7,vI kI tk,vI kI rf,vI kI sp,vI kI ty,vB ud,.string ⟨dt.toArray⟩] #[vS none 0 0,vI kI 0,vI kI 0,vI kI 0,vI kI 0,vI kI 0,vI kI 0,vB false,vS none 0 0,vS none 0 0,vB false,vB false] 59 52 59
 have ht:T3 B w W w.heap.size #[vS va ss.length vc,vI kI lim,vI kI st,vI kI nx,vI kI bg,vI kI ak,vI kI tn,vB fr,vS ua js.length uc,vS ca cs.length cc,vB cn,vB ov] #[vI kI id,vI kI 7,vI kI tk,vI kI rf,vI kI sp,vI kI ty,vB ud,.string ⟨dt.toArray⟩] #[vS none 0 0,vI kI 0,vI kI 0,vI kI 0,vI kI 0,vI kI 0,vI kI 0,vB false,vS none 0 0,vS none 0 0,vB false,vB false] 59 52:=⟨hS,hE,hR,BK.of hB bW,by omega⟩
 have hO:=h0.new bW
 have HW:=hid hW
 clear hW hS hE hR sW bW
 go_enter Tryz.func43,Tryz.ntmps43
 go_wp2_with fail
 rw[← HW.out]
 clear HW
 refine(zE8 lim st nx bg ak tn fr va ua ca ss.length cs.length vc uc cc js hjl cn ov id 7 tk rf sp ty ud dt W hO.read.hj).mono ?_
 rintro _ w1 ⟨rfl,b1⟩
 have ht1:=ht.below b1
 have hO1:=hO.new b1
 clear ht hO b1 h0
 rw[if_pos hi,hI.out]
 obtain⟨b,rfl⟩:=zEv hO1.hj (by omega)
 have hjc:∀(t:Nat) (ht:t<4) (v:Value),(jbC js[i])[t]?=some v→w1.cell? ⟨b,i*4+t,none⟩=some v:=fun t ht v hv=>zDk hO1.hj _ v (by rw[zAq zCk js i t ht hi'];exact hv)
 have j0:w1.cell? ⟨b,i*4,none⟩=some (vI kI js[i].1):=hjc 0 (by decide) _ rfl
 have j1:w1.cell? ⟨b,i*4+1,none⟩=some (vI kI js[i].2.1):=hjc 1 (by decide) _ rfl
 have j2:w1.cell? ⟨b,i*4+2,none⟩=some (vB js[i].2.2.1):=hjc 2 (by decide) _ rfl
 have j3:w1.cell? ⟨b,i*4+3,none⟩=some (vI kI js[i].2.2.2):=hjc 3 (by decide) _ rfl
 clear hjc
 obtain⟨y,hy⟩:∃y,y=js[i]:=⟨_,rfl⟩
 have hj9i:=hj9 js[i] (List.getElem_mem hi')
 rw[← hy] at j0 j1 j2 j3 hj9i
 have HY:=hid hy
 clear hy hj9
 obtain⟨ji,jp,ju,jt⟩:=y
 simp only at j0 j1 j2 j3 hj9i
 have hi0:¬(i:Int)<0:=by omega
 have hi1:(i:Int)<(js.length:Int):=by omega
 obtain⟨x0,x1,x2,x3,x4,x5,x6,x7,x8,x9,x10,x11⟩:=cA (ht1).hX
 have y5:w1.cell? ⟨w.heap.size+1,5,none⟩=some (vI kI ty):=(ht1).y rfl
 have ltY:w.heap.size+1<w1.heap.size:=(gL ht1.hY)
 have hsl:=hO1.read.hs
 clear hi hI
 go_upto_region 10 with (fail)
 go_cut [2,3,4,5,8,9] (fun s2 s3 s4 s5 s8 s9 wx=>s2=.pointer (some ⟨w.heap.size,0,none⟩)∧s3=.pointer (some ⟨w.heap.size+1,0,none⟩)∧s4=.pointer (some ⟨w.heap.size+1+1,0,none⟩)∧s5=vB false∧s8=vI kI (i:Int)∧s9=vB (ty==zBc ss (ji,jp,ju,jt))∧Below w1.heap.size w1 wx)
 case first =>
  go_region_law ((go_simp;go_at_call 69;refine(zFf ss lim st nx bg ak tn fr va (some ⟨b,0,none⟩) ca js.length cs.length vc uc cc cn ov ji jp ju jt _ (by first | exact hsl | exact hsl.below (zAa _ _ 1))).mono ?_;rintro _ w3 ⟨rfl,hb3⟩;have hb4:=zAb (n:=1) hb3;have y5:=(hb4.cell (p:=⟨w.heap.size+1,5,none⟩) ltY).trans y5))
  all_goals (go_wp2_with fail;go_meet;exact⟨rfl,rfl,rfl,rfl,rfl,rfl,by assumption⟩)
 case rest =>
  obtain⟨rfl,rfl,rfl,rfl,rfl,rfl,bc⟩:=hcut
  have ht2:=ht1.below bc
  have hO2:=hO1.new bc
  clear bc hsl ltY j0 j1 j2 j3 x0 x1 x2 x3 x4 x5 x6 x7 x8 x9 x10 x11 y5 ht1 hO1
  have y1:wc.cell? ⟨w.heap.size+1,1,none⟩=some (vI kI 7):=(ht2).y rfl
  have x8:wc.cell? ⟨w.heap.size,8,none⟩=some (vS (some ⟨b,0,none⟩) js.length uc):=(ht2).x rfl
  go_wp2_with fail
  refine(zM4 wc B b uc js i hi' hO2.hj).mono ?_
  rintro _ w4 ⟨rfl,hown,a4⟩
  have HL:=hid (show(js.eraseIdx i).length=js.length - 1 from List.length_eraseIdx_of_lt hi')
  rw[← HL.out,← List.eraseIdx_eq_take_drop_succ] at hown
  have ht4:=ht2.grown hO2.hj a4 (by decide)
  have hO4:=hO2.jobs a4 hown ⟨ss,lim,st,nx,bg,ak,tn,true,(js.eraseIdx i),cs,cn,ov⟩ rfl rfl rfl
  clear ht2 hO2 hown a4 y1 x8
  obtain⟨x0,x1,x2,x3,x4,x5,x6,x7,x8,x9,x10,x11⟩:=cA (ht4).hX
  obtain⟨-,-,-,-,-,-,-,xz7,xz8,-⟩:=fA (ht4).hX
  obtain⟨z0,z1,z2,z3,z4,z5,z6,z7,z8,z9,z10,z11⟩:=cA (ht4).hZ
  obtain⟨zf0,zf1,zf2,zf3,zf4,zf5,zf6,zf7,zf8,zf9,zf10,zf11⟩:=fA (ht4).hZ
  have ht5:=(ht4.set hB 8 (vS (some ⟨b,0,none⟩) (js.length - 1) uc)).set hB 7 (vB true)
  have hO5:=(hO4.at ht4.hX (by decide) ((At.refl _ w4).set 8 (vS (some ⟨b,0,none⟩) (js.length - 1) uc))).at (ht4.set hB 8 (vS (some ⟨b,0,none⟩) (js.length - 1) uc)).hX (by decide) ((At.refl _ (w4.setCell ⟨w.heap.size,8,none⟩ (vS (some ⟨b,0,none⟩) (js.length - 1) uc))).set 7 (vB true))
  have HB:=hid (ht5.hb.at (((((((((((((At.refl (w.heap.size+1+1) ((w4.setCell ⟨w.heap.size,8,none⟩ (vS (some ⟨b,0,none⟩) (js.length - 1) uc)).setCell ⟨w.heap.size,7,none⟩ (vB true))).set 0 (vS va ss.length vc)).set 1 (vI kI lim)).set 2 (vI kI st)).set 3 (vI kI nx)).set 4 (vI kI bg)).set 5 (vI kI ak)).set 6 (vI kI tn)).set 7 (vB true)).set 8 (vS (some ⟨b,0,none⟩) (js.length - 1) uc)).set 9 (vS ca cs.length cc)).set 10 (vB cn)).set 11 (vB ov)) ht5.hs hB (by omega))
  have HO:=hid (hO5.at ht5.hZ (by decide) (((((((((((((At.refl (w.heap.size+1+1) ((w4.setCell ⟨w.heap.size,8,none⟩ (vS (some ⟨b,0,none⟩) (js.length - 1) uc)).setCell ⟨w.heap.size,7,none⟩ (vB true))).set 0 (vS va ss.length vc)).set 1 (vI kI lim)).set 2 (vI kI st)).set 3 (vI kI nx)).set 4 (vI kI bg)).set 5 (vI kI ak)).set 6 (vI kI tn)).set 7 (vB true)).set 8 (vS (some ⟨b,0,none⟩) (js.length - 1) uc)).set 9 (vS ca cs.length cc)).set 10 (vB cn)).set 11 (vB ov)))
  clear ht4 hO4 ht5 hO5
  rw[HL.out] at HO
  go_wp2_with fail
  refine bodyPost_ret (v:=.tuple #[.agg #[vS va ss.length vc,vI kI lim,vI kI st,vI kI nx,vI kI bg,vI kI ak,vI kI tn,vB true,vS (some ⟨b,0,none⟩) (js.length - 1) uc,vS ca cs.length cc,vB cn,vB ov],vB true]) ?_ rfl ⟨HB.out,va,(some ⟨b,0,none⟩),ca,vc,uc,cc,by rw[← HL.out];rfl,by simpa only[HL.out] using HO.out⟩
  rw[results_cell_tmp rfl]
  go_simp
theorem zRe(ss:List St)(lim st nx bg ak tn:Int)(fr:Bool)(js:List Jb)(cs:List Ck)(cn ov:Bool)(va ua ca:Option Addr)(vc uc cc:Nat)(id kd tk rf sp ty:Int)(ud:Bool)(dt:List UInt8)(B:Nat)(w:World)(hB:B≤w.heap.size)(h0:StO w B ⟨ss,lim,st,nx,bg,ak,tn,fr,js,cs,cn,ov⟩ (vS va ss.length vc) (vS ua js.length uc) (vS ca cs.length cc))(hj9:∀j∈js,0≤j.2.2.2∧j.2.2.2≤100)(hjl:js.length≤1000)(hk:kd=8) :
 Calls Tryz.prog 43 #[.agg #[vS va ss.length vc,vI kI lim,vI kI st,vI kI nx,vI kI bg,vI kI ak,vI kI tn,vB fr,vS ua js.length uc,vS ca cs.length cc,vB cn,vB ov],.agg #[vI kI id,vI kI kd,vI kI tk,vI kI rf,vI kI sp,vI kI ty,vB ud,.string ⟨dt.toArray⟩]] w fun e' w'=>zHn B w (zC2 ⟨ss,lim,st,nx,bg,ak,tn,fr,js,cs,cn,ov⟩ (id,kd,tk,rf,sp,ty,ud,dt)) e' w':=by
 subst hk
 by_cases hi:jobI js rf ty<js.length
 case neg =>
  rw[zIq ⟨ss,lim,st,nx,bg,ak,tn,fr,js,cs,cn,ov⟩ (id,8,tk,rf,sp,ty,ud,dt) (show(8:Int)≠6 by decide) hi]
  obtain⟨W,hW,hS,hE,hR,bW,sW⟩:=lay3 w #[vS va ss.length vc,vI kI lim,vI kI st,vI kI nx,vI kI bg,vI kI ak,vI kI tn,vB fr,vS ua js.length uc,vS ca cs.length cc,vB cn,vB ov] #[vI kI id,vI kI 8,vI kI tk,vI kI rf,vI kI sp,vI kI ty,vB ud,.string ⟨dt.toArray⟩] #[vS none 0 0,vI kI 0,vI kI 0,vI kI 0,vI kI 0,vI kI 0,vI kI 0,vB false,vS none 0 0,vS none 0 0,vB false,vB false] 59 52 59
  have ht:T3 B w W w.heap.size #[vS va ss.length vc,vI kI lim,vI kI st,vI kI nx,vI kI bg,vI kI ak,vI kI tn,vB fr,vS ua js.length uc,vS ca cs.length cc,vB cn,vB ov] #[vI kI id,vI kI 8,vI kI tk,vI kI rf,vI kI sp,vI kI ty,vB ud,.string ⟨dt.toArray⟩] #[vS none 0 0,vI kI 0,vI kI 0,vI kI 0,vI kI 0,vI kI 0,vI kI 0,vB false,vS none 0 0,vS none 0 0,vB false,vB false] 59 52:=⟨hS,hE,hR,BK.of hB bW,by omega⟩
  have hO:=h0.new bW
  have HW:=hid hW
  clear hW hS hE hR sW bW
  go_enter Tryz.func43,Tryz.ntmps43
  go_wp2_with fail
  rw[← HW.out]
  clear HW
  refine(zE8 lim st nx bg ak tn fr va ua ca ss.length cs.length vc uc cc js hjl cn ov id 8 tk rf sp ty ud dt W hO.read.hj).mono ?_
  rintro _ w1 ⟨rfl,b1⟩
  have ht1:=ht.below b1
  have hO1:=hO.new b1
  clear ht hO b1 h0
  rw[if_neg hi]
  clear hi
  obtain⟨x0,x1,x2,x3,x4,x5,x6,x7,x8,x9,x10,x11⟩:=cA (ht1).hX
  obtain⟨z0,z1,z2,z3,z4,z5,z6,z7,z8,z9,z10,z11⟩:=cA (ht1).hZ
  obtain⟨zf0,zf1,zf2,zf3,zf4,zf5,zf6,zf7,zf8,zf9,zf10,zf11⟩:=fA (ht1).hZ
  have HB:=hid ((ht1).hb.at (((((((((((((At.refl (w.heap.size+1+1) w1).set 0 (vS va ss.length vc)).set 1 (vI kI lim)).set 2 (vI kI st)).set 3 (vI kI nx)).set 4 (vI kI bg)).set 5 (vI kI ak)).set 6 (vI kI tn)).set 7 (vB fr)).set 8 (vS ua js.length uc)).set 9 (vS ca cs.length cc)).set 10 (vB cn)).set 11 (vB ov)) (ht1).hs hB (by omega))
  go_wp2_with fail
  refine bodyPost_ret (v:=.tuple #[.agg #[vS va ss.length vc,vI kI lim,vI kI st,vI kI nx,vI kI bg,vI kI ak,vI kI tn,vB fr,vS ua js.length uc,vS ca cs.length cc,vB cn,vB ov],vB false]) ?_ rfl ⟨HB.out,⟨ss,lim,st,nx,bg,ak,tn,fr,js,cs,cn,ov⟩,va,ua,ca,_,_,_,vc,uc,cc,rfl⟩
  rw[results_cell_tmp rfl]
  go_simp
 obtain⟨i,hI0⟩:∃i,jobI js rf ty=i:=⟨_,rfl⟩
 have hI:=hid hI0
 have hi':i<js.length:=by omega
 clear hI0
 by_cases hl:ty=zBc ss js[i]
 · rw[show zC2 ⟨ss,lim,st,nx,bg,ak,tn,fr,js,cs,cn,ov⟩ (id,8,tk,rf,sp,ty,ud,dt)=none from by rw[zIp ⟨ss,lim,st,nx,bg,ak,tn,fr,js,cs,cn,ov⟩ (id,8,tk,rf,sp,ty,ud,dt) (show(8:Int)≠6 by decide) hi' hI.out];simp[Ev.kd,Ev.ty,hl]]
   have HLT:=hid hl
   clear hl
   obtain⟨W,hW,hS,hE,hR,bW,sW⟩:=lay3 w #[vS va ss.length vc,vI kI lim,vI kI st,vI kI nx,vI kI bg,vI kI ak,vI kI tn,vB fr,vS ua js.length uc,vS ca cs.length cc,vB cn,vB ov] #[vI kI id,vI kI 8,vI kI tk,vI kI rf,vI kI sp,vI kI ty,vB ud,.string ⟨dt.toArray⟩] #[vS none 0 0,vI kI 0,vI kI 0,vI kI 0,vI kI 0,vI kI 0,vI kI 0,vB false,vS none 0 0,vS none 0 0,vB false,vB false] 59 52 59
   have ht:T3 B w W w.heap.size #[vS va ss.length vc,vI kI lim,vI kI st,vI kI nx,vI kI bg,vI kI ak,vI kI tn,vB fr,vS ua js.length uc,vS ca cs.length cc,vB cn,vB ov] #[vI kI id,vI kI 8,vI kI tk,vI kI rf,vI kI sp,vI kI ty,vB ud,.string ⟨dt.toArray⟩] #[vS none 0 0,vI kI 0,vI kI 0,vI kI 0,vI kI 0,vI kI 0,vI kI 0,vB false,vS none 0 0,vS none 0 0,vB false,vB false] 59 52:=⟨hS,hE,hR,BK.of hB bW,by omega⟩
   have hO:=h0.new bW
   have HW:=hid hW
   clear hW hS hE hR sW bW
   go_enter Tryz.func43,Tryz.ntmps43
   go_wp2_with fail
   rw[← HW.out]
   clear HW
   refine(zE8 lim st nx bg ak tn fr va ua ca ss.length cs.length vc uc cc js hjl cn ov id 8 tk rf sp ty ud dt W hO.read.hj).mono ?_
   rintro _ w1 ⟨rfl,b1⟩
   have ht1:=ht.below b1
   have hO1:=hO.new b1
   clear ht hO b1 h0
   rw[if_pos hi,hI.out]
   obtain⟨b,rfl⟩:=zEv hO1.hj (by omega)
   have hjc:∀(t:Nat) (ht:t<4) (v:Value),(jbC js[i])[t]?=some v→w1.cell? ⟨b,i*4+t,none⟩=some v:=fun t ht v hv=>zDk hO1.hj _ v (by rw[zAq zCk js i t ht hi'];exact hv)
   have j0:w1.cell? ⟨b,i*4,none⟩=some (vI kI js[i].1):=hjc 0 (by decide) _ rfl
   have j1:w1.cell? ⟨b,i*4+1,none⟩=some (vI kI js[i].2.1):=hjc 1 (by decide) _ rfl
   have j2:w1.cell? ⟨b,i*4+2,none⟩=some (vB js[i].2.2.1):=hjc 2 (by decide) _ rfl
   have j3:w1.cell? ⟨b,i*4+3,none⟩=some (vI kI js[i].2.2.2):=hjc 3 (by decide) _ rfl
   clear hjc
   obtain⟨y,hy⟩:∃y,y=js[i]:=⟨_,rfl⟩
   have hj9i:=hj9 js[i] (List.getElem_mem hi')
   rw[← hy] at j0 j1 j2 j3 hj9i
   have HY:=hid hy
   clear hy hj9
   obtain⟨ji,jp,ju,jt⟩:=y
   simp only at j0 j1 j2 j3 hj9i
   have hi0:¬(i:Int)<0:=by omega
   have hi1:(i:Int)<(js.length:Int):=by omega
   obtain⟨x0,x1,x2,x3,x4,x5,x6,x7,x8,x9,x10,x11⟩:=cA (ht1).hX
   have y5:w1.cell? ⟨w.heap.size+1,5,none⟩=some (vI kI ty):=(ht1).y rfl
   have ltY:w.heap.size+1<w1.heap.size:=(gL ht1.hY)
   have hsl:=hO1.read.hs
   clear hi hI
   go_upto_region 10 with (fail)
   go_cut [2,3,4,5,8,9] (fun s2 s3 s4 s5 s8 s9 wx=>s2=.pointer (some ⟨w.heap.size,0,none⟩)∧s3=.pointer (some ⟨w.heap.size+1,0,none⟩)∧s4=.pointer (some ⟨w.heap.size+1+1,0,none⟩)∧s5=vB false∧s8=vI kI (i:Int)∧s9=vB (ty==zBc ss (ji,jp,ju,jt))∧Below w1.heap.size w1 wx)
   case first =>
    go_region_law ((go_simp;go_at_call 69;refine(zFf ss lim st nx bg ak tn fr va (some ⟨b,0,none⟩) ca js.length cs.length vc uc cc cn ov ji jp ju jt _ (by first | exact hsl | exact hsl.below (zAa _ _ 1))).mono ?_;rintro _ w3 ⟨rfl,hb3⟩;have hb4:=zAb (n:=1) hb3;have y5:=(hb4.cell (p:=⟨w.heap.size+1,5,none⟩) ltY).trans y5))
    all_goals (go_wp2_with fail;go_meet;exact⟨rfl,rfl,rfl,rfl,rfl,rfl,by assumption⟩)
   case rest =>
    obtain⟨rfl,rfl,rfl,rfl,rfl,rfl,bc⟩:=hcut
    have ht2:=ht1.below bc
    have hO2:=hO1.new bc
    clear bc hsl ltY j0 j1 j2 j3 x0 x1 x2 x3 x4 x5 x6 x7 x8 x9 x10 x11 y5 ht1 hO1
    have hq:(ty==zBc ss (ji,jp,ju,jt))=true:=by rw[HY.out,beq_iff_eq];exact HLT.out
    rw[hq]
    clear hq
    have y1:wc.cell? ⟨w.heap.size+1,1,none⟩=some (vI kI 8):=(ht2).y rfl
    obtain⟨x0,x1,x2,x3,x4,x5,x6,x7,x8,x9,x10,x11⟩:=cA (ht2).hX
    obtain⟨z0,z1,z2,z3,z4,z5,z6,z7,z8,z9,z10,z11⟩:=cA (ht2).hZ
    obtain⟨zf0,zf1,zf2,zf3,zf4,zf5,zf6,zf7,zf8,zf9,zf10,zf11⟩:=fA (ht2).hZ
    have HB:=hid ((ht2).hb.at (((((((((((((At.refl (w.heap.size+1+1) wc).set 0 (vS va ss.length vc)).set 1 (vI kI lim)).set 2 (vI kI st)).set 3 (vI kI nx)).set 4 (vI kI bg)).set 5 (vI kI ak)).set 6 (vI kI tn)).set 7 (vB fr)).set 8 (vS (some ⟨b,0,none⟩) js.length uc)).set 9 (vS ca cs.length cc)).set 10 (vB cn)).set 11 (vB ov)) (ht2).hs hB (by omega))
    go_wp2_with fail
    refine bodyPost_ret (v:=.tuple #[.agg #[vS va ss.length vc,vI kI lim,vI kI st,vI kI nx,vI kI bg,vI kI ak,vI kI tn,vB fr,vS (some ⟨b,0,none⟩) js.length uc,vS ca cs.length cc,vB cn,vB ov],vB false]) ?_ rfl ⟨HB.out,⟨ss,lim,st,nx,bg,ak,tn,fr,js,cs,cn,ov⟩,va,(some ⟨b,0,none⟩),ca,_,_,_,vc,uc,cc,rfl⟩
    rw[results_cell_tmp rfl]
    go_simp
 · rw[show zC2 ⟨ss,lim,st,nx,bg,ak,tn,fr,js,cs,cn,ov⟩ (id,8,tk,rf,sp,ty,ud,dt)=some ⟨ss,lim,st,nx,bg,ak,tn,fr,(js.set i (inc js[i])),cs,cn,ov⟩ from by rw[zIp ⟨ss,lim,st,nx,bg,ak,tn,fr,js,cs,cn,ov⟩ (id,8,tk,rf,sp,ty,ud,dt) (show(8:Int)≠6 by decide) hi' hI.out];simp[Ev.kd,Ev.ty,hl]]
   have HLT:=hid hl
   clear hl
   obtain⟨W,hW,hS,hE,hR,bW,sW⟩:=lay3 w #[vS va ss.length vc,vI kI lim,vI kI st,vI kI nx,vI kI bg,vI kI ak,vI kI tn,vB fr,vS ua js.length uc,vS ca cs.length cc,vB cn,vB ov] #[vI kI id,vI kI 8,vI kI tk,vI kI rf,vI kI sp,vI kI ty,vB ud,.string ⟨dt.toArray⟩] #[vS none 0 0,vI kI 0,vI kI 0,vI kI 0,vI kI 0,vI kI 0,vI kI 0,vB false,vS none 0 0,vS none 0 0,vB false,vB false] 59 52 59
   have ht:T3 B w W w.heap.size #[vS va ss.length vc,vI kI lim,vI kI st,vI kI nx,vI kI bg,vI kI ak,vI kI tn,vB fr,vS ua js.length uc,vS ca cs.length cc,vB cn,vB ov] #[vI kI id,vI kI 8,vI kI tk,vI kI rf,vI kI sp,vI kI ty,vB ud,.string ⟨dt.toArray⟩] #[vS none 0 0,vI kI 0,vI kI 0,vI kI 0,vI kI 0,vI kI 0,vI kI 0,vB false,vS none 0 0,vS none 0 0,vB false,vB false] 59 52:=⟨hS,hE,hR,BK.of hB bW,by omega⟩
   have hO:=h0.new bW
   have HW:=hid hW
   clear hW hS hE hR sW bW
   go_enter Tryz.func43,Tryz.ntmps43
   go_wp2_with fail
   rw[← HW.out]
   clear HW
   refine(zE8 lim st nx bg ak tn fr va ua ca ss.length cs.length vc uc cc js hjl cn ov id 8 tk rf sp ty ud dt W hO.read.hj).mono ?_
   rintro _ w1 ⟨rfl,b1⟩
   have ht1:=ht.below b1
   have hO1:=hO.new b1
   clear ht hO b1 h0
   rw[if_pos hi,hI.out]
   obtain⟨b,rfl⟩:=zEv hO1.hj (by omega)
   have hjc:∀(t:Nat) (ht:t<4) (v:Value),(jbC js[i])[t]?=some v→w1.cell? ⟨b,i*4+t,none⟩=some v:=fun t ht v hv=>zDk hO1.hj _ v (by rw[zAq zCk js i t ht hi'];exact hv)
   have j0:w1.cell? ⟨b,i*4,none⟩=some (vI kI js[i].1):=hjc 0 (by decide) _ rfl
   have j1:w1.cell? ⟨b,i*4+1,none⟩=some (vI kI js[i].2.1):=hjc 1 (by decide) _ rfl
   have j2:w1.cell? ⟨b,i*4+2,none⟩=some (vB js[i].2.2.1):=hjc 2 (by decide) _ rfl
   have j3:w1.cell? ⟨b,i*4+3,none⟩=some (vI kI js[i].2.2.2):=hjc 3 (by decide) _ rfl
   clear hjc
   obtain⟨y,hy⟩:∃y,y=js[i]:=⟨_,rfl⟩
   have hj9i:=hj9 js[i] (List.getElem_mem hi')
   rw[← hy] at j0 j1 j2 j3 hj9i
   have HY:=hid hy
   clear hy hj9
   obtain⟨ji,jp,ju,jt⟩:=y
   simp only at j0 j1 j2 j3 hj9i
   have hi0:¬(i:Int)<0:=by omega
   have hi1:(i:Int)<(js.length:Int):=by omega
   obtain⟨x0,x1,x2,x3,x4,x5,x6,x7,x8,x9,x10,x11⟩:=cA (ht1).hX
   have y5:w1.cell? ⟨w.heap.size+1,5,none⟩=some (vI kI ty):=(ht1).y rfl
   have ltY:w.heap.size+1<w1.heap.size:=(gL ht1.hY)
   have hsl:=hO1.read.hs
   clear hi hI
   go_upto_region 10 with (fail)
   go_cut [2,3,4,5,8,9] (fun s2 s3 s4 s5 s8 s9 wx=>s2=.pointer (some ⟨w.heap.size,0,none⟩)∧s3=.pointer (some ⟨w.heap.size+1,0,none⟩)∧s4=.pointer (some ⟨w.heap.size+1+1,0,none⟩)∧s5=vB false∧s8=vI kI (i:Int)∧s9=vB (ty==zBc ss (ji,jp,ju,jt))∧Below w1.heap.size w1 wx)
   case first =>
    go_region_law ((go_simp;go_at_call 69;refine(zFf ss lim st nx bg ak tn fr va (some ⟨b,0,none⟩) ca js.length cs.length vc uc cc cn ov ji jp ju jt _ (by first | exact hsl | exact hsl.below (zAa _ _ 1))).mono ?_;rintro _ w3 ⟨rfl,hb3⟩;have hb4:=zAb (n:=1) hb3;have y5:=(hb4.cell (p:=⟨w.heap.size+1,5,none⟩) ltY).trans y5))
    all_goals (go_wp2_with fail;go_meet;exact⟨rfl,rfl,rfl,rfl,rfl,rfl,by assumption⟩)
   case rest =>
    obtain⟨rfl,rfl,rfl,rfl,rfl,rfl,bc⟩:=hcut
    have ht2:=ht1.below bc
    have hO2:=hO1.new bc
    clear bc hsl ltY j0 j1 j2 j3 x0 x1 x2 x3 x4 x5 x6 x7 x8 x9 x10 x11 y5 ht1 hO1
    have hq:(ty==zBc ss (ji,jp,ju,jt))=false:=by rw[HY.out,beq_eq_false_iff_ne];exact HLT.out
    rw[hq]
    clear hq
    have y1:wc.cell? ⟨w.heap.size+1,1,none⟩=some (vI kI 8):=(ht2).y rfl
    have x8:wc.cell? ⟨w.heap.size,8,none⟩=some (vS (some ⟨b,0,none⟩) js.length uc):=(ht2).x rfl
    have j3:wc.cell? ⟨b,i*4+3,none⟩=some (vI kI jt):=zDk hO2.hj _ _ (by rw[zAq zCk js i 3 (by decide) hi',← HY.out];rfl)
    have jf3:=zOi hO2.hj (i*4+3)
    have hown:=zUm hi' hO2.hj
    rw[show(js[i]).2.2.2+1=jt+1 by rw[← HY.out]] at hown
    have HL:=hid (show(js.set i (inc js[i])).length=js.length by simp)
    have a4:At b wc (wc.setCell ⟨b,i*4+3,none⟩ (vI kI (jt+1))):=(At.refl b wc).set _ _
    have ht4:=ht2.grown hO2.hj a4 (by decide)
    have hown':(wc.setCell ⟨b,i*4+3,none⟩ (vI kI (jt+1))).ownsRow B 100 4 (vS (some ⟨b,0,none⟩) js.length uc) (js.set i (inc js[i])).length ((js.set i (inc js[i])).flatMap jbC):=by rw[HL.out];exact hown
    have hO4:=hO2.jobs a4 hown' ⟨ss,lim,st,nx,bg,ak,tn,fr,(js.set i (inc js[i])),cs,cn,ov⟩ rfl rfl rfl
    clear hown hown' a4
    go_upto_region 13 with (fail)
    obtain⟨w4,hw4⟩:∃x,x=(wc.setCell ⟨b,i*4+3,none⟩ (vI kI (jt+1))):=⟨_,rfl⟩
    rw[← hw4] at ht4 hO4 ⊢
    clear ht2 hO2 y1 x8 j3 jf3 hw4
    obtain⟨x0,x1,x2,x3,x4,x5,x6,x7,x8,x9,x10,x11⟩:=cA (ht4).hX
    obtain⟨z0,z1,z2,z3,z4,z5,z6,z7,z8,z9,z10,z11⟩:=cA (ht4).hZ
    obtain⟨zf0,zf1,zf2,zf3,zf4,zf5,zf6,zf7,zf8,zf9,zf10,zf11⟩:=fA (ht4).hZ
    have HB:=hid (ht4.hb.at (((((((((((((At.refl (w.heap.size+1+1) w4).set 0 (vS va ss.length vc)).set 1 (vI kI lim)).set 2 (vI kI st)).set 3 (vI kI nx)).set 4 (vI kI bg)).set 5 (vI kI ak)).set 6 (vI kI tn)).set 7 (vB fr)).set 8 (vS (some ⟨b,0,none⟩) js.length uc)).set 9 (vS ca cs.length cc)).set 10 (vB cn)).set 11 (vB ov)) ht4.hs hB (by omega))
    have HO:=hid (hO4.at ht4.hZ (by decide) (((((((((((((At.refl (w.heap.size+1+1) w4).set 0 (vS va ss.length vc)).set 1 (vI kI lim)).set 2 (vI kI st)).set 3 (vI kI nx)).set 4 (vI kI bg)).set 5 (vI kI ak)).set 6 (vI kI tn)).set 7 (vB fr)).set 8 (vS (some ⟨b,0,none⟩) js.length uc)).set 9 (vS ca cs.length cc)).set 10 (vB cn)).set 11 (vB ov)))
    clear ht4 hO4
    go_wp2_with fail
    refine bodyPost_ret (v:=.tuple #[.agg #[vS va ss.length vc,vI kI lim,vI kI st,vI kI nx,vI kI bg,vI kI ak,vI kI tn,vB fr,vS (some ⟨b,0,none⟩) js.length uc,vS ca cs.length cc,vB cn,vB ov],vB true]) ?_ rfl ⟨HB.out,va,(some ⟨b,0,none⟩),ca,vc,uc,cc,by rw[show staV ⟨ss,lim,st,nx,bg,ak,tn,fr,(js.set i (inc js[i])),cs,cn,ov⟩ (vS va ss.length vc) (vS (some ⟨b,0,none⟩) (js.set i (inc js[i])).length uc) (vS ca cs.length cc)=staV ⟨ss,lim,st,nx,bg,ak,tn,fr,(js.set i (inc js[i])),cs,cn,ov⟩ (vS va ss.length vc) (vS (some ⟨b,0,none⟩) js.length uc) (vS ca cs.length cc) by rw[HL.out]];rfl,by simpa only[HL.out] using HO.out⟩
    rw[results_cell_tmp rfl]
    go_simp
theorem zRf(ss:List St)(lim st nx bg ak tn:Int)(fr:Bool)(js:List Jb)(cs:List Ck)(cn ov:Bool)(va ua ca:Option Addr)(vc uc cc:Nat)(id kd tk rf sp ty:Int)(ud:Bool)(dt:List UInt8)(B:Nat)(w:World)(hB:B≤w.heap.size)(h0:StO w B ⟨ss,lim,st,nx,bg,ak,tn,fr,js,cs,cn,ov⟩ (vS va ss.length vc) (vS ua js.length uc) (vS ca cs.length cc))(hj9:∀j∈js,0≤j.2.2.2∧j.2.2.2≤100)(hjl:js.length≤1000)(hk:kd=9) :
 Calls Tryz.prog 43 #[.agg #[vS va ss.length vc,vI kI lim,vI kI st,vI kI nx,vI kI bg,vI kI ak,vI kI tn,vB fr,vS ua js.length uc,vS ca cs.length cc,vB cn,vB ov],.agg #[vI kI id,vI kI kd,vI kI tk,vI kI rf,vI kI sp,vI kI ty,vB ud,.string ⟨dt.toArray⟩]] w fun e' w'=>zHn B w (zC2 ⟨ss,lim,st,nx,bg,ak,tn,fr,js,cs,cn,ov⟩ (id,kd,tk,rf,sp,ty,ud,dt)) e' w':=by
 subst hk
 by_cases hi:jobI js rf ty<js.length
 case neg =>
  rw[zIq ⟨ss,lim,st,nx,bg,ak,tn,fr,js,cs,cn,ov⟩ (id,9,tk,rf,sp,ty,ud,dt) (show(9:Int)≠6 by decide) hi]
  obtain⟨W,hW,hS,hE,hR,bW,sW⟩:=lay3 w #[vS va ss.length vc,vI kI lim,vI kI st,vI kI nx,vI kI bg,vI kI ak,vI kI tn,vB fr,vS ua js.length uc,vS ca cs.length cc,vB cn,vB ov] #[vI kI id,vI kI 9,vI kI tk,vI kI rf,vI kI sp,vI kI ty,vB ud,.string ⟨dt.toArray⟩] #[vS none 0 0,vI kI 0,vI kI 0,vI kI 0,vI kI 0,vI kI 0,vI kI 0,vB false,vS none 0 0,vS none 0 0,vB false,vB false] 59 52 59
  have ht:T3 B w W w.heap.size #[vS va ss.length vc,vI kI lim,vI kI st,vI kI nx,vI kI bg,vI kI ak,vI kI tn,vB fr,vS ua js.length uc,vS ca cs.length cc,vB cn,vB ov] #[vI kI id,vI kI 9,vI kI tk,vI kI rf,vI kI sp,vI kI ty,vB ud,.string ⟨dt.toArray⟩] #[vS none 0 0,vI kI 0,vI kI 0,vI kI 0,vI kI 0,vI kI 0,vI kI 0,vB false,vS none 0 0,vS none 0 0,vB false,vB false] 59 52:=⟨hS,hE,hR,BK.of hB bW,by omega⟩
  have hO:=h0.new bW
  have HW:=hid hW
  clear hW hS hE hR sW bW
  go_enter Tryz.func43,Tryz.ntmps43
  go_wp2_with fail
  rw[← HW.out]
  clear HW
  refine(zE8 lim st nx bg ak tn fr va ua ca ss.length cs.length vc uc cc js hjl cn ov id 9 tk rf sp ty ud dt W hO.read.hj).mono ?_
  rintro _ w1 ⟨rfl,b1⟩
  have ht1:=ht.below b1
  have hO1:=hO.new b1
  clear ht hO b1 h0
  rw[if_neg hi]
  clear hi
  obtain⟨x0,x1,x2,x3,x4,x5,x6,x7,x8,x9,x10,x11⟩:=cA (ht1).hX
  obtain⟨z0,z1,z2,z3,z4,z5,z6,z7,z8,z9,z10,z11⟩:=cA (ht1).hZ
  obtain⟨zf0,zf1,zf2,zf3,zf4,zf5,zf6,zf7,zf8,zf9,zf10,zf11⟩:=fA (ht1).hZ
  have HB:=hid ((ht1).hb.at (((((((((((((At.refl (w.heap.size+1+1) w1).set 0 (vS va ss.length vc)).set 1 (vI kI lim)).set 2 (vI kI st)).set 3 (vI kI nx)).set 4 (vI kI bg)).set 5 (vI kI ak)).set 6 (vI kI tn)).set 7 (vB fr)).set 8 (vS ua js.length uc)).set 9 (vS ca cs.length cc)).set 10 (vB cn)).set 11 (vB ov)) (ht1).hs hB (by omega))
  go_wp2_with fail
  refine bodyPost_ret (v:=.tuple #[.agg #[vS va ss.length vc,vI kI lim,vI kI st,vI kI nx,vI kI bg,vI kI ak,vI kI tn,vB fr,vS ua js.length uc,vS ca cs.length cc,vB cn,vB ov],vB false]) ?_ rfl ⟨HB.out,⟨ss,lim,st,nx,bg,ak,tn,fr,js,cs,cn,ov⟩,va,ua,ca,_,_,_,vc,uc,cc,rfl⟩
  rw[results_cell_tmp rfl]
  go_simp
 obtain⟨i,hI0⟩:∃i,jobI js rf ty=i:=⟨_,rfl⟩
 have hI:=hid hI0
 have hi':i<js.length:=by omega
 clear hI0
 by_cases hl:ty=zBc ss js[i]
 · rw[show zC2 ⟨ss,lim,st,nx,bg,ak,tn,fr,js,cs,cn,ov⟩ (id,9,tk,rf,sp,ty,ud,dt)=some ⟨ss,lim,st,nx,bg,ak,tn,true,(js.eraseIdx i),cs,cn,ov⟩ from by rw[zIp ⟨ss,lim,st,nx,bg,ak,tn,fr,js,cs,cn,ov⟩ (id,9,tk,rf,sp,ty,ud,dt) (show(9:Int)≠6 by decide) hi' hI.out];simp[Ev.kd,Ev.ty,hl]]
   have HLT:=hid hl
   clear hl
   obtain⟨W,hW,hS,hE,hR,bW,sW⟩:=lay3 w #[vS va ss.length vc,vI kI lim,vI kI st,vI kI nx,vI kI bg,vI kI ak,vI kI tn,vB fr,vS ua js.length uc,vS ca cs.length cc,vB cn,vB ov] #[vI kI id,vI kI 9,vI kI tk,vI kI rf,vI kI sp,vI kI ty,vB ud,.string ⟨dt.toArray⟩] #[vS none 0 0,vI kI 0,vI kI 0,vI kI 0,vI kI 0,vI kI 0,vI kI 0,vB false,vS none 0 0,vS none 0 0,vB false,vB false] 59 52 59
   have ht:T3 B w W w.heap.size #[vS va ss.length vc,vI kI lim,vI kI st,vI kI nx,vI kI bg,vI kI ak,vI kI tn,vB fr,vS ua js.length uc,vS ca cs.length cc,vB cn,vB ov] #[vI kI id,vI kI 9,vI kI tk,vI kI rf,vI kI sp,vI kI ty,vB ud,.string ⟨dt.toArray⟩] #[vS none 0 0,vI kI 0,vI kI 0,vI kI 0,vI kI 0,vI kI 0,vI kI 0,vB false,vS none 0 0,vS none 0 0,vB false,vB false] 59 52:=⟨hS,hE,hR,BK.of hB bW,by omega⟩
   have hO:=h0.new bW
   have HW:=hid hW
   clear hW hS hE hR sW bW
   go_enter Tryz.func43,Tryz.ntmps43
   go_wp2_with fail
   rw[← HW.out]
   clear HW
   refine(zE8 lim st nx bg ak tn fr va ua ca ss.length cs.length vc uc cc js hjl cn ov id 9 tk rf sp ty ud dt W hO.read.hj).mono ?_
   rintro _ w1 ⟨rfl,b1⟩
   have ht1:=ht.below b1
   have hO1:=hO.new b1
   clear ht hO b1 h0
   rw[if_pos hi,hI.out]
   obtain⟨b,rfl⟩:=zEv hO1.hj (by omega)
   have hjc:∀(t:Nat) (ht:t<4) (v:Value),(jbC js[i])[t]?=some v→w1.cell? ⟨b,i*4+t,none⟩=some v:=fun t ht v hv=>zDk hO1.hj _ v (by rw[zAq zCk js i t ht hi'];exact hv)
   have j0:w1.cell? ⟨b,i*4,none⟩=some (vI kI js[i].1):=hjc 0 (by decide) _ rfl
   have j1:w1.cell? ⟨b,i*4+1,none⟩=some (vI kI js[i].2.1):=hjc 1 (by decide) _ rfl
   have j2:w1.cell? ⟨b,i*4+2,none⟩=some (vB js[i].2.2.1):=hjc 2 (by decide) _ rfl
   have j3:w1.cell? ⟨b,i*4+3,none⟩=some (vI kI js[i].2.2.2):=hjc 3 (by decide) _ rfl
   clear hjc
   obtain⟨y,hy⟩:∃y,y=js[i]:=⟨_,rfl⟩
   have hj9i:=hj9 js[i] (List.getElem_mem hi')
   rw[← hy] at j0 j1 j2 j3 hj9i
   have HY:=hid hy
   clear hy hj9
   obtain⟨ji,jp,ju,jt⟩:=y
   simp only at j0 j1 j2 j3 hj9i
   have hi0:¬(i:Int)<0:=by omega
   have hi1:(i:Int)<(js.length:Int):=by omega
   obtain⟨x0,x1,x2,x3,x4,x5,x6,x7,x8,x9,x10,x11⟩:=cA (ht1).hX
   have y5:w1.cell? ⟨w.heap.size+1,5,none⟩=some (vI kI ty):=(ht1).y rfl
   have ltY:w.heap.size+1<w1.heap.size:=(gL ht1.hY)
   have hsl:=hO1.read.hs
   clear hi hI
   go_upto_region 10 with (fail)
   go_cut [2,3,4,5,8,9] (fun s2 s3 s4 s5 s8 s9 wx=>s2=.pointer (some ⟨w.heap.size,0,none⟩)∧s3=.pointer (some ⟨w.heap.size+1,0,none⟩)∧s4=.pointer (some ⟨w.heap.size+1+1,0,none⟩)∧s5=vB false∧s8=vI kI (i:Int)∧s9=vB (ty==zBc ss (ji,jp,ju,jt))∧Below w1.heap.size w1 wx)
   case first =>
    go_region_law ((go_simp;go_at_call 69;refine(zFf ss lim st nx bg ak tn fr va (some ⟨b,0,none⟩) ca js.length cs.length vc uc cc cn ov ji jp ju jt _ (by first | exact hsl | exact hsl.below (zAa _ _ 1))).mono ?_;rintro _ w3 ⟨rfl,hb3⟩;have hb4:=zAb (n:=1) hb3;have y5:=(hb4.cell (p:=⟨w.heap.size+1,5,none⟩) ltY).trans y5))
    all_goals (go_wp2_with fail;go_meet;exact⟨rfl,rfl,rfl,rfl,rfl,rfl,by assumption⟩)
   case rest =>
    obtain⟨rfl,rfl,rfl,rfl,rfl,rfl,bc⟩:=hcut
    have ht2:=ht1.below bc
    have hO2:=hO1.new bc
    clear bc hsl ltY j0 j1 j2 j3 x0 x1 x2 x3 x4 x5 x6 x7 x8 x9 x10 x11 y5 ht1 hO1
    have hq:(ty==zBc ss (ji,jp,ju,jt))=true:=by rw[HY.out,beq_iff_eq];exact HLT.out
    rw[hq]
    clear hq
    have y1:wc.cell? ⟨w.heap.size+1,1,none⟩=some (vI kI 9):=(ht2).y rfl
    have x8:wc.cell? ⟨w.heap.size,8,none⟩=some (vS (some ⟨b,0,none⟩) js.length uc):=(ht2).x rfl
    go_wp2_with fail
    refine(zM4 wc B b uc js i hi' hO2.hj).mono ?_
    rintro _ w4 ⟨rfl,hown,a4⟩
    have HL:=hid (show(js.eraseIdx i).length=js.length - 1 from List.length_eraseIdx_of_lt hi')
    rw[← HL.out,← List.eraseIdx_eq_take_drop_succ] at hown
    have ht4:=ht2.grown hO2.hj a4 (by decide)
    have hO4:=hO2.jobs a4 hown ⟨ss,lim,st,nx,bg,ak,tn,true,(js.eraseIdx i),cs,cn,ov⟩ rfl rfl rfl
    clear ht2 hO2 hown a4 y1 x8
    obtain⟨x0,x1,x2,x3,x4,x5,x6,x7,x8,x9,x10,x11⟩:=cA (ht4).hX
    obtain⟨-,-,-,-,-,-,-,xz7,xz8,-⟩:=fA (ht4).hX
    obtain⟨z0,z1,z2,z3,z4,z5,z6,z7,z8,z9,z10,z11⟩:=cA (ht4).hZ
    obtain⟨zf0,zf1,zf2,zf3,zf4,zf5,zf6,zf7,zf8,zf9,zf10,zf11⟩:=fA (ht4).hZ
    have ht5:=(ht4.set hB 8 (vS (some ⟨b,0,none⟩) (js.length - 1) uc)).set hB 7 (vB true)
    have hO5:=(hO4.at ht4.hX (by decide) ((At.refl _ w4).set 8 (vS (some ⟨b,0,none⟩) (js.length - 1) uc))).at (ht4.set hB 8 (vS (some ⟨b,0,none⟩) (js.length - 1) uc)).hX (by decide) ((At.refl _ (w4.setCell ⟨w.heap.size,8,none⟩ (vS (some ⟨b,0,none⟩) (js.length - 1) uc))).set 7 (vB true))
    have HB:=hid (ht5.hb.at (((((((((((((At.refl (w.heap.size+1+1) ((w4.setCell ⟨w.heap.size,8,none⟩ (vS (some ⟨b,0,none⟩) (js.length - 1) uc)).setCell ⟨w.heap.size,7,none⟩ (vB true))).set 0 (vS va ss.length vc)).set 1 (vI kI lim)).set 2 (vI kI st)).set 3 (vI kI nx)).set 4 (vI kI bg)).set 5 (vI kI ak)).set 6 (vI kI tn)).set 7 (vB true)).set 8 (vS (some ⟨b,0,none⟩) (js.length - 1) uc)).set 9 (vS ca cs.length cc)).set 10 (vB cn)).set 11 (vB ov)) ht5.hs hB (by omega))
    have HO:=hid (hO5.at ht5.hZ (by decide) (((((((((((((At.refl (w.heap.size+1+1) ((w4.setCell ⟨w.heap.size,8,none⟩ (vS (some ⟨b,0,none⟩) (js.length - 1) uc)).setCell ⟨w.heap.size,7,none⟩ (vB true))).set 0 (vS va ss.length vc)).set 1 (vI kI lim)).set 2 (vI kI st)).set 3 (vI kI nx)).set 4 (vI kI bg)).set 5 (vI kI ak)).set 6 (vI kI tn)).set 7 (vB true)).set 8 (vS (some ⟨b,0,none⟩) (js.length - 1) uc)).set 9 (vS ca cs.length cc)).set 10 (vB cn)).set 11 (vB ov)))
    clear ht4 hO4 ht5 hO5
    rw[HL.out] at HO
    go_wp2_with fail
    refine bodyPost_ret (v:=.tuple #[.agg #[vS va ss.length vc,vI kI lim,vI kI st,vI kI nx,vI kI bg,vI kI ak,vI kI tn,vB true,vS (some ⟨b,0,none⟩) (js.length - 1) uc,vS ca cs.length cc,vB cn,vB ov],vB true]) ?_ rfl ⟨HB.out,va,(some ⟨b,0,none⟩),ca,vc,uc,cc,by rw[← HL.out];rfl,by simpa only[HL.out] using HO.out⟩
    rw[results_cell_tmp rfl]
    go_simp
 · rw[show zC2 ⟨ss,lim,st,nx,bg,ak,tn,fr,js,cs,cn,ov⟩ (id,9,tk,rf,sp,ty,ud,dt)=none from by rw[zIp ⟨ss,lim,st,nx,bg,ak,tn,fr,js,cs,cn,ov⟩ (id,9,tk,rf,sp,ty,ud,dt) (show(9:Int)≠6 by decide) hi' hI.out];simp[Ev.kd,Ev.ty,hl]]
   have HLT:=hid hl
   clear hl
   obtain⟨W,hW,hS,hE,hR,bW,sW⟩:=lay3 w #[vS va ss.length vc,vI kI lim,vI kI st,vI kI nx,vI kI bg,vI kI ak,vI kI tn,vB fr,vS ua js.length uc,vS ca cs.length cc,vB cn,vB ov] #[vI kI id,vI kI 9,vI kI tk,vI kI rf,vI kI sp,vI kI ty,vB ud,.string ⟨dt.toArray⟩] #[vS none 0 0,vI kI 0,vI kI 0,vI kI 0,vI kI 0,vI kI 0,vI kI 0,vB false,vS none 0 0,vS none 0 0,vB false,vB false] 59 52 59
   have ht:T3 B w W w.heap.size #[vS va ss.length vc,vI kI lim,vI kI st,vI kI nx,vI kI bg,vI kI ak,vI kI tn,vB fr,vS ua js.length uc,vS ca cs.length cc,vB cn,vB ov] #[vI kI id,vI kI 9,vI kI tk,vI kI rf,vI kI sp,vI kI ty,vB ud,.string ⟨dt.toArray⟩] #[vS none 0 0,vI kI 0,vI kI 0,vI kI 0,vI kI 0,vI kI 0,vI kI 0,vB false,vS none 0 0,vS none 0 0,vB false,vB false] 59 52:=⟨hS,hE,hR,BK.of hB bW,by omega⟩
   have hO:=h0.new bW
   have HW:=hid hW
   clear hW hS hE hR sW bW
   go_enter Tryz.func43,Tryz.ntmps43
   go_wp2_with fail
   rw[← HW.out]
   clear HW
   refine(zE8 lim st nx bg ak tn fr va ua ca ss.length cs.length vc uc cc js hjl cn ov id 9 tk rf sp ty ud dt W hO.read.hj).mono ?_
   rintro _ w1 ⟨rfl,b1⟩
   have ht1:=ht.below b1
   have hO1:=hO.new b1
   clear ht hO b1 h0
   rw[if_pos hi,hI.out]
   obtain⟨b,rfl⟩:=zEv hO1.hj (by omega)
   have hjc:∀(t:Nat) (ht:t<4) (v:Value),(jbC js[i])[t]?=some v→w1.cell? ⟨b,i*4+t,none⟩=some v:=fun t ht v hv=>zDk hO1.hj _ v (by rw[zAq zCk js i t ht hi'];exact hv)
   have j0:w1.cell? ⟨b,i*4,none⟩=some (vI kI js[i].1):=hjc 0 (by decide) _ rfl
   have j1:w1.cell? ⟨b,i*4+1,none⟩=some (vI kI js[i].2.1):=hjc 1 (by decide) _ rfl
   have j2:w1.cell? ⟨b,i*4+2,none⟩=some (vB js[i].2.2.1):=hjc 2 (by decide) _ rfl
   have j3:w1.cell? ⟨b,i*4+3,none⟩=some (vI kI js[i].2.2.2):=hjc 3 (by decide) _ rfl
   clear hjc
   obtain⟨y,hy⟩:∃y,y=js[i]:=⟨_,rfl⟩
   have hj9i:=hj9 js[i] (List.getElem_mem hi')
   rw[← hy] at j0 j1 j2 j3 hj9i
   have HY:=hid hy
   clear hy hj9
   obtain⟨ji,jp,ju,jt⟩:=y
   simp only at j0 j1 j2 j3 hj9i
   have hi0:¬(i:Int)<0:=by omega
   have hi1:(i:Int)<(js.length:Int):=by omega
   obtain⟨x0,x1,x2,x3,x4,x5,x6,x7,x8,x9,x10,x11⟩:=cA (ht1).hX
   have y5:w1.cell? ⟨w.heap.size+1,5,none⟩=some (vI kI ty):=(ht1).y rfl
   have ltY:w.heap.size+1<w1.heap.size:=(gL ht1.hY)
   have hsl:=hO1.read.hs
   clear hi hI
   go_upto_region 10 with (fail)
   go_cut [2,3,4,5,8,9] (fun s2 s3 s4 s5 s8 s9 wx=>s2=.pointer (some ⟨w.heap.size,0,none⟩)∧s3=.pointer (some ⟨w.heap.size+1,0,none⟩)∧s4=.pointer (some ⟨w.heap.size+1+1,0,none⟩)∧s5=vB false∧s8=vI kI (i:Int)∧s9=vB (ty==zBc ss (ji,jp,ju,jt))∧Below w1.heap.size w1 wx)
   case first =>
    go_region_law ((go_simp;go_at_call 69;refine(zFf ss lim st nx bg ak tn fr va (some ⟨b,0,none⟩) ca js.length cs.length vc uc cc cn ov ji jp ju jt _ (by first | exact hsl | exact hsl.below (zAa _ _ 1))).mono ?_;rintro _ w3 ⟨rfl,hb3⟩;have hb4:=zAb (n:=1) hb3;have y5:=(hb4.cell (p:=⟨w.heap.size+1,5,none⟩) ltY).trans y5))
    all_goals (go_wp2_with fail;go_meet;exact⟨rfl,rfl,rfl,rfl,rfl,rfl,by assumption⟩)
   case rest =>
    obtain⟨rfl,rfl,rfl,rfl,rfl,rfl,bc⟩:=hcut
    have ht2:=ht1.below bc
    have hO2:=hO1.new bc
    clear bc hsl ltY j0 j1 j2 j3 x0 x1 x2 x3 x4 x5 x6 x7 x8 x9 x10 x11 y5 ht1 hO1
    have hq:(ty==zBc ss (ji,jp,ju,jt))=false:=by rw[HY.out,beq_eq_false_iff_ne];exact HLT.out
    rw[hq]
    clear hq
    have y1:wc.cell? ⟨w.heap.size+1,1,none⟩=some (vI kI 9):=(ht2).y rfl
    obtain⟨x0,x1,x2,x3,x4,x5,x6,x7,x8,x9,x10,x11⟩:=cA (ht2).hX
    obtain⟨z0,z1,z2,z3,z4,z5,z6,z7,z8,z9,z10,z11⟩:=cA (ht2).hZ
    obtain⟨zf0,zf1,zf2,zf3,zf4,zf5,zf6,zf7,zf8,zf9,zf10,zf11⟩:=fA (ht2).hZ
    have HB:=hid ((ht2).hb.at (((((((((((((At.refl (w.heap.size+1+1) wc).set 0 (vS va ss.length vc)).set 1 (vI kI lim)).set 2 (vI kI st)).set 3 (vI kI nx)).set 4 (vI kI bg)).set 5 (vI kI ak)).set 6 (vI kI tn)).set 7 (vB fr)).set 8 (vS (some ⟨b,0,none⟩) js.length uc)).set 9 (vS ca cs.length cc)).set 10 (vB cn)).set 11 (vB ov)) (ht2).hs hB (by omega))
    go_wp2_with fail
    refine bodyPost_ret (v:=.tuple #[.agg #[vS va ss.length vc,vI kI lim,vI kI st,vI kI nx,vI kI bg,vI kI ak,vI kI tn,vB fr,vS (some ⟨b,0,none⟩) js.length uc,vS ca cs.length cc,vB cn,vB ov],vB false]) ?_ rfl ⟨HB.out,⟨ss,lim,st,nx,bg,ak,tn,fr,js,cs,cn,ov⟩,va,(some ⟨b,0,none⟩),ca,_,_,_,vc,uc,cc,rfl⟩
    rw[results_cell_tmp rfl]
    go_simp
theorem zRc(ss:List St)(lim st nx bg ak tn:Int)(fr:Bool)(js:List Jb)(cs:List Ck)(cn ov:Bool)(va ua ca:Option Addr)(vc uc cc:Nat)(id kd tk rf sp ty:Int)(ud:Bool)(dt:List UInt8)(B:Nat)(w:World)(hB:B≤w.heap.size)(h0:StO w B ⟨ss,lim,st,nx,bg,ak,tn,fr,js,cs,cn,ov⟩ (vS va ss.length vc) (vS ua js.length uc) (vS ca cs.length cc))(hj9:∀j∈js,0≤j.2.2.2∧j.2.2.2≤100)(hjl:js.length≤1000)(hk:kd=6) :
 Calls Tryz.prog 43 #[.agg #[vS va ss.length vc,vI kI lim,vI kI st,vI kI nx,vI kI bg,vI kI ak,vI kI tn,vB fr,vS ua js.length uc,vS ca cs.length cc,vB cn,vB ov],.agg #[vI kI id,vI kI kd,vI kI tk,vI kI rf,vI kI sp,vI kI ty,vB ud,.string ⟨dt.toArray⟩]] w fun e' w'=>zHn B w (zC2 ⟨ss,lim,st,nx,bg,ak,tn,fr,js,cs,cn,ov⟩ (id,kd,tk,rf,sp,ty,ud,dt)) e' w':=by
 subst hk
 cases ha:zB1 ss sp 1 with
 | none =>
   rw[show zC2 ⟨ss,lim,st,nx,bg,ak,tn,fr,js,cs,cn,ov⟩ (id,6,tk,rf,sp,ty,ud,dt)=none from by unfold zC2;simp only[Ev.kd,Ev.sp];rw[ha];rfl]
   have HA:=hid ha
   clear ha
   obtain⟨W,hW,hS,hE,hR,bW,sW⟩:=lay3 w #[vS va ss.length vc,vI kI lim,vI kI st,vI kI nx,vI kI bg,vI kI ak,vI kI tn,vB fr,vS ua js.length uc,vS ca cs.length cc,vB cn,vB ov] #[vI kI id,vI kI 6,vI kI tk,vI kI rf,vI kI sp,vI kI ty,vB ud,.string ⟨dt.toArray⟩] #[vS none 0 0,vI kI 0,vI kI 0,vI kI 0,vI kI 0,vI kI 0,vI kI 0,vB false,vS none 0 0,vS none 0 0,vB false,vB false] 59 52 59
   have ht:T3 B w W w.heap.size #[vS va ss.length vc,vI kI lim,vI kI st,vI kI nx,vI kI bg,vI kI ak,vI kI tn,vB fr,vS ua js.length uc,vS ca cs.length cc,vB cn,vB ov] #[vI kI id,vI kI 6,vI kI tk,vI kI rf,vI kI sp,vI kI ty,vB ud,.string ⟨dt.toArray⟩] #[vS none 0 0,vI kI 0,vI kI 0,vI kI 0,vI kI 0,vI kI 0,vI kI 0,vB false,vS none 0 0,vS none 0 0,vB false,vB false] 59 52:=⟨hS,hE,hR,BK.of hB bW,by omega⟩
   have hO:=h0.new bW
   have HW:=hid hW
   clear hW hS hE hR sW bW
   go_enter Tryz.func43,Tryz.ntmps43
   go_wp2_with fail
   rw[← HW.out]
   clear HW
   refine(zD6 ss lim st nx bg ak tn fr va ua ca js.length cs.length vc uc cc cn ov sp 1 W hO.read.hs).mono ?_
   rintro _ w1 ⟨rfl,b1⟩
   rw[HA.out]
   have bs:Below w1.heap.size w1 (w1.alloc (.cells #[vI kI 0,.string ⟨#[]⟩,.string ⟨#[]⟩,vI kI 0,vI kI 0,vI kI 0] 77)):=(Below.refl _ _).alloc (Nat.le_refl _) _
   have ht2:=(ht.below b1).below bs
   have hO2:=(hO.new b1).new bs
   clear ht hO b1 h0
   rw[show zKa none=.agg #[vI kI 0,.string ⟨#[]⟩,.string ⟨#[]⟩,vI kI 0,vI kI 0,vI kI 0] from rfl,show(none:Option St).isSome=false from rfl]
   clear bs hO2
   obtain⟨x0,x1,x2,x3,x4,x5,x6,x7,x8,x9,x10,x11⟩:=cA (ht2).hX
   obtain⟨z0,z1,z2,z3,z4,z5,z6,z7,z8,z9,z10,z11⟩:=cA (ht2).hZ
   obtain⟨zf0,zf1,zf2,zf3,zf4,zf5,zf6,zf7,zf8,zf9,zf10,zf11⟩:=fA (ht2).hZ
   have HB:=hid ((ht2).hb.at (((((((((((((At.refl (w.heap.size+1+1) (w1.alloc (.cells #[vI kI 0,.string ⟨#[]⟩,.string ⟨#[]⟩,vI kI 0,vI kI 0,vI kI 0] 77))).set 0 (vS va ss.length vc)).set 1 (vI kI lim)).set 2 (vI kI st)).set 3 (vI kI nx)).set 4 (vI kI bg)).set 5 (vI kI ak)).set 6 (vI kI tn)).set 7 (vB fr)).set 8 (vS ua js.length uc)).set 9 (vS ca cs.length cc)).set 10 (vB cn)).set 11 (vB ov)) (ht2).hs hB (by omega))
   go_wp2_with fail
   refine bodyPost_ret (v:=.tuple #[.agg #[vS va ss.length vc,vI kI lim,vI kI st,vI kI nx,vI kI bg,vI kI ak,vI kI tn,vB fr,vS ua js.length uc,vS ca cs.length cc,vB cn,vB ov],vB false]) ?_ rfl ⟨HB.out,⟨ss,lim,st,nx,bg,ak,tn,fr,js,cs,cn,ov⟩,va,ua,ca,_,_,_,vc,uc,cc,rfl⟩
   rw[results_cell_tmp rfl]
   go_simp
 | some x =>
   obtain⟨kx,nm,un,tr,ut,wt⟩:=x
   cases ud with
   | false =>
     rw[show zC2 ⟨ss,lim,st,nx,bg,ak,tn,fr,js,cs,cn,ov⟩ (id,6,tk,rf,sp,ty,false,dt)=some ⟨ss,lim,st,nx,bg,ak,tn,fr,(js ++ [(id,sp,false,1)]),cs,cn,ov⟩ from by unfold zC2;simp only[Ev.kd,Ev.sp,Ev.ud,Ev.id];rw[ha];simp]
     have HA:=hid ha
     clear ha
     have hinfo:(Tryz.prog.info? 100).map (fun i=>(i.zero,i.size,i.bytes))=some (some (.agg #[vI kI 0,vI kI 0,vB false,vI kI 0]),4,32):=by kernel_rfl
     have hmx:maxLen=9223372036854775807:=rfl
     obtain⟨W,hW,hS,hE,hR,bW,sW⟩:=lay3 w #[vS va ss.length vc,vI kI lim,vI kI st,vI kI nx,vI kI bg,vI kI ak,vI kI tn,vB fr,vS ua js.length uc,vS ca cs.length cc,vB cn,vB ov] #[vI kI id,vI kI 6,vI kI tk,vI kI rf,vI kI sp,vI kI ty,vB false,.string ⟨dt.toArray⟩] #[vS none 0 0,vI kI 0,vI kI 0,vI kI 0,vI kI 0,vI kI 0,vI kI 0,vB false,vS none 0 0,vS none 0 0,vB false,vB false] 59 52 59
     have ht:T3 B w W w.heap.size #[vS va ss.length vc,vI kI lim,vI kI st,vI kI nx,vI kI bg,vI kI ak,vI kI tn,vB fr,vS ua js.length uc,vS ca cs.length cc,vB cn,vB ov] #[vI kI id,vI kI 6,vI kI tk,vI kI rf,vI kI sp,vI kI ty,vB false,.string ⟨dt.toArray⟩] #[vS none 0 0,vI kI 0,vI kI 0,vI kI 0,vI kI 0,vI kI 0,vI kI 0,vB false,vS none 0 0,vS none 0 0,vB false,vB false] 59 52:=⟨hS,hE,hR,BK.of hB bW,by omega⟩
     have hO:=h0.new bW
     have HW:=hid hW
     clear hW hS hE hR sW bW
     go_enter Tryz.func43,Tryz.ntmps43
     go_wp2_with fail
     rw[← HW.out]
     clear HW
     refine(zD6 ss lim st nx bg ak tn fr va ua ca js.length cs.length vc uc cc cn ov sp 1 W hO.read.hs).mono ?_
     rintro _ w1 ⟨rfl,b1⟩
     rw[HA.out]
     have bs:Below w1.heap.size w1 (w1.alloc (.cells #[vI kI kx,.string ⟨nm.toArray⟩,.string ⟨un.toArray⟩,vI kI tr,vI kI ut,vI kI wt] 77)):=(Below.refl _ _).alloc (Nat.le_refl _) _
     have ht2:=(ht.below b1).below bs
     have hO2:=(hO.new b1).new bs
     clear ht hO b1 h0
     rw[show zKa (some (kx,nm,un,tr,ut,wt))=.agg #[vI kI kx,.string ⟨nm.toArray⟩,.string ⟨un.toArray⟩,vI kI tr,vI kI ut,vI kI wt] from rfl,show((some (kx,nm,un,tr,ut,wt)):Option St).isSome=true from rfl]
     have bj:Below (w1.alloc (.cells #[vI kI kx,.string ⟨nm.toArray⟩,.string ⟨un.toArray⟩,vI kI tr,vI kI ut,vI kI wt] 77)).heap.size (w1.alloc (.cells #[vI kI kx,.string ⟨nm.toArray⟩,.string ⟨un.toArray⟩,vI kI tr,vI kI ut,vI kI wt] 77)) ((w1.alloc (.cells #[vI kI kx,.string ⟨nm.toArray⟩,.string ⟨un.toArray⟩,vI kI tr,vI kI ut,vI kI wt] 77)).alloc (.cells #[vI kI id,vI kI sp,vB false,vI kI 1] 100)):=(Below.refl _ _).alloc (Nat.le_refl _) _
     have s2:(w1.alloc (.cells #[vI kI kx,.string ⟨nm.toArray⟩,.string ⟨un.toArray⟩,vI kI tr,vI kI ut,vI kI wt] 77)).heap.size=w1.heap.size+1:=Array.size_push ..
     have ht3:=ht2.below bj
     have hO3:=hO2.new bj
     have hy:∀(j:Nat) (q9:Value),(jbC (id,sp,false,1))[j]?=some q9→((w1.alloc (.cells #[vI kI kx,.string ⟨nm.toArray⟩,.string ⟨un.toArray⟩,vI kI tr,vI kI ut,vI kI wt] 77)).alloc (.cells #[vI kI id,vI kI sp,vB false,vI kI 1] 100)).cell? ⟨(w1.heap.size+1),j,none⟩=some q9:=by
      intro j u hu9
      refine(World.cell?_alloc_at _ _ _ _ s2.symm).trans ?_
      rw[← hu9]
      exact List.getElem?_toArray
     have hO3o:=hO3.hj
     have hB9:=ht3.hs
     have HL:=hid (show(js ++ [((id,sp,false,1):Jb)]).length=js.length+1 by simp)
     clear s2 bj
     have x8:(w1.alloc (.cells #[vI kI kx,.string ⟨nm.toArray⟩,.string ⟨un.toArray⟩,vI kI tr,vI kI ut,vI kI wt] 77)).cell? ⟨w.heap.size,8,none⟩=some (vS ua js.length uc):=(ht2).x rfl
     obtain⟨y0,-,-,-,y4,-,y6,-⟩:=cA (ht2).hY
     clear ht2 hO2 bs
     go_wp2_with ((at_builtin;go_must (refine zAs _ rfl _ _ 56 rfl jbC 4 (by decide) zCk zJ0 B 100 (.agg #[vI kI 0,vI kI 0,vB false,vI kI 0]) 32 Tryz.underlying56 hinfo rfl _ js.length js rfl hO3o (w1.heap.size+1) 1 rfl ((id,sp,false,1):Jb) hy (by omega) (by omega) hB9 ?_)))
     intro a' c' w' hown hgrow
     have ht4:=ht3.grown hO3o hgrow (by decide)
     rw[← HL.out,show js.flatMap jbC++jbC (id,sp,false,1)=(js ++ [((id,sp,false,1):Jb)]).flatMap jbC by simp] at hown
     have hO4:=hO3.jobs hgrow hown ⟨ss,lim,st,nx,bg,ak,tn,fr,(js ++ [(id,sp,false,1)]),cs,cn,ov⟩ rfl rfl rfl
     clear ht3 hO3 hO3o hy hown hgrow hB9 x8 y0 y4 y6
     obtain⟨x0,x1,x2,x3,x4,x5,x6,x7,x8,x9,x10,x11⟩:=cA (ht4).hX
     have xz8:=ht4.fx 8
     obtain⟨z0,z1,z2,z3,z4,z5,z6,z7,z8,z9,z10,z11⟩:=cA (ht4).hZ
     obtain⟨zf0,zf1,zf2,zf3,zf4,zf5,zf6,zf7,zf8,zf9,zf10,zf11⟩:=fA (ht4).hZ
     have ht5:=ht4.set hB 8 (vS a' (js.length+1) c')
     rw[← HL.out] at ht5
     have hO5:=hO4.at ht4.hX (by decide) ((At.refl _ w').set 8 (vS a' (js.length+1) c'))
     rw[← HL.out] at hO5
     have HB:=hid (ht5.hb.at (((((((((((((At.refl (w.heap.size+1+1) (w'.setCell ⟨w.heap.size,8,none⟩ (vS a' (js ++ [((id,sp,false,1):Jb)]).length c'))).set 0 (vS va ss.length vc)).set 1 (vI kI lim)).set 2 (vI kI st)).set 3 (vI kI nx)).set 4 (vI kI bg)).set 5 (vI kI ak)).set 6 (vI kI tn)).set 7 (vB fr)).set 8 (vS a' (js ++ [((id,sp,false,1):Jb)]).length c')).set 9 (vS ca cs.length cc)).set 10 (vB cn)).set 11 (vB ov)) ht5.hs hB (by omega))
     have HO:=hid (hO5.at ht5.hZ (by decide) (((((((((((((At.refl (w.heap.size+1+1) (w'.setCell ⟨w.heap.size,8,none⟩ (vS a' (js ++ [((id,sp,false,1):Jb)]).length c'))).set 0 (vS va ss.length vc)).set 1 (vI kI lim)).set 2 (vI kI st)).set 3 (vI kI nx)).set 4 (vI kI bg)).set 5 (vI kI ak)).set 6 (vI kI tn)).set 7 (vB fr)).set 8 (vS a' (js ++ [((id,sp,false,1):Jb)]).length c')).set 9 (vS ca cs.length cc)).set 10 (vB cn)).set 11 (vB ov)))
     clear ht4 hO4 ht5 hO5
     go_wp2_with fail
     refine bodyPost_ret (v:=.tuple #[.agg #[vS va ss.length vc,vI kI lim,vI kI st,vI kI nx,vI kI bg,vI kI ak,vI kI tn,vB fr,vS a' (js.length+1) c',vS ca cs.length cc,vB cn,vB ov],vB true]) ?_ rfl ⟨by simpa only[HL.out] using HB.out,va,a',ca,vc,c',cc,by rw[← HL.out];rfl,by simpa only[HL.out] using HO.out⟩
     rw[results_cell_tmp rfl]
     go_simp
   | true =>
     by_cases hu:un=[]
     · subst hu
       rw[show zC2 ⟨ss,lim,st,nx,bg,ak,tn,fr,js,cs,cn,ov⟩ (id,6,tk,rf,sp,ty,true,dt)=none from by unfold zC2;simp only[Ev.kd,Ev.sp,Ev.ud];rw[ha];simp]
       have HA:=hid ha
       clear ha
       obtain⟨W,hW,hS,hE,hR,bW,sW⟩:=lay3 w #[vS va ss.length vc,vI kI lim,vI kI st,vI kI nx,vI kI bg,vI kI ak,vI kI tn,vB fr,vS ua js.length uc,vS ca cs.length cc,vB cn,vB ov] #[vI kI id,vI kI 6,vI kI tk,vI kI rf,vI kI sp,vI kI ty,vB true,.string ⟨dt.toArray⟩] #[vS none 0 0,vI kI 0,vI kI 0,vI kI 0,vI kI 0,vI kI 0,vI kI 0,vB false,vS none 0 0,vS none 0 0,vB false,vB false] 59 52 59
       have ht:T3 B w W w.heap.size #[vS va ss.length vc,vI kI lim,vI kI st,vI kI nx,vI kI bg,vI kI ak,vI kI tn,vB fr,vS ua js.length uc,vS ca cs.length cc,vB cn,vB ov] #[vI kI id,vI kI 6,vI kI tk,vI kI rf,vI kI sp,vI kI ty,vB true,.string ⟨dt.toArray⟩] #[vS none 0 0,vI kI 0,vI kI 0,vI kI 0,vI kI 0,vI kI 0,vI kI 0,vB false,vS none 0 0,vS none 0 0,vB false,vB false] 59 52:=⟨hS,hE,hR,BK.of hB bW,by omega⟩
       have hO:=h0.new bW
       have HW:=hid hW
       clear hW hS hE hR sW bW
       go_enter Tryz.func43,Tryz.ntmps43
       go_wp2_with fail
       rw[← HW.out]
       clear HW
       refine(zD6 ss lim st nx bg ak tn fr va ua ca js.length cs.length vc uc cc cn ov sp 1 W hO.read.hs).mono ?_
       rintro _ w1 ⟨rfl,b1⟩
       rw[HA.out]
       have bs:Below w1.heap.size w1 (w1.alloc (.cells #[vI kI kx,.string ⟨nm.toArray⟩,.string ⟨([]:List UInt8).toArray⟩,vI kI tr,vI kI ut,vI kI wt] 77)):=(Below.refl _ _).alloc (Nat.le_refl _) _
       have ht2:=(ht.below b1).below bs
       have hO2:=(hO.new b1).new bs
       clear ht hO b1 h0
       rw[show zKa (some (kx,nm,[],tr,ut,wt))=.agg #[vI kI kx,.string ⟨nm.toArray⟩,.string ⟨([]:List UInt8).toArray⟩,vI kI tr,vI kI ut,vI kI wt] from rfl,show((some (kx,nm,[],tr,ut,wt)):Option St).isSome=true from rfl]
       clear bs hO2
       have y6:(w1.alloc (.cells #[vI kI kx,.string ⟨nm.toArray⟩,.string ⟨([]:List UInt8).toArray⟩,vI kI tr,vI kI ut,vI kI wt] 77)).cell? ⟨w.heap.size+1,6,none⟩=some (vB true):=(ht2).y rfl
       obtain⟨x0,x1,x2,x3,x4,x5,x6,x7,x8,x9,x10,x11⟩:=cA (ht2).hX
       obtain⟨z0,z1,z2,z3,z4,z5,z6,z7,z8,z9,z10,z11⟩:=cA (ht2).hZ
       obtain⟨zf0,zf1,zf2,zf3,zf4,zf5,zf6,zf7,zf8,zf9,zf10,zf11⟩:=fA (ht2).hZ
       have HB:=hid ((ht2).hb.at (((((((((((((At.refl (w.heap.size+1+1) (w1.alloc (.cells #[vI kI kx,.string ⟨nm.toArray⟩,.string ⟨([]:List UInt8).toArray⟩,vI kI tr,vI kI ut,vI kI wt] 77))).set 0 (vS va ss.length vc)).set 1 (vI kI lim)).set 2 (vI kI st)).set 3 (vI kI nx)).set 4 (vI kI bg)).set 5 (vI kI ak)).set 6 (vI kI tn)).set 7 (vB fr)).set 8 (vS ua js.length uc)).set 9 (vS ca cs.length cc)).set 10 (vB cn)).set 11 (vB ov)) (ht2).hs hB (by omega))
       go_wp2_with fail
       refine bodyPost_ret (v:=.tuple #[.agg #[vS va ss.length vc,vI kI lim,vI kI st,vI kI nx,vI kI bg,vI kI ak,vI kI tn,vB fr,vS ua js.length uc,vS ca cs.length cc,vB cn,vB ov],vB false]) ?_ rfl ⟨HB.out,⟨ss,lim,st,nx,bg,ak,tn,fr,js,cs,cn,ov⟩,va,ua,ca,_,_,_,vc,uc,cc,rfl⟩
       rw[results_cell_tmp rfl]
       go_simp
     · have hq1:(un == [])=false:=by cases un with | nil=>exact absurd rfl hu | cons _ _=>rfl
       have hq2:([]==un)=false:=by cases un with | nil=>exact absurd rfl hu | cons _ _=>rfl
       have hq3:¬un.length=0:=fun h=>hu (List.eq_nil_of_length_eq_zero h)
       rw[show zC2 ⟨ss,lim,st,nx,bg,ak,tn,fr,js,cs,cn,ov⟩ (id,6,tk,rf,sp,ty,true,dt)=some ⟨ss,lim,st,nx,bg,ak,tn,fr,(js ++ [(id,sp,true,1)]),cs,cn,ov⟩ from by unfold zC2;simp only[Ev.kd,Ev.sp,Ev.ud,Ev.id];rw[ha];simp[hu]]
       have HA:=hid ha
       clear ha
       have hinfo:(Tryz.prog.info? 100).map (fun i=>(i.zero,i.size,i.bytes))=some (some (.agg #[vI kI 0,vI kI 0,vB false,vI kI 0]),4,32):=by kernel_rfl
       have hmx:maxLen=9223372036854775807:=rfl
       obtain⟨W,hW,hS,hE,hR,bW,sW⟩:=lay3 w #[vS va ss.length vc,vI kI lim,vI kI st,vI kI nx,vI kI bg,vI kI ak,vI kI tn,vB fr,vS ua js.length uc,vS ca cs.length cc,vB cn,vB ov] #[vI kI id,vI kI 6,vI kI tk,vI kI rf,vI kI sp,vI kI ty,vB true,.string ⟨dt.toArray⟩] #[vS none 0 0,vI kI 0,vI kI 0,vI kI 0,vI kI 0,vI kI 0,vI kI 0,vB false,vS none 0 0,vS none 0 0,vB false,vB false] 59 52 59
       have ht:T3 B w W w.heap.size #[vS va ss.length vc,vI kI lim,vI kI st,vI kI nx,vI kI bg,vI kI ak,vI kI tn,vB fr,vS ua js.length uc,vS ca cs.length cc,vB cn,vB ov] #[vI kI id,vI kI 6,vI kI tk,vI kI rf,vI kI sp,vI kI ty,vB true,.string ⟨dt.toArray⟩] #[vS none 0 0,vI kI 0,vI kI 0,vI kI 0,vI kI 0,vI kI 0,vI kI 0,vB false,vS none 0 0,vS none 0 0,vB false,vB false] 59 52:=⟨hS,hE,hR,BK.of hB bW,by omega⟩
       have hO:=h0.new bW
       have HW:=hid hW
       clear hW hS hE hR sW bW
       go_enter Tryz.func43,Tryz.ntmps43
       go_wp2_with fail
       rw[← HW.out]
       clear HW
       refine(zD6 ss lim st nx bg ak tn fr va ua ca js.length cs.length vc uc cc cn ov sp 1 W hO.read.hs).mono ?_
       rintro _ w1 ⟨rfl,b1⟩
       rw[HA.out]
       have bs:Below w1.heap.size w1 (w1.alloc (.cells #[vI kI kx,.string ⟨nm.toArray⟩,.string ⟨un.toArray⟩,vI kI tr,vI kI ut,vI kI wt] 77)):=(Below.refl _ _).alloc (Nat.le_refl _) _
       have ht2:=(ht.below b1).below bs
       have hO2:=(hO.new b1).new bs
       clear ht hO b1 h0
       rw[show zKa (some (kx,nm,un,tr,ut,wt))=.agg #[vI kI kx,.string ⟨nm.toArray⟩,.string ⟨un.toArray⟩,vI kI tr,vI kI ut,vI kI wt] from rfl,show((some (kx,nm,un,tr,ut,wt)):Option St).isSome=true from rfl]
       have bj:Below (w1.alloc (.cells #[vI kI kx,.string ⟨nm.toArray⟩,.string ⟨un.toArray⟩,vI kI tr,vI kI ut,vI kI wt] 77)).heap.size (w1.alloc (.cells #[vI kI kx,.string ⟨nm.toArray⟩,.string ⟨un.toArray⟩,vI kI tr,vI kI ut,vI kI wt] 77)) ((w1.alloc (.cells #[vI kI kx,.string ⟨nm.toArray⟩,.string ⟨un.toArray⟩,vI kI tr,vI kI ut,vI kI wt] 77)).alloc (.cells #[vI kI id,vI kI sp,vB true,vI kI 1] 100)):=(Below.refl _ _).alloc (Nat.le_refl _) _
       have s2:(w1.alloc (.cells #[vI kI kx,.string ⟨nm.toArray⟩,.string ⟨un.toArray⟩,vI kI tr,vI kI ut,vI kI wt] 77)).heap.size=w1.heap.size+1:=Array.size_push ..
       have ht3:=ht2.below bj
       have hO3:=hO2.new bj
       have hy:∀(j:Nat) (q9:Value),(jbC (id,sp,true,1))[j]?=some q9→((w1.alloc (.cells #[vI kI kx,.string ⟨nm.toArray⟩,.string ⟨un.toArray⟩,vI kI tr,vI kI ut,vI kI wt] 77)).alloc (.cells #[vI kI id,vI kI sp,vB true,vI kI 1] 100)).cell? ⟨(w1.heap.size+1),j,none⟩=some q9:=by
        intro j u hu9
        refine(World.cell?_alloc_at _ _ _ _ s2.symm).trans ?_
        rw[← hu9]
        exact List.getElem?_toArray
       have hO3o:=hO3.hj
       have hB9:=ht3.hs
       have HL:=hid (show(js ++ [((id,sp,true,1):Jb)]).length=js.length+1 by simp)
       clear s2 bj
       have x8:(w1.alloc (.cells #[vI kI kx,.string ⟨nm.toArray⟩,.string ⟨un.toArray⟩,vI kI tr,vI kI ut,vI kI wt] 77)).cell? ⟨w.heap.size,8,none⟩=some (vS ua js.length uc):=(ht2).x rfl
       obtain⟨y0,-,-,-,y4,-,y6,-⟩:=cA (ht2).hY
       clear ht2 hO2 bs
       go_wp2_with ((at_builtin;go_must (refine zAs _ rfl _ _ 56 rfl jbC 4 (by decide) zCk zJ0 B 100 (.agg #[vI kI 0,vI kI 0,vB false,vI kI 0]) 32 Tryz.underlying56 hinfo rfl _ js.length js rfl hO3o (w1.heap.size+1) 1 rfl ((id,sp,true,1):Jb) hy (by omega) (by omega) hB9 ?_)))
       intro a' c' w' hown hgrow
       have ht4:=ht3.grown hO3o hgrow (by decide)
       rw[← HL.out,show js.flatMap jbC++jbC (id,sp,true,1)=(js ++ [((id,sp,true,1):Jb)]).flatMap jbC by simp] at hown
       have hO4:=hO3.jobs hgrow hown ⟨ss,lim,st,nx,bg,ak,tn,fr,(js ++ [(id,sp,true,1)]),cs,cn,ov⟩ rfl rfl rfl
       clear ht3 hO3 hO3o hy hown hgrow hB9 x8 y0 y4 y6
       obtain⟨x0,x1,x2,x3,x4,x5,x6,x7,x8,x9,x10,x11⟩:=cA (ht4).hX
       have xz8:=ht4.fx 8
       obtain⟨z0,z1,z2,z3,z4,z5,z6,z7,z8,z9,z10,z11⟩:=cA (ht4).hZ
       obtain⟨zf0,zf1,zf2,zf3,zf4,zf5,zf6,zf7,zf8,zf9,zf10,zf11⟩:=fA (ht4).hZ
       have ht5:=ht4.set hB 8 (vS a' (js.length+1) c')
       rw[← HL.out] at ht5
       have hO5:=hO4.at ht4.hX (by decide) ((At.refl _ w').set 8 (vS a' (js.length+1) c'))
       rw[← HL.out] at hO5
       have HB:=hid (ht5.hb.at (((((((((((((At.refl (w.heap.size+1+1) (w'.setCell ⟨w.heap.size,8,none⟩ (vS a' (js ++ [((id,sp,true,1):Jb)]).length c'))).set 0 (vS va ss.length vc)).set 1 (vI kI lim)).set 2 (vI kI st)).set 3 (vI kI nx)).set 4 (vI kI bg)).set 5 (vI kI ak)).set 6 (vI kI tn)).set 7 (vB fr)).set 8 (vS a' (js ++ [((id,sp,true,1):Jb)]).length c')).set 9 (vS ca cs.length cc)).set 10 (vB cn)).set 11 (vB ov)) ht5.hs hB (by omega))
       have HO:=hid (hO5.at ht5.hZ (by decide) (((((((((((((At.refl (w.heap.size+1+1) (w'.setCell ⟨w.heap.size,8,none⟩ (vS a' (js ++ [((id,sp,true,1):Jb)]).length c'))).set 0 (vS va ss.length vc)).set 1 (vI kI lim)).set 2 (vI kI st)).set 3 (vI kI nx)).set 4 (vI kI bg)).set 5 (vI kI ak)).set 6 (vI kI tn)).set 7 (vB fr)).set 8 (vS a' (js ++ [((id,sp,true,1):Jb)]).length c')).set 9 (vS ca cs.length cc)).set 10 (vB cn)).set 11 (vB ov)))
       clear ht4 hO4 ht5 hO5
       go_wp2_with fail
       refine bodyPost_ret (v:=.tuple #[.agg #[vS va ss.length vc,vI kI lim,vI kI st,vI kI nx,vI kI bg,vI kI ak,vI kI tn,vB fr,vS a' (js.length+1) c',vS ca cs.length cc,vB cn,vB ov],vB true]) ?_ rfl ⟨by simpa only[HL.out] using HB.out,va,a',ca,vc,c',cc,by rw[← HL.out];rfl,by simpa only[HL.out] using HO.out⟩
       rw[results_cell_tmp rfl]
       go_simp
theorem zLz(ss:List St)(lim st nx bg ak tn:Int)(fr:Bool)(js:List Jb)(cs:List Ck)(cn ov:Bool)(va ua ca:Option Addr)(vc uc cc:Nat)(id kd tk rf sp ty:Int)(ud:Bool)(dt:List UInt8)(B:Nat)(w:World)(hB:B≤w.heap.size)(h0:StO w B ⟨ss,lim,st,nx,bg,ak,tn,fr,js,cs,cn,ov⟩ (vS va ss.length vc) (vS ua js.length uc) (vS ca cs.length cc))(hcl:cs.length≤1000)(htk:0≤tk∧tk≤1099511627776)(hw:∀x∈ss,0≤x.2.2.2.2.2∧x.2.2.2.2.2≤1000)(hk:kd=10) :
 Calls Tryz.prog 44 #[.agg #[vS va ss.length vc,vI kI lim,vI kI st,vI kI nx,vI kI bg,vI kI ak,vI kI tn,vB fr,vS ua js.length uc,vS ca cs.length cc,vB cn,vB ov],.agg #[vI kI id,vI kI kd,vI kI tk,vI kI rf,vI kI sp,vI kI ty,vB ud,.string ⟨dt.toArray⟩]] w fun e' w'=>zHn B w (zDb ⟨ss,lim,st,nx,bg,ak,tn,fr,js,cs,cn,ov⟩ (id,kd,tk,rf,sp,ty,ud,dt)) e' w':=by
 subst hk
 cases ha:zB1 ss sp 2 with
 | none =>
   rw[show zDb ⟨ss,lim,st,nx,bg,ak,tn,fr,js,cs,cn,ov⟩ (id,10,tk,rf,sp,ty,ud,dt)=none from by unfold zDb;simp only[Ev.kd,Ev.sp];rw[ha];rfl]
   have HA:=hid ha
   clear ha
   obtain⟨W,hW,hS,hE,hR,bW,sW⟩:=lay3 w #[vS va ss.length vc,vI kI lim,vI kI st,vI kI nx,vI kI bg,vI kI ak,vI kI tn,vB fr,vS ua js.length uc,vS ca cs.length cc,vB cn,vB ov] #[vI kI id,vI kI 10,vI kI tk,vI kI rf,vI kI sp,vI kI ty,vB ud,.string ⟨dt.toArray⟩] #[vS none 0 0,vI kI 0,vI kI 0,vI kI 0,vI kI 0,vI kI 0,vI kI 0,vB false,vS none 0 0,vS none 0 0,vB false,vB false] 59 52 59
   have ht:T3 B w W w.heap.size #[vS va ss.length vc,vI kI lim,vI kI st,vI kI nx,vI kI bg,vI kI ak,vI kI tn,vB fr,vS ua js.length uc,vS ca cs.length cc,vB cn,vB ov] #[vI kI id,vI kI 10,vI kI tk,vI kI rf,vI kI sp,vI kI ty,vB ud,.string ⟨dt.toArray⟩] #[vS none 0 0,vI kI 0,vI kI 0,vI kI 0,vI kI 0,vI kI 0,vI kI 0,vB false,vS none 0 0,vS none 0 0,vB false,vB false] 59 52:=⟨hS,hE,hR,BK.of hB bW,by omega⟩
   have hO:=h0.new bW
   have HW:=hid hW
   clear hW hS hE hR sW bW
   go_enter Tryz.func44,Tryz.ntmps44
   go_wp2_with fail
   rw[← HW.out]
   clear HW
   refine(zD6 ss lim st nx bg ak tn fr va ua ca js.length cs.length vc uc cc cn ov sp 2 W hO.read.hs).mono ?_
   rintro _ w1 ⟨rfl,b1⟩
   rw[HA.out]
   have bs:Below w1.heap.size w1 (w1.alloc (.cells #[vI kI 0,.string ⟨#[]⟩,.string ⟨#[]⟩,vI kI 0,vI kI 0,vI kI 0] 77)):=(Below.refl _ _).alloc (Nat.le_refl _) _
   have ht2:=(ht.below b1).below bs
   have hO2:=(hO.new b1).new bs
   clear ht hO b1 h0
   rw[show zKa none=.agg #[vI kI 0,.string ⟨#[]⟩,.string ⟨#[]⟩,vI kI 0,vI kI 0,vI kI 0] from rfl,show(none:Option St).isSome=false from rfl]
   clear bs hO2
   obtain⟨x0,x1,x2,x3,x4,x5,x6,x7,x8,x9,x10,x11⟩:=cA (ht2).hX
   obtain⟨z0,z1,z2,z3,z4,z5,z6,z7,z8,z9,z10,z11⟩:=cA (ht2).hZ
   obtain⟨zf0,zf1,zf2,zf3,zf4,zf5,zf6,zf7,zf8,zf9,zf10,zf11⟩:=fA (ht2).hZ
   have HB:=hid ((ht2).hb.at (((((((((((((At.refl (w.heap.size+1+1) (w1.alloc (.cells #[vI kI 0,.string ⟨#[]⟩,.string ⟨#[]⟩,vI kI 0,vI kI 0,vI kI 0] 77))).set 0 (vS va ss.length vc)).set 1 (vI kI lim)).set 2 (vI kI st)).set 3 (vI kI nx)).set 4 (vI kI bg)).set 5 (vI kI ak)).set 6 (vI kI tn)).set 7 (vB fr)).set 8 (vS ua js.length uc)).set 9 (vS ca cs.length cc)).set 10 (vB cn)).set 11 (vB ov)) (ht2).hs hB (by omega))
   go_wp2_with fail
   refine bodyPost_ret (v:=.tuple #[.agg #[vS va ss.length vc,vI kI lim,vI kI st,vI kI nx,vI kI bg,vI kI ak,vI kI tn,vB fr,vS ua js.length uc,vS ca cs.length cc,vB cn,vB ov],vB false]) ?_ rfl ⟨HB.out,⟨ss,lim,st,nx,bg,ak,tn,fr,js,cs,cn,ov⟩,va,ua,ca,_,_,_,vc,uc,cc,rfl⟩
   rw[results_cell_tmp rfl]
   go_simp
 | some x =>
   obtain⟨kx,nm,un,tr,ut,wt⟩:=x
   rw[show zDb ⟨ss,lim,st,nx,bg,ak,tn,fr,js,cs,cn,ov⟩ (id,10,tk,rf,sp,ty,ud,dt)=some ⟨ss,lim,st,nx,bg,ak,tn,fr,js,(cs ++ [(id,sp,tk+wt)]),cn,ov⟩ from by unfold zDb;simp only[Ev.kd,Ev.sp,Ev.id,Ev.tk];rw[ha];rfl]
   have hwt:0≤wt∧wt≤1000:=hw _ (List.mem_of_getElem? (zCj ha).2.1)
   have HA:=hid ha
   clear ha hw
   have hinfo:(Tryz.prog.info? 103).map (fun i=>(i.zero,i.size,i.bytes))=some (some (.agg #[vI kI 0,vI kI 0,vI kI 0]),3,24):=by kernel_rfl
   have hmx:maxLen=9223372036854775807:=rfl
   obtain⟨W,hW,hS,hE,hR,bW,sW⟩:=lay3 w #[vS va ss.length vc,vI kI lim,vI kI st,vI kI nx,vI kI bg,vI kI ak,vI kI tn,vB fr,vS ua js.length uc,vS ca cs.length cc,vB cn,vB ov] #[vI kI id,vI kI 10,vI kI tk,vI kI rf,vI kI sp,vI kI ty,vB ud,.string ⟨dt.toArray⟩] #[vS none 0 0,vI kI 0,vI kI 0,vI kI 0,vI kI 0,vI kI 0,vI kI 0,vB false,vS none 0 0,vS none 0 0,vB false,vB false] 59 52 59
   have ht:T3 B w W w.heap.size #[vS va ss.length vc,vI kI lim,vI kI st,vI kI nx,vI kI bg,vI kI ak,vI kI tn,vB fr,vS ua js.length uc,vS ca cs.length cc,vB cn,vB ov] #[vI kI id,vI kI 10,vI kI tk,vI kI rf,vI kI sp,vI kI ty,vB ud,.string ⟨dt.toArray⟩] #[vS none 0 0,vI kI 0,vI kI 0,vI kI 0,vI kI 0,vI kI 0,vI kI 0,vB false,vS none 0 0,vS none 0 0,vB false,vB false] 59 52:=⟨hS,hE,hR,BK.of hB bW,by omega⟩
   have hO:=h0.new bW
   have HW:=hid hW
   clear hW hS hE hR sW bW
   go_enter Tryz.func44,Tryz.ntmps44
   go_wp2_with fail
   rw[← HW.out]
   clear HW
   refine(zD6 ss lim st nx bg ak tn fr va ua ca js.length cs.length vc uc cc cn ov sp 2 W hO.read.hs).mono ?_
   rintro _ w1 ⟨rfl,b1⟩
   rw[HA.out]
   have bs:Below w1.heap.size w1 (w1.alloc (.cells #[vI kI kx,.string ⟨nm.toArray⟩,.string ⟨un.toArray⟩,vI kI tr,vI kI ut,vI kI wt] 77)):=(Below.refl _ _).alloc (Nat.le_refl _) _
   have ht2:=(ht.below b1).below bs
   have hO2:=(hO.new b1).new bs
   clear ht hO b1 h0
   rw[show zKa (some (kx,nm,un,tr,ut,wt))=.agg #[vI kI kx,.string ⟨nm.toArray⟩,.string ⟨un.toArray⟩,vI kI tr,vI kI ut,vI kI wt] from rfl,show((some (kx,nm,un,tr,ut,wt)):Option St).isSome=true from rfl]
   have bj:Below (w1.alloc (.cells #[vI kI kx,.string ⟨nm.toArray⟩,.string ⟨un.toArray⟩,vI kI tr,vI kI ut,vI kI wt] 77)).heap.size (w1.alloc (.cells #[vI kI kx,.string ⟨nm.toArray⟩,.string ⟨un.toArray⟩,vI kI tr,vI kI ut,vI kI wt] 77)) ((w1.alloc (.cells #[vI kI kx,.string ⟨nm.toArray⟩,.string ⟨un.toArray⟩,vI kI tr,vI kI ut,vI kI wt] 77)).alloc (.cells #[vI kI id,vI kI sp,vI kI (tk+wt)] 103)):=(Below.refl _ _).alloc (Nat.le_refl _) _
   have s2:(w1.alloc (.cells #[vI kI kx,.string ⟨nm.toArray⟩,.string ⟨un.toArray⟩,vI kI tr,vI kI ut,vI kI wt] 77)).heap.size=w1.heap.size+1:=Array.size_push ..
   have ht3:=ht2.below bj
   have hO3:=hO2.new bj
   have hy:∀(j:Nat) (q9:Value),(ckC (id,sp,tk+wt))[j]?=some q9→((w1.alloc (.cells #[vI kI kx,.string ⟨nm.toArray⟩,.string ⟨un.toArray⟩,vI kI tr,vI kI ut,vI kI wt] 77)).alloc (.cells #[vI kI id,vI kI sp,vI kI (tk+wt)] 103)).cell? ⟨(w1.heap.size+1),j,none⟩=some q9:=by
    intro j u hu9
    refine(World.cell?_alloc_at _ _ _ _ s2.symm).trans ?_
    rw[← hu9]
    exact List.getElem?_toArray
   have hO3o:=hO3.hc
   have hB9:=ht3.hs
   have HL:=hid (show(cs ++ [((id,sp,tk+wt):Ck)]).length=cs.length+1 by simp)
   clear s2 bj
   have x9:(w1.alloc (.cells #[vI kI kx,.string ⟨nm.toArray⟩,.string ⟨un.toArray⟩,vI kI tr,vI kI ut,vI kI wt] 77)).cell? ⟨w.heap.size,9,none⟩=some (vS ca cs.length cc):=(ht2).x rfl
   obtain⟨y0,-,y2,-,y4,-⟩:=cA (ht2).hY
   clear ht2 hO2 bs
   go_wp2_with ((at_builtin;go_must (refine zAs _ rfl _ _ 57 rfl ckC 3 (by decide) zFt zLy B 103 (.agg #[vI kI 0,vI kI 0,vI kI 0]) 24 Tryz.underlying57 hinfo rfl _ cs.length cs rfl hO3o (w1.heap.size+1) 1 rfl ((id,sp,tk+wt):Ck) hy (by omega) (by omega) hB9 ?_)))
   intro a' c' w' hown hgrow
   have ht4:=ht3.grown hO3o hgrow (by decide)
   rw[← HL.out,show cs.flatMap ckC++ckC (id,sp,tk+wt)=(cs ++ [((id,sp,tk+wt):Ck)]).flatMap ckC by simp] at hown
   have hO4:=hO3.clocks hgrow hown ⟨ss,lim,st,nx,bg,ak,tn,fr,js,(cs ++ [(id,sp,tk+wt)]),cn,ov⟩ rfl rfl rfl
   clear ht3 hO3 hO3o hy hown hgrow hB9 x9 y0 y2 y4
   obtain⟨x0,x1,x2,x3,x4,x5,x6,x7,x8,x9,x10,x11⟩:=cA (ht4).hX
   have xz9:=ht4.fx 9
   obtain⟨z0,z1,z2,z3,z4,z5,z6,z7,z8,z9,z10,z11⟩:=cA (ht4).hZ
   obtain⟨zf0,zf1,zf2,zf3,zf4,zf5,zf6,zf7,zf8,zf9,zf10,zf11⟩:=fA (ht4).hZ
   have ht5:=ht4.set hB 9 (vS a' (cs.length+1) c')
   rw[← HL.out] at ht5
   have hO5:=hO4.at ht4.hX (by decide) ((At.refl _ w').set 9 (vS a' (cs.length+1) c'))
   rw[← HL.out] at hO5
   have HB:=hid (ht5.hb.at (((((((((((((At.refl (w.heap.size+1+1) (w'.setCell ⟨w.heap.size,9,none⟩ (vS a' (cs ++ [((id,sp,tk+wt):Ck)]).length c'))).set 0 (vS va ss.length vc)).set 1 (vI kI lim)).set 2 (vI kI st)).set 3 (vI kI nx)).set 4 (vI kI bg)).set 5 (vI kI ak)).set 6 (vI kI tn)).set 7 (vB fr)).set 8 (vS ua js.length uc)).set 9 (vS a' (cs ++ [((id,sp,tk+wt):Ck)]).length c')).set 10 (vB cn)).set 11 (vB ov)) ht5.hs hB (by omega))
   have HO:=hid (hO5.at ht5.hZ (by decide) (((((((((((((At.refl (w.heap.size+1+1) (w'.setCell ⟨w.heap.size,9,none⟩ (vS a' (cs ++ [((id,sp,tk+wt):Ck)]).length c'))).set 0 (vS va ss.length vc)).set 1 (vI kI lim)).set 2 (vI kI st)).set 3 (vI kI nx)).set 4 (vI kI bg)).set 5 (vI kI ak)).set 6 (vI kI tn)).set 7 (vB fr)).set 8 (vS ua js.length uc)).set 9 (vS a' (cs ++ [((id,sp,tk+wt):Ck)]).length c')).set 10 (vB cn)).set 11 (vB ov)))
   clear ht4 hO4 ht5 hO5
   go_wp2_with fail
   refine bodyPost_ret (v:=.tuple #[.agg #[vS va ss.length vc,vI kI lim,vI kI st,vI kI nx,vI kI bg,vI kI ak,vI kI tn,vB fr,vS ua js.length uc,vS a' (cs.length+1) c',vB cn,vB ov],vB true]) ?_ rfl ⟨by simpa only[HL.out] using HB.out,va,ua,a',vc,uc,c',by rw[← HL.out];rfl,by simpa only[HL.out] using HO.out⟩
   rw[results_cell_tmp rfl]
   go_simp
theorem zL0(ss:List St)(lim st nx bg ak tn:Int)(fr:Bool)(js:List Jb)(cs:List Ck)(cn ov:Bool)(va ua ca:Option Addr)(vc uc cc:Nat)(id kd tk rf sp ty:Int)(ud:Bool)(dt:List UInt8)(B:Nat)(w:World)(hB:B≤w.heap.size)(h0:StO w B ⟨ss,lim,st,nx,bg,ak,tn,fr,js,cs,cn,ov⟩ (vS va ss.length vc) (vS ua js.length uc) (vS ca cs.length cc))(hcl:cs.length≤1000)(htk:0≤tk∧tk≤1099511627776)(hw:∀x∈ss,0≤x.2.2.2.2.2∧x.2.2.2.2.2≤1000)(hk:kd=11) :
 Calls Tryz.prog 44 #[.agg #[vS va ss.length vc,vI kI lim,vI kI st,vI kI nx,vI kI bg,vI kI ak,vI kI tn,vB fr,vS ua js.length uc,vS ca cs.length cc,vB cn,vB ov],.agg #[vI kI id,vI kI kd,vI kI tk,vI kI rf,vI kI sp,vI kI ty,vB ud,.string ⟨dt.toArray⟩]] w fun e' w'=>zHn B w (zDb ⟨ss,lim,st,nx,bg,ak,tn,fr,js,cs,cn,ov⟩ (id,kd,tk,rf,sp,ty,ud,dt)) e' w':=by
 subst hk
 by_cases hi:zE1 cs rf tk<cs.length
 case neg =>
  rw[show zDb ⟨ss,lim,st,nx,bg,ak,tn,fr,js,cs,cn,ov⟩ (id,11,tk,rf,sp,ty,ud,dt)=none from by unfold zDb;rw[if_neg (show ¬(11:Int)=10 by decide)];exact if_neg hi]
  obtain⟨W,hW,hS,hE,hR,bW,sW⟩:=lay3 w #[vS va ss.length vc,vI kI lim,vI kI st,vI kI nx,vI kI bg,vI kI ak,vI kI tn,vB fr,vS ua js.length uc,vS ca cs.length cc,vB cn,vB ov] #[vI kI id,vI kI 11,vI kI tk,vI kI rf,vI kI sp,vI kI ty,vB ud,.string ⟨dt.toArray⟩] #[vS none 0 0,vI kI 0,vI kI 0,vI kI 0,vI kI 0,vI kI 0,vI kI 0,vB false,vS none 0 0,vS none 0 0,vB false,vB false] 59 52 59
  have ht:T3 B w W w.heap.size #[vS va ss.length vc,vI kI lim,vI kI st,vI kI nx,vI kI bg,vI kI ak,vI kI tn,vB fr,vS ua js.length uc,vS ca cs.length cc,vB cn,vB ov] #[vI kI id,vI kI 11,vI kI tk,vI kI rf,vI kI sp,vI kI ty,vB ud,.string ⟨dt.toArray⟩] #[vS none 0 0,vI kI 0,vI kI 0,vI kI 0,vI kI 0,vI kI 0,vI kI 0,vB false,vS none 0 0,vS none 0 0,vB false,vB false] 59 52:=⟨hS,hE,hR,BK.of hB bW,by omega⟩
  have hO:=h0.new bW
  have HW:=hid hW
  clear hW hS hE hR sW bW
  go_enter Tryz.func44,Tryz.ntmps44
  go_wp2_with fail
  rw[← HW.out]
  clear HW
  refine(zNd ca cc cs hcl (w.heap.size+1) id 11 tk rf sp ty ud dt W hO.read.hc ht.hY).mono ?_
  rintro _ w1 ⟨rfl,b1⟩
  have ht1:=ht.below b1
  have hO1:=hO.new b1
  clear ht hO b1 h0
  rw[if_neg hi]
  clear hi
  obtain⟨x0,x1,x2,x3,x4,x5,x6,x7,x8,x9,x10,x11⟩:=cA (ht1).hX
  obtain⟨z0,z1,z2,z3,z4,z5,z6,z7,z8,z9,z10,z11⟩:=cA (ht1).hZ
  obtain⟨zf0,zf1,zf2,zf3,zf4,zf5,zf6,zf7,zf8,zf9,zf10,zf11⟩:=fA (ht1).hZ
  have HB:=hid ((ht1).hb.at (((((((((((((At.refl (w.heap.size+1+1) w1).set 0 (vS va ss.length vc)).set 1 (vI kI lim)).set 2 (vI kI st)).set 3 (vI kI nx)).set 4 (vI kI bg)).set 5 (vI kI ak)).set 6 (vI kI tn)).set 7 (vB fr)).set 8 (vS ua js.length uc)).set 9 (vS ca cs.length cc)).set 10 (vB cn)).set 11 (vB ov)) (ht1).hs hB (by omega))
  go_wp2_with fail
  refine bodyPost_ret (v:=.tuple #[.agg #[vS va ss.length vc,vI kI lim,vI kI st,vI kI nx,vI kI bg,vI kI ak,vI kI tn,vB fr,vS ua js.length uc,vS ca cs.length cc,vB cn,vB ov],vB false]) ?_ rfl ⟨HB.out,⟨ss,lim,st,nx,bg,ak,tn,fr,js,cs,cn,ov⟩,va,ua,ca,_,_,_,vc,uc,cc,rfl⟩
  rw[results_cell_tmp rfl]
  go_simp
 obtain⟨i,hI0⟩:∃i,zE1 cs rf tk=i:=⟨_,rfl⟩
 have hI:=hid hI0
 have hi':i<cs.length:=by omega
 clear hI0
 rw[show zDb ⟨ss,lim,st,nx,bg,ak,tn,fr,js,cs,cn,ov⟩ (id,11,tk,rf,sp,ty,ud,dt)=some ⟨ss,lim,st,nx,bg,ak,tn,true,js,(cs.eraseIdx i),cn,ov⟩ from by unfold zDb;rw[if_neg (show ¬(11:Int)=10 by decide)];simp only[Ev.rf,Ev.tk];rw[if_pos hi,hI.out]]
 obtain⟨W,hW,hS,hE,hR,bW,sW⟩:=lay3 w #[vS va ss.length vc,vI kI lim,vI kI st,vI kI nx,vI kI bg,vI kI ak,vI kI tn,vB fr,vS ua js.length uc,vS ca cs.length cc,vB cn,vB ov] #[vI kI id,vI kI 11,vI kI tk,vI kI rf,vI kI sp,vI kI ty,vB ud,.string ⟨dt.toArray⟩] #[vS none 0 0,vI kI 0,vI kI 0,vI kI 0,vI kI 0,vI kI 0,vI kI 0,vB false,vS none 0 0,vS none 0 0,vB false,vB false] 59 52 59
 have ht:T3 B w W w.heap.size #[vS va ss.length vc,vI kI lim,vI kI st,vI kI nx,vI kI bg,vI kI ak,vI kI tn,vB fr,vS ua js.length uc,vS ca cs.length cc,vB cn,vB ov] #[vI kI id,vI kI 11,vI kI tk,vI kI rf,vI kI sp,vI kI ty,vB ud,.string ⟨dt.toArray⟩] #[vS none 0 0,vI kI 0,vI kI 0,vI kI 0,vI kI 0,vI kI 0,vI kI 0,vB false,vS none 0 0,vS none 0 0,vB false,vB false] 59 52:=⟨hS,hE,hR,BK.of hB bW,by omega⟩
 have hO:=h0.new bW
 have HW:=hid hW
 clear hW hS hE hR sW bW
 go_enter Tryz.func44,Tryz.ntmps44
 go_wp2_with fail
 rw[← HW.out]
 clear HW
 refine(zNd ca cc cs hcl (w.heap.size+1) id 11 tk rf sp ty ud dt W hO.read.hc ht.hY).mono ?_
 rintro _ w1 ⟨rfl,b1⟩
 have ht1:=ht.below b1
 have hO1:=hO.new b1
 clear ht hO b1 h0
 rw[if_pos hi,hI.out]
 obtain⟨b,rfl⟩:=zEv hO1.hc (by omega)
 have hi0:¬(i:Int)<0:=by omega
 have hi1:(i:Int)<(cs.length:Int):=by omega
 clear hi hI
 have x9:w1.cell? ⟨w.heap.size,9,none⟩=some (vS (some ⟨b,0,none⟩) cs.length cc):=(ht1).x rfl
 go_wp2_with fail
 refine(zR2 w1 B b cc cs i hi' hO1.hc).mono ?_
 rintro _ w4 ⟨rfl,hown,a4⟩
 have HL:=hid (show(cs.eraseIdx i).length=cs.length - 1 from List.length_eraseIdx_of_lt hi')
 rw[← HL.out,← List.eraseIdx_eq_take_drop_succ] at hown
 have ht4:=ht1.grown hO1.hc a4 (by decide)
 have hO4:=hO1.clocks a4 hown ⟨ss,lim,st,nx,bg,ak,tn,true,js,(cs.eraseIdx i),cn,ov⟩ rfl rfl rfl
 clear ht1 hO1 hown a4 x9
 obtain⟨x0,x1,x2,x3,x4,x5,x6,x7,x8,x9,x10,x11⟩:=cA (ht4).hX
 obtain⟨-,-,-,-,-,-,-,xz7,-,xz9,-⟩:=fA (ht4).hX
 obtain⟨z0,z1,z2,z3,z4,z5,z6,z7,z8,z9,z10,z11⟩:=cA (ht4).hZ
 obtain⟨zf0,zf1,zf2,zf3,zf4,zf5,zf6,zf7,zf8,zf9,zf10,zf11⟩:=fA (ht4).hZ
 have ht5:=(ht4.set hB 9 (vS (some ⟨b,0,none⟩) (cs.length - 1) cc)).set hB 7 (vB true)
 have hO5:=(hO4.at ht4.hX (by decide) ((At.refl _ w4).set 9 (vS (some ⟨b,0,none⟩) (cs.length - 1) cc))).at (ht4.set hB 9 (vS (some ⟨b,0,none⟩) (cs.length - 1) cc)).hX (by decide) ((At.refl _ (w4.setCell ⟨w.heap.size,9,none⟩ (vS (some ⟨b,0,none⟩) (cs.length - 1) cc))).set 7 (vB true))
 have HB:=hid (ht5.hb.at (((((((((((((At.refl (w.heap.size+1+1) ((w4.setCell ⟨w.heap.size,9,none⟩ (vS (some ⟨b,0,none⟩) (cs.length - 1) cc)).setCell ⟨w.heap.size,7,none⟩ (vB true))).set 0 (vS va ss.length vc)).set 1 (vI kI lim)).set 2 (vI kI st)).set 3 (vI kI nx)).set 4 (vI kI bg)).set 5 (vI kI ak)).set 6 (vI kI tn)).set 7 (vB true)).set 8 (vS ua js.length uc)).set 9 (vS (some ⟨b,0,none⟩) (cs.length - 1) cc)).set 10 (vB cn)).set 11 (vB ov)) ht5.hs hB (by omega))
 have HO:=hid (hO5.at ht5.hZ (by decide) (((((((((((((At.refl (w.heap.size+1+1) ((w4.setCell ⟨w.heap.size,9,none⟩ (vS (some ⟨b,0,none⟩) (cs.length - 1) cc)).setCell ⟨w.heap.size,7,none⟩ (vB true))).set 0 (vS va ss.length vc)).set 1 (vI kI lim)).set 2 (vI kI st)).set 3 (vI kI nx)).set 4 (vI kI bg)).set 5 (vI kI ak)).set 6 (vI kI tn)).set 7 (vB true)).set 8 (vS ua js.length uc)).set 9 (vS (some ⟨b,0,none⟩) (cs.length - 1) cc)).set 10 (vB cn)).set 11 (vB ov)))
 clear ht4 hO4 ht5 hO5
 rw[HL.out] at HO
 go_wp2_with fail
 refine bodyPost_ret (v:=.tuple #[.agg #[vS va ss.length vc,vI kI lim,vI kI st,vI kI nx,vI kI bg,vI kI ak,vI kI tn,vB true,vS ua js.length uc,vS (some ⟨b,0,none⟩) (cs.length - 1) cc,vB cn,vB ov],vB true]) ?_ rfl ⟨HB.out,va,ua,(some ⟨b,0,none⟩),vc,uc,cc,by rw[← HL.out];rfl,by simpa only[HL.out] using HO.out⟩
 rw[results_cell_tmp rfl]
 go_simp
end Go.Proofs.YtkedafopdkhnfaaGreat
