/- PLAIN: what a history has done (saga.Tell), and what its program's course says. PLAIN: what a report promises (SagaKept, SagaGrows). PLAIN: each activity is done once at most, and taken back once at most (SagaOnce). WHAT A REPORT IS IN MEMORY, while saga.Tell goes. CONTRACT: slices.Backward at numbers, where the body of the loop writes. CONTRACT: wherryref16.Same. -/
import Derived.Test.YtkedafopdkhnfaaGreatPmP
import Derived.Test.YtkedafopdkhnfaaGreatPmM
import Derived.Test.YtkedafopdkhnfaaGreatSmR
import Derived.Deep.QuietTactic
import Derived.BigQuiet
import Derived.IntWalk
set_option maxHeartbeats 8000000
set_option maxRecDepth 100000
namespace Go.Proofs.YtkedafopdkhnfaaGreat
open Go.RowKit
set_option linter.unusedVariables false
theorem Hs.first{l:List Ev}(h:Hs l){e:Ev}{r:List Ev}(hl:l=e :: r):e.kd=1:=by
 subst hl
 have h1:=h.take 1
 rw[List.take_succ_cons,List.take_zero] at h1
 exact(zA6 (Hs.last (l:=[]) (e:=e) h1).2).2.2.2.1 rfl
theorem zMr{l:List Ev}{wc:List Cmd}(h:Cf l wc){k:Nat}(hk:k<l.length)(hkd:(l[k]).kd=7∨(l[k]).kd=9):∃(i:Nat)(x:Ev)(n:Nat),i<k∧l[i]?=some x∧x.kd=6∧(l[k]).rf=((i+1:Nat):Int)∧x.sp=(n:Int)∧kdN (prgL l).2 n=1∧n<(prgL l).2.length ∧
 (rdF (prgL l).2 (l.take k)).pl (l[k]).rf=((n:Int),if x.ud=true then 1 else 0)∧(x.ud=false→(rdF (prgL l).2 (l.take k)).und=[])∧(rdF (prgL l).2 (l.take k)).done.length≤16∧(rdF (prgL l).2 (l.take k)).und.length≤16:=by
 have hH:=h.hs
 obtain⟨h1,h2⟩:=hH.at hk
 have hk0:0<k:=by
  rcases Nat.eq_zero_or_pos k with q | q
  · subst q
    have:=hH.first (e:=l[0]) (r:=l.tail) (by cases l with | nil=>simp at hk | cons a b=>rfl)
    omega
  · exact q
 have hne:l.take k≠[]:=fun q=>by
  have:=congrArg List.length q
  rw[List.length_take,List.length_nil] at this;omega
 obtain⟨-,-,-,-,hcan⟩:=zA6 h2
 obtain⟨j,hj,hjr,-⟩:=zE6 (hcan hne) (by omega)
 obtain⟨w',hw'⟩:=h.take k
 have K:=hw'.known hne
 obtain⟨-,n,x,hx,hx6,hjq,-⟩:=zNh hj
 obtain⟨i,j1,j2,j3,j4,j5⟩:=K.inv.job j hj
 have hund:j.ud=false→(crsF (l.take k)).und=[]:=fun hu=>by
  rw[hu] at j5
  have j5:(crsF (l.take k)).W i=1:=by simpa using j5
  cases hq:(crsF (l.take k)).und with
  | nil=>rfl
  | cons y r =>
    have hy:y∈(crsF (l.take k)).und:=by rw[hq];exact List.mem_cons_self ..
    obtain⟨m,rfl,-⟩:=K.inv.done_at (zJ4 (K.inv.und.subset hy)).1
    exact absurd j5 ((K.inv.turn m (by rw[K.inv.undU m hy];decide)).2 i j3)
 have hnk:n<k:=by
  have:=(List.getElem?_eq_some_iff.1 hx).1
  rw[List.length_take] at this;omega
 rw[zGl hk0] at j2 j3
 have hdl:(crsF (l.take k)).done.length≤16:=by
  have h16:=(h1.prog hne).1
  rw[K.inv.done]
  unfold zEd zGy
  rw[List.length_map]
  have:=List.length_filter_le (fun i=>decide (kdN (prgL (l.take k)).2 i=1)&&decide ((crsF (l.take k)).W i=2)) (List.range (prgL (l.take k)).2.length)
  rw[List.length_range] at this
  omega
 have hul:(crsF (l.take k)).und.length≤16:=by
  have h2:=K.inv.und.length_le
  unfold zBq at h2
  have h3:=List.length_filter_le (fun i=>decide (zB2 (prgL (l.take k)).2 i≠[])) (crsF (l.take k)).done.reverse
  rw[List.length_reverse] at h3
  omega
 rw[zI8,zGl hk0] at j4 hund hdl hul
 have hsp:j.sp=x.sp:=by rw[hjq]
 have hud:j.ud=x.ud:=by rw[hjq]
 have hjid:j.id=((n+1:Nat):Int):=by rw[hjq]
 refine⟨n,x,i,hnk,?_,hx6,by rw[← hjr,hjid],by rw[← hsp,j1],j3,j2,?_⟩
 · rw[List.getElem?_take_of_lt hnk] at hx;exact hx
 · exact⟨by rw[← hjr,j4,j1,hud],fun q=>hund (by rw[hud];exact q),hdl,hul⟩
theorem zQz{l:List Ev}{wc:List Cmd}(h:Cf l wc){k:Nat}(hk:k<l.length)(hkd:(l[k]).kd=11):∃n:Nat,(rdF (prgL l).2 (l.take k)).pl (l[k]).rf=((n:Int),0)∧kdN (prgL l).2 n≠1:=by
 have hH:=h.hs
 obtain⟨h1,h2⟩:=hH.at hk
 have hk0:0<k:=by
  rcases Nat.eq_zero_or_pos k with q | q
  · subst q
    have:=hH.first (e:=l[0]) (r:=l.tail) (by cases l with | nil=>simp at hk | cons a b=>rfl)
    omega
  · exact q
 have hne:l.take k≠[]:=fun q=>by
  have:=congrArg List.length q
  rw[List.length_take,List.length_nil] at this;omega
 obtain⟨-,-,-,-,hcan⟩:=zA6 h2
 obtain⟨j,hj,hjr⟩:=zE5 (hcan hne) hkd
 obtain⟨w',hw'⟩:=h.take k
 have K:=hw'.known hne
 obtain⟨i,j1,j2,j3,j4,-⟩:=K.inv.clk j hj
 rw[zGl hk0] at j3
 rw[zI8,zGl hk0] at j4
 exact⟨i,by rw[← hjr,j4,j1],by omega⟩
end Go.Proofs.YtkedafopdkhnfaaGreat
namespace Go.Proofs.YtkedafopdkhnfaaGreat
open Go.RowKit
set_option linter.unusedVariables false
def zFw(ss:List St)(done:List Int):Option (List Int):=if done.all (fun i=>decide (0≤i)&&decide (i<(ss.length:Int))&&decide (kdN ss i.toNat=1))=true then some (zBq ss done) else none
end Go.Proofs.YtkedafopdkhnfaaGreat
namespace Go.Proofs.YtkedafopdkhnfaaGreat
open Go.RowKit
set_option linter.unusedVariables false
theorem zR0(ss:List St)(cr:Crs)(e:Ev)(h7:e.kd≠7)(h11:e.kd=11→∃n:Nat,cr.pl e.rf=((n:Int),0)∧kdN ss n≠1):(zAc ss cr e).done=cr.done∧(zAc ss cr e).und=cr.und:=by
 unfold zAc
 split
 · exact⟨rfl,rfl⟩
 · split
   · exact⟨rfl,rfl⟩
   · split
     · rename_i q
       obtain⟨n,hn,hk⟩:=h11 (q.resolve_left h7)
       unfold zAr
       rw[hn]
       simp[hk]
     · split
       · unfold zAr
         split
         · exact⟨rfl,by simp⟩
         · exact⟨by simp,rfl⟩
       · repeat' split
         all_goals exact⟨rfl,rfl⟩
theorem zVw(ss:List St)(cr:Crs)(e:Ev)(h7:e.kd=7)(n:Int)(h:cr.pl e.rf=(n,1)):(zAc ss cr e).done=cr.done∧(zAc ss cr e).und=cr.und ++ [n]:=by
 obtain⟨id,kd,tk,rf,sp,ty,ud,dt⟩:=e
 have h7:kd=7:=h7
 subst h7
 have:zAc ss cr (id,7,tk,rf,sp,ty,ud,dt)=zAr ss cr rf 2:=rfl
 have h:cr.pl rf=(n,1):=h
 rw[this];unfold zAr;rw[h];simp
theorem zVv(ss:List St)(cr:Crs)(e:Ev)(h7:e.kd=7)(n:Nat)(h:cr.pl e.rf=((n:Int),0))(hk:kdN ss n=1):(zAc ss cr e).done=cr.done ++ [(n:Int)]∧(zAc ss cr e).und=cr.und:=by
 obtain⟨id,kd,tk,rf,sp,ty,ud,dt⟩:=e
 have h7:kd=7:=h7
 subst h7
 have:zAc ss cr (id,7,tk,rf,sp,ty,ud,dt)=zAr ss cr rf 2:=rfl
 have h:cr.pl rf=((n:Int),0):=h
 rw[this];unfold zAr;rw[h];simp[hk]
end Go.Proofs.YtkedafopdkhnfaaGreat
namespace Go.Proofs.YtkedafopdkhnfaaGreat
open Go.RowKit
set_option linter.unusedVariables false
def evV8(x:Ev):Value:=.agg (evc x).toArray
def JbOk(f:Ent)(p:List Ev):Prop:=∀(i:Nat)(x:Ev),p[i]?=some x→x.kd=6→f (.int .i64 ((i+1:Nat):Int))=some (evV8 x)
theorem JbOk.nil(f:Ent):JbOk f []:=fun i x h=>by simp at h
theorem JbOk.other{f:Ent}{p:List Ev}{e:Ev}(h:JbOk f p)(he:e.kd≠6):JbOk f (p ++ [e]):=fun i x hx h6=>by
 rcases Nat.lt_trichotomy i p.length with q | q | q
 · rw[List.getElem?_append_left q] at hx;exact h i x hx h6
 · subst q
   rw[List.getElem?_append_right (Nat.le_refl _),Nat.sub_self] at hx
   simp only[List.getElem?_cons_zero,Option.some.injEq] at hx
   rw[hx] at he;exact absurd h6 he
 · rw[List.getElem?_eq_none (by rw[List.length_append,List.length_singleton];omega)] at hx;cases hx
theorem JbOk.put{f:Ent}{p:List Ev}{e:Ev}(h:JbOk f p)(hid:e.id=((p.length+1:Nat):Int)):JbOk (f.put (.int .i64 e.id) (evV8 e)) (p ++ [e]):=fun i x hx h6=>by
 unfold Ent.put
 rcases Nat.lt_trichotomy i p.length with q | q | q
 · rw[List.getElem?_append_left q] at hx
   rw[Maps.sameKey_ne (fun z=>by injection z with _ z;omega)]
   exact h i x hx h6
 · subst q
   rw[List.getElem?_append_right (Nat.le_refl _),Nat.sub_self] at hx
   simp only[List.getElem?_cons_zero,Option.some.injEq] at hx
   subst hx
   rw[hid,zD4 (show WideAt.IsKeyLit (.int .i64 ((p.length+1:Nat):Int)) from trivial)]
   simp
 · rw[List.getElem?_eq_none (by rw[List.length_append,List.length_singleton];omega)] at hx;cases hx
structure TM (B D:Nat) (w:World) (g:Nat) (st:Int) (c:Crs) (vd vu:Value) (pm N:Nat) (p:List Ev):Prop where
 row:w.heap[g]?=some (.cells #[.int .i64 st,vd,vu,.bool c.fl,.bool c.sk,.bool c.stop] 35 (0,0))
 hd:w.ownsRow B 3 1 vd c.done.length (c.done.flatMap ivC)
 hu:w.ownsRow D 3 1 vu c.und.length (c.und.flatMap ivC)
 hp:∃f,MapV Tryz.prog w 3 pm N f∧JbOk f p
 ud:zIr D vd
 un:c.und=[]→vu=.slice none 0 0
 lg:B≤g
 lp:B≤pm
 lB:B≤w.heap.size
 lD:B≤D∧D≤w.heap.size
section
variable {B D : Nat} {w w' : World} {g : Nat} {st : Int} {c : Crs} {vd vu : Value} {pm N : Nat} {p : List Ev}
theorem TM.below(h:TM B D w g st c vd vu pm N p)(hb:Below w.heap.size w w'):TM B D w' g st c vd vu pm N p:=by
 obtain⟨f,hf,hf'⟩:=h.hp
 exact⟨(hb.block _ (gL h.row)).trans h.row,zAf h.hd hb,zAf h.hu hb,⟨f,hf.below hb,hf'⟩,h.ud,h.un,h.lg,h.lp,Nat.le_trans h.lB hb.size,h.lD.1,Nat.le_trans h.lD.2 hb.size⟩
theorem TM.gw(h:TM B D w g st c vd vu pm N p):vd.ownBlock≠some g∧vu.ownBlock≠some g∧g≠pm∧vd.ownBlock≠some pm∧vu.ownBlock≠some pm:=by
 obtain⟨f,hf,hf'⟩:=h.hp
 refine⟨fun q=>?_,fun q=>?_,fun q=>?_,fun q=>?_,fun q=>?_⟩
 · obtain⟨cur,z⟩:=zBp h.hd q;rw[h.row] at z;cases z
 · obtain⟨cur,z⟩:=zBp h.hu q;rw[h.row] at z;cases z
 · subst q;exact zBt h.row hf
 · obtain⟨cur,z⟩:=zBp h.hd q;exact zBt z hf
 · obtain⟨cur,z⟩:=zBp h.hu q;exact zBt z hf
theorem TM.mono(h:TM B D w g st c vd vu pm N p){M:Nat}(hM:N≤M):TM B D w g st c vd vu pm M p:=by
 obtain⟨f,hf,hf'⟩:=h.hp
 exact⟨h.row,h.hd,h.hu,⟨f,hf.mono hM,hf'⟩,h.ud,h.un,h.lg,h.lp,h.lB,h.lD⟩
theorem TM.other(h:TM B D w g st c vd vu pm N p){e:Ev}(he:e.kd≠6){c':Crs}(e1:c'.done=c.done)(e2:c'.und=c.und)(e3:c'.fl=c.fl)(e4:c'.sk=c.sk)(e5:c'.stop=c.stop):TM B D w g st c' vd vu pm (N+1) (p ++ [e]):=by
 obtain⟨f,hf,hf'⟩:=(h.mono (Nat.le_succ N)).hp
 exact⟨by rw[e3,e4,e5];exact h.row,by rw[e1];exact h.hd,by rw[e2];exact h.hu,⟨f,hf,hf'.other he⟩,h.ud,(fun q=>h.un (by rw[← e2];exact q)),h.lg,h.lp,h.lB,h.lD⟩
theorem TM.put(h:TM B D w g st c vd vu pm N p){e:Ev}(hid:e.id=((p.length+1:Nat):Int))(hg:w.grownBy w' (some pm)){f:Ent}(hf':JbOk f p)(hm:MapV Tryz.prog w' 3 pm (N+1) (f.put (.int .i64 e.id) (evV8 e))){c':Crs}(e1:c'.done=c.done)(e2:c'.und=c.und)(e3:c'.fl=c.fl)(e4:c'.sk=c.sk)(e5:c'.stop=c.stop):TM B D w' g st c' vd vu pm (N+1) (p ++ [e])∧Below B w w':=by
 obtain⟨q1,q2,q3,q4,q5⟩:=h.gw
 exact⟨⟨by rw[e3,e4,e5];exact(hg.block _ (gL h.row) (by simpa using q3)).trans h.row,by rw[e1];exact h.hd.kept hg (.inr q4),by rw[e2];exact h.hu.kept hg (.inr q5),⟨_,hm,hf'.put hid⟩,h.ud,(fun q=>h.un (by rw[← e2];exact q)),h.lg,h.lp,Nat.le_trans h.lB hg.size,h.lD.1,Nat.le_trans h.lD.2 hg.size⟩,zA3 hg h.lp h.lB⟩
theorem TM.flag(h:TM B D w g st c vd vu pm N p){c':Crs}(i:Nat)(v:Value)(hr:(#[.int .i64 st,vd,vu,.bool c.fl,.bool c.sk,.bool c.stop]:Array Value).setIfInBounds i v=#[.int .i64 st,vd,vu,.bool c'.fl,.bool c'.sk,.bool c'.stop])(e1:c'.done=c.done)(e2:c'.und=c.und):TM B D (w.setCell ⟨g,i,none⟩ v) g st c' vd vu pm N p∧Below B w (w.setCell ⟨g,i,none⟩ v):=by
 obtain⟨q1,q2,q3,q4,q5⟩:=h.gw
 have hg:w.grownBy (w.setCell ⟨g,i,none⟩ v) (some g):=(At.refl g w).set i _
 obtain⟨f,hf,hf'⟩:=h.hp
 exact⟨⟨by rw[← hr];exact heap_setCell_same w g i _ _ _ h.row,by rw[e1];exact h.hd.kept hg (.inr q1),by rw[e2];exact h.hu.kept hg (.inr q2),⟨f,hf.kept hg (by simpa using Ne.symm q3),hf'⟩,h.ud,(fun q=>h.un (by rw[← e2];exact q)),h.lg,h.lp,Nat.le_trans h.lB hg.size,h.lD.1,Nat.le_trans h.lD.2 hg.size⟩,zA3 hg h.lg h.lB⟩
theorem TM.ad(h:TM B D w g st c vd vu pm N p):zLt vd vu:=fun b z1 z2=>by
 have:=h.ud b z1
 have:=(h.hu.lt b z2).1
 omega
theorem TM.done_new(h:TM B D w g st c vd vu pm N p)(hund:c.und=[]){x:Int}{vd':Value}(hg:w.grownBy w' vd.ownBlock)(ho:w'.ownsRow B 3 1 vd' (c.done.length+1) ((c.done ++ [x]).flatMap ivC)){c':Crs}(e1:c'.done=c.done ++ [x])(e2:c'.und=c.und)(e3:c'.fl=c.fl)(e4:c'.sk=c.sk)(e5:c'.stop=c.stop):(∃D',TM B D' (w'.setCell ⟨g,1,none⟩ vd') g st c' vd' vu pm N p)∧Below B w (w'.setCell ⟨g,1,none⟩ vd'):=by
 obtain⟨q1,q2,q3,q4,q5⟩:=h.gw
 obtain⟨f,hf,hf'⟩:=h.hp
 have r1:w'.heap[g]?=_:=(hg.block _ (gL h.row) (fun z=>q1 z.symm)).trans h.row
 have a:At g w' (w'.setCell ⟨g,1,none⟩ vd'):=(At.refl g w').set 1 _
 have bl:Below B w w':=(Below.refl B w).grown hg h.lB (fun d q=>(h.hd.lt d q).1)
 have ho':vd'.ownBlock≠some g:=fun q=>by
  obtain⟨cur,z⟩:=zBp ho q
  rw[r1] at z;cases z
 have hB:B≤(w'.setCell ⟨g,1,none⟩ vd').heap.size:=Nat.le_trans h.lB (Nat.le_trans hg.size a.size)
 refine⟨⟨(w'.setCell ⟨g,1,none⟩ vd').heap.size,?_,?_,?_,⟨f,(hf.kept hg (fun z=>q4 z.symm)).kept a (by simpa using Ne.symm q3),hf'⟩,?_,(fun q=>h.un hund),h.lg,h.lp,hB,hB,Nat.le_refl _⟩,bl.trans (zA3 a h.lg (Nat.le_trans h.lB hg.size))⟩
 · rw[e3,e4,e5];exact heap_setCell_same w' g 1 _ _ _ r1
 · rw[e1,List.length_append,List.length_singleton];exact ho.kept a (.inr ho')
 · rw[e2,hund,h.un hund];exact World.ownsRow_nil _ _ _ _
 · intro b q
   exact Nat.lt_of_lt_of_le (ho.lt b q).2 a.size
theorem TM.und_new(h:TM B D w g st c vd vu pm N p){x:Int}{vu':Value}(hg:w.grownBy w' vu.ownBlock)(ho:w'.ownsRow D 3 1 vu' (c.und.length+1) ((c.und ++ [x]).flatMap ivC)){c':Crs}(e1:c'.done=c.done)(e2:c'.und=c.und ++ [x])(e3:c'.fl=c.fl)(e4:c'.sk=c.sk)(e5:c'.stop=c.stop):TM B D (w'.setCell ⟨g,2,none⟩ vu') g st c' vd vu' pm N p∧Below B w (w'.setCell ⟨g,2,none⟩ vu'):=by
 obtain⟨q1,q2,q3,q4,q5⟩:=h.gw
 obtain⟨f,hf,hf'⟩:=h.hp
 have r1:w'.heap[g]?=_:=(hg.block _ (gL h.row) (fun z=>q2 z.symm)).trans h.row
 have a:At g w' (w'.setCell ⟨g,2,none⟩ vu'):=(At.refl g w').set 2 _
 have bl:Below B w w':=(Below.refl B w).grown hg h.lB (fun d q=>Nat.le_trans h.lD.1 (h.hu.lt d q).1)
 have u1:w'.ownsRow B 3 1 vd c.done.length (c.done.flatMap ivC):=h.hd.kept hg (by
  cases hq:vd.ownBlock with
  | none=>exact .inl rfl
  | some b=>exact .inr (fun z=>h.ad b hq z.symm))
 have ho':vu'.ownBlock≠some g:=fun q=>by
  obtain⟨cur,z⟩:=zBp ho q
  rw[r1] at z;cases z
 refine⟨⟨?_,?_,?_,⟨f,(hf.kept hg (fun z=>q5 z.symm)).kept a (by simpa using Ne.symm q3),hf'⟩,h.ud,(fun q=>absurd (e2.symm.trans q) (by simp)),h.lg,h.lp,Nat.le_trans h.lB (Nat.le_trans hg.size a.size),h.lD.1,Nat.le_trans h.lD.2 (Nat.le_trans hg.size a.size)⟩,bl.trans (zA3 a h.lg (Nat.le_trans h.lB hg.size))⟩
 · rw[e3,e4,e5];exact heap_setCell_same w' g 2 _ _ _ r1
 · rw[e1];exact u1.kept a (.inr q1)
 · rw[e2,List.length_append,List.length_singleton];exact ho.kept a (.inr ho')
end
end Go.Proofs.YtkedafopdkhnfaaGreat
namespace Go.Proofs.YtkedafopdkhnfaaGreat
open Go.RowKit Go.Shelf
set_option linter.unusedVariables false
set_option linter.unusedSimpArgs false
attribute [local go_sem] Oper.semAt_some
theorem zPa{α:Type}(encs:α→Array Value)(Dl:List α)(zs:List Int)(hD:Dl.length=zs.length)(he:∀k (h:k<Dl.length),encs Dl[k]=#[.int .i64 ((zs.length - 1 - k:Nat):Int),.int .i64 (zs[zs.length - 1 - k]?.getD 0)])
 (F:Fence)(n:Nat)(h8:F.fn 35)(hro:F.round=none)(hn:1≤n)(l Bs b off cap:Nat)(hreach:zs.length≤4611686018427387904)(Kp:World→World→Prop)(hKr:∀W,Kp W W)(hKt:∀ {A B C:World},Kp A B→Kp B C→Kp A C)(hKc:∀ {A B:World}(j:Nat),Kp A B→B.cell? ⟨Bs,0,none⟩=A.cell? ⟨Bs,0,none⟩∧B.cell? ⟨b,j,none⟩=A.cell? ⟨b,j,none⟩)(J Jx:List α→World→Prop)
 (hY:∀pre x W,J pre W→pre.length<zs.length→YieldAt F (n - 1) Tryz.prog l (encs x) W fun e W' =>
  (e=.returned (.bool true)∧J (pre ++ [x]) W'∧Kp W W')∨(e=.returned (.bool false)∧Jx (pre ++ [x]) W'))
 (W:World)(hBs:W.cell? ⟨Bs,0,none⟩=some (.slice (some ⟨b,off,none⟩) zs.length cap))(hc:∀j,j<zs.length→W.cell? ⟨b,off+j,none⟩=some (.int .i64 (zs[j]?.getD 0)))(h0:J [] W) :
 CallsIn F n Tryz.prog 35 #[.func (.yield l) #[] #[],.pointer (some ⟨Bs,0,none⟩)] W fun e W'=>(∃v,e=.returned v) ∧
  ((∃ys,ys=Dl∧J ys W')∨(∃pre,pre <+: Dl∧Jx pre W')):=by
 refine callsIn_of_wp Tryz.func35 rfl h8 ?_ hro
 simp only[Tryz.ntmps35,List.size_toArray,List.length_cons,List.length_nil,Nat.reduceAdd,Nat.reduceSub,Array.replicate_succ,Array.replicate_zero,List.push_toArray,List.append_toArray,List.nil_append,List.cons_append]
 have hlI:(zs.length:Int)≤4611686018427387904:=by omega
 have hl0:(0:Int)≤(zs.length:Int):=by omega
 gi_wp2
 gi_loopw [3] (fun i wr=>∃m:Nat,m≤zs.length∧i=.int .i64 ((m:Int) - 1)∧J (Dl.take (zs.length - m)) wr∧Kp W wr)
  (fun i _=>(intOf i+1).toNat)
 case atStart=>exact⟨zs.length,Nat.le_refl _,rfl,by rw[Nat.sub_self,List.take_zero];exact h0,hKr _⟩
 case round =>
  obtain⟨m,hm,rfl,hJs,hnx⟩:=hrel
  cases m with
  | zero =>
    have hz:(((0:Nat):Int) - 1) = -1:=by omega
    rw[hz]
    gi_wp2
    go_end0
    exact⟨⟨_,rfl⟩,.inl ⟨_,rfl,by rw[Nat.sub_zero,← hD,List.take_length] at hJs;exact hJs⟩⟩
  | succ m =>
    have hz:(((m+1:Nat):Int) - 1)=(m:Int):=by omega
    rw[hz]
    have hk:zs.length - (m+1)<Dl.length:=by omega
    have hix:zs.length - 1 - (zs.length - (m+1))=m:=by omega
    have hcx:wr.cell? ⟨b,off+m,none⟩=some (.int .i64 (zs[m]?.getD 0)):=(hKc (off+m) hnx).2.trans (hc m (by omega))
    have hbx:wr.cell? ⟨Bs,0,none⟩=some (.slice (some ⟨b,off,none⟩) zs.length cap):=(hKc 0 hnx).1.trans hBs
    have hy':=hY _ Dl[zs.length - (m+1)] wr hJs (by rw[List.length_take];omega)
    rw[he _ hk,hix] at hy'
    obtain⟨fn,tmps,assign,body,hy,hR⟩:=hy'
    have htk:Dl.take (zs.length - (m+1)) ++ [Dl[zs.length - (m+1)]]=Dl.take (zs.length - m):=by
     rw[← List.take_succ_eq_append_getElem hk];congr 1;omega
    rw[htk] at hR
    have hm0:(0:Int)≤(m:Int):=by omega
    have hm1:(m:Int)<(zs.length:Int):=by omega
    clear htk hix hz
    gi_wp2
    refine hR.mono ?_
    rintro e W3 (⟨rfl,hJ3,hk3⟩ | ⟨rfl,hJx3⟩)
    · gi_wp2
      go_roundw
      case rel=>exact⟨m,by omega,rfl,hJ3,hKt hnx hk3⟩
      case measure=>(simp[intOf])
    · gi_wp2
      refine bodyPost_ret (results_none rfl _ _ _) rfl ?_
      exact⟨⟨_,rfl⟩,.inr ⟨_,List.take_prefix _ _,hJx3⟩⟩
theorem zLv{α:Type}(encs:α→Array Value)(Dl:List α)(zs:List Int)(hD:Dl.length=zs.length)(he:∀k (h:k<Dl.length),encs Dl[k]=#[.int .i64 ((zs.length - 1 - k:Nat):Int),.int .i64 (zs[zs.length - 1 - k]?.getD 0)])
 (F:Fence)(n:Nat)(h8:F.fn 35)(hro:F.round=none)(hn:1≤n)(Bs n₀:Nat)(a:Option Addr)(cap:Nat)(hreach:zs.length≤4611686018427387904)(Kp:World→World→Prop)(hKr:∀W,Kp W W)(hKt:∀ {A B C:World},Kp A B→Kp B C→Kp A C)(hKc:∀ {A B:World}(b j:Nat),Kp A B→(b=Bs∨(zs.length≠0∧Value.ownBlock (.slice a zs.length cap)=some b))→B.cell? ⟨b,j,none⟩=A.cell? ⟨b,j,none⟩)(w:World)(hBs:Bs<n₀)(hn₀:n₀≤w.heap.size)
 (hc:w.cell? ⟨Bs,0,none⟩=some (.slice a zs.length cap))(hI:Sl w (.slice a zs.length cap) 1 zs.length (zs.map iv)) :
 SeqStopsK F n Tryz.prog 35 #[.pointer (some ⟨Bs,0,none⟩)] encs Kp (fun ys=>ys=Dl) (fun pre=>pre <+: Dl) zs.length w:=fun l J Jx W hW _ _ hY h0=>by
 have hc':=(hW.cell (p:=⟨Bs,0,none⟩) (Nat.lt_of_lt_of_le hBs hn₀)).trans hc
 obtain⟨_,_,a',cap',hv,hcc⟩:=hI
 rw[Value.slice.injEq] at hv
 obtain⟨rfl,-,rfl⟩:=hv
 have hcc':zs.length=0∨(zs.length≠0∧∃b off,a=some ⟨b,off,none⟩∧b<w.heap.size∧∀j (_:j<(zs.map iv).length),w.cell? ⟨b,off+j,none⟩=some (zs.map iv)[j]):=by
  by_cases hz:zs.length=0
  · exact .inl hz
  · exact .inr ⟨hz,hcc.resolve_left hz⟩
 rcases hcc' with hz | ⟨hne,b,off,rfl,hlt,hcs⟩
 · have hD0:Dl=[]:=List.eq_nil_of_length_eq_zero (by omega)
   rw[hz] at hc'
   subst hD0
   exact(zHe F n h8 hro l Bs cap a J W hc' h0).mono fun e W' ⟨he,hj⟩=>⟨he,.inl ⟨_,rfl,hj⟩⟩
 · refine zPa encs Dl zs hD he F n h8 hro hn l Bs b off cap hreach Kp hKr hKt (fun j hk=>⟨hKc Bs 0 hk (.inl rfl),hKc b j hk (.inr ⟨hne,rfl⟩)⟩) J Jx hY W hc' (fun j hj=>?_) h0
   have hj':j<(zs.map iv).length:=by rw[List.length_map];exact hj
   rw[(hW.cell (p:=⟨b,off+j,none⟩) hlt).trans (hcs j hj'),List.getElem_map,List.getElem?_eq_getElem hj]
   rfl
end Go.Proofs.YtkedafopdkhnfaaGreat
namespace Go.Proofs.YtkedafopdkhnfaaGreat
open Go.RowKit
set_option linter.unusedVariables false
set_option linter.unusedSimpArgs false
theorem zGf{w:World}{a:Option Addr}{n c:Nat}{l:List Int}(h:Sl w (.slice a n c) 1 l.length (l.map iv)){i:Nat}(hi:i<l.length):∃b off,a=some ⟨b,off,none⟩∧b<w.heap.size∧w.cell? ⟨b,off+i,none⟩=some (.int .i64 l[i]):=by
 obtain⟨_,_,a',cap,hv,hc⟩:=h
 rw[Value.slice.injEq] at hv
 obtain⟨rfl,-,rfl⟩:=hv
 obtain⟨b,off,rfl,hblt,hc⟩:=hc.resolve_left (by omega)
 refine⟨b,off,rfl,hblt,?_⟩
 rw[hc i (by rw[List.length_map];exact hi),List.getElem_map];rfl
theorem zMl(xs ys:List Int)(a b:Option Addr)(c d:Nat)(w:World)(ha:Sl w (.slice a xs.length c) 1 xs.length (xs.map iv))(hb:Sl w (.slice b ys.length d) 1 ys.length (ys.map iv)) :
 Calls Tryz.prog 14 #[.slice a xs.length c,.slice b ys.length d] w fun e w'=>e=.returned (.bool (decide (xs=ys)))∧Below w.heap.size w w':=by
 have hx:xs.length≤9223372036854775807:=ha.2.1.1
 have hy:ys.length≤9223372036854775807:=hb.2.1.1
 have HA:=hid ha
 have HB:=hid hb
 clear ha hb
 go_enter Tryz.func14,Tryz.ntmps14
 by_cases hl:xs.length=ys.length
 case neg =>
  have hq:((xs.length:Int)==(ys.length:Int))=false:=beq_eq_false_iff_ne.2 (fun q=>hl (by omega))
  have hq':((xs.length:Int) != (ys.length:Int))=true:=bne_iff_ne.2 (fun q=>hl (by omega))
  have HN:=hid (show decide (xs=ys)=false from decide_eq_false (fun q=>hl (by rw[q])))
  clear hl
  go_wp2_with fail
  go_ret
  exact⟨by rw[HN.out];rfl,Below.refl _ _⟩
 rw[← hl] at hy ⊢
 go_wp2_with fail
 go_loopw [5] (fun n0 wr=>∃k:Nat,k≤xs.length∧n0=.int .i64 (k:Int)∧xs.take k=ys.take k∧Below w.heap.size w wr) (fun n0 _=>xs.length - (intOf n0).toNat)
 case atStart=>exact⟨0,Nat.zero_le _,rfl,rfl,Below.refl _ _⟩
 case round =>
  obtain⟨k,hk,rfl,he,hbw⟩:=hrel
  by_cases hlt:k<xs.length
  case neg =>
   obtain rfl:k=xs.length:=by omega
   have HE:=hid (show decide (xs=ys)=true from decide_eq_true (by rw[List.take_length] at he;rw[he,hl,List.take_length]))
   have HBW:=hid hbw
   clear he hbw hl
   go_wp2_with fail
   go_ret
   exact⟨by rw[HE.out];rfl,HBW.out⟩
  have hlt2:k<ys.length:=by omega
  obtain⟨p,op,rfl,hp,c1⟩:=zGf (HA.out.below hbw) hlt
  obtain⟨q,oq,rfl,hq,c2⟩:=zGf (HB.out.below hbw) hlt2
  have hkI:(k:Int)<(xs.length:Int):=by omega
  have hkp:(0:Int)≤(k:Int):=by omega
  have HBW:=hid hbw
  have HE:=hid he
  have HXY:=hid (show xs[k]≠ys[k]→decide (xs=ys)=false from fun z=>decide_eq_false (fun e=>z (by simp only[e])))
  have HTK:=hid (show xs[k]=ys[k]→xs.take (k+1)=ys.take (k+1) from fun z=>by rw[List.take_succ_eq_append_getElem hlt,List.take_succ_eq_append_getElem hlt2,he,z])
  generalize xs[k]=x at *
  generalize ys[k]=y at *
  clear he hbw hl
  by_cases hxy:x=y
  · have HT:=hid (HTK.out hxy)
    subst hxy
    clear HTK HXY
    go_wp2_with fail
    go_quiet (fail)
    go_wp2_with fail
    go_roundw
    case rel=>exact⟨k+1,by omega,by go_num,HT.out,HBW.out.trans (zAa _ _ _)⟩
    case measure=>simp[intOf];omega
  · have HN:=hid (HXY.out hxy)
    have hq:(x==y)=false:=by simpa using hxy
    have hq':(x != y)=true:=by simpa using hxy
    clear hxy HTK HXY
    go_wp2_with fail
    go_quiet (fail)
    go_wp2_with fail
    go_ret
    exact⟨by rw[HN.out];rfl,HBW.out.trans (zAa _ _ _)⟩
end Go.Proofs.YtkedafopdkhnfaaGreat
