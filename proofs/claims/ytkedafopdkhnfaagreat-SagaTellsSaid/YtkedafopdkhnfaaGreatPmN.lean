/- CONTRACTS: play.Next, play.meant. CONTRACT: play.Check. CONTRACT: wherrylaw15.awake. -/
import Derived.Test.YtkedafopdkhnfaaGreatPmR
import Derived.Test.YtkedafopdkhnfaaGreatPmE
import Derived.Test.YtkedafopdkhnfaaGreatPmP
import Derived.Test.YtkedafopdkhnfaaGreatSmD
import Derived.Laws.ResultCell
import Derived.Deep.QuietTactic
import Derived.BigQuiet
import Derived.IntWalk
import Derived.Laws.StructEq
namespace Go.Proofs.YtkedafopdkhnfaaGreat
set_option maxHeartbeats 32000000
set_option maxRecDepth 100000
open Go.RowKit
set_option linter.unusedVariables false
set_option linter.unusedSimpArgs false
theorem zQi{l:List Ev}(h:(zAm l).2.2=0):Hs l∧zAm l=(stOf l,0,0):=by
 unfold zAm at h ⊢
 cases hf:zA9 [] l with
 | none=>exact⟨zHh.1 hf,rfl⟩
 | some x =>
   obtain⟨i,e⟩:=x
   rw[hf] at h
   have : ∀(r p:List Ev) (i:Nat) (e:Int),zA9 p r=some (i,e)→e≠0:=by
    intro r
    induction r with
    | nil=>intro p i e h;cases h
    | cons x r ih =>
      intro p i e h
      simp only[zA9] at h
      split at h
      · rename_i hc
        injection h with h
        injection h with h1 h2
        rw[← h2];exact hc
      · exact ih _ i e h
   exact absurd h (this l [] i e hf)
theorem zUq{l:List Ev}(h:(zAm l).2.2≠0):zA9 [] l≠none:=fun q=>by
 unfold zAm at h;rw[q] at h;exact h rfl
def zRk(l:List Ev)(w:World)(e:Ending)(w':World):Prop:=∃v:Value,e=.returned (.tuple #[v,.int .i64 (zCg l).2])∧zBi w' w.heap.size v (zCg l).1∧Below w.heap.size w w'
theorem zBi.mono{w:World}{B B':Nat}{v:Value}{l:List Cmd}(h:zBi w B v l)(hB:B'≤B):zBi w B' v l:=by
 obtain⟨a,c,h1,h2⟩:=h
 exact⟨a,c,h1,zAw h2 hB⟩
theorem zSt(a:Option Addr)(c:Nat)(l:List Ev)(w:World)(hs:Sl w (.slice a l.length c) 8 l.length (l.flatMap evc))(hfit:FitE l) :
 Calls Tryz.prog 15 #[.slice a l.length c] w (zRk l w):=by
 have hm:l.length≤9223372036854775807:=hs.2.1.1
 go_enter Tryz.func15,Tryz.ntmps15
 go_wp2_with fail
 refine(zHx a c l w hs hfit).mono ?_
 rintro _ w2 ⟨va,ua,ca,vc,uc,cc,rfl,hst,b2⟩
 by_cases hf0:(zAm l).2.2=0
 case neg =>
  have hq:((zAm l).2.2==0)=false:=by simpa using hf0
  have hq':((zAm l).2.2 != 0)=true:=by simpa using hf0
  have hn:zCg l=([],150):=by unfold zCg;rw[if_pos (.inl (zUq hf0))]
  have HN:=hid hn
  have HB:=hid (fun(R:Array Value)=>zAl b2 ((Below.refl w2.heap.size w2).alloc (Nat.le_refl _) (.cells R 59)))
  clear hf0 hst hs b2 hn
  generalize (zAm l).2.2=e9 at *
  generalize (zAm l).1=s9 at *
  rw[stvE]
  go_wp2_with fail
  go_ret2
  exact⟨.slice none 0 0,(by rw[HN.out];rfl),by rw[HN.out];exact zBi.nil _ _,HB.out _⟩
 obtain⟨hH,hrb⟩:=zQi hf0
 have h500:=hH.short
 rw[hrb] at hst ⊢
 simp only at hst ⊢
 by_cases hl0:l.length=0
 · have hl:l=[]:=List.eq_nil_of_length_eq_zero hl0
   have hn:zCg l=([],150):=by unfold zCg;rw[if_pos (.inr hl)]
   have HN:=hid hn
   have hl1:((l.length:Int)==0)=true:=by simp[hl0]
   have HB:=hid (fun(R:Array Value)=>zAl b2 ((Below.refl w2.heap.size w2).alloc (Nat.le_refl _) (.cells R 59)))
   clear hf0 hst hs b2 hn hl hrb hH
   generalize stOf l=s9 at *
   rw[stvE]
   go_wp2_with fail
   go_ret2
   exact⟨.slice none 0 0,(by rw[HN.out];rfl),by rw[HN.out];exact zBi.nil _ _,HB.out _⟩
 have hl:l≠[]:=fun q=>hl0 (by rw[q];rfl)
 have hl1:((l.length:Int)==0)=false:=by simpa using hl0
 have hlp:(0:Int)<(l.length:Int):=by omega
 obtain⟨s,hsq⟩:∃s,s=stOf l:=⟨_,rfl⟩
 have hsv:=hsq
 rw[zC5 hl] at hsv
 rw[← hsq] at hst ⊢
 obtain⟨ss,lim,st,nx,bg,ak,tn,fr,js,cs,cn,ov⟩:=s
 simp only[Sta.mk.injEq] at hsv
 obtain⟨hss,hlim,hstat,-⟩:=hsv
 rw[show staV ⟨ss,lim,st,nx,bg,ak,tn,fr,js,cs,cn,ov⟩ (.slice va (⟨ss,lim,st,nx,bg,ak,tn,fr,js,cs,cn,ov⟩:Sta).ss.length vc) (.slice ua (⟨ss,lim,st,nx,bg,ak,tn,fr,js,cs,cn,ov⟩:Sta).jobs.length uc) (.slice ca (⟨ss,lim,st,nx,bg,ak,tn,fr,js,cs,cn,ov⟩:Sta).clocks.length cc)=.agg #[.slice va ss.length vc,.int .i64 lim,.int .i64 st,.int .i64 nx,.int .i64 bg,.int .i64 ak,.int .i64 tn,.bool fr,.slice ua js.length uc,.slice ca cs.length cc,.bool cn,.bool ov] from rfl]
 have b3:Below w2.heap.size w2 (w2.alloc (.cells #[.slice va ss.length vc,.int .i64 lim,.int .i64 st,.int .i64 nx,.int .i64 bg,.int .i64 ak,.int .i64 tn,.bool fr,.slice ua js.length uc,.slice ca cs.length cc,.bool cn,.bool ov] 59)):=(Below.refl _ _).alloc (Nat.le_refl _) _
 have hx3:(w2.alloc (.cells #[.slice va ss.length vc,.int .i64 lim,.int .i64 st,.int .i64 nx,.int .i64 bg,.int .i64 ak,.int .i64 tn,.bool fr,.slice ua js.length uc,.slice ca cs.length cc,.bool cn,.bool ov] 59)).heap[w2.heap.size]?=some (.cells #[.slice va ss.length vc,.int .i64 lim,.int .i64 st,.int .i64 nx,.int .i64 bg,.int .i64 ak,.int .i64 tn,.bool fr,.slice ua js.length uc,.slice ca cs.length cc,.bool cn,.bool ov] 59 (0,0)):=heap_alloc_new w2 _
 have b03:=zAl b2 b3
 by_cases hst0:st=0
 case neg =>
  have hq:(st==0)=false:=by simpa using hst0
  have hq':(st != 0)=true:=by simpa using hst0
  have hn:zCg l=([],182):=by
   unfold zCg
   rw[zHh.2 hH,if_neg (by simp[hl]),if_pos (by rw[← hstat];exact hst0)]
  have HN:=hid hn
  have HB:=hid b03
  have x2:(w2.alloc (.cells #[.slice va ss.length vc,.int .i64 lim,.int .i64 st,.int .i64 nx,.int .i64 bg,.int .i64 ak,.int .i64 tn,.bool fr,.slice ua js.length uc,.slice ca cs.length cc,.bool cn,.bool ov] 59)).cell? ⟨w2.heap.size,2,none⟩=some (.int .i64 st):=cR hx3 rfl
  clear hf0 hst hs b2 hn hl hrb hH hsq hss hlim hstat hst0 b3 hx3 b03 hl0
  go_wp2_with fail
  go_ret2
  exact⟨.slice none 0 0,(by rw[HN.out];rfl),by rw[HN.out];exact zBi.nil _ _,HB.out⟩
 subst hst0
 have hn:zCg l=(zC6 ss (crsF l),0):=by rw[zI6 hH hl hstat.symm,← hss]
 have HN:=hid hn
 have hsl:ss.length≤16:=by rw[hss];exact(hH.prog hl).1
 have hnm:∀x∈ss,x.nm.length≤1400:=by rw[hss];exact zSs hH hl
 have hrd:=zU2 hH hl
 rw[← hss] at hrd
 have hdv:=zT7 hH hl
 rw[← hss] at hdv
 have hst3:=hst.new b3
 have hsp:=hst3.read.hs
 have hun:zIr (w2.alloc (.cells #[.slice va ss.length vc,.int .i64 lim,.int .i64 0,.int .i64 nx,.int .i64 bg,.int .i64 ak,.int .i64 tn,.bool fr,.slice ua js.length uc,.slice ca cs.length cc,.bool cn,.bool ov] 59)).heap.size (.slice va ss.length vc):=fun b q=>(hst3.hs.lt b q).2
 have hs3:=(hs.below b2).below b3
 obtain⟨x0,x1,x2,-⟩:=cA hx3
 have HR:=hid (zOj ss lim va vc a c l hsl hss hH (w2.alloc (.cells #[.slice va ss.length vc,.int .i64 lim,.int .i64 0,.int .i64 nx,.int .i64 bg,.int .i64 ak,.int .i64 tn,.bool fr,.slice ua js.length uc,.slice ca cs.length cc,.bool cn,.bool ov] 59)) hsp hun hs3)
 have HRD:=hid hrd
 have HDV:=hid hdv
 have HB:=hid b03
 have HNM:=hid hnm
 clear hf0 hst hs b2 hn hl hrb hH hsq hss hlim hstat b3 hx3 b03 hl0 hst3 hsp hun hs3 hrd hdv hnm
 go_wp2_with fail
 refine HR.out.mono ?_
 rintro _ w4 ⟨g,D,gw,gu,pm,sm,wc,uc',vd,rfl,hcm,b4⟩
 clear x0 x1 x2 HR
 have HCM:=hid hcm
 have hb4:=HB.out.trans (b4.mono HB.out.size)
 have HF:=hid (zL6 _ D g l.length ss lim (crsF l) va gw gu vc wc uc' vd pm sm hsl HNM.out (fun nm=>by have:=HRD.out.sg nm;omega) HRD.out.wl HRD.out.ul w4 hcm)
 have HB4:=hid hb4
 clear hcm b4 hb4 HB
 go_wp2_with fail
 refine HF.out.mono ?_
 rintro _ w5 ⟨v,ok,rfl,hcv,b5⟩
 have hcm5:=HCM.out.below b5
 by_cases hbk:(fwdF ss (crsF l)).2=true
 · rw[hbk]
   have hnc:zC6 ss (crsF l)=zB4 ss (crsF l) (crsF l).done.reverse:=by unfold zC6;rw[if_pos hbk]
   have HNC:=hid hnc
   have HBK:=hid (zKh _ D g l.length ss lim (crsF l) va gw gu vc wc uc' vd pm sm hsl HRD.out.wl HRD.out.ul (by have:=HRD.out.dn;omega) HDV.out w5 hcm5)
   have HB5:=hid (HB4.out.trans (b5.mono HB4.out.size))
   clear hcm5 b5 hbk hnc hcv HF HCM
   go_wp2_with fail
   refine HBK.out.mono ?_
   rintro _ w6 ⟨v6,rfl,hcv6,b6⟩
   have HO:=hid (hcv6.mono HB5.out.size)
   have HB6:=hid (HB5.out.trans (b6.mono HB5.out.size))
   clear hcv6 b6 HBK
   go_wp2_with fail
   go_ret2
   exact⟨v6,(by rw[HN.out];rfl),by rw[HN.out,HNC.out];exact HO.out,HB6.out⟩
 · have hbk':(fwdF ss (crsF l)).2=false:=by simpa using hbk
   rw[hbk']
   have hnc:zC6 ss (crsF l)=(fwdF ss (crsF l)).1:=by unfold zC6;rw[if_neg hbk]
   have HNC:=hid hnc
   have HO:=hid (hcv.mono HB4.out.size)
   have HB5:=hid (HB4.out.trans (b5.mono HB4.out.size))
   clear hcm5 b5 hbk hbk' hnc hcv HF HCM
   go_wp2_with fail
   go_ret2
   exact⟨v,(by rw[HN.out];rfl),by rw[HN.out,HNC.out];exact HO.out,HB5.out⟩
def cmV(x:Cmd):Value:=.agg #[.int .i64 x.1,.int .i64 x.2.1,.bool x.2.2]
def zO3(e0:Ev)(w:World)(e:Ending)(w':World):Prop:=e=.returned (.tuple #[cmV ((zBa e0).getD (0,0,false)),.bool (zBa e0).isSome])∧Below w.heap.size w w'
theorem zP7(id kd tk rf sp ty:Int)(ud:Bool)(dt:List UInt8)(w:World) :
 Calls Tryz.prog 18 #[.agg #[.int .i64 id,.int .i64 kd,.int .i64 tk,.int .i64 rf,.int .i64 sp,.int .i64 ty,.bool ud,.string ⟨dt.toArray⟩]] w (zO3 (id,kd,tk,rf,sp,ty,ud,dt) w):=by
 by_cases k6:kd=6
 · subst k6
   have HM:=hid (show zBa (id,6,tk,rf,sp,ty,ud,dt)=some (1,sp,ud) from rfl)
   have HB:=hid (At.below (((Below.refl w.heap.size w).alloc (Nat.le_refl _) (.cells #[.int .i64 id,.int .i64 6,.int .i64 tk,.int .i64 rf,.int .i64 sp,.int .i64 ty,.bool ud,.string ⟨dt.toArray⟩] 52)).alloc (by rw[World.size_alloc];omega) (.cells #[.int .i64 0,.int .i64 0,.bool false] 55)) ((((At.refl (w.heap.size+1) _).set 0 (.int .i64 1)).set 1 (.int .i64 sp)).set 2 (.bool ud)) (by omega))
   go_enter Tryz.func18,Tryz.ntmps18
   go_wp2_with fail
   refine bodyPost_ret (v:=.tuple #[.agg #[.int .i64 1,.int .i64 sp,.bool ud],.bool true]) ?_ rfl ⟨(by rw[HM.out];rfl),?_⟩
   · rw[results_cell_tmp rfl]
     go_simp
   · exact(((Below.refl w.heap.size w).alloc (Nat.le_refl _) _).alloc (by rw[World.size_alloc];omega) _)
 by_cases k10:kd=10
 · subst k10
   have HM:=hid (show zBa (id,10,tk,rf,sp,ty,ud,dt)=some (2,sp,false) from rfl)
   have HB:=hid (At.below (((Below.refl w.heap.size w).alloc (Nat.le_refl _) (.cells #[.int .i64 id,.int .i64 10,.int .i64 tk,.int .i64 rf,.int .i64 sp,.int .i64 ty,.bool ud,.string ⟨dt.toArray⟩] 52)).alloc (by rw[World.size_alloc];omega) (.cells #[.int .i64 0,.int .i64 0,.bool false] 55)) ((((At.refl (w.heap.size+1) _).set 0 (.int .i64 2)).set 1 (.int .i64 sp)).set 2 (.bool false)) (by omega))
   go_enter Tryz.func18,Tryz.ntmps18
   go_wp2_with fail
   refine bodyPost_ret (v:=.tuple #[.agg #[.int .i64 2,.int .i64 sp,.bool false],.bool true]) ?_ rfl ⟨(by rw[HM.out];rfl),?_⟩
   · rw[results_cell_tmp rfl]
     go_simp
   · exact(((Below.refl w.heap.size w).alloc (Nat.le_refl _) _).alloc (by rw[World.size_alloc];omega) _)
 by_cases k15:kd=15
 · subst k15
   have HM:=hid (show zBa (id,15,tk,rf,sp,ty,ud,dt)=some (3,0,false) from rfl)
   have HB:=hid (At.below (((Below.refl w.heap.size w).alloc (Nat.le_refl _) (.cells #[.int .i64 id,.int .i64 15,.int .i64 tk,.int .i64 rf,.int .i64 sp,.int .i64 ty,.bool ud,.string ⟨dt.toArray⟩] 52)).alloc (by rw[World.size_alloc];omega) (.cells #[.int .i64 0,.int .i64 0,.bool false] 55)) ((((At.refl (w.heap.size+1) _).set 0 (.int .i64 3)).set 1 (.int .i64 0)).set 2 (.bool false)) (by omega))
   go_enter Tryz.func18,Tryz.ntmps18
   go_wp2_with fail
   refine bodyPost_ret (v:=.tuple #[.agg #[.int .i64 3,.int .i64 0,.bool false],.bool true]) ?_ rfl ⟨(by rw[HM.out];rfl),?_⟩
   · rw[results_cell_tmp rfl]
     go_simp
   · exact(((Below.refl w.heap.size w).alloc (Nat.le_refl _) _).alloc (by rw[World.size_alloc];omega) _)
 by_cases k16:kd=16
 · subst k16
   have HM:=hid (show zBa (id,16,tk,rf,sp,ty,ud,dt)=some (4,0,false) from rfl)
   have HB:=hid (At.below (((Below.refl w.heap.size w).alloc (Nat.le_refl _) (.cells #[.int .i64 id,.int .i64 16,.int .i64 tk,.int .i64 rf,.int .i64 sp,.int .i64 ty,.bool ud,.string ⟨dt.toArray⟩] 52)).alloc (by rw[World.size_alloc];omega) (.cells #[.int .i64 0,.int .i64 0,.bool false] 55)) ((((At.refl (w.heap.size+1) _).set 0 (.int .i64 4)).set 1 (.int .i64 0)).set 2 (.bool false)) (by omega))
   go_enter Tryz.func18,Tryz.ntmps18
   go_wp2_with fail
   refine bodyPost_ret (v:=.tuple #[.agg #[.int .i64 4,.int .i64 0,.bool false],.bool true]) ?_ rfl ⟨(by rw[HM.out];rfl),?_⟩
   · rw[results_cell_tmp rfl]
     go_simp
   · exact(((Below.refl w.heap.size w).alloc (Nat.le_refl _) _).alloc (by rw[World.size_alloc];omega) _)
 by_cases k17:kd=17
 · subst k17
   have HM:=hid (show zBa (id,17,tk,rf,sp,ty,ud,dt)=some (5,0,false) from rfl)
   have HB:=hid (At.below (((Below.refl w.heap.size w).alloc (Nat.le_refl _) (.cells #[.int .i64 id,.int .i64 17,.int .i64 tk,.int .i64 rf,.int .i64 sp,.int .i64 ty,.bool ud,.string ⟨dt.toArray⟩] 52)).alloc (by rw[World.size_alloc];omega) (.cells #[.int .i64 0,.int .i64 0,.bool false] 55)) ((((At.refl (w.heap.size+1) _).set 0 (.int .i64 5)).set 1 (.int .i64 0)).set 2 (.bool false)) (by omega))
   go_enter Tryz.func18,Tryz.ntmps18
   go_wp2_with fail
   refine bodyPost_ret (v:=.tuple #[.agg #[.int .i64 5,.int .i64 0,.bool false],.bool true]) ?_ rfl ⟨(by rw[HM.out];rfl),?_⟩
   · rw[results_cell_tmp rfl]
     go_simp
   · exact(((Below.refl w.heap.size w).alloc (Nat.le_refl _) _).alloc (by rw[World.size_alloc];omega) _)
 have HM:=hid (show zBa (id,kd,tk,rf,sp,ty,ud,dt)=none from by unfold zBa;rw[if_neg k6,if_neg k10,if_neg k15,if_neg k16,if_neg k17])
 have e6:(kd==6)=false:=by simpa using k6
 have e10:(kd==10)=false:=by simpa using k10
 have e15:(kd==15)=false:=by simpa using k15
 have e16:(kd==16)=false:=by simpa using k16
 have e17:(kd==17)=false:=by simpa using k17
 clear k6 k10 k15 k16 k17
 have HB:=hid (At.below (((Below.refl w.heap.size w).alloc (Nat.le_refl _) (.cells #[.int .i64 id,.int .i64 kd,.int .i64 tk,.int .i64 rf,.int .i64 sp,.int .i64 ty,.bool ud,.string ⟨dt.toArray⟩] 52)).alloc (by rw[World.size_alloc];omega) (.cells #[.int .i64 0,.int .i64 0,.bool false] 55)) ((((At.refl (w.heap.size+1) _).set 0 (.int .i64 0)).set 1 (.int .i64 0)).set 2 (.bool false)) (by omega))
 go_enter Tryz.func18,Tryz.ntmps18
 go_wp2_with fail
 refine bodyPost_ret (v:=.tuple #[.agg #[.int .i64 0,.int .i64 0,.bool false],.bool false]) ?_ rfl ⟨(by rw[HM.out];rfl),?_⟩
 · rw[results_cell_tmp rfl]
   go_simp
 · exact(((Below.refl w.heap.size w).alloc (Nat.le_refl _) _).alloc (by rw[World.size_alloc];omega) _)
def zHw(w:World)(v:Value)(l:List Cmd):Prop:=∃(a:Option Addr)(c:Nat),v=.slice a l.length c∧l.length≤1∧∀x,l=[x]→∃b,a=some ⟨b,0,none⟩∧b<w.heap.size∧1≤c∧w.cell? ⟨b,0,none⟩=some (.int .i64 x.1)∧w.cell? ⟨b,1,none⟩=some (.int .i64 x.2.1)∧w.cell? ⟨b,2,none⟩=some (.bool x.2.2)
theorem zHw.nil(w:World)(a:Option Addr)(c:Nat):zHw w (.slice a 0 c) []:=⟨a,c,rfl,Nat.zero_le _,fun x q=>by cases q⟩
theorem zBi.want{w:World}{B:Nat}{v:Value}{l:List Cmd}(h:zBi w B v l)(hl:l.length≤1):zHw w v l:=by
 obtain⟨a,c,rfl,ho⟩:=h
 refine⟨a,c,rfl,hl,fun x q=>?_⟩
 subst q
 obtain⟨b,rfl⟩:=zEv ho (by simp)
 have hlt:=(ho.lt b rfl).2
 refine⟨b,rfl,hlt,?_,zDk ho 0 _ rfl,zDk ho 1 _ rfl,zDk ho 2 _ rfl⟩
 rcases ho.2 with ⟨q,_⟩ | ⟨g,cap,cur,q,_,_,hc,_⟩
 · simp at q
 · simp at q hc;omega
def zKc(l:List Ev)(w:World)(e:Ending)(w':World):Prop:=e=.returned (.tuple #[.int .i64 (zBe l).1,.int .i64 (zBe l).2])∧Below w.heap.size w w'
theorem zKj{l:List Ev}(h:(zAm l).2.2≠0):zBe l=((zAm l).2.1,120):=by
 unfold zBe zAm at *
 cases hf:zA9 [] l with
 | none=>rw[hf] at h;exact absurd rfl h
 | some x=>rfl
theorem zMg(a:Option Addr)(c:Nat)(l:List Ev)(w:World)(hs:Sl w (.slice a l.length c) 8 l.length (l.flatMap evc))(hfit:FitE l)(hcap:l.length≤c) :
 Calls Tryz.prog 6 #[.slice a l.length c] w (zKc l w):=by
 have hm:l.length≤9223372036854775807:=hs.2.1.1
 go_enter Tryz.func6,Tryz.ntmps6
 go_wp2_with fail
 refine(zHx a c l w hs hfit).mono ?_
 rintro _ w2 ⟨va,ua,ca,vc,uc,cc,rfl,hst,b2⟩
 have HBA:=hid (fun(R:Array Value)=>zAl b2 ((Below.refl w2.heap.size w2).alloc (Nat.le_refl _) (.cells R 59)))
 by_cases hf0:(zAm l).2.2=0
 case neg =>
  have hq:((zAm l).2.2==0)=false:=by simpa using hf0
  have hq':((zAm l).2.2 != 0)=true:=by simpa using hf0
  have HN:=hid (zKj hf0)
  clear hf0 hst hs b2
  generalize (zAm l).2.2=e9 at *
  generalize (zAm l).2.1=i9 at *
  generalize (zAm l).1=s9 at *
  rw[stvE]
  go_wp2_with fail
  go_ret2
  exact⟨(by rw[HN.out];rfl),HBA.out _⟩
 obtain⟨hH,hrb⟩:=zQi hf0
 have h500:=hH.short
 rw[hrb] at hst ⊢
 simp only at hst ⊢
 by_cases hl0:l.length=0
 · have hl:l=[]:=List.eq_nil_of_length_eq_zero hl0
   have HN:=hid (show zBe l=(0,120) by rw[hl];rfl)
   have hl1:((l.length:Int)==0)=true:=by simp[hl0]
   clear hf0 hst hs b2 hl hrb hH
   generalize stOf l=s9 at *
   rw[stvE]
   go_wp2_with fail
   go_ret2
   exact⟨(by rw[HN.out];rfl),HBA.out _⟩
 have hl:l≠[]:=fun q=>hl0 (by rw[q];rfl)
 have hl1:((l.length:Int)==0)=false:=by simpa using hl0
 have hlp:(0:Int)<(l.length:Int):=by omega
 have HCK:=hid (zJk hH hl)
 have HH:=hid hH
 have HS:=hid hs
 clear hf0 hst hs b2 hrb hH hl
 generalize stOf l=s9 at *
 rw[stvE]
 go_wp2_with fail
 have HB0:=hid (HBA.out #[.slice va s9.ss.length vc,.int .i64 s9.lim,.int .i64 s9.status,.int .i64 s9.next,.int .i64 s9.began,.int .i64 s9.asked,.int .i64 s9.taken,.bool s9.fresh,.slice ua s9.jobs.length uc,.slice ca s9.clocks.length cc,.bool s9.cancel,.bool s9.overdue])
 clear HBA
 generalize (w2.alloc (.cells #[.slice va s9.ss.length vc,.int .i64 s9.lim,.int .i64 s9.status,.int .i64 s9.next,.int .i64 s9.began,.int .i64 s9.asked,.int .i64 s9.taken,.bool s9.fresh,.slice ua s9.jobs.length uc,.slice ca s9.clocks.length cc,.bool s9.cancel,.bool s9.overdue] 59))=w3 at *
 go_loopw [7,28] (fun v7 n0 wr=>∃(k:Nat) (want:List Cmd),k≤l.length∧n0=.int .i64 (k:Int)∧zHw wr v7 want∧chkG l 0 [] l=chkG l k want (l.drop k)∧Below w.heap.size w wr) (fun _ n0 _=>l.length - (intOf n0).toNat)
 case atStart=>exact⟨0,[],Nat.zero_le _,rfl,zHw.nil _ _ _,rfl,HB0.out⟩
 case round =>
  clear HB0
  obtain⟨k,want,hk,rfl,hwa,hck,hb⟩:=hrel
  obtain⟨av,cv,rfl,hw1,hwx⟩:=hwa
  by_cases hlt:k<l.length
  case neg =>
   obtain rfl:k=l.length:=by omega
   have HB:=hid hb
   cases want with
   | nil =>
     have HR:=hid (show zBe l=(0,0) by rw[HCK.out,hck,List.drop_length];rfl)
     clear hb hck hwx
     go_wp2_with fail
     go_ret2
     exact⟨(by rw[HR.out];rfl),HB.out⟩
   | cons x r =>
     have hr:r=[]:=List.eq_nil_of_length_eq_zero (by simp only[List.length_cons] at hw1;omega)
     subst hr
     have HR:=hid (show zBe l=((l.length:Int),150) by rw[HCK.out,hck,List.drop_length];rfl)
     clear hb hck hwx
     rw[show [x].length=1 from rfl]
     go_wp2_with fail
     go_ret2
     exact⟨(by rw[HR.out];rfl),HB.out⟩
  have hat:=zJm hlt want
  have hnth:=HH.out.nth k _ (List.getElem?_eq_getElem hlt)
  have hevp:=hnth.1
  have hsr:=HS.out.below hb
  obtain⟨hs1,hs2,a',cap,hv,hc⟩:=hsr
  rw[Value.slice.injEq] at hv
  obtain⟨rfl,-,rfl⟩:=hv
  obtain⟨b,off,rfl,hblt,hc⟩:=hc.resolve_left (by omega)
  obtain⟨L,hL⟩:∃L,L=l:=⟨_,rfl⟩
  have c0:wr.cell? ⟨b,off+k*8,none⟩=some (.int .i64 (l[k]).1):=zAd hc k 0 (by decide) hlt _ rfl
  have c1:wr.cell? ⟨b,off+k*8+1,none⟩=some (.int .i64 (l[k]).2.1):=zAd hc k 1 (by decide) hlt _ rfl
  have c2:wr.cell? ⟨b,off+k*8+2,none⟩=some (.int .i64 (l[k]).2.2.1):=zAd hc k 2 (by decide) hlt _ rfl
  have c3:wr.cell? ⟨b,off+k*8+3,none⟩=some (.int .i64 (l[k]).2.2.2.1):=zAd hc k 3 (by decide) hlt _ rfl
  have c4:wr.cell? ⟨b,off+k*8+4,none⟩=some (.int .i64 (l[k]).2.2.2.2.1):=zAd hc k 4 (by decide) hlt _ rfl
  have c5:wr.cell? ⟨b,off+k*8+5,none⟩=some (.int .i64 (l[k]).2.2.2.2.2.1):=zAd hc k 5 (by decide) hlt _ rfl
  have c6:wr.cell? ⟨b,off+k*8+6,none⟩=some (.bool (l[k]).2.2.2.2.2.2.1):=zAd hc k 6 (by decide) hlt _ rfl
  have c7:wr.cell? ⟨b,off+k*8+7,none⟩=some (.string ⟨(l[k]).2.2.2.2.2.2.2.toArray⟩):=zAd hc k 7 (by decide) hlt _ rfl
  have hdt0:(l[k]).2.2.2.2.2.2.2.length≤1400:=zGc hevp.2.2.2.2.2.2.2
  clear hc hL L
  obtain⟨X,hX⟩:∃X,X=l[k]:=⟨_,rfl⟩
  rw[← hX] at hat hnth hevp hdt0 c0 c1 c2 c3 c4 c5 c6 c7
  clear hX
  obtain⟨id,kd,tk,rf,sp,ty,ud,dt⟩:=X
  have hrf0:=zKv hevp
  have hnid:=hnth.2
  simp only[Ev.id,Ev.kd,Ev.rf,Ev.sp] at hrf0 hnid hat
  simp only at hdt0 c0 c1 c2 c3 c4 c5 c6 c7
  have hrfk:rf≤(k:Int):=by omega
  have hrfn:0≤rf:=hrf0.2
  have hkI:(k:Int)<(l.length:Int):=by omega
  have hk5:(k:Int)≤500:=by omega
  have hkp:(0:Int)≤(k:Int):=by omega
  clear hevp hnth hnid hrf0
  have HB:=hid hb
  have be:Below wr.heap.size wr (wr.alloc (.cells #[.int .i64 id,.int .i64 kd,.int .i64 tk,.int .i64 rf,.int .i64 sp,.int .i64 ty,.bool ud,.string ⟨dt.toArray⟩] 52)):=(Below.refl _ _).alloc (Nat.le_refl _) _
  have HWX:=hid hwx
  have HCQ:=hid hck
  have HAT:=hid hat
  clear hwx hck hat hb
  go_wp2_with fail
  refine(zP7 id kd tk rf sp ty ud dt _).mono ?_
  rintro _ w5 ⟨rfl,b5⟩
  have b05:=zAl be b5
  have hxe:w5.heap[wr.heap.size]?=some (.cells #[.int .i64 id,.int .i64 kd,.int .i64 tk,.int .i64 rf,.int .i64 sp,.int .i64 ty,.bool ud,.string ⟨dt.toArray⟩] 52 (0,0)):=(b5.block _ (gL (heap_alloc_new wr _))).trans (heap_alloc_new wr _)
  cases hmt:zBa (id,kd,tk,rf,sp,ty,ud,dt) with
  | some cm =>
    obtain⟨ck,ci,cu⟩:=cm
    have HMT:=hid hmt
    clear hmt
    rw[show((some (ck,ci,cu):Option Cmd)).isSome=true from rfl,show((some (ck,ci,cu):Option Cmd)).getD (0,0,false)=(ck,ci,cu) from rfl,show cmV (ck,ci,cu)=.agg #[.int .i64 ck,.int .i64 ci,.bool cu] from rfl]
    have b6:Below w5.heap.size w5 (w5.alloc (.cells #[.int .i64 ck,.int .i64 ci,.bool cu] 55)):=(Below.refl _ _).alloc (Nat.le_refl _) _
    have HB6:=hid (HB.out.trans ((zAl b05 b6).mono HB.out.size))
    have b06:=zAl b05 b6
    have hx6:(w5.alloc (.cells #[.int .i64 ck,.int .i64 ci,.bool cu] 55)).heap[w5.heap.size]?=some (.cells #[.int .i64 ck,.int .i64 ci,.bool cu] 55 (0,0)):=heap_alloc_new w5 _
    obtain⟨m0,m1,m2⟩:=cA hx6
    cases want with
    | nil =>
      have HR:=hid (show zBe l=((k:Int),150) by rw[HCK.out,HCQ.out,HAT.out];simp only[HMT.out];rw[if_pos (.inl trivial)])
      clear b5 b05 hxe b6 hx6 b06
      rw[show([]:List Cmd).length=0 from rfl]
      go_wp2_with fail
      go_quiet (fail)
      go_wp2_with fail
      go_ret2
      exact⟨(by rw[HR.out];rfl),HB6.out.trans (zAa _ _ _)⟩
    | cons x r =>
      have hr:r=[]:=List.eq_nil_of_length_eq_zero (by simp only[List.length_cons] at hw1;omega)
      subst hr
      obtain⟨xk,xi,xu⟩:=x
      obtain⟨b1,rfl,hb1,hcv1,n0,n1,n2⟩:=HWX.out _ rfl
      have z0:=(b06.cell (p:=⟨b1,0,none⟩) hb1).trans n0
      have z1:=(b06.cell (p:=⟨b1,1,none⟩) hb1).trans n1
      have z2':=(b06.cell (p:=⟨b1,2,none⟩) hb1).trans n2
      simp only at z0 z1 z2'
      by_cases heq:(xk,xi,xu)=(ck,ci,cu)
      case neg =>
       have HR:=hid (show zBe l=((k:Int),150) by rw[HCK.out,HCQ.out,HAT.out];simp only[HMT.out];rw[if_pos (.inr (by simpa using heq))])
       clear b5 b05 hxe b6 hx6 b06 n0 n1 n2
       rw[show [((xk,xi,xu):Cmd)].length=1 from rfl]
       by_cases q1:xk=ck
       · subst q1
         by_cases q2:xi=ci
         · subst q2
           have q3:(xu==cu)=false:=by simpa using heq
           clear heq
           go_wp2_with fail
           go_quiet (fail)
           go_wp2_with fail
           go_ret2
           exact⟨(by rw[HR.out];rfl),HB6.out.trans (zAa _ _ _)⟩
         · have q3:(xi==ci)=false:=by simpa using q2
           clear heq q2
           go_wp2_with fail
           go_quiet (fail)
           go_wp2_with fail
           go_ret2
           exact⟨(by rw[HR.out];rfl),HB6.out.trans (zAa _ _ _)⟩
       · have q3:(xk==ck)=false:=by simpa using q1
         clear heq q1
         go_wp2_with fail
         go_quiet (fail)
         go_wp2_with fail
         go_ret2
         exact⟨(by rw[HR.out];rfl),HB6.out.trans (zAa _ _ _)⟩
      injection heq with q1 q2
      injection q2 with q2 q3
      subst q1;subst q2;subst q3
      have HN:=hid (show chkG l 0 [] l=chkG l (k+1) [] (l.drop (k+1)) by rw[HCQ.out,HAT.out];simp only[HMT.out];rw[if_neg (by simp)];rfl)
      have hcut:∀wx:World,(Instr.sliceAt 48 (.slice (some ⟨b1,0,none⟩) 1 cv) (some (.int .i64 1)) none none).run Tryz.prog wx=.ok (.slice (if cv=1 then some ⟨b1,0,none⟩ else(some ⟨b1,0,none⟩:Option Addr).map (·.add (1*3))) 0 (cv - 1)) wx:=fun wx=>by
       go_simp
      generalize (if cv=1 then some ⟨b1,0,none⟩ else(some ⟨b1,0,none⟩:Option Addr).map (·.add (1*3)))=a9 at hcut
      generalize cv - 1=c9 at hcut
      clear b5 b05 hxe b6 hx6 b06 n0 n1 n2
      rw[show [((xk,xi,xu):Cmd)].length=1 from rfl]
      go_wp2_with fail
      go_quiet (fail)
      go_wp2_with fail
      go_roundw
      case rel=>exact⟨k+1,[],by omega,by go_num,zHw.nil _ _ _,HN.out,HB6.out.trans (zAa _ _ _)⟩
      case measure=>simp[intOf];omega
  | none =>
    have HMT:=hid hmt
    clear hmt
    rw[show((none:Option Cmd)).isSome=false from rfl,show((none:Option Cmd)).getD (0,0,false)=(0,0,false) from rfl,show cmV (0,0,false)=.agg #[.int .i64 0,.int .i64 0,.bool false] from rfl]
    have b6:Below w5.heap.size w5 (w5.alloc (.cells #[.int .i64 0,.int .i64 0,.bool false] 55)):=(Below.refl _ _).alloc (Nat.le_refl _) _
    have HB6:=hid (HB.out.trans ((zAl b05 b6).mono HB.out.size))
    have b06:=zAl b05 b6
    have hx6:(w5.alloc (.cells #[.int .i64 0,.int .i64 0,.bool false] 55)).heap[w5.heap.size]?=some (.cells #[.int .i64 0,.int .i64 0,.bool false] 55 (0,0)):=heap_alloc_new w5 _
    obtain⟨m0,m1,m2⟩:=cA hx6
    cases want with
    | cons x r =>
      have hr:r=[]:=List.eq_nil_of_length_eq_zero (by simp only[List.length_cons] at hw1;omega)
      subst hr
      obtain⟨xk,xi,xu⟩:=x
      obtain⟨b1,rfl,hb1,hcv1,n0,n1,n2⟩:=HWX.out _ rfl
      have HR:=hid (show zBe l=((k:Int),150) by rw[HCK.out,HCQ.out,HAT.out];simp only[HMT.out];rw[if_pos (by simp)])
      clear b5 b05 hxe b6 hx6 b06 n0 n1 n2
      rw[show [((xk,xi,xu):Cmd)].length=1 from rfl]
      go_wp2_with fail
      go_quiet (fail)
      go_wp2_with fail
      go_ret2
      exact⟨(by rw[HR.out];rfl),HB6.out.trans (zAa _ _ _)⟩
    | nil =>
      have y1:=(b6.cell (p:=⟨wr.heap.size,1,none⟩) (gL hxe)).trans (show w5.cell? ⟨wr.heap.size,1,none⟩=some (.int .i64 kd) by rw[cell_of_row _ _ 1 _ _ (0,0) hxe];rfl)
      have y3:=(b6.cell (p:=⟨wr.heap.size,3,none⟩) (gL hxe)).trans (show w5.cell? ⟨wr.heap.size,3,none⟩=some (.int .i64 rf) by rw[cell_of_row _ _ 3 _ _ (0,0) hxe];rfl)
      rw[show([]:List Cmd).length=0 from rfl]
      by_cases k4:kd=4
      case neg =>
       have e4:(kd==4)=false:=by simpa using k4
       have HN:=hid (show chkG l 0 [] l=chkG l (k+1) [] (l.drop (k+1)) by rw[HCQ.out,HAT.out];simp only[HMT.out];rw[if_neg (by simp),if_neg k4])
       clear b5 b05 hxe b6 hx6 b06 k4
       go_wp2_with fail
       go_quiet (fail)
       go_wp2_with fail
       go_roundw
       case rel=>exact⟨k+1,[],by omega,by go_num,zHw.nil _ _ _,HN.out,HB6.out.trans (zAa _ _ _)⟩
       case measure=>simp[intOf];omega
      subst k4
      obtain⟨R,rfl⟩:∃R:Nat,rf=(R:Int):=⟨rf.toNat,by omega⟩
      have HN:=hid (show chkG l 0 [] l=chkG l (k+1) (zCg (l.take R)).1 (l.drop (k+1)) by rw[HCQ.out,HAT.out];simp only[HMT.out];rw[if_neg (by simp),if_pos trivial,Int.toNat_natCast])
      have hRl:R≤l.length:=by omega
      have hRI:(R:Int)≤(l.length:Int):=by omega
      have hRc:(R:Int)≤(c:Int):=by omega
      have hc0:¬c=0:=by omega
      have hcut:∀wx:World,(Instr.sliceAt 22 (.slice (some ⟨b,off,none⟩) l.length c) none (some (.int .i64 (R:Int))) none).run Tryz.prog wx=.ok (.slice (some ⟨b,off,none⟩) R c) wx:=fun wx=>by
       go_simp
      have HLR:=hid (show(l.take R).length=R by rw[List.length_take,Nat.min_eq_left hRl])
      have HNX:=hid (fun(wx:World) (hb:Below w.heap.size w wx)=>zSt (some ⟨b,off,none⟩) c (l.take R) wx (by rw[HLR.out];exact(HS.out.below hb).take hRl) (HH.out.take R).fit)
      rw[HLR.out] at HNX
      have HT:=hid (fun(wx:World) (n:Nat) (v:Value) (h:zBi wx n v (zCg (l.take R)).1)=>h.want (zK6 _))
      clear b5 b05 hxe b6 hx6 b06
      go_wp2_with fail
      go_quiet (fail)
      go_wp2_with fail
      refine(HNX.out _ (HB6.out.trans (zAa _ _ _))).mono ?_
      rintro _ w8 ⟨v8,rfl,hO8,b8⟩
      have HT8:=hid (HT.out _ _ _ hO8)
      have HB8:=hid ((HB6.out.trans (zAa _ _ _)).trans (b8.mono (HB6.out.trans (zAa _ _ _)).size))
      clear hO8 b8
      go_wp2_with fail
      go_roundw
      case rel=>exact⟨k+1,(zCg (l.take R)).1,by omega,by go_num,HT8.out,HN.out,HB8.out⟩
      case measure=>simp[intOf];omega
end Go.Proofs.YtkedafopdkhnfaaGreat
