/- CONTRACTS: wherryref15: Dones, wants, back. CONTRACT: wherryref15.back. CONTRACT: wherryref15.way. CONTRACTS: wherryref15: Next, commanded, Event. CONTRACT: wherryref15.Check. WALK of PlayChecks. -/
import Derived.Test.YtkedafopdkhnfaaGreatPcA
import Derived.Test.YtkedafopdkhnfaaGreatSnP
import Derived.Test.YtkedafopdkhnfaaGreatPmE
import Derived.Deep.QuietTactic
import Derived.BigQuiet
import Derived.WalkSpells
import Derived.Deep.RegionHeld3
import Derived.Test.YtkedafopdkhnfaaGreatSmS
import Derived.IntWalk
import Derived.Test.YtkedafopdkhnfaaGreatPmN
namespace Go.Proofs.YtkedafopdkhnfaaGreat
set_option maxHeartbeats 64000000
set_option maxRecDepth 100000
open Go.RowKit
set_option linter.unusedVariables false
set_option linter.unusedSimpArgs false
def dnK(l:List Ev)(u:Bool)(k:Nat):List Int:=if u=true then(rdF (prgL l).2 (l.take k)).und else(rdF (prgL l).2 (l.take k)).done
theorem zQd{w:World}{B:Nat}{v:Value}{l:List Int}(h:w.ownsRow B 3 1 v l.length (l.flatMap ivC))(hl:l.length≤17592186043904):Sl w v 1 l.length (l.map iv):=by
 have:=Sl.of_own h (by unfold maxLen;omega)
 rw[zJy] at this;exact this
theorem zPk{l:List Ev}{wc:List Cmd}(h:Cf l wc){k:Nat}(hk:k<l.length)(h7:(l[k]).kd≠7)(u:Bool):dnK l u (k+1)=dnK l u k:=by
 have hr:=zR0 (prgL l).2 (rdF (prgL l).2 (l.take k)) l[k] h7 (zQz h hk)
 rw[← zG6 hk (prgL l).2] at hr
 unfold dnK
 rw[hr.1,hr.2]
theorem zPj{l:List Ev}{wc:List Cmd}(h:Cf l wc){k:Nat}(hk:k<l.length)(h7:(l[k]).kd=7):∃(i:Nat)(x:Ev),i<k∧l[i]?=some x∧(l[k]).rf=(i:Int)+1∧0≤x.sp∧x.sp≤16∧∀u,dnK l u (k+1)=if x.ud=u then dnK l u k ++ [x.sp] else dnK l u k:=by
 obtain⟨i,x,n,hik,hxi,hx6,hrf,hsp,hkn,hnl,hpl,-⟩:=zMr h hk (.inl h7)
 have h16:=(h.hs.prog (fun q=>by subst q;simp at hk)).1
 refine⟨i,x,hik,hxi,by rw[hrf];omega,by omega,by omega,fun u=>?_⟩
 cases hu:x.ud with
 | true =>
   rw[hu] at hpl
   obtain⟨e1,e2⟩:=zVw (prgL l).2 (rdF (prgL l).2 (l.take k)) l[k] h7 (n:Int) hpl
   rw[← zG6 hk (prgL l).2] at e1 e2
   unfold dnK
   rw[e1,e2,hsp]
   cases u <;> simp
 | false =>
   rw[hu] at hpl
   obtain⟨e1,e2⟩:=zVv (prgL l).2 (rdF (prgL l).2 (l.take k)) l[k] h7 n (by simpa using hpl) hkn
   rw[← zG6 hk (prgL l).2] at e1 e2
   unfold dnK
   rw[e1,e2,hsp]
   cases u <;> simp
theorem zKo{l:List Ev}{wc:List Cmd}(h:Cf l wc)(u:Bool):∀k,k≤l.length→(dnK l u k).length≤k
 | 0,_=>by unfold dnK rdF crs0;cases u <;> simp
 | k + 1,hk=>by
   have ih:=zKo h u k (by omega)
   by_cases h7:(l[k]).kd=7
   · obtain⟨i,x,-,-,-,-,-,hx⟩:=zPj h (by omega) h7
     rw[hx u]
     split
     · rw[List.length_append,List.length_singleton];omega
     · omega
   · rw[zPk h (by omega) h7];omega
theorem zG7(a:Option Addr)(c:Nat)(l:List Ev)(w:World)(hs:Sl w (.slice a l.length c) 8 l.length (l.flatMap evc)){wc:List Cmd}(hcf:Cf l wc)(u:Bool) :
 Calls Tryz.prog 25 #[.slice a l.length c,.bool u] w fun e w'=>∃(a':Option Addr)(c':Nat),e=.returned (.slice a' (dnK l u l.length).length c')∧w'.ownsRow w.heap.size 3 1 (.slice a' (dnK l u l.length).length c') (dnK l u l.length).length ((dnK l u l.length).flatMap ivC)∧Below w.heap.size w w':=by
 have hm:l.length≤9223372036854775807:=hs.2.1.1
 have h500:=hcf.hs.short
 have HCF:=hid hcf
 have HS:=hid hs
 have hinfo:(Tryz.prog.info? 3).map (fun i=>(i.zero,i.size,i.bytes))=some (some (.int .i64 0),1,8):=by kernel_rfl
 have hmx:maxLen=9223372036854775807:=rfl
 clear hs hcf
 go_enter Tryz.func25,Tryz.ntmps25
 go_wp2_with fail
 go_loopw [5,6] (fun v0 n0 wr=>∃(k:Nat) (a':Option Addr) (c':Nat),k≤l.length∧n0=.int .i64 (k:Int)∧v0=.slice a' (dnK l u k).length c'∧wr.ownsRow w.heap.size 3 1 (.slice a' (dnK l u k).length c') (dnK l u k).length ((dnK l u k).flatMap ivC)∧Below w.heap.size w wr) (fun _ n0 _=>l.length - (intOf n0).toNat)
 case atStart=>exact⟨0,none,0,Nat.zero_le _,rfl,by cases u <;> rfl,by cases u <;> exact World.ownsRow_nil _ _ _ _,Below.refl _ _⟩
 case round =>
  obtain⟨k,a9,c9,hk,rfl,rfl,hown,hb⟩:=hrel
  by_cases hlt:k<l.length
  case neg =>
   obtain rfl:k=l.length:=by omega
   have HO:=hid hown
   have HB:=hid hb
   clear hown hb
   go_wp2_with fail
   go_ret
   exact⟨a9,c9,rfl,HO.out,HB.out⟩
  have hsr:=HS.out.below hb
  have HEQ:(l[k]).kd=(l[k]).kd:=rfl
  have hrest:=zPk HCF.out hlt (u:=u)
  have hdone:=zPj HCF.out hlt
  have hlen:=zKo HCF.out u k hk
  have hsr2:=hsr
  obtain⟨_,_,a',cap,hv,hcc⟩:=hsr
  rw[Value.slice.injEq] at hv
  obtain⟨rfl,-,rfl⟩:=hv
  obtain⟨b,off,rfl,hblt,hcc⟩:=hcc.resolve_left (by omega)
  have c1:wr.cell? ⟨b,off+k*8+1,none⟩=some (.int .i64 (l[k]).2.1):=zAd hcc k 1 (by decide) hlt _ rfl
  have c3:wr.cell? ⟨b,off+k*8+3,none⟩=some (.int .i64 (l[k]).2.2.2.1):=zAd hcc k 3 (by decide) hlt _ rfl
  obtain⟨X,hX⟩:∃X,X=l[k]:=⟨_,rfl⟩
  rw[← hX] at HEQ hrest hdone c1 c3
  clear hX hcc
  obtain⟨id,kd,tk,rf,sp,ty,ud,dt⟩:=X
  simp only at c1 c3
  have hkI:(k:Int)<(l.length:Int):=by omega
  have hkp:(0:Int)≤(k:Int):=by omega
  have hkm:(k:Int)+1≤9223372036854775807:=by omega
  simp only[Ev.kd,Ev.rf] at hrest hdone
  clear HEQ
  have hk5:(k:Int)≤500:=by omega
  by_cases h7:kd=7
  case neg =>
   have hN:=hid (hrest h7)
   have HO:=hid hown
   have HB:=hid hb
   have q7:(kd==7)=false:=by simpa using h7
   clear hrest hdone hown hb h7 hsr2
   go_wp2_with fail
   go_roundw
   case rel=>first
    | exact⟨k+1,a9,c9,by omega,by go_num,by rw[hN.out],by rw[hN.out];exact HO.out,HB.out⟩
    | ((repeat apply Exists.intro);exact⟨⟨k+1,a9,c9,by omega,by go_num,by rw[hN.out],by rw[hN.out];exact HO.out,HB.out⟩,rfl⟩)
   case measure=>simp[intOf];omega
  subst h7
  obtain⟨i,x,hik,hxi,hrf,hs0,hs16,hdn⟩:=hdone rfl
  have hdn:=hdn u
  clear hrest hdone
  subst hrf
  have hil:i<l.length:=by omega
  obtain⟨_,rfl⟩:=List.getElem?_eq_some_iff.1 hxi
  obtain⟨_,_,a',cap,hv,hc2⟩:=hsr2
  rw[Value.slice.injEq] at hv
  obtain⟨hv1,-,rfl⟩:=hv
  obtain⟨b9,off9,hb9,-,hc2⟩:=hc2.resolve_left (by omega)
  rw[hb9,Option.some.injEq,Addr.mk.injEq] at hv1
  obtain⟨rfl,rfl,-⟩:=hv1
  have x0:wr.cell? ⟨b,off+i*8,none⟩=some (.int .i64 (l[i]).1):=zAd hc2 i 0 (by decide) hil _ rfl
  have x1:wr.cell? ⟨b,off+i*8+1,none⟩=some (.int .i64 (l[i]).2.1):=zAd hc2 i 1 (by decide) hil _ rfl
  have x2:wr.cell? ⟨b,off+i*8+2,none⟩=some (.int .i64 (l[i]).2.2.1):=zAd hc2 i 2 (by decide) hil _ rfl
  have x3:wr.cell? ⟨b,off+i*8+3,none⟩=some (.int .i64 (l[i]).2.2.2.1):=zAd hc2 i 3 (by decide) hil _ rfl
  have x4:wr.cell? ⟨b,off+i*8+4,none⟩=some (.int .i64 (l[i]).2.2.2.2.1):=zAd hc2 i 4 (by decide) hil _ rfl
  have x5:wr.cell? ⟨b,off+i*8+5,none⟩=some (.int .i64 (l[i]).2.2.2.2.2.1):=zAd hc2 i 5 (by decide) hil _ rfl
  have x6:wr.cell? ⟨b,off+i*8+6,none⟩=some (.bool (l[i]).2.2.2.2.2.2.1):=zAd hc2 i 6 (by decide) hil _ rfl
  have x7:wr.cell? ⟨b,off+i*8+7,none⟩=some (.string ⟨(l[i]).2.2.2.2.2.2.2.toArray⟩):=zAd hc2 i 7 (by decide) hil _ rfl
  obtain⟨Y,hY⟩:∃Y,Y=l[i]:=⟨_,rfl⟩
  rw[← hY] at hdn hs0 hs16 x0 x1 x2 x3 x4 x5 x6 x7
  clear hc2 hY hxi hb9
  obtain⟨xi,xk,xt,xr,xs,xy,xu,xd⟩:=Y
  simp only[Ev.ud,Ev.sp] at hdn hs0 hs16
  simp only at x0 x1 x2 x3 x4 x5 x6 x7
  have hi0:(0:Int)≤(i:Int):=by omega
  have hi1:(i:Int)<(l.length:Int):=by omega
  have hi2:(i:Int)+1≤500:=by omega
  have be:Below wr.heap.size wr (wr.alloc (.cells #[.int .i64 xi,.int .i64 xk,.int .i64 xt,.int .i64 xr,.int .i64 xs,.int .i64 xy,.bool xu,.string ⟨xd.toArray⟩] 52)):=(Below.refl _ _).alloc (Nat.le_refl _) _
  have hbe:=hb.trans (be.mono hb.size)
  have hoe:=zAf hown be
  by_cases hu:xu=u
  case neg =>
   have hN:=hid (show dnK l u (k+1)=dnK l u k by rw[hdn,if_neg hu])
   have HO:=hid hoe
   have HB:=hid hbe
   have qu:(xu==u)=false:=by simpa using hu
   clear hdn hown hb be hbe hoe hu
   go_wp2_with fail
   go_roundw
   case rel=>first
    | exact⟨k+1,a9,c9,by omega,by go_num,by rw[hN.out],by rw[hN.out];exact HO.out,HB.out⟩
    | ((repeat apply Exists.intro);exact⟨⟨k+1,a9,c9,by omega,by go_num,by rw[hN.out],by rw[hN.out];exact HO.out,HB.out⟩,rfl⟩)
   case measure=>simp[intOf];omega
  subst hu
  have hA:=hid (show dnK l xu (k+1)=dnK l xu k ++ [xs] by rw[hdn,if_pos rfl])
  have b8:Below (wr.alloc (.cells #[.int .i64 xi,.int .i64 xk,.int .i64 xt,.int .i64 xr,.int .i64 xs,.int .i64 xy,.bool xu,.string ⟨xd.toArray⟩] 52)).heap.size (wr.alloc (.cells #[.int .i64 xi,.int .i64 xk,.int .i64 xt,.int .i64 xr,.int .i64 xs,.int .i64 xy,.bool xu,.string ⟨xd.toArray⟩] 52)) ((wr.alloc (.cells #[.int .i64 xi,.int .i64 xk,.int .i64 xt,.int .i64 xr,.int .i64 xs,.int .i64 xy,.bool xu,.string ⟨xd.toArray⟩] 52)).alloc (.cells #[.int .i64 xs] 3)):=(Below.refl _ _).alloc (Nat.le_refl _) _
  have ho8:=zAf hoe b8
  have HO8:=hid ho8
  have hb8:=hbe.trans (b8.mono hbe.size)
  have hD8:w.heap.size≤((wr.alloc (.cells #[.int .i64 xi,.int .i64 xk,.int .i64 xt,.int .i64 xr,.int .i64 xs,.int .i64 xy,.bool xu,.string ⟨xd.toArray⟩] 52)).alloc (.cells #[.int .i64 xs] 3)).heap.size:=hb8.size
  have HB8:=hid hb8
  have hy:∀(j:Nat) (v:Value),(ivC xs)[j]?=some v→((wr.alloc (.cells #[.int .i64 xi,.int .i64 xk,.int .i64 xt,.int .i64 xr,.int .i64 xs,.int .i64 xy,.bool xu,.string ⟨xd.toArray⟩] 52)).alloc (.cells #[.int .i64 xs] 3)).cell? ⟨wr.heap.size+1,j,none⟩=some v:=by
   intro j v hu
   refine(World.cell?_alloc_at _ _ _ _ (by rw[World.size_alloc])).trans ?_
   rw[← hu]
   exact List.getElem?_toArray
  clear hdn hown hb be hbe hoe b8 hb8
  go_wp2_with (at_builtin;go_must (refine zAs _ rfl _ _ 33 rfl ivC 1 (by decide) zJx zJz w.heap.size 3 (.int .i64 0) 8 Tryz.underlying33 hinfo rfl _ (dnK l xu k).length (dnK l xu k) rfl ho8 (wr.heap.size+1) 1 rfl xs hy (by omega) (by omega) hD8 ?_))
  intro a2 c2 wa hown2 hgrow
  have HF:=hid (show wa.ownsRow w.heap.size 3 1 (.slice a2 (dnK l xu (k+1)).length c2) (dnK l xu (k+1)).length ((dnK l xu (k+1)).flatMap ivC)∧Below w.heap.size w wa from⟨by rw[hA.out,List.length_append,List.length_singleton,List.flatMap_append];exact hown2,HB8.out.grown hgrow hD8 (fun j q=>(HO8.out.lt j q).1)⟩)
  have HL:=hid (show(dnK l xu (k+1)).length=(dnK l xu k).length+1 by rw[hA.out,List.length_append,List.length_singleton])
  clear hown2 hgrow hy hD8 ho8
  go_wp2_with fail
  go_roundw
  case rel=>first
   | exact⟨k+1,a2,c2,by omega,by go_num,by rw[HL.out],HF.out.1,HF.out.2⟩
   | ((repeat apply Exists.intro);exact⟨⟨k+1,a2,c2,by omega,by go_num,by rw[HL.out],HF.out.1,HF.out.2⟩,rfl⟩)
  case measure=>simp[intOf];omega
theorem zPg(l:List St)(nm:List UInt8):cntS l nm≤l.length:=List.length_filter_le _ _
theorem zPh{ss:List St}{k:Nat}(h:k<ss.length)(nm:List UInt8):cntS (ss.take (k+1)) nm=cntS (ss.take k) nm+if(ss[k]).kd=3∧(ss[k]).nm=nm then 1 else 0:=by
 rw[List.take_succ_eq_append_getElem h,zE7]
theorem zOs(ss:List St)(lim:Int)(va:Option Addr)(vc:Nat)(w:World)(hp:Sl w (.slice va ss.length vc) 6 ss.length (ss.flatMap stC))(m:Nat)(hml:m<ss.length)(hsl:ss.length≤16) :
 Calls Tryz.prog 57 #[.agg #[.slice va ss.length vc,.int .i64 lim],.int .i64 (m:Int)] w fun e w'=>e=.returned (.int .i64 ((cntS (ss.take (m+1)) (ss[m]).nm:Nat):Int))∧Below w.heap.size w w':=by
 obtain⟨w0,hw0⟩:∃x,x=w.alloc (.cells #[.slice va ss.length vc,.int .i64 lim] 32):=⟨_,rfl⟩
 have b0:Below w.heap.size w w0:=by rw[hw0];exact(Below.refl _ _).alloc (Nat.le_refl _) _
 have hr0:w0.heap[w.heap.size]?=some (.cells #[.slice va ss.length vc,.int .i64 lim] 32 (0,0)):=by rw[hw0];exact heap_alloc_new w _
 have HS:=hid (hp.below b0)
 have HW:=hid hw0
 have HB0:=hid b0
 have HR0:=hid hr0
 clear hw0 hp b0 hr0
 have hmI:(m:Int)<(ss.length:Int):=by omega
 have hm0:(0:Int)≤(m:Int):=by omega
 have hm1:(m:Int)≤16:=by omega
 generalize hNM:(ss[m]).nm=nm
 have HNM:=hid hNM
 clear hNM
 go_enter Tryz.func57,Tryz.ntmps57
 go_wp2_with fail
 rw[← HW.out]
 go_wp2_with fail
 go_loopw [5,6] (fun h0 n0 wr=>∃k:Nat,k≤m+1∧n0=.int .i64 (k:Int)∧h0=.int .i64 ((cntS (ss.take k) nm:Nat):Int)∧Below w0.heap.size w0 wr) (fun _ n0 _=>m+1 - (intOf n0).toNat)
 case atStart=>exact⟨0,Nat.zero_le _,rfl,rfl,Below.refl _ _⟩
 case round =>
  obtain⟨k,hk,rfl,rfl,hb⟩:=hrel
  by_cases hlt:k≤m
  case neg =>
   obtain rfl:k=m+1:=by omega
   have HB:=hid (HB0.out.trans (hb.mono HB0.out.size))
   clear hb
   have hq:¬(((m+1:Nat):Int)≤(m:Int)):=by omega
   have hq2:¬((m:Int)+1≤(m:Int)):=by omega
   go_wp2_with fail
   go_ret
   exact⟨rfl,HB.out⟩
  have hkl:k<ss.length:=by omega
  have hx:=(hb.block _ (gL HR0.out)).trans HR0.out
  have p0:wr.cell? ⟨w.heap.size,0,none⟩=some (.slice va ss.length vc):=cR hx rfl
  have HEQ:=zPh hkl nm
  have hle:=zPg (ss.take k) nm
  rw[List.length_take,Nat.min_eq_left (by omega)] at hle
  generalize cntS (ss.take k) nm=cn at *
  obtain⟨_,_,a9,cap',hv,hcc⟩:=HS.out.below hb
  rw[Value.slice.injEq] at hv
  obtain⟨rfl,-,rfl⟩:=hv
  obtain⟨sb,off,rfl,hblt,hcc⟩:=hcc.resolve_left (by omega)
  have k0:wr.cell? ⟨sb,off+k*6,none⟩=some (.int .i64 (ss[k]).1):=zAp hcc k 0 (by decide) hkl _ rfl
  have k1:wr.cell? ⟨sb,off+k*6+1,none⟩=some (.string ⟨(ss[k]).2.1.toArray⟩):=zAp hcc k 1 (by decide) hkl _ rfl
  have m1:wr.cell? ⟨sb,off+m*6+1,none⟩=some (.string ⟨nm.toArray⟩):=by
   rw[← HNM.out];exact zAp hcc m 1 (by decide) hml _ rfl
  obtain⟨X,hX⟩:∃X,X=ss[k]:=⟨_,rfl⟩
  rw[← hX] at HEQ k0 k1
  clear hX hcc hx
  obtain⟨kx,nx,ux,tx,yx,wx⟩:=X
  simp only[St.kd,St.nm] at HEQ
  simp only at k0 k1
  have hkI:(k:Int)<(ss.length:Int):=by omega
  have hkM:(k:Int)≤(m:Int):=by omega
  have hkp:(0:Int)≤(k:Int):=by omega
  have hcI:(cn:Int)≤16:=by omega
  have HB:=hid hb
  clear hb
  by_cases h3:kx=3
  case neg =>
   have hN:=hid (show cntS (ss.take (k+1)) nm=cn by rw[HEQ,if_neg (fun q=>h3 q.1)];rfl)
   have q3:(kx==3)=false:=by simpa using h3
   clear HEQ h3
   go_wp2_with fail
   go_quiet (fail)
   go_wp2_with fail
   go_roundw
   case rel=>first
    | exact⟨k+1,by omega,by go_num,by rw[hN.out],HB.out.trans (zAa _ _ _)⟩
    | ((repeat apply Exists.intro);exact⟨⟨k+1,by omega,by go_num,by rw[hN.out],HB.out.trans (zAa _ _ _)⟩,rfl⟩)
   case measure=>simp[intOf];omega
  subst h3
  by_cases hd:nx=nm
  · subst hd
    have hN:=hid (show cntS (ss.take (k+1)) nx=cn+1 by rw[HEQ,if_pos ⟨rfl,rfl⟩])
    clear HEQ
    go_wp2_with fail
    go_quiet (fail)
    go_wp2_with fail
    go_roundw
    case rel=>first
     | exact⟨k+1,by omega,by go_num,by rw[hN.out];go_num,HB.out.trans (zAa _ _ _)⟩
     | ((repeat apply Exists.intro);exact⟨⟨k+1,by omega,by go_num,by rw[hN.out];go_num,HB.out.trans (zAa _ _ _)⟩,rfl⟩)
    case measure=>simp[intOf];omega
  have hN:=hid (show cntS (ss.take (k+1)) nm=cn by rw[HEQ,if_neg (fun q=>hd q.2)];rfl)
  have qd:(nx==nm)=false:=by simpa using hd
  clear HEQ hd
  go_wp2_with fail
  go_quiet (fail)
  go_wp2_with fail
  go_roundw
  case rel=>first
   | exact⟨k+1,by omega,by go_num,by rw[hN.out],HB.out.trans (zAa _ _ _)⟩
   | ((repeat apply Exists.intro);exact⟨⟨k+1,by omega,by go_num,by rw[hN.out],HB.out.trans (zAa _ _ _)⟩,rfl⟩)
  case measure=>simp[intOf];omega
def zTg(cs:List Cmd)(w:World)(e:Ending)(w':World):Prop:=∃v:Value,e=.returned v∧zBi w' w.heap.size v cs∧Below w.heap.size w w'
theorem zGx(l:List Ev):dnK l false l.length=(crsF l).done∧dnK l true l.length=(crsF l).und:=by
 unfold dnK;rw[List.take_length];exact⟨rfl,rfl⟩
theorem zQj(ss:List St)(lim:Int)(va:Option Addr)(vc:Nat)(a:Option Addr)(c:Nat)(l:List Ev)(w:World)(hs:Sl w (.slice a l.length c) 8 l.length (l.flatMap evc))(hp:Sl w (.slice va ss.length vc) 6 ss.length (ss.flatMap stC)){wc:List Cmd}(hcf:Cf l wc)(hl:l≠[])(hss:ss=(prgL l).2) :
 Calls Tryz.prog 55 #[.agg #[.slice va ss.length vc,.int .i64 lim],.slice a l.length c] w (zTg (zB4 ss (crsF l) (crsF l).done.reverse) w):=by
 have hsl:ss.length≤16:=by rw[hss];exact(hcf.hs.prog hl).1
 have h500:=hcf.hs.short
 obtain⟨w0,hw0⟩:∃x,x=w.alloc (.cells #[.slice va ss.length vc,.int .i64 lim] 32):=⟨_,rfl⟩
 have b0:Below w.heap.size w w0:=by rw[hw0];exact(Below.refl _ _).alloc (Nat.le_refl _) _
 have hr0:w0.heap[w.heap.size]?=some (.cells #[.slice va ss.length vc,.int .i64 lim] 32 (0,0)):=by rw[hw0];exact heap_alloc_new w _
 have HS:=hid (fun(w':World) (q:Below w0.heap.size w0 w')=>(hs.below b0).below q)
 have HP:=hid (fun(w':World) (q:Below w0.heap.size w0 w')=>(hp.below b0).below q)
 have SC:=hid (fun(w':World) (q:Below w0.heap.size w0 w')=>by
  have hx:=(q.block _ (gL hr0)).trans hr0
  have p0:w'.cell? ⟨w.heap.size,0,none⟩=some (.slice va ss.length vc):=cR hx rfl
  have p1:w'.cell? ⟨w.heap.size,1,none⟩=some (.int .i64 lim):=cR hx rfl
  exact And.intro p0 p1)
 have HW:=hid hw0
 have HB0:=hid (fun(w':World) (q:Below w0.heap.size w0 w')=>b0.trans (q.mono b0.size))
 have hB0:=b0.size
 have HD0:=hid (zG7 a c l w0 (hs.below b0) hcf false)
 rw[(zGx l).1] at HD0
 have hdl:(crsF l).done.length≤l.length:=by have:=zKo hcf false l.length (Nat.le_refl _);rw[(zGx l).1] at this;exact this
 have HDI:=hid (fun x (hx:x∈(crsF l).done)=>by
  obtain⟨m,e,hm,-⟩:=(hcf.known hl).inv.done_at hx
  rw[← hss] at hm
  exact(⟨m,e,hm⟩:∃m:Nat,x=(m:Int)∧m<ss.length))
 have HU:=hid (fun m:Nat=>((zMu hcf hl).1 m).2)
 generalize crsF l=cr at *
 have HWT:=hid (fun(m:Nat) (w':World) (q:Below w0.heap.size w0 w')=>by
  have:=zLh a c l w' (HS.out w' q) (m:Int) true
  rw[HU.out m] at this
  exact this)
 obtain⟨D,hD⟩:∃D,D=cr.done:=⟨_,rfl⟩
 rw[← hD] at HD0 HDI hdl ⊢
 clear hw0 b0 hr0 hs hp hcf hss hD HU
 go_enter Tryz.func55,Tryz.ntmps55
 go_wp2_with fail
 rw[← HW.out]
 go_wp2_with fail
 refine HD0.out.mono ?_
 rintro _ w2 ⟨da,dc,rfl,hod,b2⟩
 have HSD:=hid (zQd hod (by omega))
 have HB2:=hid b2
 clear hod b2 HD0
 have hDI:(D.length:Int)≤500:=by omega
 have hD0:(0:Int)≤(D.length:Int):=by omega
 go_wp2_with fail
 go_loopw [6] (fun n0 wr=>∃K:Nat,K≤D.length∧n0=.int .i64 ((K:Int) - 1)∧zB4 ss cr D.reverse=zB4 ss cr (D.take K).reverse∧Below w2.heap.size w2 wr) (fun n0 _=>(intOf n0+1).toNat)
 case atStart=>exact⟨D.length,Nat.le_refl _,rfl,by rw[List.take_length],Below.refl _ _⟩
 case round =>
  obtain⟨K,hK,rfl,he,hb⟩:=hrel
  have hb0:=HB2.out.trans (hb.mono HB2.out.size)
  have HB:=hid hb
  obtain⟨p0,p1⟩:=SC.out wr hb0
  cases K with
  | zero =>
    have HE:=hid (show zB4 ss cr D.reverse=[(4,0,false)] by rw[he];rfl)
    have hbw:=HB0.out wr hb0
    rw[show((0:Nat):Int) - 1 = -1 from rfl]
    clear he hb hb0 p0 p1
    have HO:=hid (zBi.one wr w.heap.size (hbw).size 4 0 false)
    have HBX:=hid ((hbw).trans (((Below.refl wr.heap.size wr).alloc (Nat.le_refl _) (.cells #[.int .i64 4,.int .i64 0,.bool false] 55)).mono (hbw).size))
    go_wp2_with fail
    go_ret
    exact⟨_,rfl,(by rw[HE.out];exact HO.out),HBX.out⟩
  | succ k =>
    have hlt:k<D.length:=hK
    rw[show((k+1:Nat):Int) - 1=(k:Int) by omega]
    have HEQ:=zRw ss cr hlt
    rw[← he] at HEQ
    obtain⟨db,dof,rfl,hdb,z0⟩:=zGf (HSD.out.below hb) hlt
    obtain⟨m,hmx,hml⟩:=HDI.out _ (List.getElem_mem hlt)
    obtain⟨x,hx⟩:∃x,x=D[k]:=⟨_,rfl⟩
    rw[← hx] at z0 hmx HEQ
    clear hx
    subst hmx
    rw[Int.toNat_natCast] at HEQ
    have HPX:=HP.out wr hb0
    obtain⟨_,_,a9,cap',hv,hcc⟩:=HPX
    rw[Value.slice.injEq] at hv
    obtain⟨rfl,-,rfl⟩:=hv
    obtain⟨sb,off,rfl,hblt,hcc⟩:=hcc.resolve_left (by omega)
    have k2:wr.cell? ⟨sb,off+m*6+2,none⟩=some (.string ⟨ss[m].2.2.1.toArray⟩):=zAp hcc m 2 (by decide) hml _ rfl
    have hun:zB2 ss ((m:Nat):Int)=ss[m].2.2.1:=by
     unfold zB2
     rw[Int.toNat_natCast,List.getD_eq_getElem?_getD,List.getElem?_eq_getElem hml];rfl
    rw[hun] at HEQ
    generalize ss[m].2.2.1=un at k2 HEQ
    have hm0:(0:Int)≤(m:Int):=by omega
    have hm1:(m:Int)<(ss.length:Int):=by omega
    have hk0:(0:Int)≤(k:Int):=by omega
    have hk1:(k:Int)<(D.length:Int):=by omega
    have HBD:=hid (fun n:Nat=>hb.trans (zAa w2.heap.size wr n))
    have HBD0:=hid (fun n:Nat=>HB2.out.trans ((HBD.out n).mono HB2.out.size))
    clear he hb hb0 hcc hun
    cases un with
    | nil =>
      have HN:=hid (show zB4 ss cr D.reverse=zB4 ss cr (D.take k).reverse by rw[HEQ,if_pos rfl])
      clear HEQ
      go_wp2_with fail
      go_quiet (fail)
      go_wp2_with fail
      go_roundw
      case rel=>first
       | exact⟨k,by omega,rfl,HN.out,HBD.out _⟩
       | ((repeat apply Exists.intro);exact⟨⟨k,by omega,rfl,HN.out,HBD.out _⟩,rfl⟩)
      case measure=>first | (simp[intOf];done) | (simp[intOf];omega)
    | cons u0 ur =>
      rw[if_neg (by simp)] at HEQ
      have HW9:=hid (fun n:Nat=>HWT.out m (wr.drewN n) (HBD0.out n))
      go_wp2_with fail
      go_quiet (fail)
      go_wp2_with fail
      refine(HW9.out _).mono ?_
      rintro _ w6 ⟨rfl,b6⟩
      have z06:=(b6.cell (p:=⟨db,dof+k,none⟩) hdb).trans z0
      have HB6:=hid ((HBD.out _).trans (b6.mono (HBD.out _).size))
      have HB60:=hid ((HBD0.out _).trans (b6.mono (HBD0.out _).size))
      have hbw:=HB0.out w6 HB60.out
      clear HW9 b6 z0 p0 p1 k2
      by_cases hU0:cr.U m=0
      · have HN:=hid (show zB4 ss cr D.reverse=[(1,(m:Int),true)] by rw[HEQ,if_pos hU0])
        rw[hU0]
        clear HEQ
        have HO:=hid (zBi.one w6 w.heap.size (hbw).size 1 (m:Int) true)
        have HBX:=hid ((hbw).trans (((Below.refl w6.heap.size w6).alloc (Nat.le_refl _) (.cells #[.int .i64 1,.int .i64 (m:Int),.bool true] 55)).mono (hbw).size))
        go_wp2_with fail
        go_ret
        exact⟨_,rfl,(by rw[HN.out];exact HO.out),HBX.out⟩
      rw[if_neg hU0] at HEQ
      have q0:(cr.U m==0)=false:=by simpa using hU0
      by_cases hU1:cr.U m=1
      · have HN:=hid (show zB4 ss cr D.reverse=[] by rw[HEQ,if_pos hU1])
        have HBW:=hid hbw
        clear HEQ q0 hU0
        rw[hU1]
        clear hbw
        go_wp2_with fail
        go_ret
        exact⟨_,rfl,(by rw[HN.out];exact zBi.nil _ _),HBW.out⟩
      rw[if_neg hU1] at HEQ
      have q1:(cr.U m==1)=false:=by simpa using hU1
      by_cases hU3:cr.U m=3
      · have HN:=hid (show zB4 ss cr D.reverse=[(5,0,false)] by rw[HEQ,if_pos hU3])
        clear HEQ q0 q1 hU0 hU1
        rw[hU3]
        have HO:=hid (zBi.one w6 w.heap.size (hbw).size 5 0 false)
        have HBX:=hid ((hbw).trans (((Below.refl w6.heap.size w6).alloc (Nat.le_refl _) (.cells #[.int .i64 5,.int .i64 0,.bool false] 55)).mono (hbw).size))
        go_wp2_with fail
        go_ret
        exact⟨_,rfl,(by rw[HN.out];exact HO.out),HBX.out⟩
      rw[if_neg hU3] at HEQ
      have q3:(cr.U m==3)=false:=by simpa using hU3
      have HN:=hid HEQ
      generalize cr.U m=um at *
      clear HEQ hU0 hU1 hU3 hbw
      go_wp2_with fail
      go_roundw
      case rel=>first
       | exact⟨k,by omega,rfl,HN.out,HB6.out⟩
       | ((repeat apply Exists.intro);exact⟨⟨k,by omega,rfl,HN.out,HB6.out⟩,rfl⟩)
      case measure=>first | (simp[intOf];done) | (simp[intOf];omega)
theorem zK5{ss:List St}{c:Crs}(h:zC9 c=true):zC6 ss c=zB4 ss c c.done.reverse:=by
 unfold zC6 fwdF;rw[if_pos h];rfl
theorem zN8{ss:List St}{c:Crs}(h:zC9 c=false):fwdF ss c=fwdG c 0 (ss.drop 0) (sigU ss 0):=by
 unfold fwdF;rw[if_neg (by rw[h];decide),zQt];rfl
theorem zFl{ss:List St}{c:Crs}{x:List Cmd}(h:fwdF ss c=(x,true)):zC6 ss c=zB4 ss c c.done.reverse:=by
 unfold zC6;rw[h];rfl
theorem zEi{ss:List St}{c:Crs}{x:List Cmd}(h:fwdF ss c=(x,false)):zC6 ss c=x:=by
 unfold zC6;rw[h];rfl
theorem zS5(ss:List St)(lim:Int)(va:Option Addr)(vc:Nat)(a:Option Addr)(c:Nat)(l:List Ev)(w:World)(hs:Sl w (.slice a l.length c) 8 l.length (l.flatMap evc))(hp:Sl w (.slice va ss.length vc) 6 ss.length (ss.flatMap stC)){wc:List Cmd}(hcf:Cf l wc)(hl:l≠[])(hss:ss=(prgL l).2) :
 Calls Tryz.prog 34 #[.agg #[.slice va ss.length vc,.int .i64 lim],.slice a l.length c] w (zTg (zC6 ss (crsF l)) w):=by
 have hsl:ss.length≤16:=by rw[hss];exact(hcf.hs.prog hl).1
 have h500:=hcf.hs.short
 obtain⟨w0,hw0⟩:∃x,x=w.alloc (.cells #[.slice va ss.length vc,.int .i64 lim] 32):=⟨_,rfl⟩
 have b0:Below w.heap.size w w0:=by rw[hw0];exact(Below.refl _ _).alloc (Nat.le_refl _) _
 have hr0:w0.heap[w.heap.size]?=some (.cells #[.slice va ss.length vc,.int .i64 lim] 32 (0,0)):=by rw[hw0];exact heap_alloc_new w _
 have HS:=hid (fun(w':World) (q:Below w0.heap.size w0 w')=>(hs.below b0).below q)
 have HP:=hid (fun(w':World) (q:Below w0.heap.size w0 w')=>(hp.below b0).below q)
 have SC:=hid (fun(w':World) (q:Below w0.heap.size w0 w')=>by
  have hx:=(q.block _ (gL hr0)).trans hr0
  have p0:w'.cell? ⟨w.heap.size,0,none⟩=some (.slice va ss.length vc):=cR hx rfl
  have p1:w'.cell? ⟨w.heap.size,1,none⟩=some (.int .i64 lim):=cR hx rfl
  exact And.intro p0 p1)
 have HW:=hid hw0
 have HB0:=hid (fun(w':World) (q:Below w0.heap.size w0 w')=>b0.trans (q.mono b0.size))
 have hB0:=b0.size
 have HBK:=hid (fun(w':World) (q:Below w0.heap.size w0 w')=>zQj ss lim va vc a c l w' (HS.out w' q) (HP.out w' q) hcf hl hss)
 have HTU:=hid (zTe hcf hl)
 have HST:=hid (fun(w':World) (q:Below w0.heap.size w0 w')=>by
  have:=zJd a c l w' (HS.out w' q)
  rw[zNq] at this
  exact this)
 have HWT:=hid (fun(m:Nat) (w':World) (q:Below w0.heap.size w0 w')=>by
  have:=zLh a c l w' (HS.out w' q) (m:Int) false
  rw[((zMu hcf hl).1 m).1] at this
  exact this)
 have HCO:=hid (fun(nm:List UInt8) (w':World) (q:Below w0.heap.size w0 w')=>by
  have:=zQk a c l w' (HS.out w' q) nm
  rw[zPi] at this
  exact this)
 have HCB:=hid (fun nm=>(show 0≤(crsF l).sig nm∧(crsF l).sig nm≤500 by rw[← zPi];have:=zM3 l nm;omega))
 have HWV:=hid (hcf.known hl).inv.val
 generalize crsF l=cr at *
 have HS0:=hid (hs.below b0)
 clear hw0 b0 hr0 hs hp hcf hss
 go_enter Tryz.func34,Tryz.ntmps34
 go_wp2_with fail
 rw[← HW.out]
 go_wp2_with fail
 go_loopw [5] (fun n0 wr=>∃k:Nat,k≤l.length∧n0=.int .i64 (k:Int)∧zFg l=zFg (l.drop k)∧wr=w0) (fun n0 _=>l.length - (intOf n0).toNat)
 case atStart=>exact⟨0,Nat.zero_le _,rfl,rfl,rfl⟩
 case round =>
  obtain⟨k,hk,rfl,he,rfl⟩:=hrel
  rename World=>W0
  by_cases hlt:k<l.length
  case pos =>
   have HEQ:zFg l=(decide ((l[k]).kd=6∧(l[k]).ud=true)||zFg (l.drop (k+1))):=by
    rw[he,List.drop_eq_getElem_cons hlt];rfl
   obtain⟨_,_,a',cap,hv,hcc⟩:=HS0.out
   rw[Value.slice.injEq] at hv
   obtain⟨rfl,-,rfl⟩:=hv
   obtain⟨b,off,rfl,hblt,hcc⟩:=hcc.resolve_left (by omega)
   have c1:W0.cell? ⟨b,off+k*8+1,none⟩=some (.int .i64 (l[k]).2.1):=zAd hcc k 1 (by decide) hlt _ rfl
   have c6:W0.cell? ⟨b,off+k*8+6,none⟩=some (.bool (l[k]).2.2.2.2.2.2.1):=zAd hcc k 6 (by decide) hlt _ rfl
   obtain⟨X,hX⟩:∃X,X=l[k]:=⟨_,rfl⟩
   rw[← hX] at HEQ c1 c6
   clear hX hcc
   obtain⟨id,kd,tk,rf,sp,ty,ud,dt⟩:=X
   simp only at c1 c6
   have hkI:(k:Int)<(l.length:Int):=by omega
   have hkp:(0:Int)≤(k:Int):=by omega
   have hkm:(k:Int)+1≤9223372036854775807:=by omega
   simp only[Ev.kd,Ev.ud] at HEQ
   by_cases h6:kd=6
   · subst h6
     cases ud with
     | true =>
       have hT:=hid (zK5 (ss:=ss) (c:=cr) (by rw[← HTU.out,HEQ];simp))
       have hbb:Below W0.heap.size W0 W0:=Below.refl _ _
       clear HEQ he
       obtain⟨r0,r1⟩:=SC.out W0 hbb
       have HBC:=hid (HBK.out W0 hbb)
       have HBW:=hid (HB0.out W0 hbb)
       go_wp2_with fail
       refine HBC.out.mono ?_
       rintro _ w9 ⟨v9,rfl,ho9,b9⟩
       obtain⟨a9,c9,rfl,ho9⟩:=ho9
       have HO9:=hid (show zBi w9 w.heap.size (.slice a9 (zB4 ss cr cr.done.reverse).length c9) (zB4 ss cr cr.done.reverse) from⟨a9,c9,rfl,zAw ho9 HBW.out.size⟩)
       have HBX:=hid (HBW.out.trans (b9.mono HBW.out.size))
       clear ho9 b9 HBC r0 r1
       go_wp2_with fail
       go_ret
       exact⟨_,rfl,(by rw[hT.out];exact HO9.out),HBX.out⟩
     | false =>
       have hN:=hid (show zFg l=zFg (l.drop (k+1)) by rw[HEQ];simp)
       clear HEQ he
       go_wp2_with fail
       go_roundw
       case rel=>first
        | exact⟨k+1,by omega,by go_num,hN.out,rfl⟩
        | exact⟨k+1,by omega,by go_num,hN.out,trivial⟩
        | ((repeat apply Exists.intro);exact⟨⟨k+1,by omega,by go_num,hN.out,rfl⟩,rfl⟩)
       case measure=>simp[intOf];omega
   · have q6:(kd==6)=false:=by simpa using h6
     have hN:=hid (show zFg l=zFg (l.drop (k+1)) by rw[HEQ,decide_eq_false (fun q=>h6 q.1)];rfl)
     clear HEQ he h6
     go_wp2_with fail
     go_roundw
     case rel=>first
      | exact⟨k+1,by omega,by go_num,hN.out,rfl⟩
      | exact⟨k+1,by omega,by go_num,hN.out,trivial⟩
      | ((repeat apply Exists.intro);exact⟨⟨k+1,by omega,by go_num,hN.out,rfl⟩,rfl⟩)
     case measure=>simp[intOf];omega
  obtain rfl:k=l.length:=by omega
  rw[List.drop_of_length_le (Nat.le_refl _)] at he
  have HF0:=hid (zN8 (ss:=ss) (c:=cr) (by rw[← HTU.out,he];rfl))
  have HS1:=hid (HST.out W0 (Below.refl _ _))
  obtain⟨p0,p1⟩:=SC.out W0 (Below.refl _ _)
  clear he
  go_wp2_with fail
  refine HS1.out.mono ?_
  rintro _ w7 ⟨rfl,hw7⟩
  rw[hw7]
  clear p0 p1 hw7 w7
  obtain⟨sp,hsp⟩:∃s,cr.stop=s:=⟨_,rfl⟩
  rw[hsp]
  have HSP:=hid hsp
  clear hsp
  go_wp2_with fail
  go_loopw [7] (fun n0 wr=>∃k:Nat,k≤ss.length∧n0=.int .i64 (k:Int)∧fwdF ss cr=fwdG cr k (ss.drop k) (sigU ss k)∧Below W0.heap.size W0 wr) (fun n0 _=>ss.length - (intOf n0).toNat)
  case atStart=>exact⟨0,Nat.zero_le _,rfl,HF0.out,Below.refl _ _⟩
  case round =>
   clear HF0 HS1
   obtain⟨k,hk,rfl,he,hb⟩:=hrel
   obtain⟨p0,p1⟩:=SC.out wr hb
   have HB:=hid hb
   have hbw:=HB0.out wr hb
   by_cases hlt:k<ss.length
   case neg =>
    obtain rfl:k=ss.length:=by omega
    have hT:=hid (zEi (he.trans (zSf ss cr)))
    clear he hb
    have HO:=hid (zBi.one wr w.heap.size (hbw).size 3 0 false)
    have HBX:=hid ((hbw).trans (((Below.refl wr.heap.size wr).alloc (Nat.le_refl _) (.cells #[.int .i64 3,.int .i64 0,.bool false] 55)).mono (hbw).size))
    go_wp2_with fail
    go_ret
    exact⟨_,rfl,(by rw[hT.out];exact HO.out),HBX.out⟩
   have HEQ:=zUd ss cr hlt
   rw[← he] at HEQ
   have HPX:=HP.out wr hb
   obtain⟨_,_,a9,cap',hv,hcc⟩:=HPX
   rw[Value.slice.injEq] at hv
   obtain⟨rfl,-,rfl⟩:=hv
   obtain⟨sb,off,rfl,hblt,hcc⟩:=hcc.resolve_left (by omega)
   have k0:wr.cell? ⟨sb,off+k*6,none⟩=some (.int .i64 (ss[k]).1):=zAp hcc k 0 (by decide) hlt _ rfl
   have k1:wr.cell? ⟨sb,off+k*6+1,none⟩=some (.string ⟨(ss[k]).2.1.toArray⟩):=zAp hcc k 1 (by decide) hlt _ rfl
   have k2:wr.cell? ⟨sb,off+k*6+2,none⟩=some (.string ⟨(ss[k]).2.2.1.toArray⟩):=zAp hcc k 2 (by decide) hlt _ rfl
   have k3:wr.cell? ⟨sb,off+k*6+3,none⟩=some (.int .i64 (ss[k]).2.2.2.1):=zAp hcc k 3 (by decide) hlt _ rfl
   have k4:wr.cell? ⟨sb,off+k*6+4,none⟩=some (.int .i64 (ss[k]).2.2.2.2.1):=zAp hcc k 4 (by decide) hlt _ rfl
   have k5:wr.cell? ⟨sb,off+k*6+5,none⟩=some (.int .i64 (ss[k]).2.2.2.2.2):=zAp hcc k 5 (by decide) hlt _ rfl
   have HWA:=hid (fun(w':World) (q:Below W0.heap.size W0 w')=>zOs ss lim (some ⟨sb,off,none⟩) vc w' (HP.out w' q) k hlt hsl)
   obtain⟨X,hX⟩:∃X,X=ss[k]:=⟨_,rfl⟩
   rw[← hX] at HEQ HWA k0 k1 k2 k3 k4 k5
   clear hX hcc
   obtain⟨kx,nx,ux,tx,yx,vx⟩:=X
   simp only[St.kd,St.nm] at HEQ HWA
   simp only at k0 k1 k2 k3 k4 k5
   have hkI:(k:Int)<(ss.length:Int):=by omega
   have hkp:(0:Int)≤(k:Int):=by omega
   have hk16:(k:Int)≤16:=by omega
   obtain⟨we,hwe⟩:∃x,x=(wr.alloc (.cells #[.int .i64 kx,.string ⟨nx.toArray⟩,.string ⟨ux.toArray⟩,.int .i64 tx,.int .i64 yx,.int .i64 vx] 77)):=⟨_,rfl⟩
   have be:Below wr.heap.size wr we:=by rw[hwe];exact(Below.refl _ _).alloc (Nat.le_refl _) _
   have hxe:we.heap[wr.heap.size]?=some (.cells #[.int .i64 kx,.string ⟨nx.toArray⟩,.string ⟨ux.toArray⟩,.int .i64 tx,.int .i64 yx,.int .i64 vx] 77 (0,0)):=by rw[hwe];exact heap_alloc_new wr _
   obtain⟨y0,y1,-⟩:=cA hxe
   have hel:wr.heap.size<we.heap.size:=(gL hxe)
   have hbe:=hb.trans (be.mono hb.size)
   obtain⟨e0,e1⟩:=SC.out we hbe
   have HWE:=hid hwe
   have HBE:=hid hbe
   have hbew:=HB0.out we hbe
   clear hwe be hxe he hb hbw
   by_cases h3:kx=3
   case pos =>
    subst h3
    rw[if_pos rfl] at HEQ
    obtain⟨c1,c2⟩:=HCB.out nx
    have hcl:cntS (ss.take (k+1)) nx≤16:=by
     have:=zPg (ss.take (k+1)) nx
     rw[List.length_take] at this;omega
    generalize cntS (ss.take (k+1)) nx=cn at *
    have HCN:=hid (HCO.out nx)
    have hbd:Below we.heap.size we (we.drewN 1):=zAa _ _ _
    have SD:=hid (fun(w':World) (q:Below we.heap.size we w')=>(⟨q,(SC.out w' (HBE.out.trans (q.mono HBE.out.size))).1,(SC.out w' (HBE.out.trans (q.mono HBE.out.size))).2,(q.cell (p:=⟨wr.heap.size,1,none⟩) hel).trans y1⟩:Below we.heap.size we w'∧w'.cell? ⟨w.heap.size,0,none⟩=some (.slice (some ⟨sb,off,none⟩) ss.length vc)∧w'.cell? ⟨w.heap.size,1,none⟩=some (.int .i64 lim)∧w'.cell? ⟨wr.heap.size,1,none⟩=some (.string ⟨nx.toArray⟩)))
    have UP:=hid (fun(w':World) (q:Below we.heap.size we w')=>HBE.out.trans (q.mono HBE.out.size))
    go_upto_region 11 with (fail)
    rw[← HWE.out]
    go_wp2_with fail
    go_region_held3 (fun w':World=>Below we.heap.size we w'∧w'.cell? ⟨w.heap.size,0,none⟩=some (.slice (some ⟨sb,off,none⟩) ss.length vc)∧w'.cell? ⟨w.heap.size,1,none⟩=some (.int .i64 lim)∧w'.cell? ⟨wr.heap.size,1,none⟩=some (.string ⟨nx.toArray⟩)) (first | with_reducible exact SD.out _ hbq | exact SD.out _ hbd) (first
     | ((go_at_call 56;refine(HCN.out _ (UP.out _ hbd)).mono ?_;rintro _ w8 ⟨rfl,hw8⟩;rw[hw8];clear hw8 w8))
     | ((go_at_call 57;refine(HWA.out _ (UP.out _ hbd)).mono ?_;rintro _ wq ⟨rfl,bq⟩;have hbq:=hbd.trans (bq.mono hbd.size))))
    have hbqw:=HBE.out.trans (hbq.mono HBE.out.size)
    clear y0 y1 e0 e1 hbd bq HCN SD UP HWA
    obtain⟨sg,hsg⟩:∃s,cr.sig nx=s:=⟨_,rfl⟩
    rw[hsg] at HEQ c1 c2 ⊢
    clear hsg
    rw[HSP.out] at HEQ
    by_cases hsi:sg<(cn:Int)
    · rw[if_pos hsi] at HEQ
      cases sp with
      | true =>
        have hT:=hid (zFl HEQ)
        clear HEQ
        obtain⟨r0,r1⟩:=SC.out wq hbqw
        have HBC:=hid (HBK.out wq hbqw)
        have HBW:=hid (HB0.out wq hbqw)
        go_wp2_with fail
        refine HBC.out.mono ?_
        rintro _ w9 ⟨v9,rfl,ho9,b9⟩
        obtain⟨a9,c9,rfl,ho9⟩:=ho9
        have HO9:=hid (show zBi w9 w.heap.size (.slice a9 (zB4 ss cr cr.done.reverse).length c9) (zB4 ss cr cr.done.reverse) from⟨a9,c9,rfl,zAw ho9 HBW.out.size⟩)
        have HBX:=hid (HBW.out.trans (b9.mono HBW.out.size))
        clear ho9 b9 HBC r0 r1
        go_wp2_with fail
        go_ret
        exact⟨_,rfl,(by rw[hT.out];exact HO9.out),HBX.out⟩
      | false =>
        have hT:=hid (zEi HEQ)
        have hqw:=HB0.out wq hbqw
        clear HEQ
        have HBX:=hid (hqw)
        go_wp2_with fail
        go_ret
        exact⟨_,rfl,(by rw[hT.out];exact zBi.nil _ _),HBX.out⟩
    · rw[if_neg hsi] at HEQ
      have hN:=hid HEQ
      have HBQ:=hid hbqw
      have hsi2:(cn:Int)≤sg:=by omega
      clear HEQ hbqw hbq hsi
      go_wp2_with fail
      go_roundw
      case rel=>first
       | exact⟨k+1,by omega,by go_num,hN.out,HBQ.out⟩
       | ((repeat apply Exists.intro);exact⟨⟨k+1,by omega,by go_num,hN.out,HBQ.out⟩,rfl⟩)
      case measure=>simp[intOf];omega
   have q3:(kx==3)=false:=by simpa using h3
   rw[if_neg h3] at HEQ
   have HW9:=hid (HWT.out k we HBE.out)
   go_upto_region 11 with (fail)
   rw[← HWE.out]
   go_wp2_with fail
   refine HW9.out.mono ?_
   rintro _ w6 ⟨rfl,b6⟩
   have y06:=(b6.cell (p:=⟨wr.heap.size,0,none⟩) hel).trans y0
   have hb6:=HBE.out.trans (b6.mono HBE.out.size)
   have hw6:=HB0.out w6 hb6
   have HB6:=hid hb6
   have HV:=HWV.out k
   obtain⟨wk,hwk⟩:∃s,cr.W k=s:=⟨_,rfl⟩
   rw[hwk] at HEQ HV ⊢
   rw[HSP.out] at HEQ
   clear hwk y0 y1 e0 e1 b6 HW9 HWA k0 k1 k2 k3 k4 k5 p0 p1
   rcases HV with rfl | rfl | rfl | rfl
   · rw [if_neg (fun q=>absurd q.2 (by decide)),if_neg (by decide),if_neg (by decide),if_neg (by decide)] at HEQ
     cases sp with
     | true =>
       rw[if_pos rfl] at HEQ
       have hT:=hid (zFl HEQ)
       clear HEQ
       obtain⟨r0,r1⟩:=SC.out w6 hb6
       have HBC:=hid (HBK.out w6 hb6)
       have HBW:=hid (HB0.out w6 hb6)
       go_wp2_with fail
       refine HBC.out.mono ?_
       rintro _ w9 ⟨v9,rfl,ho9,b9⟩
       obtain⟨a9,c9,rfl,ho9⟩:=ho9
       have HO9:=hid (show zBi w9 w.heap.size (.slice a9 (zB4 ss cr cr.done.reverse).length c9) (zB4 ss cr cr.done.reverse) from⟨a9,c9,rfl,zAw ho9 HBW.out.size⟩)
       have HBX:=hid (HBW.out.trans (b9.mono HBW.out.size))
       clear ho9 b9 HBC r0 r1
       go_wp2_with fail
       go_ret
       exact⟨_,rfl,(by rw[hT.out];exact HO9.out),HBX.out⟩
     | false =>
       rw[if_neg (by decide)] at HEQ
       by_cases h2:kx=2
       · rw[if_pos h2] at HEQ
         subst h2
         have hT:=hid (zEi HEQ)
         clear HEQ
         have HO:=hid (zBi.one w6 w.heap.size (hw6).size 2 (k:Int) false)
         have HBX:=hid ((hw6).trans (((Below.refl w6.heap.size w6).alloc (Nat.le_refl _) (.cells #[.int .i64 2,.int .i64 (k:Int),.bool false] 55)).mono (hw6).size))
         go_wp2_with fail
         go_ret
         exact⟨_,rfl,(by rw[hT.out];exact HO.out),HBX.out⟩
       · rw[if_neg h2] at HEQ
         have q2:(kx==2)=false:=by simpa using h2
         have hT:=hid (zEi HEQ)
         clear HEQ h2
         have HO:=hid (zBi.one w6 w.heap.size (hw6).size 1 (k:Int) false)
         have HBX:=hid ((hw6).trans (((Below.refl w6.heap.size w6).alloc (Nat.le_refl _) (.cells #[.int .i64 1,.int .i64 (k:Int),.bool false] 55)).mono (hw6).size))
         go_wp2_with fail
         go_ret
         exact⟨_,rfl,(by rw[hT.out];exact HO.out),HBX.out⟩
   · cases sp with
     | true =>
       by_cases h2:kx=2
       · subst h2
         rw[if_pos ⟨rfl,rfl⟩] at HEQ
         have hT:=hid (zFl HEQ)
         clear HEQ
         obtain⟨r0,r1⟩:=SC.out w6 hb6
         have HBC:=hid (HBK.out w6 hb6)
         have HBW:=hid (HB0.out w6 hb6)
         go_wp2_with fail
         refine HBC.out.mono ?_
         rintro _ w9 ⟨v9,rfl,ho9,b9⟩
         obtain⟨a9,c9,rfl,ho9⟩:=ho9
         have HO9:=hid (show zBi w9 w.heap.size (.slice a9 (zB4 ss cr cr.done.reverse).length c9) (zB4 ss cr cr.done.reverse) from⟨a9,c9,rfl,zAw ho9 HBW.out.size⟩)
         have HBX:=hid (HBW.out.trans (b9.mono HBW.out.size))
         clear ho9 b9 HBC r0 r1
         go_wp2_with fail
         go_ret
         exact⟨_,rfl,(by rw[hT.out];exact HO9.out),HBX.out⟩
       · rw[if_neg (fun q=>h2 q.1),if_pos rfl] at HEQ
         have q2:(kx==2)=false:=by simpa using h2
         have hT:=hid (zEi HEQ)
         clear HEQ h2
         have HBX:=hid (hw6)
         go_wp2_with fail
         go_ret
         exact⟨_,rfl,(by rw[hT.out];exact zBi.nil _ _),HBX.out⟩
     | false =>
       have HE2:fwdF ss cr=([],false):=by
        rw[HEQ]
        split
        · rfl
        · rw[if_pos rfl]
       have hT:=hid (zEi HE2)
       clear HEQ HE2
       have HBX:=hid (hw6)
       go_wp2_with fail
       go_ret
       exact⟨_,rfl,(by rw[hT.out];exact zBi.nil _ _),HBX.out⟩
   · rw[if_neg (fun q=>absurd q.2 (by decide)),if_neg (by decide),if_neg (by decide),if_pos rfl] at HEQ
     have hN:=hid HEQ
     clear HEQ
     go_wp2_with fail
     go_roundw
     case rel=>first
      | exact⟨k+1,by omega,by go_num,hN.out,HB6.out⟩
      | ((repeat apply Exists.intro);exact⟨⟨k+1,by omega,by go_num,hN.out,HB6.out⟩,rfl⟩)
     case measure=>simp[intOf];omega
   · rw[if_neg (fun q=>absurd q.2 (by decide)),if_neg (by decide),if_pos rfl] at HEQ
     have hT:=hid (zFl HEQ)
     clear HEQ
     obtain⟨r0,r1⟩:=SC.out w6 hb6
     have HBC:=hid (HBK.out w6 hb6)
     have HBW:=hid (HB0.out w6 hb6)
     go_wp2_with fail
     refine HBC.out.mono ?_
     rintro _ w9 ⟨v9,rfl,ho9,b9⟩
     obtain⟨a9,c9,rfl,ho9⟩:=ho9
     have HO9:=hid (show zBi w9 w.heap.size (.slice a9 (zB4 ss cr cr.done.reverse).length c9) (zB4 ss cr cr.done.reverse) from⟨a9,c9,rfl,zAw ho9 HBW.out.size⟩)
     have HBX:=hid (HBW.out.trans (b9.mono HBW.out.size))
     clear ho9 b9 HBC r0 r1
     go_wp2_with fail
     go_ret
     exact⟨_,rfl,(by rw[hT.out];exact HO9.out),HBX.out⟩
theorem zOl(ck ci:Int)(cu:Bool)(w:World) :
 Calls Tryz.prog 22 #[.agg #[.int .i64 ck,.int .i64 ci,.bool cu]] w fun e w'=>e=.returned (.agg #[.int .i64 0,.int .i64 (kdC (ck,ci,cu)),.int .i64 0,.int .i64 0,.int .i64 (spC (ck,ci,cu)),.int .i64 0,.bool (udC (ck,ci,cu)),.string ⟨#[]⟩])∧Below w.heap.size w w':=by
 by_cases k1:ck=1
 · subst k1
   have HR:=hid (show kdC (1,ci,cu)=6∧spC (1,ci,cu)=ci∧udC (1,ci,cu)=cu from⟨rfl,rfl,rfl⟩)
   have HB:=hid (((Below.refl w.heap.size w).alloc (Nat.le_refl _) (.cells #[.int .i64 1,.int .i64 ci,.bool cu] 55)).alloc (by rw[World.size_alloc];omega) (.cells #[.int .i64 0,.int .i64 6,.int .i64 0,.int .i64 0,.int .i64 ci,.int .i64 0,.bool cu,.string ⟨#[]⟩] 52))
   go_enter Tryz.func22,Tryz.ntmps22
   go_wp2_with fail
   refine bodyPost_ret (v:=.agg #[.int .i64 0,.int .i64 6,.int .i64 0,.int .i64 0,.int .i64 ci,.int .i64 0,.bool cu,.string ⟨#[]⟩]) ?_ rfl ⟨(by rw[HR.out.1,HR.out.2.1,HR.out.2.2]),HB.out⟩
   rw[zBn rfl]
   go_simp
   try rfl
 by_cases k2:ck=2
 · subst k2
   have HR:=hid (show kdC (2,ci,cu)=10∧spC (2,ci,cu)=ci∧udC (2,ci,cu)=false from⟨rfl,rfl,rfl⟩)
   have HB:=hid (((Below.refl w.heap.size w).alloc (Nat.le_refl _) (.cells #[.int .i64 2,.int .i64 ci,.bool cu] 55)).alloc (by rw[World.size_alloc];omega) (.cells #[.int .i64 0,.int .i64 10,.int .i64 0,.int .i64 0,.int .i64 ci,.int .i64 0,.bool false,.string ⟨#[]⟩] 52))
   go_enter Tryz.func22,Tryz.ntmps22
   go_wp2_with fail
   refine bodyPost_ret (v:=.agg #[.int .i64 0,.int .i64 10,.int .i64 0,.int .i64 0,.int .i64 ci,.int .i64 0,.bool false,.string ⟨#[]⟩]) ?_ rfl ⟨(by rw[HR.out.1,HR.out.2.1,HR.out.2.2]),HB.out⟩
   rw[zBn rfl]
   go_simp
   try rfl
 by_cases k3:ck=3
 · subst k3
   have HR:=hid (show kdC (3,ci,cu)=15∧spC (3,ci,cu)=0∧udC (3,ci,cu)=false from⟨rfl,rfl,rfl⟩)
   have HB:=hid (((Below.refl w.heap.size w).alloc (Nat.le_refl _) (.cells #[.int .i64 3,.int .i64 ci,.bool cu] 55)).alloc (by rw[World.size_alloc];omega) (.cells #[.int .i64 0,.int .i64 15,.int .i64 0,.int .i64 0,.int .i64 0,.int .i64 0,.bool false,.string ⟨#[]⟩] 52))
   go_enter Tryz.func22,Tryz.ntmps22
   go_wp2_with fail
   refine bodyPost_ret (v:=.agg #[.int .i64 0,.int .i64 15,.int .i64 0,.int .i64 0,.int .i64 0,.int .i64 0,.bool false,.string ⟨#[]⟩]) ?_ rfl ⟨(by rw[HR.out.1,HR.out.2.1,HR.out.2.2]),HB.out⟩
   rw[zBn rfl]
   go_simp
   try rfl
 by_cases k4:ck=4
 · subst k4
   have HR:=hid (show kdC (4,ci,cu)=16∧spC (4,ci,cu)=0∧udC (4,ci,cu)=false from⟨rfl,rfl,rfl⟩)
   have HB:=hid (((Below.refl w.heap.size w).alloc (Nat.le_refl _) (.cells #[.int .i64 4,.int .i64 ci,.bool cu] 55)).alloc (by rw[World.size_alloc];omega) (.cells #[.int .i64 0,.int .i64 16,.int .i64 0,.int .i64 0,.int .i64 0,.int .i64 0,.bool false,.string ⟨#[]⟩] 52))
   go_enter Tryz.func22,Tryz.ntmps22
   go_wp2_with fail
   refine bodyPost_ret (v:=.agg #[.int .i64 0,.int .i64 16,.int .i64 0,.int .i64 0,.int .i64 0,.int .i64 0,.bool false,.string ⟨#[]⟩]) ?_ rfl ⟨(by rw[HR.out.1,HR.out.2.1,HR.out.2.2]),HB.out⟩
   rw[zBn rfl]
   go_simp
   try rfl
 have e1:(ck==1)=false:=by simpa using k1
 have e2:(ck==2)=false:=by simpa using k2
 have e3:(ck==3)=false:=by simpa using k3
 have e4:(ck==4)=false:=by simpa using k4
 have HR:=hid (show kdC (ck,ci,cu)=17∧spC (ck,ci,cu)=0∧udC (ck,ci,cu)=false from⟨by unfold kdC;simp[k1,k2,k3,k4],by unfold spC;simp[k1,k2],by unfold udC;simp[k1]⟩)
 clear k1 k2 k3 k4
 have HB:=hid (((Below.refl w.heap.size w).alloc (Nat.le_refl _) (.cells #[.int .i64 ck,.int .i64 ci,.bool cu] 55)).alloc (by rw[World.size_alloc];omega) (.cells #[.int .i64 0,.int .i64 17,.int .i64 0,.int .i64 0,.int .i64 0,.int .i64 0,.bool false,.string ⟨#[]⟩] 52))
 go_enter Tryz.func22,Tryz.ntmps22
 go_wp2_with fail
 refine bodyPost_ret (v:=.agg #[.int .i64 0,.int .i64 17,.int .i64 0,.int .i64 0,.int .i64 0,.int .i64 0,.bool false,.string ⟨#[]⟩]) ?_ rfl ⟨(by rw[HR.out.1,HR.out.2.1,HR.out.2.2]),HB.out⟩
 rw[zBn rfl]
 go_simp
 try rfl
def cmdK(k:Int):Bool:=decide (k=6∨k=10∨k=15∨k=16∨k=17)
theorem zIx(e:Ev):cmdK e.kd=(zBa e).isSome:=by
 unfold cmdK zBa
 split
 · rename_i q;rw[q];rfl
 · split
   · rename_i q;rw[q];rfl
   · split
     · rename_i q;rw[q];rfl
     · split
       · rename_i q;rw[q];rfl
       · split
         · rename_i q;rw[q];rfl
         · rw[decide_eq_false (by omega)];rfl
theorem zD9(k:Int)(w:World) :
 Calls Tryz.prog 21 #[.int .i64 k] w fun e w'=>e=.returned (.bool (cmdK k))∧w'=w:=by
 by_cases h:k=6∨k=10∨k=15∨k=16∨k=17
 · rcases h with rfl | rfl | rfl | rfl | rfl
   all_goals
    go_enter Tryz.func21,Tryz.ntmps21
    go_wp2_with fail
    go_ret
    exact⟨rfl,rfl⟩
 · have HN:=hid (show cmdK k=false from decide_eq_false h)
   have q6:(k==6)=false:=by simpa using fun q=>h (.inl q)
   have q10:(k==10)=false:=by simpa using fun q=>h (.inr (.inl q))
   have q15:(k==15)=false:=by simpa using fun q=>h (.inr (.inr (.inl q)))
   have q16:(k==16)=false:=by simpa using fun q=>h (.inr (.inr (.inr (.inl q))))
   have q17:(k==17)=false:=by simpa using fun q=>h (.inr (.inr (.inr (.inr q))))
   clear h
   go_enter Tryz.func21,Tryz.ntmps21
   go_wp2_with fail
   go_ret
   exact⟨by rw[HN.out];rfl,rfl⟩
def zF6(l:List Ev)(w:World)(e:Ending)(w':World):Prop:=∃v:Value,e=.returned (.tuple #[v,.int .i64 (zCg l).2])∧zBi w' w.heap.size v (zCg l).1∧Below w.heap.size w w'
theorem zQn(a:Option Addr)(c:Nat)(l:List Ev)(w:World)(hs:Sl w (.slice a l.length c) 8 l.length (l.flatMap evc))(hcap:l.length≤c){wc:List Cmd}(hcf:Cf l wc) :
 Calls Tryz.prog 20 #[.slice a l.length c] w (zF6 l w):=by
 have hm:l.length≤9223372036854775807:=hs.2.1.1
 have hH:=hcf.hs
 have HBU:=hid (zI7 a c l w hs hcap hH.fit)
 have hrb:zAm l=(stOf l,0,0):=by unfold zAm;rw[zHh.2 hH]
 have HS:=hid hs
 go_enter Tryz.func20,Tryz.ntmps20
 go_wp2_with fail
 refine HBU.out.mono ?_
 rintro _ w2 ⟨va,ja,ka,vc,jc,kc,rfl,hst,b2⟩
 rw[hrb] at hst ⊢
 simp only at hst ⊢
 have hs2:=HS.out.below b2
 by_cases hl:l=[]
 · subst hl
   have HN:=hid (show zCg []=([],150) by unfold zCg;rw[if_pos (.inr rfl)])
   have HF:=hid (fun(r:Array Value)=>b2.trans (((Below.refl w2.heap.size w2).alloc (Nat.le_refl _) (.cells r 59)).mono b2.size))
   generalize stOf []=S at *
   obtain⟨ss,lim,st0,nx,bg,ak,tn,fr,js,cs,cn,ov⟩:=S
   rw[show staV ⟨ss,lim,st0,nx,bg,ak,tn,fr,js,cs,cn,ov⟩ (.slice va (⟨ss,lim,st0,nx,bg,ak,tn,fr,js,cs,cn,ov⟩:Sta).ss.length vc) (.slice ja (⟨ss,lim,st0,nx,bg,ak,tn,fr,js,cs,cn,ov⟩:Sta).jobs.length jc) (.slice ka (⟨ss,lim,st0,nx,bg,ak,tn,fr,js,cs,cn,ov⟩:Sta).clocks.length kc)=.agg #[.slice va ss.length vc,.int .i64 lim,.int .i64 st0,.int .i64 nx,.int .i64 bg,.int .i64 ak,.int .i64 tn,.bool fr,.slice ja js.length jc,.slice ka cs.length kc,.bool cn,.bool ov] from rfl]
   clear hst hrb HBU HS hs2 b2 hs hH
   go_wp2_with fail
   go_ret2
   exact⟨.slice none 0 0,by rw[HN.out];rfl,by rw[HN.out];exact zBi.nil _ _,HF.out _⟩
 have hq0:((l.length:Int)==0)=false:=by
  rw[beq_eq_false_iff_ne]
  have:=List.length_pos_iff.2 hl
  omega
 have hwy:=hid (fun(w':World) (lim:Int) (va:Option Addr) (vc:Nat) (q:Below w2.heap.size w2 w') (hp:Sl w' (.slice va (prgL l).2.length vc) 6 (prgL l).2.length ((prgL l).2.flatMap stC))=>zS5 (prgL l).2 lim va vc a c l w' (hs2.below q) hp hcf hl rfl)
 have hnx:zCg l=if zAg l≠0 then([],182) else(zC6 (prgL l).2 (crsF l),0):=by
  unfold zCg
  rw[if_neg (by rw[zHh.2 hH];simp[hl])]
 obtain⟨S,hS⟩:∃s,s=stOf l:=⟨_,rfl⟩
 have hS2:=hS.trans (zC5 hl)
 rw[← hS] at hst ⊢
 obtain⟨ss,lim,st0,nx,bg,ak,tn,fr,js,cs,cn,ov⟩:=S
 rw[Sta.mk.injEq] at hS2
 obtain⟨e1,-,e3,-⟩:=hS2
 rw[← e1] at hwy hnx
 rw[← e3] at hnx
 have HNX:=hid hnx
 rw[show staV ⟨ss,lim,st0,nx,bg,ak,tn,fr,js,cs,cn,ov⟩ (.slice va (⟨ss,lim,st0,nx,bg,ak,tn,fr,js,cs,cn,ov⟩:Sta).ss.length vc) (.slice ja (⟨ss,lim,st0,nx,bg,ak,tn,fr,js,cs,cn,ov⟩:Sta).jobs.length jc) (.slice ka (⟨ss,lim,st0,nx,bg,ak,tn,fr,js,cs,cn,ov⟩:Sta).clocks.length kc)=.agg #[.slice va ss.length vc,.int .i64 lim,.int .i64 st0,.int .i64 nx,.int .i64 bg,.int .i64 ak,.int .i64 tn,.bool fr,.slice ja js.length jc,.slice ka cs.length kc,.bool cn,.bool ov] from rfl]
 clear hrb HBU hs hs2 hH hcf hl hnx e1 e3 hS
 generalize crsF l=cr at *
 obtain⟨w3,hw3⟩:∃x,x=(w2.alloc (.cells #[.slice va ss.length vc,.int .i64 lim,.int .i64 st0,.int .i64 nx,.int .i64 bg,.int .i64 ak,.int .i64 tn,.bool fr,.slice ja js.length jc,.slice ka cs.length kc,.bool cn,.bool ov] 59)):=⟨_,rfl⟩
 have b3:Below w2.heap.size w2 w3:=by rw[hw3];exact(Below.refl _ _).alloc (Nat.le_refl _) _
 have hx3:w3.heap[w2.heap.size]?=some (.cells #[.slice va ss.length vc,.int .i64 lim,.int .i64 st0,.int .i64 nx,.int .i64 bg,.int .i64 ak,.int .i64 tn,.bool fr,.slice ja js.length jc,.slice ka cs.length kc,.bool cn,.bool ov] 59 (0,0)):=by rw[hw3];exact heap_alloc_new w2 _
 obtain⟨s0,s1,s2,-⟩:=cA hx3
 have HWY:=hid (hwy.out w3 lim va vc b3 (hst.hs.below b3))
 have HB3:=hid (zAl b2 b3)
 have HW3:=hid hw3
 clear hw3 b3 hx3 hst hwy b2
 go_upto_region 2 with (fail)
 rw[← HW3.out]
 by_cases h0:st0=0
 case neg =>
  have q0:(st0==0)=false:=by simpa using h0
  have q0':(st0 != 0)=true:=by simpa using h0
  have HN:=hid (show zCg l=([],182) by rw[HNX.out,if_pos h0])
  clear h0
  go_wp2_with fail
  go_ret2
  exact⟨.slice none 0 0,by rw[HN.out];rfl,by rw[HN.out];exact zBi.nil _ _,HB3.out⟩
 subst h0
 have HN:=hid (show zCg l=(zC6 ss cr,0) by rw[HNX.out,if_neg (by simp)])
 go_wp2_with fail
 refine HWY.out.mono ?_
 rintro _ w4 ⟨v4,rfl,ho4,b4⟩
 obtain⟨a4,c4,rfl,ho4⟩:=ho4
 have HO:=hid (show zBi w4 w.heap.size (.slice a4 (zC6 ss cr).length c4) (zC6 ss cr) from⟨a4,c4,rfl,zAw ho4 HB3.out.size⟩)
 have HB4:=hid (zAl HB3.out b4)
 clear ho4 b4 HWY
 go_wp2_with fail
 go_ret2
 exact⟨_,by rw[HN.out];rfl,by rw[HN.out];exact HO.out,HB4.out⟩
theorem zMk(a:Option Addr)(c:Nat)(l:List Ev)(w:World)(hs:Sl w (.slice a l.length c) 8 l.length (l.flatMap evc))(hfit:FitE l)(hcap:l.length≤c) :
 Calls Tryz.prog 7 #[.slice a l.length c] w (zKc l w):=by
 have hm:l.length≤9223372036854775807:=hs.2.1.1
 go_enter Tryz.func7,Tryz.ntmps7
 go_wp2_with fail
 refine(zI7 a c l w hs hcap hfit).mono ?_
 rintro _ w2 ⟨va,ua,ca,vc,uc,cc,rfl,hst,b2⟩
 have HBA:=hid (fun(R:Array Value)=>b2.trans (((Below.refl w2.heap.size w2).alloc (Nat.le_refl _) (.cells R 59)).mono b2.size))
 by_cases hf0:(zAm l).2.2=0
 case neg =>
  have hq:((zAm l).2.2==0)=false:=by simpa using hf0
  have hq':((zAm l).2.2 != 0)=true:=by simpa using hf0
  have HN:=hid (zKj hf0)
  clear hf0 hst hs b2
  generalize (zAm l).2.2=e9 at *
  generalize (zAm l).2.1=i9 at *
  generalize (zAm l).1=s9 at *
  rw[stvE]
  go_wp2_with fail
  go_ret2
  exact⟨(by rw[HN.out];rfl),HBA.out _⟩
 obtain⟨hH,hrb⟩:=zQi hf0
 have h500:=hH.short
 rw[hrb] at hst ⊢
 simp only at hst ⊢
 by_cases hl0:l.length=0
 · have hl:l=[]:=List.eq_nil_of_length_eq_zero hl0
   have HN:=hid (show zBe l=(0,120) by rw[hl];rfl)
   have hl1:((l.length:Int)==0)=true:=by simp[hl0]
   clear hf0 hst hs b2 hl hrb hH
   generalize stOf l=s9 at *
   rw[stvE]
   go_wp2_with fail
   go_ret2
   exact⟨(by rw[HN.out];rfl),HBA.out _⟩
 have hl:l≠[]:=fun q=>hl0 (by rw[q];rfl)
 have hl1:((l.length:Int)==0)=false:=by simpa using hl0
 have hlp:(0:Int)<(l.length:Int):=by omega
 have HCK:=hid (zJk hH hl)
 have HH:=hid hH
 have HS:=hid hs
 clear hf0 hst hs b2 hrb hH hl
 generalize stOf l=s9 at *
 rw[stvE]
 go_wp2_with fail
 have HB0:=hid (HBA.out #[.slice va s9.ss.length vc,.int .i64 s9.lim,.int .i64 s9.status,.int .i64 s9.next,.int .i64 s9.began,.int .i64 s9.asked,.int .i64 s9.taken,.bool s9.fresh,.slice ua s9.jobs.length uc,.slice ca s9.clocks.length cc,.bool s9.cancel,.bool s9.overdue])
 clear HBA
 generalize (w2.alloc (.cells #[.slice va s9.ss.length vc,.int .i64 s9.lim,.int .i64 s9.status,.int .i64 s9.next,.int .i64 s9.began,.int .i64 s9.asked,.int .i64 s9.taken,.bool s9.fresh,.slice ua s9.jobs.length uc,.slice ca s9.clocks.length cc,.bool s9.cancel,.bool s9.overdue] 59))=w3 at *
 have HB00:=hid HB0.out
 go_loopw [7] (fun n0 wr=>∃k:Nat,k≤l.length∧n0=.int .i64 (k:Int)∧Cf (l.take k) (zCq l k)∧zBe l=chkG l k (zCq l k) (l.drop k)∧Below w.heap.size w wr) (fun n0 _=>l.length - (intOf n0).toNat)
 case atStart=>exact⟨0,Nat.zero_le _,rfl,by rw[List.take_zero];exact Cf.nil,HCK.out,HB00.out⟩
 case round =>
  clear HB0 HB00 HCK
  obtain⟨k,hk,rfl,hcf,he,hb⟩:=hrel
  have hsr:=HS.out.below hb
  have HNXT:=hid (fun(R:Nat) (hR:R≤k) (w':World) (q:Below wr.heap.size wr w')=>show Calls Tryz.prog 20 #[.slice a R c] w' (zF6 (l.take R) w') from by
   obtain⟨wc,hwc⟩:=hcf.take R
   rw[zHm l hR] at hwc
   have hlr:(l.take R).length=R:=by rw[List.length_take,Nat.min_eq_left (by omega)]
   have:=zQn a c (l.take R) w' (by rw[hlr];exact(hsr.below q).take (by omega)) (by omega) hwc
   rw[hlr] at this
   exact this)
  have HJ:=hid (fun(j:Nat) (hj:j<k)=>(show(l[j]'(by omega)).rf.toNat≤k∧0≤(l[j]'(by omega)).rf from by
   have:=zS3 (HH.out.at (show j<l.length by omega)).2
   rw[List.length_take] at this
   omega))
  obtain⟨_,_,a',cap,hv,hcc⟩:=HS.out.below hb
  rw[Value.slice.injEq] at hv
  obtain⟨rfl,-,rfl⟩:=hv
  obtain⟨b,off,rfl,hblt,hcc⟩:=hcc.resolve_left (by omega)
  have HC1:=hid (fun(j:Nat) (hj:j<l.length)=>(zAd hcc j 1 (by decide) hj _ rfl:wr.cell? ⟨b,off+j*8+1,none⟩=some (.int .i64 (l[j]).2.1)))
  have HC3:=hid (fun(j:Nat) (hj:j<l.length)=>(zAd hcc j 3 (by decide) hj _ rfl:wr.cell? ⟨b,off+j*8+3,none⟩=some (.int .i64 (l[j]).2.2.2.1)))
  have hcI:(l.length:Int)≤(c:Int):=by omega
  have hl5:(l.length:Int)≤500:=by omega
  have HSL:=hid (fun(R:Nat) (hR:R≤l.length) (wx:World)=>show(Instr.sliceAt 22 (.slice (some ⟨b,off,none⟩) l.length c) none (some (.int .i64 (R:Int))) none).run Tryz.prog wx=.ok (.slice (some ⟨b,off,none⟩) R c) wx from by
   have h1:(R:Int)≤(c:Int):=by omega
   have h2:¬((R:Int)<0):=by omega
   have hc0:¬c=0:=by omega
   go_simp)
  have HB:=hid hb
  by_cases hlt:k<l.length
  case neg =>
   obtain rfl:k=l.length:=by omega
   have hE:=hid (he.trans (zT5 l))
   obtain⟨j,hj⟩:∃j,l.length=j+1:=⟨l.length - 1,by omega⟩
   have hjl:j<l.length:=by omega
   have hW:=zEn hjl
   rw[← hj] at hW
   have c1:=HC1.out j hjl
   have c3:=HC3.out j hjl
   obtain⟨r1,r2⟩:=HJ.out j hjl
   obtain⟨kd,hkd⟩:∃x,x=(l[j]).2.1:=⟨_,rfl⟩
   obtain⟨R,hR⟩:∃R:Nat,(R:Int)=(l[j]).2.2.2.1:=⟨(l[j]).2.2.2.1.toNat,by have:(l[j]).rf=(l[j]).2.2.2.1:=rfl;omega⟩
   have hRn:(l[j]).rf.toNat=R:=by have:(l[j]).rf=(l[j]).2.2.2.1:=rfl;omega
   rw[show(l[j]).kd=kd from hkd.symm,hRn] at hW
   rw[hRn] at r1
   rw[← hkd] at c1
   rw[← hR] at c3
   have hj1:(l.length:Int) - 1=(j:Int):=by omega
   have hj0:(0:Int)≤(j:Int):=by omega
   have hjI:(j:Int)<(l.length:Int):=by omega
   have HBW:=hid hb
   clear hkd hR hRn hcf he hb hcc hsr r2 HC1 HC3 HJ hj
   by_cases h4:kd=4
   case neg =>
    rw[if_neg h4] at hW
    have hN:=hid (show zBe l=(0,0) by rw[hE.out,hW];rfl)
    have q4:(kd==4)=false:=by simpa using h4
    clear h4 hW
    go_wp2_with fail
    go_ret2
    exact⟨by rw[hN.out];rfl,HBW.out⟩
   subst h4
   rw[if_pos rfl] at hW
   have HNX:=hid (HNXT.out R r1 wr (Below.refl _ _))
   have hsl:=HSL.out R r1
   unfold zF6 at HNX
   rw[← hW] at HNX
   clear HNXT HSL hW
   go_wp2_with fail
   refine HNX.out.mono ?_
   rintro _ w6 ⟨v6,rfl,ho6,b6⟩
   have hB6:=hid (HBW.out.trans (b6.mono HBW.out.size))
   generalize (zCg (l.take R)).2=n2 at *
   obtain⟨a6,c6,rfl,-⟩:=ho6
   have hwl:=zLr l l.length
   by_cases hw:zCq l l.length=[]
   · have hN:=hid (show zBe l=(0,0) by rw[hE.out,hw];rfl)
     rw[hw]
     clear hwl hw b6 HNX
     rw[show([]:List Cmd).length=0 from rfl]
     go_wp2_with fail
     go_ret2
     exact⟨by rw[hN.out];rfl,hB6.out⟩
   · have hN:=hid (show zBe l=((l.length:Int),150) by rw[hE.out,if_pos hw])
     have h1:(zCq l l.length).length=1:=by
      have:=List.length_pos_iff.2 hw
      omega
     rw[h1]
     clear hwl hw b6 HNX h1
     go_wp2_with fail
     go_ret2
     exact⟨by rw[hN.out];rfl,hB6.out⟩
  have HBAD:=hid (fun(hw:zCq l k=[]) (hq:cmdK (l[k]).kd=true)=>(show zBe l=((k:Int),150) from he.trans (zPd hlt (.inl ⟨hw,by rw[← zIx];exact hq⟩))))
  have HTOLD:=hid (fun(hw:zCq l k=[]) (hq:cmdK (l[k]).kd=false)=>(show Cf (l.take (k+1)) (zCq l (k+1))∧zBe l=chkG l (k+1) (zCq l (k+1)) (l.drop (k+1)) from by
   have hm:zBa l[k]=none:=by
    rw[zIx] at hq
    simpa using hq
   obtain⟨x1,x2⟩:=zRz HH.out hlt hcf hw hm
   exact⟨x1,he.trans x2⟩))
  have HBADC:=hid (fun(cm:Cmd) (hw:zCq l k=[cm]) (hq:¬((l[k]).kd=kdC cm∧(l[k]).sp=spC cm∧(l[k]).ud=udC cm))=>(show zBe l=((k:Int),150) from by
   have hcf':=hcf
   rw[hw] at hcf'
   exact he.trans (zPd hlt (.inr ⟨cm,hw,fun z=>hq ((zK3 (HH.out.nth k _ (List.getElem?_eq_getElem hlt)).1 (zM2 hcf')).1 z)⟩))))
  have HCMD:=hid (fun(cm:Cmd) (hw:zCq l k=[cm]) (hq:(l[k]).kd=kdC cm∧(l[k]).sp=spC cm∧(l[k]).ud=udC cm)=>(show Cf (l.take (k+1)) (zCq l (k+1))∧zBe l=chkG l (k+1) (zCq l (k+1)) (l.drop (k+1)) from by
   have hcf':=hcf
   rw[hw] at hcf'
   obtain⟨x1,x2⟩:=zT4 HH.out hlt hcf hw ((zK3 (HH.out.nth k _ (List.getElem?_eq_getElem hlt)).1 (zM2 hcf')).2 hq)
   exact⟨x1,he.trans x2⟩))
  have c0:wr.cell? ⟨b,off+k*8,none⟩=some (.int .i64 (l[k]).1):=zAd hcc k 0 (by decide) hlt _ rfl
  have c1:wr.cell? ⟨b,off+k*8+1,none⟩=some (.int .i64 (l[k]).2.1):=zAd hcc k 1 (by decide) hlt _ rfl
  have c2:wr.cell? ⟨b,off+k*8+2,none⟩=some (.int .i64 (l[k]).2.2.1):=zAd hcc k 2 (by decide) hlt _ rfl
  have c3:wr.cell? ⟨b,off+k*8+3,none⟩=some (.int .i64 (l[k]).2.2.2.1):=zAd hcc k 3 (by decide) hlt _ rfl
  have c4:wr.cell? ⟨b,off+k*8+4,none⟩=some (.int .i64 (l[k]).2.2.2.2.1):=zAd hcc k 4 (by decide) hlt _ rfl
  have c5:wr.cell? ⟨b,off+k*8+5,none⟩=some (.int .i64 (l[k]).2.2.2.2.2.1):=zAd hcc k 5 (by decide) hlt _ rfl
  have c6:wr.cell? ⟨b,off+k*8+6,none⟩=some (.bool (l[k]).2.2.2.2.2.2.1):=zAd hcc k 6 (by decide) hlt _ rfl
  have c7:wr.cell? ⟨b,off+k*8+7,none⟩=some (.string ⟨(l[k]).2.2.2.2.2.2.2.toArray⟩):=zAd hcc k 7 (by decide) hlt _ rfl
  obtain⟨X,hX⟩:∃X,X=l[k]:=⟨_,rfl⟩
  rw[← hX] at HBAD HTOLD HBADC HCMD c0 c1 c2 c3 c4 c5 c6 c7
  clear hX
  obtain⟨id,kd,tk,rf,sp,ty,ud,dt⟩:=X
  simp only[Ev.kd,Ev.sp,Ev.ud] at HBAD HTOLD HBADC HCMD
  simp only at c0 c1 c2 c3 c4 c5 c6 c7
  have hkI:(k:Int)<(l.length:Int):=by omega
  have hkp:(0:Int)≤(k:Int):=by omega
  have hk5:(k:Int)≤500:=by omega
  clear he hcc hsr
  cases k with
  | zero =>
    have HBAD:=hid (HBAD.out rfl)
    have HTOLD:=hid (HTOLD.out rfl)
    rw[show((0:Nat):Int)=0 from rfl] at *
    simp only[Nat.zero_mul,Nat.add_zero] at c0 c1 c2 c3 c4 c5 c6 c7
    clear HBADC HCMD HNXT HSL hcf HC1 HC3 HJ
    obtain⟨we,hwe⟩:∃x,x=(wr.alloc (.cells #[.int .i64 id,.int .i64 kd,.int .i64 tk,.int .i64 rf,.int .i64 sp,.int .i64 ty,.bool ud,.string ⟨dt.toArray⟩] 52)):=⟨_,rfl⟩
    have be:Below wr.heap.size wr we:=by rw[hwe];exact(Below.refl _ _).alloc (Nat.le_refl _) _
    have hxe:we.heap[wr.heap.size]?=some (.cells #[.int .i64 id,.int .i64 kd,.int .i64 tk,.int .i64 rf,.int .i64 sp,.int .i64 ty,.bool ud,.string ⟨dt.toArray⟩] 52 (0,0)):=by rw[hwe];exact heap_alloc_new wr _
    obtain⟨-,y1,-,-,y4,-,y6,-⟩:=cA hxe
    have HWE:=hid hwe
    have HBE:=hid (hb.trans (be.mono hb.size))
    have HCM:=hid (zD9 kd we)
    clear hwe hxe be
    go_upto_region 11 with (fail)
    rw[← HWE.out]
    go_wp2_with fail
    refine HCM.out.mono ?_
    rintro _ w8 ⟨rfl,hw8⟩
    rw[hw8]
    clear hw8 w8 HCM
    cases hck:cmdK kd with
    | true =>
      have hN:=hid (HBAD.out hck)
      clear hck y1 y4 y6
      go_wp2_with fail
      go_ret2
      exact⟨by rw[hN.out];rfl,HBE.out⟩
    | false =>
      have hN:=hid (HTOLD.out hck)
      clear hck y1 y4 y6
      go_wp2_with fail
      go_roundw
      case rel=>first
       | exact⟨0+1,by omega,by go_num,hN.out.1,hN.out.2,HBE.out⟩
       | ((repeat apply Exists.intro);exact⟨⟨0+1,by omega,by go_num,hN.out.1,hN.out.2,HBE.out⟩,rfl⟩)
      case measure=>simp[intOf];omega
  | succ j =>
    have hjl:j<l.length:=by omega
    have d1:=HC1.out j hjl
    have d3:=HC3.out j hjl
    obtain⟨r1,r2⟩:=HJ.out j (Nat.lt_succ_self j)
    have hW:=zEn hjl
    obtain⟨kp,hkd⟩:∃x,x=(l[j]).2.1:=⟨_,rfl⟩
    obtain⟨R,hR⟩:∃R:Nat,(R:Int)=(l[j]).2.2.2.1:=⟨(l[j]).2.2.2.1.toNat,by have:(l[j]).rf=(l[j]).2.2.2.1:=rfl;omega⟩
    have hRn:(l[j]).rf.toNat=R:=by have:(l[j]).rf=(l[j]).2.2.2.1:=rfl;omega
    rw[show(l[j]).kd=kp from hkd.symm,hRn] at hW
    rw[hRn] at r1
    rw[← hkd] at d1
    rw[← hR] at d3
    clear hkd hR hRn r2 HC1 HC3 HJ hcf
    obtain⟨k,hkj⟩:∃k,k=j+1:=⟨_,rfl⟩
    rw[← hkj] at hk hlt hW r1 HBAD HTOLD HBADC HCMD HNXT hkI hkp hk5 c0 c1 c2 c3 c4 c5 c6 c7 ⊢
    have hk1:(k:Int) - 1=(j:Int):=by omega
    have hj0:(0:Int)≤(j:Int):=by omega
    have hjI:(j:Int)<(l.length:Int):=by omega
    have hkq:(0:Int)<(k:Int):=by omega
    clear hkj
    by_cases h4:kp=4
    case neg =>
     rw[if_neg h4] at hW
     have HBAD:=hid (HBAD.out hW)
     have HTOLD:=hid (HTOLD.out hW)
     have q4:(kp==4)=false:=by simpa using h4
     clear h4 hW HBADC HCMD HNXT HSL
     obtain⟨we,hwe⟩:∃x,x=(wr.alloc (.cells #[.int .i64 id,.int .i64 kd,.int .i64 tk,.int .i64 rf,.int .i64 sp,.int .i64 ty,.bool ud,.string ⟨dt.toArray⟩] 52)):=⟨_,rfl⟩
     have be:Below wr.heap.size wr we:=by rw[hwe];exact(Below.refl _ _).alloc (Nat.le_refl _) _
     have hxe:we.heap[wr.heap.size]?=some (.cells #[.int .i64 id,.int .i64 kd,.int .i64 tk,.int .i64 rf,.int .i64 sp,.int .i64 ty,.bool ud,.string ⟨dt.toArray⟩] 52 (0,0)):=by rw[hwe];exact heap_alloc_new wr _
     obtain⟨-,y1,-,-,y4,-,y6,-⟩:=cA hxe
     have HWE:=hid hwe
     have HBE:=hid (hb.trans (be.mono hb.size))
     have HCM:=hid (zD9 kd we)
     clear hwe hxe be
     go_upto_region 11 with (fail)
     rw[← HWE.out]
     go_wp2_with fail
     refine HCM.out.mono ?_
     rintro _ w8 ⟨rfl,hw8⟩
     rw[hw8]
     clear hw8 w8 HCM
     cases hck:cmdK kd with
     | true =>
       have hN:=hid (HBAD.out hck)
       clear hck y1 y4 y6
       go_wp2_with fail
       go_ret2
       exact⟨by rw[hN.out];rfl,HBE.out⟩
     | false =>
       have hN:=hid (HTOLD.out hck)
       clear hck y1 y4 y6
       go_wp2_with fail
       go_roundw
       case rel=>first
        | exact⟨k+1,by omega,by go_num,hN.out.1,hN.out.2,HBE.out⟩
        | ((repeat apply Exists.intro);exact⟨⟨k+1,by omega,by go_num,hN.out.1,hN.out.2,HBE.out⟩,rfl⟩)
       case measure=>simp[intOf];omega
    subst h4
    rw[if_pos rfl] at hW
    have HNX:=hid (HNXT.out R r1 wr (Below.refl _ _))
    have hsl:=HSL.out R (by omega)
    unfold zF6 at HNX
    rw[← hW] at HNX
    clear HNXT HSL hW
    go_wp2_with fail
    refine HNX.out.mono ?_
    rintro _ w6 ⟨v6,rfl,ho6,b6⟩
    have hwl:=zLr l k
    have hwt:=ho6.want hwl
    have hb6:=hb.trans (b6.mono hb.size)
    generalize (zCg (l.take R)).2=n2 at *
    have e0:=(b6.cell (p:=⟨b,off+k*8,none⟩) hblt).trans c0
    have e1:=(b6.cell (p:=⟨b,off+k*8+1,none⟩) hblt).trans c1
    have e2:=(b6.cell (p:=⟨b,off+k*8+2,none⟩) hblt).trans c2
    have e3:=(b6.cell (p:=⟨b,off+k*8+3,none⟩) hblt).trans c3
    have e4:=(b6.cell (p:=⟨b,off+k*8+4,none⟩) hblt).trans c4
    have e5:=(b6.cell (p:=⟨b,off+k*8+5,none⟩) hblt).trans c5
    have e6:=(b6.cell (p:=⟨b,off+k*8+6,none⟩) hblt).trans c6
    have e7:=(b6.cell (p:=⟨b,off+k*8+7,none⟩) hblt).trans c7
    clear c0 c1 c2 c3 c4 c5 c6 c7 b6 HNX d1 d3 hsl ho6
    obtain⟨a6,c6,rfl,-,hx6⟩:=hwt
    by_cases hw:zCq l k=[]
    · have HBAD:=hid (HBAD.out hw)
      have HTOLD:=hid (HTOLD.out hw)
      rw[hw,show([]:List Cmd).length=0 from rfl]
      clear hwl hw hx6 HBADC HCMD
      obtain⟨we,hwe⟩:∃x,x=(w6.alloc (.cells #[.int .i64 id,.int .i64 kd,.int .i64 tk,.int .i64 rf,.int .i64 sp,.int .i64 ty,.bool ud,.string ⟨dt.toArray⟩] 52)):=⟨_,rfl⟩
      have be:Below w6.heap.size w6 we:=by rw[hwe];exact(Below.refl _ _).alloc (Nat.le_refl _) _
      have hxe:we.heap[w6.heap.size]?=some (.cells #[.int .i64 id,.int .i64 kd,.int .i64 tk,.int .i64 rf,.int .i64 sp,.int .i64 ty,.bool ud,.string ⟨dt.toArray⟩] 52 (0,0)):=by rw[hwe];exact heap_alloc_new w6 _
      obtain⟨-,y1,-,-,y4,-,y6,-⟩:=cA hxe
      have HWE:=hid hwe
      have HBE:=hid (hb6.trans (be.mono hb6.size))
      have HCM:=hid (zD9 kd we)
      clear hwe hxe be
      go_upto_region 11 with (fail)
      rw[← HWE.out]
      go_wp2_with fail
      refine HCM.out.mono ?_
      rintro _ w8 ⟨rfl,hw8⟩
      rw[hw8]
      clear hw8 w8 HCM
      cases hck:cmdK kd with
      | true =>
        have hN:=hid (HBAD.out hck)
        clear hck y1 y4 y6
        go_wp2_with fail
        go_ret2
        exact⟨by rw[hN.out];rfl,HBE.out⟩
      | false =>
        have hN:=hid (HTOLD.out hck)
        clear hck y1 y4 y6
        go_wp2_with fail
        go_roundw
        case rel=>first
         | exact⟨k+1,by omega,by go_num,hN.out.1,hN.out.2,HBE.out⟩
         | ((repeat apply Exists.intro);exact⟨⟨k+1,by omega,by go_num,hN.out.1,hN.out.2,HBE.out⟩,rfl⟩)
        case measure=>simp[intOf];omega
    obtain⟨cm,hcm⟩:∃cm,zCq l k=[cm]:=by
     cases hq:zCq l k with
     | nil=>exact absurd hq hw
     | cons x r =>
       rw[hq,List.length_cons] at hwl
       exact⟨x,by rw[List.eq_nil_of_length_eq_zero (show r.length=0 by omega)]⟩
    obtain⟨b8,rfl,hb8,hc8,z0,z1,z2⟩:=hx6 cm hcm
    have HBADC:=hid (HBADC.out cm hcm)
    have HCMD:=hid (HCMD.out cm hcm)
    rw[hcm,show [cm].length=1 from rfl]
    clear hx6 hw hwl hcm HBAD HTOLD
    obtain⟨ck,ci,cu⟩:=cm
    simp only at z0 z1 z2
    obtain⟨we,hwe⟩:∃x,x=(w6.alloc (.cells #[.int .i64 id,.int .i64 kd,.int .i64 tk,.int .i64 rf,.int .i64 sp,.int .i64 ty,.bool ud,.string ⟨dt.toArray⟩] 52)):=⟨_,rfl⟩
    have be:Below w6.heap.size w6 we:=by rw[hwe];exact(Below.refl _ _).alloc (Nat.le_refl _) _
    have hxe:we.heap[w6.heap.size]?=some (.cells #[.int .i64 id,.int .i64 kd,.int .i64 tk,.int .i64 rf,.int .i64 sp,.int .i64 ty,.bool ud,.string ⟨dt.toArray⟩] 52 (0,0)):=by rw[hwe];exact heap_alloc_new w6 _
    obtain⟨-,y1,-,-,y4,-,y6,-⟩:=cA hxe
    have HWE:=hid hwe
    have HBE:=hid (hb6.trans (be.mono hb6.size))
    have t0:=(be.cell (p:=⟨b8,0,none⟩) hb8).trans z0
    have t1:=(be.cell (p:=⟨b8,1,none⟩) hb8).trans z1
    have t2:=(be.cell (p:=⟨b8,2,none⟩) hb8).trans z2
    have hel:=(gL hxe)
    have HEV:=hid (zOl ck ci cu we)
    clear hwe be hxe z0 z1 z2
    go_upto_region 11 with (fail)
    rw[← HWE.out]
    go_wp2_with fail
    refine HEV.out.mono ?_
    rintro _ wv ⟨rfl,bv⟩
    obtain⟨k2,hk2⟩:∃x,kdC (ck,ci,cu)=x:=⟨_,rfl⟩
    obtain⟨s2,hs2⟩:∃x,spC (ck,ci,cu)=x:=⟨_,rfl⟩
    obtain⟨u2,hu2⟩:∃x,udC (ck,ci,cu)=x:=⟨_,rfl⟩
    rw[hk2,hs2,hu2] at HBADC HCMD ⊢
    clear hk2 hs2 hu2 HEV t0 t1 t2
    obtain⟨wx,hwx⟩:∃x,x=(wv.alloc (.cells #[.int .i64 0,.int .i64 k2,.int .i64 0,.int .i64 0,.int .i64 s2,.int .i64 0,.bool u2,.string ⟨#[]⟩] 52)):=⟨_,rfl⟩
    have bx:Below wv.heap.size wv wx:=by rw[hwx];exact(Below.refl _ _).alloc (Nat.le_refl _) _
    have hxx:wx.heap[wv.heap.size]?=some (.cells #[.int .i64 0,.int .i64 k2,.int .i64 0,.int .i64 0,.int .i64 s2,.int .i64 0,.bool u2,.string ⟨#[]⟩] 52 (0,0)):=by rw[hwx];exact heap_alloc_new wv _
    have bvx:=zAl bv bx
    have g1:=(bvx.cell (p:=⟨w6.heap.size,1,none⟩) hel).trans y1
    have g4:=(bvx.cell (p:=⟨w6.heap.size,4,none⟩) hel).trans y4
    have g6:=(bvx.cell (p:=⟨w6.heap.size,6,none⟩) hel).trans y6
    obtain⟨-,h1,-,-,h4,-,h6,-⟩:=cA hxx
    have HWX:=hid hwx
    have HBX:=hid (HBE.out.trans (bvx.mono HBE.out.size))
    clear hwx bx hxx bvx bv y1 y4 y6 hel
    go_upto_region 15 with (fail)
    rw[← HWX.out]
    by_cases hkk:kd=k2
    case neg =>
     have hN:=hid (HBADC.out (fun q=>hkk q.1))
     have q1:(kd==k2)=false:=by simpa using hkk
     have q2:(kd != k2)=true:=by simpa using hkk
     clear hkk
     go_wp2_with fail
     go_ret2
     exact⟨by rw[hN.out];rfl,HBX.out⟩
    subst hkk
    by_cases hss:sp=s2
    case neg =>
     have hN:=hid (HBADC.out (fun q=>hss q.2.1))
     have q1:(sp==s2)=false:=by simpa using hss
     have q2:(sp != s2)=true:=by simpa using hss
     clear hss
     go_wp2_with fail
     go_ret2
     exact⟨by rw[hN.out];rfl,HBX.out⟩
    subst hss
    by_cases huu:ud=u2
    case neg =>
     have hN:=hid (HBADC.out (fun q=>huu q.2.2))
     have q1:(ud==u2)=false:=by simpa using huu
     have q2:(ud != u2)=true:=by simpa using huu
     clear huu
     go_wp2_with fail
     go_ret2
     exact⟨by rw[hN.out];rfl,HBX.out⟩
    subst huu
    have hN:=hid (HCMD.out ⟨rfl,rfl,rfl⟩)
    go_wp2_with fail
    go_roundw
    case rel=>first
     | exact⟨k+1,by omega,by go_num,hN.out.1,hN.out.2,HBX.out⟩
     | ((repeat apply Exists.intro);exact⟨⟨k+1,by omega,by go_num,hN.out.1,hN.out.2,HBX.out⟩,rfl⟩)
    case measure=>simp[intOf];omega
end Go.Proofs.YtkedafopdkhnfaaGreat
