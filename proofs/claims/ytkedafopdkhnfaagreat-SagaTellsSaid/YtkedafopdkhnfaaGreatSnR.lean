/- CONTRACT: wherryref16.Owed. -/
import Derived.Test.YtkedafopdkhnfaaGreatSnP
import Derived.Test.YtkedafopdkhnfaaGreatSnO
namespace Go.Proofs.YtkedafopdkhnfaaGreat
open Go.RowKit
set_option linter.unusedVariables false
set_option linter.unusedSimpArgs false
theorem zD2{w:World}{B:Nat}{v:Value}{l:List Int}(h:w.ownsRow B 3 1 v l.length (l.flatMap ivC))(hl:l.length≤17592186043904):Sl w v 1 l.length (l.map iv):=by
 have:=Sl.of_own h (by unfold maxLen;omega)
 rw[zJy] at this;exact this
theorem zQc{ss:List St}{l:List Int}{x:Int}(h:zB2 ss x≠[]):zBq ss (l ++ [x])=x :: zBq ss l:=by
 unfold zBq;rw[List.reverse_append,List.reverse_singleton,List.singleton_append,List.filter_cons];simp[h]
theorem zSw{ss:List St}{l:List Int}{x:Int}(h:zB2 ss x=[]):zBq ss (l ++ [x])=zBq ss l:=by
 unfold zBq;rw[List.reverse_append,List.reverse_singleton,List.singleton_append,List.filter_cons];simp[h]
theorem zK7(ss:List St)(l:List Int):(zBq ss l).length≤l.length:=by
 unfold zBq
 have:=List.length_filter_le (fun i=>decide (zB2 ss i≠[])) l.reverse
 rw[List.length_reverse] at this;exact this
set_option maxHeartbeats 16000000 in
set_option maxRecDepth 100000 in
theorem zVz(ss:List St)(lim:Int)(va:Option Addr)(vc:Nat)(zs:List Int)(da:Option Addr)(dc:Nat)(hzl:zs.length≤17592186043904)
 (w:World)(hp:Sl w (.slice va ss.length vc) 6 ss.length (ss.flatMap stC))(hd:Sl w (.slice da zs.length dc) 1 zs.length (zs.map iv)) :
 Calls Tryz.prog 12 #[.agg #[.slice va ss.length vc,.int .i64 lim],.slice da zs.length dc] w (zF5 ss zs w):=by
 obtain⟨w0,hw0⟩:∃x,x=w.alloc (.cells #[.slice va ss.length vc,.int .i64 lim] 32):=⟨_,rfl⟩
 have b0:Below w.heap.size w w0:=by rw[hw0];exact(Below.refl _ _).alloc (Nat.le_refl _) _
 have hr0:w0.heap[w.heap.size]?=some (.cells #[.slice va ss.length vc,.int .i64 lim] 32 (0,0)):=by rw[hw0];exact heap_alloc_new w _
 have hsl:ss.length≤9223372036854775807:=hp.2.1.1
 have HS:=hid (hp.below b0)
 have HD:=hid (hd.below b0)
 have HW:=hid hw0
 have HB0:=hid b0
 have HR0:=hid hr0
 have hinfo:(Tryz.prog.info? 3).map (fun i=>(i.zero,i.size,i.bytes))=some (some (.int .i64 0),1,8):=by kernel_rfl
 have hmx:maxLen=9223372036854775807:=rfl
 clear hw0 hp b0 hr0 hd
 go_enter Tryz.func12,Tryz.ntmps12
 go_wp2_with fail
 rw[← HW.out]
 go_wp2_with fail
 go_loopw [6,7] (fun v0 n0 wr=>∃(k:Nat) (a':Option Addr) (c':Nat),k≤zs.length∧n0=.int .i64 (k:Int)∧v0=.slice a' (zBq ss (zs.take k)).length c'∧wr.ownsRow w0.heap.size 3 1 (.slice a' (zBq ss (zs.take k)).length c') (zBq ss (zs.take k)).length ((zBq ss (zs.take k)).flatMap ivC)∧(∀x∈zs.take k,OwOk ss x)∧Below w0.heap.size w0 wr) (fun _ n0 _=>zs.length - (intOf n0).toNat)
 case atStart=>exact⟨0,none,0,Nat.zero_le _,rfl,rfl,World.ownsRow_nil _ _ _ _,(fun x q=>by cases q),Below.refl _ _⟩
 case round =>
  obtain⟨k,a',c',hk,rfl,rfl,hown,hok,hb⟩:=hrel
  have hx:=(hb.block _ (gL HR0.out)).trans HR0.out
  have x0:wr.cell? ⟨w.heap.size,0,none⟩=some (.slice va ss.length vc):=cR hx rfl
  by_cases hlt:k<zs.length
  case neg =>
   obtain rfl:k=zs.length:=by omega
   rw[List.take_length] at hown hok ⊢
   have HO:=hid hown
   have HB:=hid hb
   have HR:=hid (zK8 hok)
   clear hx hown hb hok
   go_wp2_with fail
   go_ret2
   exact⟨_,(by rw[HR.out];rfl),(by rw[HR.out];exact zAw HO.out HB0.out.size),HB0.out.trans (HB.out.mono HB0.out.size)⟩
  obtain⟨zb,zo,rfl,hzb,z0⟩:=zGf (HD.out.below hb) hlt
  have hsnoc:zs.take (k+1)=zs.take k ++ [zs[k]]:=zCu hlt
  have hmem:zs[k]∈zs:=List.getElem_mem hlt
  have HBF:=hid (HB0.out.trans (hb.mono HB0.out.size))
  obtain⟨x,hxq⟩:∃x,x=zs[k]:=⟨_,rfl⟩
  rw[← hxq] at z0 hsnoc hmem
  have HNO:=hid (show ¬OwOk ss x→zFw ss zs=none from fun q=>zNk hmem q)
  have HSN:=hid hsnoc
  have HOK:=hid hok
  have HB:=hid hb
  have HOWN:=hid hown
  have HSP:=hid (HS.out.below hb)
  have hk0:(0:Int)≤(k:Int):=by omega
  have hk1:(k:Int)<(zs.length:Int):=by omega
  clear hxq hsnoc hmem hok hb hown hx
  by_cases hneg:x<0
  · have hX:=hid (HNO.out (fun q=>by have:=q.1;omega))
    go_wp2_with fail
    go_ret2
    exact⟨_,(by rw[hX.out];rfl),(by rw[hX.out];exact World.ownsRow_nil _ _ _ _),HBF.out⟩
  by_cases hbig:(ss.length:Int)≤x
  · have hX:=hid (HNO.out (fun q=>by have:=q.2.1;omega))
    go_wp2_with fail
    go_ret2
    exact⟨_,(by rw[hX.out];rfl),(by rw[hX.out];exact World.ownsRow_nil _ _ _ _),HBF.out⟩
  obtain⟨i,rfl⟩:∃i:Nat,x=(i:Int):=⟨x.toNat,by omega⟩
  have hil:i<ss.length:=by omega
  obtain⟨_,_,a2,cap',hv,hcc⟩:=HSP.out
  rw[Value.slice.injEq] at hv
  obtain⟨rfl,-,rfl⟩:=hv
  obtain⟨sb,off,rfl,hblt,hcc⟩:=hcc.resolve_left (by omega)
  have k0:wr.cell? ⟨sb,off+i*6,none⟩=some (.int .i64 ss[i].1):=zAp hcc i 0 (by decide) hil _ rfl
  have k2:wr.cell? ⟨sb,off+i*6+2,none⟩=some (.string ⟨ss[i].2.2.1.toArray⟩):=zAp hcc i 2 (by decide) hil _ rfl
  have hun:zB2 ss ((i:Nat):Int)=ss[i].2.2.1:=by
   unfold zB2
   rw[Int.toNat_natCast,List.getD_eq_getElem?_getD,List.getElem?_eq_getElem hil];rfl
  have hkd:kdN ss i=ss[i].1:=by
   unfold kdN
   rw[List.getD_eq_getElem?_getD,List.getElem?_eq_getElem hil];rfl
  obtain⟨un,hunq⟩:∃un,un=ss[i].2.2.1:=⟨_,rfl⟩
  rw[← hunq] at k2 hun
  obtain⟨kx,hkq⟩:∃k9,k9=ss[i].1:=⟨_,rfl⟩
  rw[← hkq] at k0 hkd
  have hi0:(0:Int)≤(i:Int):=by omega
  have hi1:(i:Int)<(ss.length:Int):=by omega
  have hi2:¬((ss.length:Int)≤(i:Int)):=by omega
  have HUN:=hid hun
  have HKD:=hid hkd
  clear hcc hun hkd hunq hkq hneg hbig
  by_cases hq1:kx=1
  case neg =>
   have hkx:(kx==1)=false:=by simpa using hq1
   have hkx':(kx != 1)=true:=by simpa using hq1
   have hX:=hid (HNO.out (fun q=>hq1 (by have:=q.2.2;rw[Int.toNat_natCast,HKD.out] at this;exact this)))
   clear hq1
   go_wp2_with fail
   go_ret2
   exact⟨_,(by rw[hX.out];rfl),(by rw[hX.out];exact World.ownsRow_nil _ _ _ _),HBF.out⟩
  subst hq1
  have HK:=hid (show ∀x∈zs.take (k+1),OwOk ss x from fun x hx=>by
   rw[HSN.out] at hx
   rcases List.mem_append.1 hx with q | q
   · exact HOK.out x q
   · rw[List.mem_singleton] at q;subst q
     exact⟨hi0,hi1,by rw[Int.toNat_natCast,HKD.out]⟩)
  clear HNO
  cases un with
  | nil =>
    have hA:=hid (show zBq ss (zs.take (k+1))=zBq ss (zs.take k) by rw[HSN.out];exact zSw HUN.out)
    go_wp2_with fail
    go_roundw
    case rel=>first
     | exact⟨k+1,a',c',by omega,by go_num,by rw[hA.out],by rw[hA.out];exact HOWN.out,HK.out,HB.out⟩
     | ((repeat apply Exists.intro);exact⟨⟨k+1,a',c',by omega,by go_num,by rw[hA.out],by rw[hA.out];exact HOWN.out,HK.out,HB.out⟩,rfl⟩)
    case measure=>simp[intOf];omega
  | cons u0 ur =>
    have hA:=hid (show zBq ss (zs.take (k+1))=(i:Int) :: zBq ss (zs.take k) by rw[HSN.out];exact zQc (by rw[HUN.out];simp))
    have hal:=zK7 ss (zs.take k)
    rw[List.length_take,Nat.min_eq_left hk] at hal
    have b8:Below wr.heap.size wr (wr.alloc (.cells #[.int .i64 (i:Int)] 3)):=(Below.refl _ _).alloc (Nat.le_refl _) _
    have ho8:=zAf HOWN.out b8
    have hx8:=zD2 ho8 (by omega)
    have hl8:(wr.alloc (.cells #[.int .i64 (i:Int)] 3)).ownsRow w0.heap.size 3 1 (.slice (some ⟨wr.heap.size,0,none⟩) 1 1) 1 [.int .i64 (i:Int)]:=World.ownsRow_lit wr #[.int .i64 (i:Int)] 1 HB.out.size (by omega) rfl
    have hD8:w0.heap.size≤(wr.alloc (.cells #[.int .i64 (i:Int)] 3)).heap.size:=Nat.le_trans HB.out.size b8.size
    have HB8:=hid (HB.out.trans (b8.mono HB.out.size))
    have h1:∀u∈(zBq ss (zs.take k)).map iv,u.oneCell'=true:=fun u hu=>by
     obtain⟨y,-,rfl⟩:=List.mem_map.1 hu;rfl
    clear b8 ho8
    go_wp2_with (at_builtin;go_must (refine zCx _ rfl _ _ 33 rfl w0.heap.size 3 (.int .i64 0) 1 8 Tryz.underlying33 hinfo rfl (by decide) _ 1 [.int .i64 (i:Int)] rfl hl8 _ (zBq ss (zs.take k)).length ((zBq ss (zs.take k)).map iv) rfl hx8 h1 (by omega) (by omega) w0 hD8 HB8.out ?_))
    intro v2 wa hown2 hbl2 hgrow
    have hown3:wa.ownsRow w0.heap.size 3 1 v2 (zBq ss (zs.take (k+1))).length ((zBq ss (zs.take (k+1))).flatMap ivC):=by
     rw[hA.out,zJy,List.length_cons,Nat.add_comm];exact hown2
    obtain⟨a2,c2,hv2⟩:=zB6 hown3
    subst hv2
    have HF:=hid hown3
    have HBW:=hid hbl2
    clear hown2 hown3 hbl2 hgrow h1 hD8 hx8 hl8
    go_wp2_with fail
    go_roundw
    case rel=>first
     | exact⟨k+1,a2,c2,by omega,by go_num,rfl,HF.out,HK.out,HBW.out⟩
     | ((repeat apply Exists.intro);exact⟨⟨k+1,a2,c2,by omega,by go_num,rfl,HF.out,HK.out,HBW.out⟩,rfl⟩)
    case measure=>simp[intOf];omega
end Go.Proofs.YtkedafopdkhnfaaGreat
