/- CONTRACT: play.read. -/
import Derived.Test.YtkedafopdkhnfaaGreatPmE
import Derived.Test.YtkedafopdkhnfaaGreatSmD
import Derived.Test.YtkedafopdkhnfaaGreatPmP
import Derived.Test.YtkedafopdkhnfaaGreatPmM
import Derived.StillTailTactics
import Derived.IntWalk
import Derived.Deep.RegionHeld3
import Derived.Deep.DeepCutAuto
namespace Go.Proofs.YtkedafopdkhnfaaGreat
set_option maxRecDepth 100000
open Go.RowKit
set_option linter.unusedVariables false
set_option linter.unusedSimpArgs false
def zO4(ss:List St)(lim:Int)(vs:Value)(w:World)(s5:Value)(wx:World):Prop:=∃(g D gw gu pm sm wc uc:Nat),s5=.pointer (some ⟨g,0,none⟩)∧CM w.heap.size D wx g ss lim (crs0 ss.length) vs (.slice (some ⟨gw,0,none⟩) ss.length wc) (.slice (some ⟨gu,0,none⟩) ss.length uc) (.slice none 0 0) pm sm 0∧Below w.heap.size w wx
theorem zWi:(Tryz.prog.info? 3).map (fun i=>(i.zero,i.size,i.bytes))=some (some (.int .i64 0),1,8):=by kernel_rfl
theorem zJ9(n:Nat)(hn:n≤8192)(u:World):(Instr.makeSlice 33 (.int .i64 (n:Int)) (.int .i64 (n:Int))).run Tryz.prog u =
 .ok (.slice (some ⟨u.heap.size,0,none⟩) n n) (u.alloc (.cells (madeCells #[.int .i64 0] n) 3)):=by
 obtain⟨i0,hi,hz0,hz1,hz2⟩:=info_parts zWi
 have h:=run_make (P:=Tryz.prog) u 33 3 i0 (.int .i64 0) Tryz.underlying33 hi hz0 .i64 .i64 (n:Int) (n:Int) (by omega) (Int.le_refl _) (by rw[hz2];omega) (by omega)
 have e:((n:Int)).toNat=n:=by omega
 rw[e] at h
 simpa [hz1,Value.cells] using h
theorem lay5(w:World)(o1 o2 o3 o4 o5:Obj){W:World}(hW:W=((((w.alloc o1).alloc o2).alloc o3).alloc o4).alloc o5):W.heap[w.heap.size]?=some o1∧W.heap[w.heap.size+1]?=some o2∧W.heap[w.heap.size+1+1]?=some o3∧W.heap[w.heap.size+1+1+1]?=some o4∧W.heap[w.heap.size+1+1+1+1]?=some o5∧Below w.heap.size w W∧W.heap.size=w.heap.size+1+1+1+1+1:=by
 subst hW
 have s1:(w.alloc o1).heap.size=w.heap.size+1:=Array.size_push ..
 have s2:((w.alloc o1).alloc o2).heap.size=w.heap.size+1+1:=by rw[World.size_alloc,s1]
 have s3:(((w.alloc o1).alloc o2).alloc o3).heap.size=w.heap.size+1+1+1:=by rw[World.size_alloc,s2]
 have s4:((((w.alloc o1).alloc o2).alloc o3).alloc o4).heap.size=w.heap.size+1+1+1+1:=by rw[World.size_alloc,s3]
 have e:∀(x:World) (o:Obj),(x.alloc o).heap[x.heap.size]?=some o:=fun x o=>(MapKept.heap_alloc x o).1
 have n2:=(Below.refl (w.alloc o1).heap.size (w.alloc o1)).alloc (Nat.le_refl _) o2
 have n3:=(Below.refl ((w.alloc o1).alloc o2).heap.size ((w.alloc o1).alloc o2)).alloc (Nat.le_refl _) o3
 have n4:=(Below.refl (((w.alloc o1).alloc o2).alloc o3).heap.size (((w.alloc o1).alloc o2).alloc o3)).alloc (Nat.le_refl _) o4
 have n5:=(Below.refl ((((w.alloc o1).alloc o2).alloc o3).alloc o4).heap.size ((((w.alloc o1).alloc o2).alloc o3).alloc o4)).alloc (Nat.le_refl _) o5
 refine⟨?_,?_,?_,?_,?_,?_,by rw[World.size_alloc,s4]⟩
 · rw[n5.block _ (by omega),n4.block _ (by omega),n3.block _ (by omega),n2.block _ (by omega)];exact e _ _
 · rw[n5.block _ (by omega),n4.block _ (by omega),n3.block _ (by omega),← s1];exact e _ _
 · rw[n5.block _ (by omega),n4.block _ (by omega),← s2];exact e _ _
 · rw[n5.block _ (by omega),← s3];exact e _ _
 · rw[← s4];exact e _ _
 · exact(((((Below.refl _ _).alloc (Nat.le_refl _) _).alloc (by omega) _).alloc (by omega) _).alloc (by omega) _).alloc (by omega) _
theorem zBf{ss:List St}{lim:Int}{vs:Value}{w W:World}{g gw gu pm sm:Nat}(hp:Sl w vs 6 ss.length (ss.flatMap stC))(hu:zIr w.heap.size vs)(hb:Below w.heap.size w W)(h1:W.heap[gw]?=some (.cells (madeCells #[.int .i64 0] ss.length) 3 (0,0)))(h2:W.heap[gu]?=some (.cells (madeCells #[.int .i64 0] ss.length) 3 (0,0)))
 (h3:W.heap[pm]?=some (.map #[] 0))(h4:W.heap[sm]?=some (.map #[] 0))(h5:W.heap[g]?=some (.cells #[vs,.int .i64 lim,.slice (some ⟨gw,0,none⟩) ss.length ss.length,.slice (some ⟨gu,0,none⟩) ss.length ss.length,.map (some pm),.slice none 0 0,.map (some sm),.bool false] 92 (0,0)))
 (ha:gw≠gu)(hc:pm≠sm)(l1:w.heap.size≤gw)(l2:w.heap.size≤gu)(l3:w.heap.size≤pm)(l4:w.heap.size≤sm)(l5:w.heap.size≤g)(hn:ss.length≤16):zO4 ss lim vs w (.pointer (some ⟨g,0,none⟩)) W:=by
 have hm:∀b,W.heap[b]?=some (.map #[] 0)→∀k,MapV Tryz.prog W k b 0 Ent.none:=fun b hb k=>⟨.map [],⟨#[],0,hb,⟨by simp,MapKept.stamped_empty 0,by simp⟩,Nat.le_refl _,rfl⟩,fun x _=>⟨rfl,fun z=>rfl⟩⟩
 have ho:∀b,w.heap.size≤b→W.heap[b]?=some (.cells (madeCells #[.int .i64 0] ss.length) 3 (0,0))→W.ownsRow w.heap.size 3 1 (.slice (some ⟨b,0,none⟩) ss.length ss.length) ss.length ((List.replicate ss.length 0).map iv):=fun b hl hb=>by
  refine⟨by simp,.inr ⟨b,ss.length,_,rfl,hl,hb,Nat.le_refl _,by unfold maxLen;omega,by simp[size_madeCells],?_⟩⟩
  rw[toList_madeCells_one];simp[iv]
 refine⟨g,W.heap.size,gw,gu,pm,sm,ss.length,ss.length,rfl,⟨h5,hp.below hb,hu,?_,?_,World.ownsRow_nil _ _ _ _,⟨Ent.none,hm pm h3 _,PlOk.none⟩,⟨Ent.none,hm sm h4 _,SgOk.none⟩,?_,?_,?_,hc,l5,l3,l4,hb.size,hb.size,Nat.le_refl _⟩,hb⟩
 · have:=ho gw l1 h1;simpa [crs0] using this
 · have:=ho gu l2 h2;simpa [crs0] using this
 · intro b hb hb'
   simp[Value.ownBlock] at hb hb'
   omega
 · intro b hb
   simp[Value.ownBlock] at hb
   subst hb
   exact(gL h1)
 · intro b hb
   simp[Value.ownBlock] at hb
   subst hb
   exact(gL h2)
theorem zWn(w:World):(zeroValue 3).run Tryz.prog w=.ok (.int .i64 0) w:=by kernel_rfl
def zRl(ss:List St)(lim:Int)(vs:Value)(l:List Ev)(w:World)(e:Ending)(w':World):Prop:=∃(g D gw gu pm sm wc uc:Nat)(vd:Value),e=.returned (.pointer (some ⟨g,0,none⟩))∧CM w.heap.size D w' g ss lim (crsF l) vs (.slice (some ⟨gw,0,none⟩) ss.length wc) (.slice (some ⟨gu,0,none⟩) ss.length uc) vd pm sm l.length∧Below w.heap.size w w'
set_option maxHeartbeats 64000000 in
theorem zOj(ss:List St)(lim:Int)(va:Option Addr)(vc:Nat)(a:Option Addr)(c:Nat)(l:List Ev)(hsl:ss.length≤16)(hss:ss=(prgL l).2)(hH:Hs l)(w:World)(hp:Sl w (.slice va ss.length vc) 6 ss.length (ss.flatMap stC))(hun:zIr w.heap.size (.slice va ss.length vc))(hs:Sl w (.slice a l.length c) 8 l.length (l.flatMap evc)) :
 Calls Tryz.prog 28 #[.agg #[.slice va ss.length vc,.int .i64 lim],.slice a l.length c] w (zRl ss lim (.slice va ss.length vc) l w):=by
 have HSS:=hid hss
 clear hss
 have hm:l.length≤9223372036854775807:=hs.2.1.1
 have h500:=hH.short
 obtain⟨w0,hw0⟩:∃x,x=w.alloc (.cells #[.slice va ss.length vc,.int .i64 lim] 32):=⟨_,rfl⟩
 have b0:Below w.heap.size w w0:=by rw[hw0];exact(Below.refl _ _).alloc (Nat.le_refl _) _
 have h0:w0.heap[w.heap.size]?=some (.cells #[.slice va ss.length vc,.int .i64 lim] 32 (0,0)):=by rw[hw0];exact heap_alloc_new w _
 obtain⟨x0,x1⟩:=cA h0
 have hlt:w.heap.size<w0.heap.size:=(gL h0)
 have SC:=hid (fun(w':World) (q:Below w0.heap.size w0 w')=>(⟨(q.cell (p:=⟨w.heap.size,0,none⟩) hlt).trans x0,(q.cell (p:=⟨w.heap.size,1,none⟩) hlt).trans x1⟩:w'.cell? ⟨w.heap.size,0,none⟩=some (.slice va ss.length vc)∧w'.cell? ⟨w.heap.size,1,none⟩=some (.int .i64 lim)))
 have hn16:(ss.length:Int)≤16:=by omega
 have hn0:(0:Int)≤(ss.length:Int):=by omega
 have hmm:=@run_makeMap Tryz.prog
 have hmk:=zJ9 ss.length (by omega)
 have HW:=hid hw0
 clear hw0 x0 x1
 go_enter Tryz.func28,Tryz.ntmps28
 go_upto_region 1 with (fail)
 rw[← HW.out]
 go_cut [5] (fun s5 wx=>zO4 ss lim (.slice va ss.length vc) w s5 wx)
 case first =>
  refine wp_region_noPanic ?_
  refine wp_region_held_drew (S:=(fun w':World=>w'.cell? ⟨w.heap.size,0,none⟩=some (.slice va ss.length vc)∧w'.cell? ⟨w.heap.size,1,none⟩=some (.int .i64 lim))) (by kernel_rfl) ?_ (fun hHeld=>?_)
  · exact SC.out _ (zAa _ _ 1)
  refine wpAnyH_take (i:=0) (oi:=?fo0) (v:=?fv0) ?fe0 (by kernel_rfl) (by kernel_rfl) (by kernel_rfl) (fun _ _ _ h=>h) (Or.inl ⟨?fw0,?fy0⟩) (by assumption) ?fr0
  case fe0=>((simp only[gZa,gZb,gZc]) <;> rfl)
  case fw0=>rfl
  case fy0=>(intro w hSw;(try dsimp only at hSw);go_simp;(try with_reducible rfl))
  try simp only[Act.put,sZa,sZb,sZc]
  refine wpAnyH_take (i:=1) (oi:=?fo1) (v:=?fv1) ?fe1 (by kernel_rfl) (by kernel_rfl) (by kernel_rfl) (fun _ _ _ h=>h) (Or.inl ⟨?fw1,?fy1⟩) (by assumption) ?fr1
  case fe1=>((simp only[gZa,gZb,gZc]) <;> rfl)
  case fw1=>rfl
  case fy1=>(intro w hSw;(try dsimp only at hSw);go_simp;(try with_reducible rfl))
  try simp only[Act.put,sZa,sZb,sZc]
  refine wpAnyH_take (i:=2) (oi:=?fo2) (v:=?fv2) ?fe2 (by kernel_rfl) (by kernel_rfl) (by kernel_rfl) (fun _ _ _ h=>h) (Or.inl ⟨?fw2,?fy2⟩) (by assumption) ?fr2
  case fe2=>((simp only[gZa,gZb,gZc]) <;> rfl)
  case fw2=>rfl
  case fy2=>(intro w hSw;(try dsimp only at hSw);go_simp;(try with_reducible rfl))
  try simp only[Act.put,sZa,sZb,sZc]
  refine wpAnyH_take (i:=3) (oi:=?fo3) (v:=?fv3) ?fe3 (by kernel_rfl) (by kernel_rfl) (by kernel_rfl) (fun _ _ _ h=>h) (Or.inl ⟨?fw3,?fy3⟩) (by assumption) ?fr3
  case fe3=>((simp only[gZa,gZb,gZc]) <;> rfl)
  case fw3=>rfl
  case fy3=>(intro w hSw;(try dsimp only at hSw);go_simp;(try with_reducible rfl))
  try simp only[Act.put,sZa,sZb,sZc]
  refine wpAnyH_take (i:=5) (oi:=?fo5) (v:=?fv5) ?fe5 (by kernel_rfl) (by kernel_rfl) (by kernel_rfl) (fun _ _ _ h=>h) (Or.inl ⟨?fw5,?fy5⟩) (by assumption) ?fr5
  case fe5=>((simp only[gZa,gZb,gZc]) <;> rfl)
  case fw5=>rfl
  case fy5=>(intro w hSw;(try dsimp only at hSw);go_simp;(try with_reducible rfl))
  try simp only[Act.put,sZa,sZb,sZc]
  refine wpAnyH_take (i:=6) (oi:=?fo6) (v:=?fv6) ?fe6 (by kernel_rfl) (by kernel_rfl) (by kernel_rfl) (fun _ _ _ h=>h) (Or.inl ⟨?fw6,?fy6⟩) (by assumption) ?fr6
  case fe6=>((simp only[gZa,gZb,gZc]) <;> rfl)
  case fw6=>rfl
  case fy6=>(intro w hSw;(try dsimp only at hSw);go_simp;(try with_reducible rfl))
  try simp only[Act.put,sZa,sZb,sZc]
  refine wpAnyH_take (i:=7) (oi:=?fo7) (v:=?fv7) ?fe7 (by kernel_rfl) (by kernel_rfl) (by kernel_rfl) (fun _ _ _ h=>h) (Or.inl ⟨?fw7,?fy7⟩) (by assumption) ?fr7
  case fe7=>((simp only[gZa,gZb,gZc]) <;> rfl)
  case fw7=>rfl
  case fy7=>(intro w hSw;(try dsimp only at hSw);go_simp;(try with_reducible rfl))
  try simp only[Act.put,sZa,sZb,sZc]
  refine wpAnyH_ready (rs:=[4,8,9,10]) (by kernel_rfl) (by simp) ?_
  refine AllReadyH.cons (o:=?fo4) ?fe4 (fun K hK=>?fc4) ?fn4
  case fe4=>((simp only[gZa,gZb,gZc]) <;> rfl)
  case fc4 =>
   go_simp
   refine hK.out _ _ ?_ (fun hHeld=>?_)
   · exact SC.out _ ((zAa w0.heap.size w0 1).alloc (Nat.le_refl _) _)
   clear hK K
   try simp only[Act.put,sZa,sZb,sZc]
   refine wpAnyH_ready (rs:=[8,9,10]) (by kernel_rfl) (by simp) ?_
   refine AllReadyH.cons (o:=?fo8_4) ?fe8_4 (fun K hK=>?fc8_4) ?fn8_4
   case fe8_4=>((simp only[gZa,gZb,gZc]) <;> rfl)
   case fc8_4 =>
    go_simp
    refine hK.out _ _ ?_ (fun hHeld=>?_)
    · exact SC.out _ (((zAa w0.heap.size w0 1).alloc (Nat.le_refl _) _) |> alB)
    clear hK K
    try simp only[Act.put,sZa,sZb,sZc]
    refine wpAnyH_ready (rs:=[9,10]) (by kernel_rfl) (by simp) ?_
    refine AllReadyH.cons (o:=?fo9_4_8) ?fe9_4_8 (fun K hK=>?fc9_4_8) ?fn9_4_8
    case fe9_4_8=>((simp only[gZa,gZb,gZc]) <;> rfl)
    case fc9_4_8 =>
     go_simp
     refine hK.out _ _ ?_ (fun hHeld=>?_)
     · exact SC.out _ ((((zAa w0.heap.size w0 1).alloc (Nat.le_refl _) _) |> alB) |> alB)
     clear hK K
     try simp only[Act.put,sZa,sZb,sZc]
     refine wpAnyH_ready (rs:=[10]) (by kernel_rfl) (by simp) ?_
     refine AllReadyH.cons (o:=?fo10_4_8_9) ?fe10_4_8_9 (fun K hK=>?fc10_4_8_9) ?fn10_4_8_9
     case fe10_4_8_9=>((simp only[gZa,gZb,gZc]) <;> rfl)
     case fc10_4_8_9 =>
      go_simp
      refine hK.out _ _ ?_ (fun hHeld=>?_)
      · exact SC.out _ (((((zAa w0.heap.size w0 1).alloc (Nat.le_refl _) _) |> alB) |> alB) |> alB)
      clear hK K
      try simp only[Act.put,sZa,sZb,sZc]
      refine wpAnyH_take (i:=11) (oi:=?fo11_4_8_9_10) (v:=?fv11_4_8_9_10) ?fe11_4_8_9_10 (by kernel_rfl) (by kernel_rfl) (by kernel_rfl) (fun _ _ _ h=>h) (Or.inl ⟨?fw11_4_8_9_10,?fy11_4_8_9_10⟩) (by assumption) ?fr11_4_8_9_10
      case fe11_4_8_9_10=>((simp only[gZa,gZb,gZc]) <;> rfl)
      case fw11_4_8_9_10=>rfl
      case fy11_4_8_9_10=>(intro w hSw;(try dsimp only at hSw);go_simp;(try with_reducible rfl))
      try simp only[Act.put,sZa,sZb,sZc]
      refine wpAnyH_ready (rs:=[12]) (by kernel_rfl) (by simp) ?_
      refine AllReadyH.cons (o:=?fo12_4_8_9_10) ?fe12_4_8_9_10 (fun K hK=>?fc12_4_8_9_10) ?fn12_4_8_9_10
      case fe12_4_8_9_10=>((simp only[gZa,gZb,gZc]) <;> rfl)
      case fc12_4_8_9_10 =>
       go_simp
       refine hK.out _ _ ?_ (fun hHeld=>?_)
       · exact SC.out _ ((((((zAa w0.heap.size w0 1).alloc (Nat.le_refl _) _) |> alB) |> alB) |> alB) |> alB)
       clear hK K
       try simp only[Act.put,sZa,sZb,sZc]
       refine wpAnyH_take (i:=13) (oi:=?fo13_4_8_9_10) (v:=?fv13_4_8_9_10) ?fe13_4_8_9_10 (by kernel_rfl) (by kernel_rfl) (by kernel_rfl) (fun _ _ _ h=>h) (Or.inl ⟨?fw13_4_8_9_10,?fy13_4_8_9_10⟩) (by assumption) ?fr13_4_8_9_10
       case fe13_4_8_9_10=>((simp only[gZa,gZb,gZc]) <;> rfl)
       case fw13_4_8_9_10=>rfl
       case fy13_4_8_9_10=>(intro w hSw;(try dsimp only at hSw);go_simp;(try with_reducible rfl))
       try simp only[Act.put,sZa,sZb,sZc]
       refine wpAnyH_done (by kernel_rfl) ?_ _
       refine NoPanic.normal ?_
       try go_wp2_with fail
       go_meet
       obtain⟨k1,k2,k3,k4,k5,kb,-⟩:=lay5 (w0.drewN 1) _ _ _ _ _ rfl
       exact zBf hp hun (b0.trans ((zAb kb).mono b0.size)) k1 k2 k3 k4 k5 (by omega) (by omega) (by have:=b0.size;simp;omega) (by have:=b0.size;simp;omega) (by have:=b0.size;simp;omega) (by have:=b0.size;simp;omega) (by have:=b0.size;simp;omega) hsl
      case fn12_4_8_9_10=>exact AllReadyH.nil
     case fn10_4_8_9=>exact AllReadyH.nil
    case fn9_4_8 =>
     refine AllReadyH.cons (o:=?fo10_4_8) ?fe10_4_8 (fun K hK=>?fc10_4_8) ?fn10_4_8
     case fe10_4_8=>((simp only[gZa,gZb,gZc]) <;> rfl)
     case fc10_4_8 =>
      go_simp
      refine hK.out _ _ ?_ (fun hHeld=>?_)
      · exact SC.out _ ((((zAa w0.heap.size w0 1).alloc (Nat.le_refl _) _) |> alB) |> alB)
      clear hK K
      try simp only[Act.put,sZa,sZb,sZc]
      refine wpAnyH_ready (rs:=[9]) (by kernel_rfl) (by simp) ?_
      refine AllReadyH.cons (o:=?fo9_4_8_10) ?fe9_4_8_10 (fun K hK=>?fc9_4_8_10) ?fn9_4_8_10
      case fe9_4_8_10=>((simp only[gZa,gZb,gZc]) <;> rfl)
      case fc9_4_8_10 =>
       go_simp
       refine hK.out _ _ ?_ (fun hHeld=>?_)
       · exact SC.out _ (((((zAa w0.heap.size w0 1).alloc (Nat.le_refl _) _) |> alB) |> alB) |> alB)
       clear hK K
       try simp only[Act.put,sZa,sZb,sZc]
       refine wpAnyH_take (i:=11) (oi:=?fo11_4_8_10_9) (v:=?fv11_4_8_10_9) ?fe11_4_8_10_9 (by kernel_rfl) (by kernel_rfl) (by kernel_rfl) (fun _ _ _ h=>h) (Or.inl ⟨?fw11_4_8_10_9,?fy11_4_8_10_9⟩) (by assumption) ?fr11_4_8_10_9
       case fe11_4_8_10_9=>((simp only[gZa,gZb,gZc]) <;> rfl)
       case fw11_4_8_10_9=>rfl
       case fy11_4_8_10_9=>(intro w hSw;(try dsimp only at hSw);go_simp;(try with_reducible rfl))
       try simp only[Act.put,sZa,sZb,sZc]
       refine wpAnyH_ready (rs:=[12]) (by kernel_rfl) (by simp) ?_
       refine AllReadyH.cons (o:=?fo12_4_8_10_9) ?fe12_4_8_10_9 (fun K hK=>?fc12_4_8_10_9) ?fn12_4_8_10_9
       case fe12_4_8_10_9=>((simp only[gZa,gZb,gZc]) <;> rfl)
       case fc12_4_8_10_9 =>
        go_simp
        refine hK.out _ _ ?_ (fun hHeld=>?_)
        · exact SC.out _ ((((((zAa w0.heap.size w0 1).alloc (Nat.le_refl _) _) |> alB) |> alB) |> alB) |> alB)
        clear hK K
        try simp only[Act.put,sZa,sZb,sZc]
        refine wpAnyH_take (i:=13) (oi:=?fo13_4_8_10_9) (v:=?fv13_4_8_10_9) ?fe13_4_8_10_9 (by kernel_rfl) (by kernel_rfl) (by kernel_rfl) (fun _ _ _ h=>h) (Or.inl ⟨?fw13_4_8_10_9,?fy13_4_8_10_9⟩) (by assumption) ?fr13_4_8_10_9
        case fe13_4_8_10_9=>((simp only[gZa,gZb,gZc]) <;> rfl)
        case fw13_4_8_10_9=>rfl
        case fy13_4_8_10_9=>(intro w hSw;(try dsimp only at hSw);go_simp;(try with_reducible rfl))
        try simp only[Act.put,sZa,sZb,sZc]
        refine wpAnyH_done (by kernel_rfl) ?_ _
        refine NoPanic.normal ?_
        try go_wp2_with fail
        go_meet
        obtain⟨k1,k2,k3,k4,k5,kb,-⟩:=lay5 (w0.drewN 1) _ _ _ _ _ rfl
        exact zBf hp hun (b0.trans ((zAb kb).mono b0.size)) k1 k2 k4 k3 k5 (by omega) (by omega) (by have:=b0.size;simp;omega) (by have:=b0.size;simp;omega) (by have:=b0.size;simp;omega) (by have:=b0.size;simp;omega) (by have:=b0.size;simp;omega) hsl
       case fn12_4_8_10_9=>exact AllReadyH.nil
      case fn9_4_8_10=>exact AllReadyH.nil
     case fn10_4_8=>exact AllReadyH.nil
   case fn8_4 =>
    refine AllReadyH.cons (o:=?fo9_4) ?fe9_4 (fun K hK=>?fc9_4) ?fn9_4
    case fe9_4=>((simp only[gZa,gZb,gZc]) <;> rfl)
    case fc9_4 =>
     go_simp
     refine hK.out _ _ ?_ (fun hHeld=>?_)
     · exact SC.out _ (((zAa w0.heap.size w0 1).alloc (Nat.le_refl _) _) |> alB)
     clear hK K
     try simp only[Act.put,sZa,sZb,sZc]
     refine wpAnyH_ready (rs:=[8,10]) (by kernel_rfl) (by simp) ?_
     refine AllReadyH.cons (o:=?fo8_4_9) ?fe8_4_9 (fun K hK=>?fc8_4_9) ?fn8_4_9
     case fe8_4_9=>((simp only[gZa,gZb,gZc]) <;> rfl)
     case fc8_4_9 =>
      go_simp
      refine hK.out _ _ ?_ (fun hHeld=>?_)
      · exact SC.out _ ((((zAa w0.heap.size w0 1).alloc (Nat.le_refl _) _) |> alB) |> alB)
      clear hK K
      try simp only[Act.put,sZa,sZb,sZc]
      refine wpAnyH_ready (rs:=[10]) (by kernel_rfl) (by simp) ?_
      refine AllReadyH.cons (o:=?fo10_4_9_8) ?fe10_4_9_8 (fun K hK=>?fc10_4_9_8) ?fn10_4_9_8
      case fe10_4_9_8=>((simp only[gZa,gZb,gZc]) <;> rfl)
      case fc10_4_9_8 =>
       go_simp
       refine hK.out _ _ ?_ (fun hHeld=>?_)
       · exact SC.out _ (((((zAa w0.heap.size w0 1).alloc (Nat.le_refl _) _) |> alB) |> alB) |> alB)
       clear hK K
       try simp only[Act.put,sZa,sZb,sZc]
       refine wpAnyH_take (i:=11) (oi:=?fo11_4_9_8_10) (v:=?fv11_4_9_8_10) ?fe11_4_9_8_10 (by kernel_rfl) (by kernel_rfl) (by kernel_rfl) (fun _ _ _ h=>h) (Or.inl ⟨?fw11_4_9_8_10,?fy11_4_9_8_10⟩) (by assumption) ?fr11_4_9_8_10
       case fe11_4_9_8_10=>((simp only[gZa,gZb,gZc]) <;> rfl)
       case fw11_4_9_8_10=>rfl
       case fy11_4_9_8_10=>(intro w hSw;(try dsimp only at hSw);go_simp;(try with_reducible rfl))
       try simp only[Act.put,sZa,sZb,sZc]
       refine wpAnyH_ready (rs:=[12]) (by kernel_rfl) (by simp) ?_
       refine AllReadyH.cons (o:=?fo12_4_9_8_10) ?fe12_4_9_8_10 (fun K hK=>?fc12_4_9_8_10) ?fn12_4_9_8_10
       case fe12_4_9_8_10=>((simp only[gZa,gZb,gZc]) <;> rfl)
       case fc12_4_9_8_10 =>
        go_simp
        refine hK.out _ _ ?_ (fun hHeld=>?_)
        · exact SC.out _ ((((((zAa w0.heap.size w0 1).alloc (Nat.le_refl _) _) |> alB) |> alB) |> alB) |> alB)
        clear hK K
        try simp only[Act.put,sZa,sZb,sZc]
        refine wpAnyH_take (i:=13) (oi:=?fo13_4_9_8_10) (v:=?fv13_4_9_8_10) ?fe13_4_9_8_10 (by kernel_rfl) (by kernel_rfl) (by kernel_rfl) (fun _ _ _ h=>h) (Or.inl ⟨?fw13_4_9_8_10,?fy13_4_9_8_10⟩) (by assumption) ?fr13_4_9_8_10
        case fe13_4_9_8_10=>((simp only[gZa,gZb,gZc]) <;> rfl)
        case fw13_4_9_8_10=>rfl
        case fy13_4_9_8_10=>(intro w hSw;(try dsimp only at hSw);go_simp;(try with_reducible rfl))
        try simp only[Act.put,sZa,sZb,sZc]
        refine wpAnyH_done (by kernel_rfl) ?_ _
        refine NoPanic.normal ?_
        try go_wp2_with fail
        go_meet
        obtain⟨k1,k2,k3,k4,k5,kb,-⟩:=lay5 (w0.drewN 1) _ _ _ _ _ rfl
        exact zBf hp hun (b0.trans ((zAb kb).mono b0.size)) k1 k3 k2 k4 k5 (by omega) (by omega) (by have:=b0.size;simp;omega) (by have:=b0.size;simp;omega) (by have:=b0.size;simp;omega) (by have:=b0.size;simp;omega) (by have:=b0.size;simp;omega) hsl
       case fn12_4_9_8_10=>exact AllReadyH.nil
      case fn10_4_9_8=>exact AllReadyH.nil
     case fn8_4_9 =>
      refine AllReadyH.cons (o:=?fo10_4_9) ?fe10_4_9 (fun K hK=>?fc10_4_9) ?fn10_4_9
      case fe10_4_9=>((simp only[gZa,gZb,gZc]) <;> rfl)
      case fc10_4_9 =>
       go_simp
       refine hK.out _ _ ?_ (fun hHeld=>?_)
       · exact SC.out _ ((((zAa w0.heap.size w0 1).alloc (Nat.le_refl _) _) |> alB) |> alB)
       clear hK K
       try simp only[Act.put,sZa,sZb,sZc]
       refine wpAnyH_ready (rs:=[8]) (by kernel_rfl) (by simp) ?_
       refine AllReadyH.cons (o:=?fo8_4_9_10) ?fe8_4_9_10 (fun K hK=>?fc8_4_9_10) ?fn8_4_9_10
       case fe8_4_9_10=>((simp only[gZa,gZb,gZc]) <;> rfl)
       case fc8_4_9_10 =>
        go_simp
        refine hK.out _ _ ?_ (fun hHeld=>?_)
        · exact SC.out _ (((((zAa w0.heap.size w0 1).alloc (Nat.le_refl _) _) |> alB) |> alB) |> alB)
        clear hK K
        try simp only[Act.put,sZa,sZb,sZc]
        refine wpAnyH_take (i:=11) (oi:=?fo11_4_9_10_8) (v:=?fv11_4_9_10_8) ?fe11_4_9_10_8 (by kernel_rfl) (by kernel_rfl) (by kernel_rfl) (fun _ _ _ h=>h) (Or.inl ⟨?fw11_4_9_10_8,?fy11_4_9_10_8⟩) (by assumption) ?fr11_4_9_10_8
        case fe11_4_9_10_8=>((simp only[gZa,gZb,gZc]) <;> rfl)
        case fw11_4_9_10_8=>rfl
        case fy11_4_9_10_8=>(intro w hSw;(try dsimp only at hSw);go_simp;(try with_reducible rfl))
        try simp only[Act.put,sZa,sZb,sZc]
        refine wpAnyH_ready (rs:=[12]) (by kernel_rfl) (by simp) ?_
        refine AllReadyH.cons (o:=?fo12_4_9_10_8) ?fe12_4_9_10_8 (fun K hK=>?fc12_4_9_10_8) ?fn12_4_9_10_8
        case fe12_4_9_10_8=>((simp only[gZa,gZb,gZc]) <;> rfl)
        case fc12_4_9_10_8 =>
         go_simp
         refine hK.out _ _ ?_ (fun hHeld=>?_)
         · exact SC.out _ ((((((zAa w0.heap.size w0 1).alloc (Nat.le_refl _) _) |> alB) |> alB) |> alB) |> alB)
         clear hK K
         try simp only[Act.put,sZa,sZb,sZc]
         refine wpAnyH_take (i:=13) (oi:=?fo13_4_9_10_8) (v:=?fv13_4_9_10_8) ?fe13_4_9_10_8 (by kernel_rfl) (by kernel_rfl) (by kernel_rfl) (fun _ _ _ h=>h) (Or.inl ⟨?fw13_4_9_10_8,?fy13_4_9_10_8⟩) (by assumption) ?fr13_4_9_10_8
         case fe13_4_9_10_8=>((simp only[gZa,gZb,gZc]) <;> rfl)
         case fw13_4_9_10_8=>rfl
         case fy13_4_9_10_8=>(intro w hSw;(try dsimp only at hSw);go_simp;(try with_reducible rfl))
         try simp only[Act.put,sZa,sZb,sZc]
         refine wpAnyH_done (by kernel_rfl) ?_ _
         refine NoPanic.normal ?_
         try go_wp2_with fail
         go_meet
         obtain⟨k1,k2,k3,k4,k5,kb,-⟩:=lay5 (w0.drewN 1) _ _ _ _ _ rfl
         exact zBf hp hun (b0.trans ((zAb kb).mono b0.size)) k1 k4 k2 k3 k5 (by omega) (by omega) (by have:=b0.size;simp;omega) (by have:=b0.size;simp;omega) (by have:=b0.size;simp;omega) (by have:=b0.size;simp;omega) (by have:=b0.size;simp;omega) hsl
        case fn12_4_9_10_8=>exact AllReadyH.nil
       case fn8_4_9_10=>exact AllReadyH.nil
      case fn10_4_9=>exact AllReadyH.nil
    case fn9_4 =>
     refine AllReadyH.cons (o:=?fo10_4) ?fe10_4 (fun K hK=>?fc10_4) ?fn10_4
     case fe10_4=>((simp only[gZa,gZb,gZc]) <;> rfl)
     case fc10_4 =>
      go_simp
      refine hK.out _ _ ?_ (fun hHeld=>?_)
      · exact SC.out _ (((zAa w0.heap.size w0 1).alloc (Nat.le_refl _) _) |> alB)
      clear hK K
      try simp only[Act.put,sZa,sZb,sZc]
      refine wpAnyH_ready (rs:=[8,9]) (by kernel_rfl) (by simp) ?_
      refine AllReadyH.cons (o:=?fo8_4_10) ?fe8_4_10 (fun K hK=>?fc8_4_10) ?fn8_4_10
      case fe8_4_10=>((simp only[gZa,gZb,gZc]) <;> rfl)
      case fc8_4_10 =>
       go_simp
       refine hK.out _ _ ?_ (fun hHeld=>?_)
       · exact SC.out _ ((((zAa w0.heap.size w0 1).alloc (Nat.le_refl _) _) |> alB) |> alB)
       clear hK K
       try simp only[Act.put,sZa,sZb,sZc]
       refine wpAnyH_ready (rs:=[9]) (by kernel_rfl) (by simp) ?_
       refine AllReadyH.cons (o:=?fo9_4_10_8) ?fe9_4_10_8 (fun K hK=>?fc9_4_10_8) ?fn9_4_10_8
       case fe9_4_10_8=>((simp only[gZa,gZb,gZc]) <;> rfl)
       case fc9_4_10_8 =>
        go_simp
        refine hK.out _ _ ?_ (fun hHeld=>?_)
        · exact SC.out _ (((((zAa w0.heap.size w0 1).alloc (Nat.le_refl _) _) |> alB) |> alB) |> alB)
        clear hK K
        try simp only[Act.put,sZa,sZb,sZc]
        refine wpAnyH_take (i:=11) (oi:=?fo11_4_10_8_9) (v:=?fv11_4_10_8_9) ?fe11_4_10_8_9 (by kernel_rfl) (by kernel_rfl) (by kernel_rfl) (fun _ _ _ h=>h) (Or.inl ⟨?fw11_4_10_8_9,?fy11_4_10_8_9⟩) (by assumption) ?fr11_4_10_8_9
        case fe11_4_10_8_9=>((simp only[gZa,gZb,gZc]) <;> rfl)
        case fw11_4_10_8_9=>rfl
        case fy11_4_10_8_9=>(intro w hSw;(try dsimp only at hSw);go_simp;(try with_reducible rfl))
        try simp only[Act.put,sZa,sZb,sZc]
        refine wpAnyH_ready (rs:=[12]) (by kernel_rfl) (by simp) ?_
        refine AllReadyH.cons (o:=?fo12_4_10_8_9) ?fe12_4_10_8_9 (fun K hK=>?fc12_4_10_8_9) ?fn12_4_10_8_9
        case fe12_4_10_8_9=>((simp only[gZa,gZb,gZc]) <;> rfl)
        case fc12_4_10_8_9 =>
         go_simp
         refine hK.out _ _ ?_ (fun hHeld=>?_)
         · exact SC.out _ ((((((zAa w0.heap.size w0 1).alloc (Nat.le_refl _) _) |> alB) |> alB) |> alB) |> alB)
         clear hK K
         try simp only[Act.put,sZa,sZb,sZc]
         refine wpAnyH_take (i:=13) (oi:=?fo13_4_10_8_9) (v:=?fv13_4_10_8_9) ?fe13_4_10_8_9 (by kernel_rfl) (by kernel_rfl) (by kernel_rfl) (fun _ _ _ h=>h) (Or.inl ⟨?fw13_4_10_8_9,?fy13_4_10_8_9⟩) (by assumption) ?fr13_4_10_8_9
         case fe13_4_10_8_9=>((simp only[gZa,gZb,gZc]) <;> rfl)
         case fw13_4_10_8_9=>rfl
         case fy13_4_10_8_9=>(intro w hSw;(try dsimp only at hSw);go_simp;(try with_reducible rfl))
         try simp only[Act.put,sZa,sZb,sZc]
         refine wpAnyH_done (by kernel_rfl) ?_ _
         refine NoPanic.normal ?_
         try go_wp2_with fail
         go_meet
         obtain⟨k1,k2,k3,k4,k5,kb,-⟩:=lay5 (w0.drewN 1) _ _ _ _ _ rfl
         exact zBf hp hun (b0.trans ((zAb kb).mono b0.size)) k1 k3 k4 k2 k5 (by omega) (by omega) (by have:=b0.size;simp;omega) (by have:=b0.size;simp;omega) (by have:=b0.size;simp;omega) (by have:=b0.size;simp;omega) (by have:=b0.size;simp;omega) hsl
        case fn12_4_10_8_9=>exact AllReadyH.nil
       case fn9_4_10_8=>exact AllReadyH.nil
      case fn8_4_10 =>
       refine AllReadyH.cons (o:=?fo9_4_10) ?fe9_4_10 (fun K hK=>?fc9_4_10) ?fn9_4_10
       case fe9_4_10=>((simp only[gZa,gZb,gZc]) <;> rfl)
       case fc9_4_10 =>
        go_simp
        refine hK.out _ _ ?_ (fun hHeld=>?_)
        · exact SC.out _ ((((zAa w0.heap.size w0 1).alloc (Nat.le_refl _) _) |> alB) |> alB)
        clear hK K
        try simp only[Act.put,sZa,sZb,sZc]
        refine wpAnyH_ready (rs:=[8]) (by kernel_rfl) (by simp) ?_
        refine AllReadyH.cons (o:=?fo8_4_10_9) ?fe8_4_10_9 (fun K hK=>?fc8_4_10_9) ?fn8_4_10_9
        case fe8_4_10_9=>((simp only[gZa,gZb,gZc]) <;> rfl)
        case fc8_4_10_9 =>
         go_simp
         refine hK.out _ _ ?_ (fun hHeld=>?_)
         · exact SC.out _ (((((zAa w0.heap.size w0 1).alloc (Nat.le_refl _) _) |> alB) |> alB) |> alB)
         clear hK K
         try simp only[Act.put,sZa,sZb,sZc]
         refine wpAnyH_take (i:=11) (oi:=?fo11_4_10_9_8) (v:=?fv11_4_10_9_8) ?fe11_4_10_9_8 (by kernel_rfl) (by kernel_rfl) (by kernel_rfl) (fun _ _ _ h=>h) (Or.inl ⟨?fw11_4_10_9_8,?fy11_4_10_9_8⟩) (by assumption) ?fr11_4_10_9_8
         case fe11_4_10_9_8=>((simp only[gZa,gZb,gZc]) <;> rfl)
         case fw11_4_10_9_8=>rfl
         case fy11_4_10_9_8=>(intro w hSw;(try dsimp only at hSw);go_simp;(try with_reducible rfl))
         try simp only[Act.put,sZa,sZb,sZc]
         refine wpAnyH_ready (rs:=[12]) (by kernel_rfl) (by simp) ?_
         refine AllReadyH.cons (o:=?fo12_4_10_9_8) ?fe12_4_10_9_8 (fun K hK=>?fc12_4_10_9_8) ?fn12_4_10_9_8
         case fe12_4_10_9_8=>((simp only[gZa,gZb,gZc]) <;> rfl)
         case fc12_4_10_9_8 =>
          go_simp
          refine hK.out _ _ ?_ (fun hHeld=>?_)
          · exact SC.out _ ((((((zAa w0.heap.size w0 1).alloc (Nat.le_refl _) _) |> alB) |> alB) |> alB) |> alB)
          clear hK K
          try simp only[Act.put,sZa,sZb,sZc]
          refine wpAnyH_take (i:=13) (oi:=?fo13_4_10_9_8) (v:=?fv13_4_10_9_8) ?fe13_4_10_9_8 (by kernel_rfl) (by kernel_rfl) (by kernel_rfl) (fun _ _ _ h=>h) (Or.inl ⟨?fw13_4_10_9_8,?fy13_4_10_9_8⟩) (by assumption) ?fr13_4_10_9_8
          case fe13_4_10_9_8=>((simp only[gZa,gZb,gZc]) <;> rfl)
          case fw13_4_10_9_8=>rfl
          case fy13_4_10_9_8=>(intro w hSw;(try dsimp only at hSw);go_simp;(try with_reducible rfl))
          try simp only[Act.put,sZa,sZb,sZc]
          refine wpAnyH_done (by kernel_rfl) ?_ _
          refine NoPanic.normal ?_
          try go_wp2_with fail
          go_meet
          obtain⟨k1,k2,k3,k4,k5,kb,-⟩:=lay5 (w0.drewN 1) _ _ _ _ _ rfl
          exact zBf hp hun (b0.trans ((zAb kb).mono b0.size)) k1 k4 k3 k2 k5 (by omega) (by omega) (by have:=b0.size;simp;omega) (by have:=b0.size;simp;omega) (by have:=b0.size;simp;omega) (by have:=b0.size;simp;omega) (by have:=b0.size;simp;omega) hsl
         case fn12_4_10_9_8=>exact AllReadyH.nil
        case fn8_4_10_9=>exact AllReadyH.nil
       case fn9_4_10=>exact AllReadyH.nil
     case fn10_4=>exact AllReadyH.nil
  case fn4 =>
   refine AllReadyH.cons (o:=?fo8) ?fe8 (fun K hK=>?fc8) ?fn8
   case fe8=>((simp only[gZa,gZb,gZc]) <;> rfl)
   case fc8 =>
    go_simp
    refine hK.out _ _ ?_ (fun hHeld=>?_)
    · exact SC.out _ ((zAa w0.heap.size w0 1).alloc (Nat.le_refl _) _)
    clear hK K
    try simp only[Act.put,sZa,sZb,sZc]
    refine wpAnyH_ready (rs:=[4,9,10]) (by kernel_rfl) (by simp) ?_
    refine AllReadyH.cons (o:=?fo4_8) ?fe4_8 (fun K hK=>?fc4_8) ?fn4_8
    case fe4_8=>((simp only[gZa,gZb,gZc]) <;> rfl)
    case fc4_8 =>
     go_simp
     refine hK.out _ _ ?_ (fun hHeld=>?_)
     · exact SC.out _ (((zAa w0.heap.size w0 1).alloc (Nat.le_refl _) _) |> alB)
     clear hK K
     try simp only[Act.put,sZa,sZb,sZc]
     refine wpAnyH_ready (rs:=[9,10]) (by kernel_rfl) (by simp) ?_
     refine AllReadyH.cons (o:=?fo9_8_4) ?fe9_8_4 (fun K hK=>?fc9_8_4) ?fn9_8_4
     case fe9_8_4=>((simp only[gZa,gZb,gZc]) <;> rfl)
     case fc9_8_4 =>
      go_simp
      refine hK.out _ _ ?_ (fun hHeld=>?_)
      · exact SC.out _ ((((zAa w0.heap.size w0 1).alloc (Nat.le_refl _) _) |> alB) |> alB)
      clear hK K
      try simp only[Act.put,sZa,sZb,sZc]
      refine wpAnyH_ready (rs:=[10]) (by kernel_rfl) (by simp) ?_
      refine AllReadyH.cons (o:=?fo10_8_4_9) ?fe10_8_4_9 (fun K hK=>?fc10_8_4_9) ?fn10_8_4_9
      case fe10_8_4_9=>((simp only[gZa,gZb,gZc]) <;> rfl)
      case fc10_8_4_9 =>
       go_simp
       refine hK.out _ _ ?_ (fun hHeld=>?_)
       · exact SC.out _ (((((zAa w0.heap.size w0 1).alloc (Nat.le_refl _) _) |> alB) |> alB) |> alB)
       clear hK K
       try simp only[Act.put,sZa,sZb,sZc]
       refine wpAnyH_take (i:=11) (oi:=?fo11_8_4_9_10) (v:=?fv11_8_4_9_10) ?fe11_8_4_9_10 (by kernel_rfl) (by kernel_rfl) (by kernel_rfl) (fun _ _ _ h=>h) (Or.inl ⟨?fw11_8_4_9_10,?fy11_8_4_9_10⟩) (by assumption) ?fr11_8_4_9_10
       case fe11_8_4_9_10=>((simp only[gZa,gZb,gZc]) <;> rfl)
       case fw11_8_4_9_10=>rfl
       case fy11_8_4_9_10=>(intro w hSw;(try dsimp only at hSw);go_simp;(try with_reducible rfl))
       try simp only[Act.put,sZa,sZb,sZc]
       refine wpAnyH_ready (rs:=[12]) (by kernel_rfl) (by simp) ?_
       refine AllReadyH.cons (o:=?fo12_8_4_9_10) ?fe12_8_4_9_10 (fun K hK=>?fc12_8_4_9_10) ?fn12_8_4_9_10
       case fe12_8_4_9_10=>((simp only[gZa,gZb,gZc]) <;> rfl)
       case fc12_8_4_9_10 =>
        go_simp
        refine hK.out _ _ ?_ (fun hHeld=>?_)
        · exact SC.out _ ((((((zAa w0.heap.size w0 1).alloc (Nat.le_refl _) _) |> alB) |> alB) |> alB) |> alB)
        clear hK K
        try simp only[Act.put,sZa,sZb,sZc]
        refine wpAnyH_take (i:=13) (oi:=?fo13_8_4_9_10) (v:=?fv13_8_4_9_10) ?fe13_8_4_9_10 (by kernel_rfl) (by kernel_rfl) (by kernel_rfl) (fun _ _ _ h=>h) (Or.inl ⟨?fw13_8_4_9_10,?fy13_8_4_9_10⟩) (by assumption) ?fr13_8_4_9_10
        case fe13_8_4_9_10=>((simp only[gZa,gZb,gZc]) <;> rfl)
        case fw13_8_4_9_10=>rfl
        case fy13_8_4_9_10=>(intro w hSw;(try dsimp only at hSw);go_simp;(try with_reducible rfl))
        try simp only[Act.put,sZa,sZb,sZc]
        refine wpAnyH_done (by kernel_rfl) ?_ _
        refine NoPanic.normal ?_
        try go_wp2_with fail
        go_meet
        obtain⟨k1,k2,k3,k4,k5,kb,-⟩:=lay5 (w0.drewN 1) _ _ _ _ _ rfl
        exact zBf hp hun (b0.trans ((zAb kb).mono b0.size)) k2 k1 k3 k4 k5 (by omega) (by omega) (by have:=b0.size;simp;omega) (by have:=b0.size;simp;omega) (by have:=b0.size;simp;omega) (by have:=b0.size;simp;omega) (by have:=b0.size;simp;omega) hsl
       case fn12_8_4_9_10=>exact AllReadyH.nil
      case fn10_8_4_9=>exact AllReadyH.nil
     case fn9_8_4 =>
      refine AllReadyH.cons (o:=?fo10_8_4) ?fe10_8_4 (fun K hK=>?fc10_8_4) ?fn10_8_4
      case fe10_8_4=>((simp only[gZa,gZb,gZc]) <;> rfl)
      case fc10_8_4 =>
       go_simp
       refine hK.out _ _ ?_ (fun hHeld=>?_)
       · exact SC.out _ ((((zAa w0.heap.size w0 1).alloc (Nat.le_refl _) _) |> alB) |> alB)
       clear hK K
       try simp only[Act.put,sZa,sZb,sZc]
       refine wpAnyH_ready (rs:=[9]) (by kernel_rfl) (by simp) ?_
       refine AllReadyH.cons (o:=?fo9_8_4_10) ?fe9_8_4_10 (fun K hK=>?fc9_8_4_10) ?fn9_8_4_10
       case fe9_8_4_10=>((simp only[gZa,gZb,gZc]) <;> rfl)
       case fc9_8_4_10 =>
        go_simp
        refine hK.out _ _ ?_ (fun hHeld=>?_)
        · exact SC.out _ (((((zAa w0.heap.size w0 1).alloc (Nat.le_refl _) _) |> alB) |> alB) |> alB)
        clear hK K
        try simp only[Act.put,sZa,sZb,sZc]
        refine wpAnyH_take (i:=11) (oi:=?fo11_8_4_10_9) (v:=?fv11_8_4_10_9) ?fe11_8_4_10_9 (by kernel_rfl) (by kernel_rfl) (by kernel_rfl) (fun _ _ _ h=>h) (Or.inl ⟨?fw11_8_4_10_9,?fy11_8_4_10_9⟩) (by assumption) ?fr11_8_4_10_9
        case fe11_8_4_10_9=>((simp only[gZa,gZb,gZc]) <;> rfl)
        case fw11_8_4_10_9=>rfl
        case fy11_8_4_10_9=>(intro w hSw;(try dsimp only at hSw);go_simp;(try with_reducible rfl))
        try simp only[Act.put,sZa,sZb,sZc]
        refine wpAnyH_ready (rs:=[12]) (by kernel_rfl) (by simp) ?_
        refine AllReadyH.cons (o:=?fo12_8_4_10_9) ?fe12_8_4_10_9 (fun K hK=>?fc12_8_4_10_9) ?fn12_8_4_10_9
        case fe12_8_4_10_9=>((simp only[gZa,gZb,gZc]) <;> rfl)
        case fc12_8_4_10_9 =>
         go_simp
         refine hK.out _ _ ?_ (fun hHeld=>?_)
         · exact SC.out _ ((((((zAa w0.heap.size w0 1).alloc (Nat.le_refl _) _) |> alB) |> alB) |> alB) |> alB)
         clear hK K
         try simp only[Act.put,sZa,sZb,sZc]
         refine wpAnyH_take (i:=13) (oi:=?fo13_8_4_10_9) (v:=?fv13_8_4_10_9) ?fe13_8_4_10_9 (by kernel_rfl) (by kernel_rfl) (by kernel_rfl) (fun _ _ _ h=>h) (Or.inl ⟨?fw13_8_4_10_9,?fy13_8_4_10_9⟩) (by assumption) ?fr13_8_4_10_9
         case fe13_8_4_10_9=>((simp only[gZa,gZb,gZc]) <;> rfl)
         case fw13_8_4_10_9=>rfl
         case fy13_8_4_10_9=>(intro w hSw;(try dsimp only at hSw);go_simp;(try with_reducible rfl))
         try simp only[Act.put,sZa,sZb,sZc]
         refine wpAnyH_done (by kernel_rfl) ?_ _
         refine NoPanic.normal ?_
         try go_wp2_with fail
         go_meet
         obtain⟨k1,k2,k3,k4,k5,kb,-⟩:=lay5 (w0.drewN 1) _ _ _ _ _ rfl
         exact zBf hp hun (b0.trans ((zAb kb).mono b0.size)) k2 k1 k4 k3 k5 (by omega) (by omega) (by have:=b0.size;simp;omega) (by have:=b0.size;simp;omega) (by have:=b0.size;simp;omega) (by have:=b0.size;simp;omega) (by have:=b0.size;simp;omega) hsl
        case fn12_8_4_10_9=>exact AllReadyH.nil
       case fn9_8_4_10=>exact AllReadyH.nil
      case fn10_8_4=>exact AllReadyH.nil
    case fn4_8 =>
     refine AllReadyH.cons (o:=?fo9_8) ?fe9_8 (fun K hK=>?fc9_8) ?fn9_8
     case fe9_8=>((simp only[gZa,gZb,gZc]) <;> rfl)
     case fc9_8 =>
      go_simp
      refine hK.out _ _ ?_ (fun hHeld=>?_)
      · exact SC.out _ (((zAa w0.heap.size w0 1).alloc (Nat.le_refl _) _) |> alB)
      clear hK K
      try simp only[Act.put,sZa,sZb,sZc]
      refine wpAnyH_ready (rs:=[4,10]) (by kernel_rfl) (by simp) ?_
      refine AllReadyH.cons (o:=?fo4_8_9) ?fe4_8_9 (fun K hK=>?fc4_8_9) ?fn4_8_9
      case fe4_8_9=>((simp only[gZa,gZb,gZc]) <;> rfl)
      case fc4_8_9 =>
       go_simp
       refine hK.out _ _ ?_ (fun hHeld=>?_)
       · exact SC.out _ ((((zAa w0.heap.size w0 1).alloc (Nat.le_refl _) _) |> alB) |> alB)
       clear hK K
       try simp only[Act.put,sZa,sZb,sZc]
       refine wpAnyH_ready (rs:=[10]) (by kernel_rfl) (by simp) ?_
       refine AllReadyH.cons (o:=?fo10_8_9_4) ?fe10_8_9_4 (fun K hK=>?fc10_8_9_4) ?fn10_8_9_4
       case fe10_8_9_4=>((simp only[gZa,gZb,gZc]) <;> rfl)
       case fc10_8_9_4 =>
        go_simp
        refine hK.out _ _ ?_ (fun hHeld=>?_)
        · exact SC.out _ (((((zAa w0.heap.size w0 1).alloc (Nat.le_refl _) _) |> alB) |> alB) |> alB)
        clear hK K
        try simp only[Act.put,sZa,sZb,sZc]
        refine wpAnyH_take (i:=11) (oi:=?fo11_8_9_4_10) (v:=?fv11_8_9_4_10) ?fe11_8_9_4_10 (by kernel_rfl) (by kernel_rfl) (by kernel_rfl) (fun _ _ _ h=>h) (Or.inl ⟨?fw11_8_9_4_10,?fy11_8_9_4_10⟩) (by assumption) ?fr11_8_9_4_10
        case fe11_8_9_4_10=>((simp only[gZa,gZb,gZc]) <;> rfl)
        case fw11_8_9_4_10=>rfl
        case fy11_8_9_4_10=>(intro w hSw;(try dsimp only at hSw);go_simp;(try with_reducible rfl))
        try simp only[Act.put,sZa,sZb,sZc]
        refine wpAnyH_ready (rs:=[12]) (by kernel_rfl) (by simp) ?_
        refine AllReadyH.cons (o:=?fo12_8_9_4_10) ?fe12_8_9_4_10 (fun K hK=>?fc12_8_9_4_10) ?fn12_8_9_4_10
        case fe12_8_9_4_10=>((simp only[gZa,gZb,gZc]) <;> rfl)
        case fc12_8_9_4_10 =>
         go_simp
         refine hK.out _ _ ?_ (fun hHeld=>?_)
         · exact SC.out _ ((((((zAa w0.heap.size w0 1).alloc (Nat.le_refl _) _) |> alB) |> alB) |> alB) |> alB)
         clear hK K
         try simp only[Act.put,sZa,sZb,sZc]
         refine wpAnyH_take (i:=13) (oi:=?fo13_8_9_4_10) (v:=?fv13_8_9_4_10) ?fe13_8_9_4_10 (by kernel_rfl) (by kernel_rfl) (by kernel_rfl) (fun _ _ _ h=>h) (Or.inl ⟨?fw13_8_9_4_10,?fy13_8_9_4_10⟩) (by assumption) ?fr13_8_9_4_10
         case fe13_8_9_4_10=>((simp only[gZa,gZb,gZc]) <;> rfl)
         case fw13_8_9_4_10=>rfl
         case fy13_8_9_4_10=>(intro w hSw;(try dsimp only at hSw);go_simp;(try with_reducible rfl))
         try simp only[Act.put,sZa,sZb,sZc]
         refine wpAnyH_done (by kernel_rfl) ?_ _
         refine NoPanic.normal ?_
         try go_wp2_with fail
         go_meet
         obtain⟨k1,k2,k3,k4,k5,kb,-⟩:=lay5 (w0.drewN 1) _ _ _ _ _ rfl
         exact zBf hp hun (b0.trans ((zAb kb).mono b0.size)) k3 k1 k2 k4 k5 (by omega) (by omega) (by have:=b0.size;simp;omega) (by have:=b0.size;simp;omega) (by have:=b0.size;simp;omega) (by have:=b0.size;simp;omega) (by have:=b0.size;simp;omega) hsl
        case fn12_8_9_4_10=>exact AllReadyH.nil
       case fn10_8_9_4=>exact AllReadyH.nil
      case fn4_8_9 =>
       refine AllReadyH.cons (o:=?fo10_8_9) ?fe10_8_9 (fun K hK=>?fc10_8_9) ?fn10_8_9
       case fe10_8_9=>((simp only[gZa,gZb,gZc]) <;> rfl)
       case fc10_8_9 =>
        go_simp
        refine hK.out _ _ ?_ (fun hHeld=>?_)
        · exact SC.out _ ((((zAa w0.heap.size w0 1).alloc (Nat.le_refl _) _) |> alB) |> alB)
        clear hK K
        try simp only[Act.put,sZa,sZb,sZc]
        refine wpAnyH_ready (rs:=[4]) (by kernel_rfl) (by simp) ?_
        refine AllReadyH.cons (o:=?fo4_8_9_10) ?fe4_8_9_10 (fun K hK=>?fc4_8_9_10) ?fn4_8_9_10
        case fe4_8_9_10=>((simp only[gZa,gZb,gZc]) <;> rfl)
        case fc4_8_9_10 =>
         go_simp
         refine hK.out _ _ ?_ (fun hHeld=>?_)
         · exact SC.out _ (((((zAa w0.heap.size w0 1).alloc (Nat.le_refl _) _) |> alB) |> alB) |> alB)
         clear hK K
         try simp only[Act.put,sZa,sZb,sZc]
         refine wpAnyH_take (i:=11) (oi:=?fo11_8_9_10_4) (v:=?fv11_8_9_10_4) ?fe11_8_9_10_4 (by kernel_rfl) (by kernel_rfl) (by kernel_rfl) (fun _ _ _ h=>h) (Or.inl ⟨?fw11_8_9_10_4,?fy11_8_9_10_4⟩) (by assumption) ?fr11_8_9_10_4
         case fe11_8_9_10_4=>((simp only[gZa,gZb,gZc]) <;> rfl)
         case fw11_8_9_10_4=>rfl
         case fy11_8_9_10_4=>(intro w hSw;(try dsimp only at hSw);go_simp;(try with_reducible rfl))
         try simp only[Act.put,sZa,sZb,sZc]
         refine wpAnyH_ready (rs:=[12]) (by kernel_rfl) (by simp) ?_
         refine AllReadyH.cons (o:=?fo12_8_9_10_4) ?fe12_8_9_10_4 (fun K hK=>?fc12_8_9_10_4) ?fn12_8_9_10_4
         case fe12_8_9_10_4=>((simp only[gZa,gZb,gZc]) <;> rfl)
         case fc12_8_9_10_4 =>
          go_simp
          refine hK.out _ _ ?_ (fun hHeld=>?_)
          · exact SC.out _ ((((((zAa w0.heap.size w0 1).alloc (Nat.le_refl _) _) |> alB) |> alB) |> alB) |> alB)
          clear hK K
          try simp only[Act.put,sZa,sZb,sZc]
          refine wpAnyH_take (i:=13) (oi:=?fo13_8_9_10_4) (v:=?fv13_8_9_10_4) ?fe13_8_9_10_4 (by kernel_rfl) (by kernel_rfl) (by kernel_rfl) (fun _ _ _ h=>h) (Or.inl ⟨?fw13_8_9_10_4,?fy13_8_9_10_4⟩) (by assumption) ?fr13_8_9_10_4
          case fe13_8_9_10_4=>((simp only[gZa,gZb,gZc]) <;> rfl)
          case fw13_8_9_10_4=>rfl
          case fy13_8_9_10_4=>(intro w hSw;(try dsimp only at hSw);go_simp;(try with_reducible rfl))
          try simp only[Act.put,sZa,sZb,sZc]
          refine wpAnyH_done (by kernel_rfl) ?_ _
          refine NoPanic.normal ?_
          try go_wp2_with fail
          go_meet
          obtain⟨k1,k2,k3,k4,k5,kb,-⟩:=lay5 (w0.drewN 1) _ _ _ _ _ rfl
          exact zBf hp hun (b0.trans ((zAb kb).mono b0.size)) k4 k1 k2 k3 k5 (by omega) (by omega) (by have:=b0.size;simp;omega) (by have:=b0.size;simp;omega) (by have:=b0.size;simp;omega) (by have:=b0.size;simp;omega) (by have:=b0.size;simp;omega) hsl
         case fn12_8_9_10_4=>exact AllReadyH.nil
        case fn4_8_9_10=>exact AllReadyH.nil
       case fn10_8_9=>exact AllReadyH.nil
     case fn9_8 =>
      refine AllReadyH.cons (o:=?fo10_8) ?fe10_8 (fun K hK=>?fc10_8) ?fn10_8
      case fe10_8=>((simp only[gZa,gZb,gZc]) <;> rfl)
      case fc10_8 =>
       go_simp
       refine hK.out _ _ ?_ (fun hHeld=>?_)
       · exact SC.out _ (((zAa w0.heap.size w0 1).alloc (Nat.le_refl _) _) |> alB)
       clear hK K
       try simp only[Act.put,sZa,sZb,sZc]
       refine wpAnyH_ready (rs:=[4,9]) (by kernel_rfl) (by simp) ?_
       refine AllReadyH.cons (o:=?fo4_8_10) ?fe4_8_10 (fun K hK=>?fc4_8_10) ?fn4_8_10
       case fe4_8_10=>((simp only[gZa,gZb,gZc]) <;> rfl)
       case fc4_8_10 =>
        go_simp
        refine hK.out _ _ ?_ (fun hHeld=>?_)
        · exact SC.out _ ((((zAa w0.heap.size w0 1).alloc (Nat.le_refl _) _) |> alB) |> alB)
        clear hK K
        try simp only[Act.put,sZa,sZb,sZc]
        refine wpAnyH_ready (rs:=[9]) (by kernel_rfl) (by simp) ?_
        refine AllReadyH.cons (o:=?fo9_8_10_4) ?fe9_8_10_4 (fun K hK=>?fc9_8_10_4) ?fn9_8_10_4
        case fe9_8_10_4=>((simp only[gZa,gZb,gZc]) <;> rfl)
        case fc9_8_10_4 =>
         go_simp
         refine hK.out _ _ ?_ (fun hHeld=>?_)
         · exact SC.out _ (((((zAa w0.heap.size w0 1).alloc (Nat.le_refl _) _) |> alB) |> alB) |> alB)
         clear hK K
         try simp only[Act.put,sZa,sZb,sZc]
         refine wpAnyH_take (i:=11) (oi:=?fo11_8_10_4_9) (v:=?fv11_8_10_4_9) ?fe11_8_10_4_9 (by kernel_rfl) (by kernel_rfl) (by kernel_rfl) (fun _ _ _ h=>h) (Or.inl ⟨?fw11_8_10_4_9,?fy11_8_10_4_9⟩) (by assumption) ?fr11_8_10_4_9
         case fe11_8_10_4_9=>((simp only[gZa,gZb,gZc]) <;> rfl)
         case fw11_8_10_4_9=>rfl
         case fy11_8_10_4_9=>(intro w hSw;(try dsimp only at hSw);go_simp;(try with_reducible rfl))
         try simp only[Act.put,sZa,sZb,sZc]
         refine wpAnyH_ready (rs:=[12]) (by kernel_rfl) (by simp) ?_
         refine AllReadyH.cons (o:=?fo12_8_10_4_9) ?fe12_8_10_4_9 (fun K hK=>?fc12_8_10_4_9) ?fn12_8_10_4_9
         case fe12_8_10_4_9=>((simp only[gZa,gZb,gZc]) <;> rfl)
         case fc12_8_10_4_9 =>
          go_simp
          refine hK.out _ _ ?_ (fun hHeld=>?_)
          · exact SC.out _ ((((((zAa w0.heap.size w0 1).alloc (Nat.le_refl _) _) |> alB) |> alB) |> alB) |> alB)
          clear hK K
          try simp only[Act.put,sZa,sZb,sZc]
          refine wpAnyH_take (i:=13) (oi:=?fo13_8_10_4_9) (v:=?fv13_8_10_4_9) ?fe13_8_10_4_9 (by kernel_rfl) (by kernel_rfl) (by kernel_rfl) (fun _ _ _ h=>h) (Or.inl ⟨?fw13_8_10_4_9,?fy13_8_10_4_9⟩) (by assumption) ?fr13_8_10_4_9
          case fe13_8_10_4_9=>((simp only[gZa,gZb,gZc]) <;> rfl)
          case fw13_8_10_4_9=>rfl
          case fy13_8_10_4_9=>(intro w hSw;(try dsimp only at hSw);go_simp;(try with_reducible rfl))
          try simp only[Act.put,sZa,sZb,sZc]
          refine wpAnyH_done (by kernel_rfl) ?_ _
          refine NoPanic.normal ?_
          try go_wp2_with fail
          go_meet
          obtain⟨k1,k2,k3,k4,k5,kb,-⟩:=lay5 (w0.drewN 1) _ _ _ _ _ rfl
          exact zBf hp hun (b0.trans ((zAb kb).mono b0.size)) k3 k1 k4 k2 k5 (by omega) (by omega) (by have:=b0.size;simp;omega) (by have:=b0.size;simp;omega) (by have:=b0.size;simp;omega) (by have:=b0.size;simp;omega) (by have:=b0.size;simp;omega) hsl
         case fn12_8_10_4_9=>exact AllReadyH.nil
        case fn9_8_10_4=>exact AllReadyH.nil
       case fn4_8_10 =>
        refine AllReadyH.cons (o:=?fo9_8_10) ?fe9_8_10 (fun K hK=>?fc9_8_10) ?fn9_8_10
        case fe9_8_10=>((simp only[gZa,gZb,gZc]) <;> rfl)
        case fc9_8_10 =>
         go_simp
         refine hK.out _ _ ?_ (fun hHeld=>?_)
         · exact SC.out _ ((((zAa w0.heap.size w0 1).alloc (Nat.le_refl _) _) |> alB) |> alB)
         clear hK K
         try simp only[Act.put,sZa,sZb,sZc]
         refine wpAnyH_ready (rs:=[4]) (by kernel_rfl) (by simp) ?_
         refine AllReadyH.cons (o:=?fo4_8_10_9) ?fe4_8_10_9 (fun K hK=>?fc4_8_10_9) ?fn4_8_10_9
         case fe4_8_10_9=>((simp only[gZa,gZb,gZc]) <;> rfl)
         case fc4_8_10_9 =>
          go_simp
          refine hK.out _ _ ?_ (fun hHeld=>?_)
          · exact SC.out _ (((((zAa w0.heap.size w0 1).alloc (Nat.le_refl _) _) |> alB) |> alB) |> alB)
          clear hK K
          try simp only[Act.put,sZa,sZb,sZc]
          refine wpAnyH_take (i:=11) (oi:=?fo11_8_10_9_4) (v:=?fv11_8_10_9_4) ?fe11_8_10_9_4 (by kernel_rfl) (by kernel_rfl) (by kernel_rfl) (fun _ _ _ h=>h) (Or.inl ⟨?fw11_8_10_9_4,?fy11_8_10_9_4⟩) (by assumption) ?fr11_8_10_9_4
          case fe11_8_10_9_4=>((simp only[gZa,gZb,gZc]) <;> rfl)
          case fw11_8_10_9_4=>rfl
          case fy11_8_10_9_4=>(intro w hSw;(try dsimp only at hSw);go_simp;(try with_reducible rfl))
          try simp only[Act.put,sZa,sZb,sZc]
          refine wpAnyH_ready (rs:=[12]) (by kernel_rfl) (by simp) ?_
          refine AllReadyH.cons (o:=?fo12_8_10_9_4) ?fe12_8_10_9_4 (fun K hK=>?fc12_8_10_9_4) ?fn12_8_10_9_4
          case fe12_8_10_9_4=>((simp only[gZa,gZb,gZc]) <;> rfl)
          case fc12_8_10_9_4 =>
           go_simp
           refine hK.out _ _ ?_ (fun hHeld=>?_)
           · exact SC.out _ ((((((zAa w0.heap.size w0 1).alloc (Nat.le_refl _) _) |> alB) |> alB) |> alB) |> alB)
           clear hK K
           try simp only[Act.put,sZa,sZb,sZc]
           refine wpAnyH_take (i:=13) (oi:=?fo13_8_10_9_4) (v:=?fv13_8_10_9_4) ?fe13_8_10_9_4 (by kernel_rfl) (by kernel_rfl) (by kernel_rfl) (fun _ _ _ h=>h) (Or.inl ⟨?fw13_8_10_9_4,?fy13_8_10_9_4⟩) (by assumption) ?fr13_8_10_9_4
           case fe13_8_10_9_4=>((simp only[gZa,gZb,gZc]) <;> rfl)
           case fw13_8_10_9_4=>rfl
           case fy13_8_10_9_4=>(intro w hSw;(try dsimp only at hSw);go_simp;(try with_reducible rfl))
           try simp only[Act.put,sZa,sZb,sZc]
           refine wpAnyH_done (by kernel_rfl) ?_ _
           refine NoPanic.normal ?_
           try go_wp2_with fail
           go_meet
           obtain⟨k1,k2,k3,k4,k5,kb,-⟩:=lay5 (w0.drewN 1) _ _ _ _ _ rfl
           exact zBf hp hun (b0.trans ((zAb kb).mono b0.size)) k4 k1 k3 k2 k5 (by omega) (by omega) (by have:=b0.size;simp;omega) (by have:=b0.size;simp;omega) (by have:=b0.size;simp;omega) (by have:=b0.size;simp;omega) (by have:=b0.size;simp;omega) hsl
          case fn12_8_10_9_4=>exact AllReadyH.nil
         case fn4_8_10_9=>exact AllReadyH.nil
        case fn9_8_10=>exact AllReadyH.nil
      case fn10_8=>exact AllReadyH.nil
   case fn8 =>
    refine AllReadyH.cons (o:=?fo9) ?fe9 (fun K hK=>?fc9) ?fn9
    case fe9=>((simp only[gZa,gZb,gZc]) <;> rfl)
    case fc9 =>
     go_simp
     refine hK.out _ _ ?_ (fun hHeld=>?_)
     · exact SC.out _ ((zAa w0.heap.size w0 1).alloc (Nat.le_refl _) _)
     clear hK K
     try simp only[Act.put,sZa,sZb,sZc]
     refine wpAnyH_ready (rs:=[4,8,10]) (by kernel_rfl) (by simp) ?_
     refine AllReadyH.cons (o:=?fo4_9) ?fe4_9 (fun K hK=>?fc4_9) ?fn4_9
     case fe4_9=>((simp only[gZa,gZb,gZc]) <;> rfl)
     case fc4_9 =>
      go_simp
      refine hK.out _ _ ?_ (fun hHeld=>?_)
      · exact SC.out _ (((zAa w0.heap.size w0 1).alloc (Nat.le_refl _) _) |> alB)
      clear hK K
      try simp only[Act.put,sZa,sZb,sZc]
      refine wpAnyH_ready (rs:=[8,10]) (by kernel_rfl) (by simp) ?_
      refine AllReadyH.cons (o:=?fo8_9_4) ?fe8_9_4 (fun K hK=>?fc8_9_4) ?fn8_9_4
      case fe8_9_4=>((simp only[gZa,gZb,gZc]) <;> rfl)
      case fc8_9_4 =>
       go_simp
       refine hK.out _ _ ?_ (fun hHeld=>?_)
       · exact SC.out _ ((((zAa w0.heap.size w0 1).alloc (Nat.le_refl _) _) |> alB) |> alB)
       clear hK K
       try simp only[Act.put,sZa,sZb,sZc]
       refine wpAnyH_ready (rs:=[10]) (by kernel_rfl) (by simp) ?_
       refine AllReadyH.cons (o:=?fo10_9_4_8) ?fe10_9_4_8 (fun K hK=>?fc10_9_4_8) ?fn10_9_4_8
       case fe10_9_4_8=>((simp only[gZa,gZb,gZc]) <;> rfl)
       case fc10_9_4_8 =>
        go_simp
        refine hK.out _ _ ?_ (fun hHeld=>?_)
        · exact SC.out _ (((((zAa w0.heap.size w0 1).alloc (Nat.le_refl _) _) |> alB) |> alB) |> alB)
        clear hK K
        try simp only[Act.put,sZa,sZb,sZc]
        refine wpAnyH_take (i:=11) (oi:=?fo11_9_4_8_10) (v:=?fv11_9_4_8_10) ?fe11_9_4_8_10 (by kernel_rfl) (by kernel_rfl) (by kernel_rfl) (fun _ _ _ h=>h) (Or.inl ⟨?fw11_9_4_8_10,?fy11_9_4_8_10⟩) (by assumption) ?fr11_9_4_8_10
        case fe11_9_4_8_10=>((simp only[gZa,gZb,gZc]) <;> rfl)
        case fw11_9_4_8_10=>rfl
        case fy11_9_4_8_10=>(intro w hSw;(try dsimp only at hSw);go_simp;(try with_reducible rfl))
        try simp only[Act.put,sZa,sZb,sZc]
        refine wpAnyH_ready (rs:=[12]) (by kernel_rfl) (by simp) ?_
        refine AllReadyH.cons (o:=?fo12_9_4_8_10) ?fe12_9_4_8_10 (fun K hK=>?fc12_9_4_8_10) ?fn12_9_4_8_10
        case fe12_9_4_8_10=>((simp only[gZa,gZb,gZc]) <;> rfl)
        case fc12_9_4_8_10 =>
         go_simp
         refine hK.out _ _ ?_ (fun hHeld=>?_)
         · exact SC.out _ ((((((zAa w0.heap.size w0 1).alloc (Nat.le_refl _) _) |> alB) |> alB) |> alB) |> alB)
         clear hK K
         try simp only[Act.put,sZa,sZb,sZc]
         refine wpAnyH_take (i:=13) (oi:=?fo13_9_4_8_10) (v:=?fv13_9_4_8_10) ?fe13_9_4_8_10 (by kernel_rfl) (by kernel_rfl) (by kernel_rfl) (fun _ _ _ h=>h) (Or.inl ⟨?fw13_9_4_8_10,?fy13_9_4_8_10⟩) (by assumption) ?fr13_9_4_8_10
         case fe13_9_4_8_10=>((simp only[gZa,gZb,gZc]) <;> rfl)
         case fw13_9_4_8_10=>rfl
         case fy13_9_4_8_10=>(intro w hSw;(try dsimp only at hSw);go_simp;(try with_reducible rfl))
         try simp only[Act.put,sZa,sZb,sZc]
         refine wpAnyH_done (by kernel_rfl) ?_ _
         refine NoPanic.normal ?_
         try go_wp2_with fail
         go_meet
         obtain⟨k1,k2,k3,k4,k5,kb,-⟩:=lay5 (w0.drewN 1) _ _ _ _ _ rfl
         exact zBf hp hun (b0.trans ((zAb kb).mono b0.size)) k2 k3 k1 k4 k5 (by omega) (by omega) (by have:=b0.size;simp;omega) (by have:=b0.size;simp;omega) (by have:=b0.size;simp;omega) (by have:=b0.size;simp;omega) (by have:=b0.size;simp;omega) hsl
        case fn12_9_4_8_10=>exact AllReadyH.nil
       case fn10_9_4_8=>exact AllReadyH.nil
      case fn8_9_4 =>
       refine AllReadyH.cons (o:=?fo10_9_4) ?fe10_9_4 (fun K hK=>?fc10_9_4) ?fn10_9_4
       case fe10_9_4=>((simp only[gZa,gZb,gZc]) <;> rfl)
       case fc10_9_4 =>
        go_simp
        refine hK.out _ _ ?_ (fun hHeld=>?_)
        · exact SC.out _ ((((zAa w0.heap.size w0 1).alloc (Nat.le_refl _) _) |> alB) |> alB)
        clear hK K
        try simp only[Act.put,sZa,sZb,sZc]
        refine wpAnyH_ready (rs:=[8]) (by kernel_rfl) (by simp) ?_
        refine AllReadyH.cons (o:=?fo8_9_4_10) ?fe8_9_4_10 (fun K hK=>?fc8_9_4_10) ?fn8_9_4_10
        case fe8_9_4_10=>((simp only[gZa,gZb,gZc]) <;> rfl)
        case fc8_9_4_10 =>
         go_simp
         refine hK.out _ _ ?_ (fun hHeld=>?_)
         · exact SC.out _ (((((zAa w0.heap.size w0 1).alloc (Nat.le_refl _) _) |> alB) |> alB) |> alB)
         clear hK K
         try simp only[Act.put,sZa,sZb,sZc]
         refine wpAnyH_take (i:=11) (oi:=?fo11_9_4_10_8) (v:=?fv11_9_4_10_8) ?fe11_9_4_10_8 (by kernel_rfl) (by kernel_rfl) (by kernel_rfl) (fun _ _ _ h=>h) (Or.inl ⟨?fw11_9_4_10_8,?fy11_9_4_10_8⟩) (by assumption) ?fr11_9_4_10_8
         case fe11_9_4_10_8=>((simp only[gZa,gZb,gZc]) <;> rfl)
         case fw11_9_4_10_8=>rfl
         case fy11_9_4_10_8=>(intro w hSw;(try dsimp only at hSw);go_simp;(try with_reducible rfl))
         try simp only[Act.put,sZa,sZb,sZc]
         refine wpAnyH_ready (rs:=[12]) (by kernel_rfl) (by simp) ?_
         refine AllReadyH.cons (o:=?fo12_9_4_10_8) ?fe12_9_4_10_8 (fun K hK=>?fc12_9_4_10_8) ?fn12_9_4_10_8
         case fe12_9_4_10_8=>((simp only[gZa,gZb,gZc]) <;> rfl)
         case fc12_9_4_10_8 =>
          go_simp
          refine hK.out _ _ ?_ (fun hHeld=>?_)
          · exact SC.out _ ((((((zAa w0.heap.size w0 1).alloc (Nat.le_refl _) _) |> alB) |> alB) |> alB) |> alB)
          clear hK K
          try simp only[Act.put,sZa,sZb,sZc]
          refine wpAnyH_take (i:=13) (oi:=?fo13_9_4_10_8) (v:=?fv13_9_4_10_8) ?fe13_9_4_10_8 (by kernel_rfl) (by kernel_rfl) (by kernel_rfl) (fun _ _ _ h=>h) (Or.inl ⟨?fw13_9_4_10_8,?fy13_9_4_10_8⟩) (by assumption) ?fr13_9_4_10_8
          case fe13_9_4_10_8=>((simp only[gZa,gZb,gZc]) <;> rfl)
          case fw13_9_4_10_8=>rfl
          case fy13_9_4_10_8=>(intro w hSw;(try dsimp only at hSw);go_simp;(try with_reducible rfl))
          try simp only[Act.put,sZa,sZb,sZc]
          refine wpAnyH_done (by kernel_rfl) ?_ _
          refine NoPanic.normal ?_
          try go_wp2_with fail
          go_meet
          obtain⟨k1,k2,k3,k4,k5,kb,-⟩:=lay5 (w0.drewN 1) _ _ _ _ _ rfl
          exact zBf hp hun (b0.trans ((zAb kb).mono b0.size)) k2 k4 k1 k3 k5 (by omega) (by omega) (by have:=b0.size;simp;omega) (by have:=b0.size;simp;omega) (by have:=b0.size;simp;omega) (by have:=b0.size;simp;omega) (by have:=b0.size;simp;omega) hsl
         case fn12_9_4_10_8=>exact AllReadyH.nil
        case fn8_9_4_10=>exact AllReadyH.nil
       case fn10_9_4=>exact AllReadyH.nil
     case fn4_9 =>
      refine AllReadyH.cons (o:=?fo8_9) ?fe8_9 (fun K hK=>?fc8_9) ?fn8_9
      case fe8_9=>((simp only[gZa,gZb,gZc]) <;> rfl)
      case fc8_9 =>
       go_simp
       refine hK.out _ _ ?_ (fun hHeld=>?_)
       · exact SC.out _ (((zAa w0.heap.size w0 1).alloc (Nat.le_refl _) _) |> alB)
       clear hK K
       try simp only[Act.put,sZa,sZb,sZc]
       refine wpAnyH_ready (rs:=[4,10]) (by kernel_rfl) (by simp) ?_
       refine AllReadyH.cons (o:=?fo4_9_8) ?fe4_9_8 (fun K hK=>?fc4_9_8) ?fn4_9_8
       case fe4_9_8=>((simp only[gZa,gZb,gZc]) <;> rfl)
       case fc4_9_8 =>
        go_simp
        refine hK.out _ _ ?_ (fun hHeld=>?_)
        · exact SC.out _ ((((zAa w0.heap.size w0 1).alloc (Nat.le_refl _) _) |> alB) |> alB)
        clear hK K
        try simp only[Act.put,sZa,sZb,sZc]
        refine wpAnyH_ready (rs:=[10]) (by kernel_rfl) (by simp) ?_
        refine AllReadyH.cons (o:=?fo10_9_8_4) ?fe10_9_8_4 (fun K hK=>?fc10_9_8_4) ?fn10_9_8_4
        case fe10_9_8_4=>((simp only[gZa,gZb,gZc]) <;> rfl)
        case fc10_9_8_4 =>
         go_simp
         refine hK.out _ _ ?_ (fun hHeld=>?_)
         · exact SC.out _ (((((zAa w0.heap.size w0 1).alloc (Nat.le_refl _) _) |> alB) |> alB) |> alB)
         clear hK K
         try simp only[Act.put,sZa,sZb,sZc]
         refine wpAnyH_take (i:=11) (oi:=?fo11_9_8_4_10) (v:=?fv11_9_8_4_10) ?fe11_9_8_4_10 (by kernel_rfl) (by kernel_rfl) (by kernel_rfl) (fun _ _ _ h=>h) (Or.inl ⟨?fw11_9_8_4_10,?fy11_9_8_4_10⟩) (by assumption) ?fr11_9_8_4_10
         case fe11_9_8_4_10=>((simp only[gZa,gZb,gZc]) <;> rfl)
         case fw11_9_8_4_10=>rfl
         case fy11_9_8_4_10=>(intro w hSw;(try dsimp only at hSw);go_simp;(try with_reducible rfl))
         try simp only[Act.put,sZa,sZb,sZc]
         refine wpAnyH_ready (rs:=[12]) (by kernel_rfl) (by simp) ?_
         refine AllReadyH.cons (o:=?fo12_9_8_4_10) ?fe12_9_8_4_10 (fun K hK=>?fc12_9_8_4_10) ?fn12_9_8_4_10
         case fe12_9_8_4_10=>((simp only[gZa,gZb,gZc]) <;> rfl)
         case fc12_9_8_4_10 =>
          go_simp
          refine hK.out _ _ ?_ (fun hHeld=>?_)
          · exact SC.out _ ((((((zAa w0.heap.size w0 1).alloc (Nat.le_refl _) _) |> alB) |> alB) |> alB) |> alB)
          clear hK K
          try simp only[Act.put,sZa,sZb,sZc]
          refine wpAnyH_take (i:=13) (oi:=?fo13_9_8_4_10) (v:=?fv13_9_8_4_10) ?fe13_9_8_4_10 (by kernel_rfl) (by kernel_rfl) (by kernel_rfl) (fun _ _ _ h=>h) (Or.inl ⟨?fw13_9_8_4_10,?fy13_9_8_4_10⟩) (by assumption) ?fr13_9_8_4_10
          case fe13_9_8_4_10=>((simp only[gZa,gZb,gZc]) <;> rfl)
          case fw13_9_8_4_10=>rfl
          case fy13_9_8_4_10=>(intro w hSw;(try dsimp only at hSw);go_simp;(try with_reducible rfl))
          try simp only[Act.put,sZa,sZb,sZc]
          refine wpAnyH_done (by kernel_rfl) ?_ _
          refine NoPanic.normal ?_
          try go_wp2_with fail
          go_meet
          obtain⟨k1,k2,k3,k4,k5,kb,-⟩:=lay5 (w0.drewN 1) _ _ _ _ _ rfl
          exact zBf hp hun (b0.trans ((zAb kb).mono b0.size)) k3 k2 k1 k4 k5 (by omega) (by omega) (by have:=b0.size;simp;omega) (by have:=b0.size;simp;omega) (by have:=b0.size;simp;omega) (by have:=b0.size;simp;omega) (by have:=b0.size;simp;omega) hsl
         case fn12_9_8_4_10=>exact AllReadyH.nil
        case fn10_9_8_4=>exact AllReadyH.nil
       case fn4_9_8 =>
        refine AllReadyH.cons (o:=?fo10_9_8) ?fe10_9_8 (fun K hK=>?fc10_9_8) ?fn10_9_8
        case fe10_9_8=>((simp only[gZa,gZb,gZc]) <;> rfl)
        case fc10_9_8 =>
         go_simp
         refine hK.out _ _ ?_ (fun hHeld=>?_)
         · exact SC.out _ ((((zAa w0.heap.size w0 1).alloc (Nat.le_refl _) _) |> alB) |> alB)
         clear hK K
         try simp only[Act.put,sZa,sZb,sZc]
         refine wpAnyH_ready (rs:=[4]) (by kernel_rfl) (by simp) ?_
         refine AllReadyH.cons (o:=?fo4_9_8_10) ?fe4_9_8_10 (fun K hK=>?fc4_9_8_10) ?fn4_9_8_10
         case fe4_9_8_10=>((simp only[gZa,gZb,gZc]) <;> rfl)
         case fc4_9_8_10 =>
          go_simp
          refine hK.out _ _ ?_ (fun hHeld=>?_)
          · exact SC.out _ (((((zAa w0.heap.size w0 1).alloc (Nat.le_refl _) _) |> alB) |> alB) |> alB)
          clear hK K
          try simp only[Act.put,sZa,sZb,sZc]
          refine wpAnyH_take (i:=11) (oi:=?fo11_9_8_10_4) (v:=?fv11_9_8_10_4) ?fe11_9_8_10_4 (by kernel_rfl) (by kernel_rfl) (by kernel_rfl) (fun _ _ _ h=>h) (Or.inl ⟨?fw11_9_8_10_4,?fy11_9_8_10_4⟩) (by assumption) ?fr11_9_8_10_4
          case fe11_9_8_10_4=>((simp only[gZa,gZb,gZc]) <;> rfl)
          case fw11_9_8_10_4=>rfl
          case fy11_9_8_10_4=>(intro w hSw;(try dsimp only at hSw);go_simp;(try with_reducible rfl))
          try simp only[Act.put,sZa,sZb,sZc]
          refine wpAnyH_ready (rs:=[12]) (by kernel_rfl) (by simp) ?_
          refine AllReadyH.cons (o:=?fo12_9_8_10_4) ?fe12_9_8_10_4 (fun K hK=>?fc12_9_8_10_4) ?fn12_9_8_10_4
          case fe12_9_8_10_4=>((simp only[gZa,gZb,gZc]) <;> rfl)
          case fc12_9_8_10_4 =>
           go_simp
           refine hK.out _ _ ?_ (fun hHeld=>?_)
           · exact SC.out _ ((((((zAa w0.heap.size w0 1).alloc (Nat.le_refl _) _) |> alB) |> alB) |> alB) |> alB)
           clear hK K
           try simp only[Act.put,sZa,sZb,sZc]
           refine wpAnyH_take (i:=13) (oi:=?fo13_9_8_10_4) (v:=?fv13_9_8_10_4) ?fe13_9_8_10_4 (by kernel_rfl) (by kernel_rfl) (by kernel_rfl) (fun _ _ _ h=>h) (Or.inl ⟨?fw13_9_8_10_4,?fy13_9_8_10_4⟩) (by assumption) ?fr13_9_8_10_4
           case fe13_9_8_10_4=>((simp only[gZa,gZb,gZc]) <;> rfl)
           case fw13_9_8_10_4=>rfl
           case fy13_9_8_10_4=>(intro w hSw;(try dsimp only at hSw);go_simp;(try with_reducible rfl))
           try simp only[Act.put,sZa,sZb,sZc]
           refine wpAnyH_done (by kernel_rfl) ?_ _
           refine NoPanic.normal ?_
           try go_wp2_with fail
           go_meet
           obtain⟨k1,k2,k3,k4,k5,kb,-⟩:=lay5 (w0.drewN 1) _ _ _ _ _ rfl
           exact zBf hp hun (b0.trans ((zAb kb).mono b0.size)) k4 k2 k1 k3 k5 (by omega) (by omega) (by have:=b0.size;simp;omega) (by have:=b0.size;simp;omega) (by have:=b0.size;simp;omega) (by have:=b0.size;simp;omega) (by have:=b0.size;simp;omega) hsl
          case fn12_9_8_10_4=>exact AllReadyH.nil
         case fn4_9_8_10=>exact AllReadyH.nil
        case fn10_9_8=>exact AllReadyH.nil
      case fn8_9 =>
       refine AllReadyH.cons (o:=?fo10_9) ?fe10_9 (fun K hK=>?fc10_9) ?fn10_9
       case fe10_9=>((simp only[gZa,gZb,gZc]) <;> rfl)
       case fc10_9 =>
        go_simp
        refine hK.out _ _ ?_ (fun hHeld=>?_)
        · exact SC.out _ (((zAa w0.heap.size w0 1).alloc (Nat.le_refl _) _) |> alB)
        clear hK K
        try simp only[Act.put,sZa,sZb,sZc]
        refine wpAnyH_ready (rs:=[4,8]) (by kernel_rfl) (by simp) ?_
        refine AllReadyH.cons (o:=?fo4_9_10) ?fe4_9_10 (fun K hK=>?fc4_9_10) ?fn4_9_10
        case fe4_9_10=>((simp only[gZa,gZb,gZc]) <;> rfl)
        case fc4_9_10 =>
         go_simp
         refine hK.out _ _ ?_ (fun hHeld=>?_)
         · exact SC.out _ ((((zAa w0.heap.size w0 1).alloc (Nat.le_refl _) _) |> alB) |> alB)
         clear hK K
         try simp only[Act.put,sZa,sZb,sZc]
         refine wpAnyH_ready (rs:=[8]) (by kernel_rfl) (by simp) ?_
         refine AllReadyH.cons (o:=?fo8_9_10_4) ?fe8_9_10_4 (fun K hK=>?fc8_9_10_4) ?fn8_9_10_4
         case fe8_9_10_4=>((simp only[gZa,gZb,gZc]) <;> rfl)
         case fc8_9_10_4 =>
          go_simp
          refine hK.out _ _ ?_ (fun hHeld=>?_)
          · exact SC.out _ (((((zAa w0.heap.size w0 1).alloc (Nat.le_refl _) _) |> alB) |> alB) |> alB)
          clear hK K
          try simp only[Act.put,sZa,sZb,sZc]
          refine wpAnyH_take (i:=11) (oi:=?fo11_9_10_4_8) (v:=?fv11_9_10_4_8) ?fe11_9_10_4_8 (by kernel_rfl) (by kernel_rfl) (by kernel_rfl) (fun _ _ _ h=>h) (Or.inl ⟨?fw11_9_10_4_8,?fy11_9_10_4_8⟩) (by assumption) ?fr11_9_10_4_8
          case fe11_9_10_4_8=>((simp only[gZa,gZb,gZc]) <;> rfl)
          case fw11_9_10_4_8=>rfl
          case fy11_9_10_4_8=>(intro w hSw;(try dsimp only at hSw);go_simp;(try with_reducible rfl))
          try simp only[Act.put,sZa,sZb,sZc]
          refine wpAnyH_ready (rs:=[12]) (by kernel_rfl) (by simp) ?_
          refine AllReadyH.cons (o:=?fo12_9_10_4_8) ?fe12_9_10_4_8 (fun K hK=>?fc12_9_10_4_8) ?fn12_9_10_4_8
          case fe12_9_10_4_8=>((simp only[gZa,gZb,gZc]) <;> rfl)
          case fc12_9_10_4_8 =>
           go_simp
           refine hK.out _ _ ?_ (fun hHeld=>?_)
           · exact SC.out _ ((((((zAa w0.heap.size w0 1).alloc (Nat.le_refl _) _) |> alB) |> alB) |> alB) |> alB)
           clear hK K
           try simp only[Act.put,sZa,sZb,sZc]
           refine wpAnyH_take (i:=13) (oi:=?fo13_9_10_4_8) (v:=?fv13_9_10_4_8) ?fe13_9_10_4_8 (by kernel_rfl) (by kernel_rfl) (by kernel_rfl) (fun _ _ _ h=>h) (Or.inl ⟨?fw13_9_10_4_8,?fy13_9_10_4_8⟩) (by assumption) ?fr13_9_10_4_8
           case fe13_9_10_4_8=>((simp only[gZa,gZb,gZc]) <;> rfl)
           case fw13_9_10_4_8=>rfl
           case fy13_9_10_4_8=>(intro w hSw;(try dsimp only at hSw);go_simp;(try with_reducible rfl))
           try simp only[Act.put,sZa,sZb,sZc]
           refine wpAnyH_done (by kernel_rfl) ?_ _
           refine NoPanic.normal ?_
           try go_wp2_with fail
           go_meet
           obtain⟨k1,k2,k3,k4,k5,kb,-⟩:=lay5 (w0.drewN 1) _ _ _ _ _ rfl
           exact zBf hp hun (b0.trans ((zAb kb).mono b0.size)) k3 k4 k1 k2 k5 (by omega) (by omega) (by have:=b0.size;simp;omega) (by have:=b0.size;simp;omega) (by have:=b0.size;simp;omega) (by have:=b0.size;simp;omega) (by have:=b0.size;simp;omega) hsl
          case fn12_9_10_4_8=>exact AllReadyH.nil
         case fn8_9_10_4=>exact AllReadyH.nil
        case fn4_9_10 =>
         refine AllReadyH.cons (o:=?fo8_9_10) ?fe8_9_10 (fun K hK=>?fc8_9_10) ?fn8_9_10
         case fe8_9_10=>((simp only[gZa,gZb,gZc]) <;> rfl)
         case fc8_9_10 =>
          go_simp
          refine hK.out _ _ ?_ (fun hHeld=>?_)
          · exact SC.out _ ((((zAa w0.heap.size w0 1).alloc (Nat.le_refl _) _) |> alB) |> alB)
          clear hK K
          try simp only[Act.put,sZa,sZb,sZc]
          refine wpAnyH_ready (rs:=[4]) (by kernel_rfl) (by simp) ?_
          refine AllReadyH.cons (o:=?fo4_9_10_8) ?fe4_9_10_8 (fun K hK=>?fc4_9_10_8) ?fn4_9_10_8
          case fe4_9_10_8=>((simp only[gZa,gZb,gZc]) <;> rfl)
          case fc4_9_10_8 =>
           go_simp
           refine hK.out _ _ ?_ (fun hHeld=>?_)
           · exact SC.out _ (((((zAa w0.heap.size w0 1).alloc (Nat.le_refl _) _) |> alB) |> alB) |> alB)
           clear hK K
           try simp only[Act.put,sZa,sZb,sZc]
           refine wpAnyH_take (i:=11) (oi:=?fo11_9_10_8_4) (v:=?fv11_9_10_8_4) ?fe11_9_10_8_4 (by kernel_rfl) (by kernel_rfl) (by kernel_rfl) (fun _ _ _ h=>h) (Or.inl ⟨?fw11_9_10_8_4,?fy11_9_10_8_4⟩) (by assumption) ?fr11_9_10_8_4
           case fe11_9_10_8_4=>((simp only[gZa,gZb,gZc]) <;> rfl)
           case fw11_9_10_8_4=>rfl
           case fy11_9_10_8_4=>(intro w hSw;(try dsimp only at hSw);go_simp;(try with_reducible rfl))
           try simp only[Act.put,sZa,sZb,sZc]
           refine wpAnyH_ready (rs:=[12]) (by kernel_rfl) (by simp) ?_
           refine AllReadyH.cons (o:=?fo12_9_10_8_4) ?fe12_9_10_8_4 (fun K hK=>?fc12_9_10_8_4) ?fn12_9_10_8_4
           case fe12_9_10_8_4=>((simp only[gZa,gZb,gZc]) <;> rfl)
           case fc12_9_10_8_4 =>
            go_simp
            refine hK.out _ _ ?_ (fun hHeld=>?_)
            · exact SC.out _ ((((((zAa w0.heap.size w0 1).alloc (Nat.le_refl _) _) |> alB) |> alB) |> alB) |> alB)
            clear hK K
            try simp only[Act.put,sZa,sZb,sZc]
            refine wpAnyH_take (i:=13) (oi:=?fo13_9_10_8_4) (v:=?fv13_9_10_8_4) ?fe13_9_10_8_4 (by kernel_rfl) (by kernel_rfl) (by kernel_rfl) (fun _ _ _ h=>h) (Or.inl ⟨?fw13_9_10_8_4,?fy13_9_10_8_4⟩) (by assumption) ?fr13_9_10_8_4
            case fe13_9_10_8_4=>((simp only[gZa,gZb,gZc]) <;> rfl)
            case fw13_9_10_8_4=>rfl
            case fy13_9_10_8_4=>(intro w hSw;(try dsimp only at hSw);go_simp;(try with_reducible rfl))
            try simp only[Act.put,sZa,sZb,sZc]
            refine wpAnyH_done (by kernel_rfl) ?_ _
            refine NoPanic.normal ?_
            try go_wp2_with fail
            go_meet
            obtain⟨k1,k2,k3,k4,k5,kb,-⟩:=lay5 (w0.drewN 1) _ _ _ _ _ rfl
            exact zBf hp hun (b0.trans ((zAb kb).mono b0.size)) k4 k3 k1 k2 k5 (by omega) (by omega) (by have:=b0.size;simp;omega) (by have:=b0.size;simp;omega) (by have:=b0.size;simp;omega) (by have:=b0.size;simp;omega) (by have:=b0.size;simp;omega) hsl
           case fn12_9_10_8_4=>exact AllReadyH.nil
          case fn4_9_10_8=>exact AllReadyH.nil
         case fn8_9_10=>exact AllReadyH.nil
       case fn10_9=>exact AllReadyH.nil
    case fn9 =>
     refine AllReadyH.cons (o:=?fo10) ?fe10 (fun K hK=>?fc10) ?fn10
     case fe10=>((simp only[gZa,gZb,gZc]) <;> rfl)
     case fc10 =>
      go_simp
      refine hK.out _ _ ?_ (fun hHeld=>?_)
      · exact SC.out _ ((zAa w0.heap.size w0 1).alloc (Nat.le_refl _) _)
      clear hK K
      try simp only[Act.put,sZa,sZb,sZc]
      refine wpAnyH_ready (rs:=[4,8,9]) (by kernel_rfl) (by simp) ?_
      refine AllReadyH.cons (o:=?fo4_10) ?fe4_10 (fun K hK=>?fc4_10) ?fn4_10
      case fe4_10=>((simp only[gZa,gZb,gZc]) <;> rfl)
      case fc4_10 =>
       go_simp
       refine hK.out _ _ ?_ (fun hHeld=>?_)
       · exact SC.out _ (((zAa w0.heap.size w0 1).alloc (Nat.le_refl _) _) |> alB)
       clear hK K
       try simp only[Act.put,sZa,sZb,sZc]
       refine wpAnyH_ready (rs:=[8,9]) (by kernel_rfl) (by simp) ?_
       refine AllReadyH.cons (o:=?fo8_10_4) ?fe8_10_4 (fun K hK=>?fc8_10_4) ?fn8_10_4
       case fe8_10_4=>((simp only[gZa,gZb,gZc]) <;> rfl)
       case fc8_10_4 =>
        go_simp
        refine hK.out _ _ ?_ (fun hHeld=>?_)
        · exact SC.out _ ((((zAa w0.heap.size w0 1).alloc (Nat.le_refl _) _) |> alB) |> alB)
        clear hK K
        try simp only[Act.put,sZa,sZb,sZc]
        refine wpAnyH_ready (rs:=[9]) (by kernel_rfl) (by simp) ?_
        refine AllReadyH.cons (o:=?fo9_10_4_8) ?fe9_10_4_8 (fun K hK=>?fc9_10_4_8) ?fn9_10_4_8
        case fe9_10_4_8=>((simp only[gZa,gZb,gZc]) <;> rfl)
        case fc9_10_4_8 =>
         go_simp
         refine hK.out _ _ ?_ (fun hHeld=>?_)
         · exact SC.out _ (((((zAa w0.heap.size w0 1).alloc (Nat.le_refl _) _) |> alB) |> alB) |> alB)
         clear hK K
         try simp only[Act.put,sZa,sZb,sZc]
         refine wpAnyH_take (i:=11) (oi:=?fo11_10_4_8_9) (v:=?fv11_10_4_8_9) ?fe11_10_4_8_9 (by kernel_rfl) (by kernel_rfl) (by kernel_rfl) (fun _ _ _ h=>h) (Or.inl ⟨?fw11_10_4_8_9,?fy11_10_4_8_9⟩) (by assumption) ?fr11_10_4_8_9
         case fe11_10_4_8_9=>((simp only[gZa,gZb,gZc]) <;> rfl)
         case fw11_10_4_8_9=>rfl
         case fy11_10_4_8_9=>(intro w hSw;(try dsimp only at hSw);go_simp;(try with_reducible rfl))
         try simp only[Act.put,sZa,sZb,sZc]
         refine wpAnyH_ready (rs:=[12]) (by kernel_rfl) (by simp) ?_
         refine AllReadyH.cons (o:=?fo12_10_4_8_9) ?fe12_10_4_8_9 (fun K hK=>?fc12_10_4_8_9) ?fn12_10_4_8_9
         case fe12_10_4_8_9=>((simp only[gZa,gZb,gZc]) <;> rfl)
         case fc12_10_4_8_9 =>
          go_simp
          refine hK.out _ _ ?_ (fun hHeld=>?_)
          · exact SC.out _ ((((((zAa w0.heap.size w0 1).alloc (Nat.le_refl _) _) |> alB) |> alB) |> alB) |> alB)
          clear hK K
          try simp only[Act.put,sZa,sZb,sZc]
          refine wpAnyH_take (i:=13) (oi:=?fo13_10_4_8_9) (v:=?fv13_10_4_8_9) ?fe13_10_4_8_9 (by kernel_rfl) (by kernel_rfl) (by kernel_rfl) (fun _ _ _ h=>h) (Or.inl ⟨?fw13_10_4_8_9,?fy13_10_4_8_9⟩) (by assumption) ?fr13_10_4_8_9
          case fe13_10_4_8_9=>((simp only[gZa,gZb,gZc]) <;> rfl)
          case fw13_10_4_8_9=>rfl
          case fy13_10_4_8_9=>(intro w hSw;(try dsimp only at hSw);go_simp;(try with_reducible rfl))
          try simp only[Act.put,sZa,sZb,sZc]
          refine wpAnyH_done (by kernel_rfl) ?_ _
          refine NoPanic.normal ?_
          try go_wp2_with fail
          go_meet
          obtain⟨k1,k2,k3,k4,k5,kb,-⟩:=lay5 (w0.drewN 1) _ _ _ _ _ rfl
          exact zBf hp hun (b0.trans ((zAb kb).mono b0.size)) k2 k3 k4 k1 k5 (by omega) (by omega) (by have:=b0.size;simp;omega) (by have:=b0.size;simp;omega) (by have:=b0.size;simp;omega) (by have:=b0.size;simp;omega) (by have:=b0.size;simp;omega) hsl
         case fn12_10_4_8_9=>exact AllReadyH.nil
        case fn9_10_4_8=>exact AllReadyH.nil
       case fn8_10_4 =>
        refine AllReadyH.cons (o:=?fo9_10_4) ?fe9_10_4 (fun K hK=>?fc9_10_4) ?fn9_10_4
        case fe9_10_4=>((simp only[gZa,gZb,gZc]) <;> rfl)
        case fc9_10_4 =>
         go_simp
         refine hK.out _ _ ?_ (fun hHeld=>?_)
         · exact SC.out _ ((((zAa w0.heap.size w0 1).alloc (Nat.le_refl _) _) |> alB) |> alB)
         clear hK K
         try simp only[Act.put,sZa,sZb,sZc]
         refine wpAnyH_ready (rs:=[8]) (by kernel_rfl) (by simp) ?_
         refine AllReadyH.cons (o:=?fo8_10_4_9) ?fe8_10_4_9 (fun K hK=>?fc8_10_4_9) ?fn8_10_4_9
         case fe8_10_4_9=>((simp only[gZa,gZb,gZc]) <;> rfl)
         case fc8_10_4_9 =>
          go_simp
          refine hK.out _ _ ?_ (fun hHeld=>?_)
          · exact SC.out _ (((((zAa w0.heap.size w0 1).alloc (Nat.le_refl _) _) |> alB) |> alB) |> alB)
          clear hK K
          try simp only[Act.put,sZa,sZb,sZc]
          refine wpAnyH_take (i:=11) (oi:=?fo11_10_4_9_8) (v:=?fv11_10_4_9_8) ?fe11_10_4_9_8 (by kernel_rfl) (by kernel_rfl) (by kernel_rfl) (fun _ _ _ h=>h) (Or.inl ⟨?fw11_10_4_9_8,?fy11_10_4_9_8⟩) (by assumption) ?fr11_10_4_9_8
          case fe11_10_4_9_8=>((simp only[gZa,gZb,gZc]) <;> rfl)
          case fw11_10_4_9_8=>rfl
          case fy11_10_4_9_8=>(intro w hSw;(try dsimp only at hSw);go_simp;(try with_reducible rfl))
          try simp only[Act.put,sZa,sZb,sZc]
          refine wpAnyH_ready (rs:=[12]) (by kernel_rfl) (by simp) ?_
          refine AllReadyH.cons (o:=?fo12_10_4_9_8) ?fe12_10_4_9_8 (fun K hK=>?fc12_10_4_9_8) ?fn12_10_4_9_8
          case fe12_10_4_9_8=>((simp only[gZa,gZb,gZc]) <;> rfl)
          case fc12_10_4_9_8 =>
           go_simp
           refine hK.out _ _ ?_ (fun hHeld=>?_)
           · exact SC.out _ ((((((zAa w0.heap.size w0 1).alloc (Nat.le_refl _) _) |> alB) |> alB) |> alB) |> alB)
           clear hK K
           try simp only[Act.put,sZa,sZb,sZc]
           refine wpAnyH_take (i:=13) (oi:=?fo13_10_4_9_8) (v:=?fv13_10_4_9_8) ?fe13_10_4_9_8 (by kernel_rfl) (by kernel_rfl) (by kernel_rfl) (fun _ _ _ h=>h) (Or.inl ⟨?fw13_10_4_9_8,?fy13_10_4_9_8⟩) (by assumption) ?fr13_10_4_9_8
           case fe13_10_4_9_8=>((simp only[gZa,gZb,gZc]) <;> rfl)
           case fw13_10_4_9_8=>rfl
           case fy13_10_4_9_8=>(intro w hSw;(try dsimp only at hSw);go_simp;(try with_reducible rfl))
           try simp only[Act.put,sZa,sZb,sZc]
           refine wpAnyH_done (by kernel_rfl) ?_ _
           refine NoPanic.normal ?_
           try go_wp2_with fail
           go_meet
           obtain⟨k1,k2,k3,k4,k5,kb,-⟩:=lay5 (w0.drewN 1) _ _ _ _ _ rfl
           exact zBf hp hun (b0.trans ((zAb kb).mono b0.size)) k2 k4 k3 k1 k5 (by omega) (by omega) (by have:=b0.size;simp;omega) (by have:=b0.size;simp;omega) (by have:=b0.size;simp;omega) (by have:=b0.size;simp;omega) (by have:=b0.size;simp;omega) hsl
          case fn12_10_4_9_8=>exact AllReadyH.nil
         case fn8_10_4_9=>exact AllReadyH.nil
        case fn9_10_4=>exact AllReadyH.nil
      case fn4_10 =>
       refine AllReadyH.cons (o:=?fo8_10) ?fe8_10 (fun K hK=>?fc8_10) ?fn8_10
       case fe8_10=>((simp only[gZa,gZb,gZc]) <;> rfl)
       case fc8_10 =>
        go_simp
        refine hK.out _ _ ?_ (fun hHeld=>?_)
        · exact SC.out _ (((zAa w0.heap.size w0 1).alloc (Nat.le_refl _) _) |> alB)
        clear hK K
        try simp only[Act.put,sZa,sZb,sZc]
        refine wpAnyH_ready (rs:=[4,9]) (by kernel_rfl) (by simp) ?_
        refine AllReadyH.cons (o:=?fo4_10_8) ?fe4_10_8 (fun K hK=>?fc4_10_8) ?fn4_10_8
        case fe4_10_8=>((simp only[gZa,gZb,gZc]) <;> rfl)
        case fc4_10_8 =>
         go_simp
         refine hK.out _ _ ?_ (fun hHeld=>?_)
         · exact SC.out _ ((((zAa w0.heap.size w0 1).alloc (Nat.le_refl _) _) |> alB) |> alB)
         clear hK K
         try simp only[Act.put,sZa,sZb,sZc]
         refine wpAnyH_ready (rs:=[9]) (by kernel_rfl) (by simp) ?_
         refine AllReadyH.cons (o:=?fo9_10_8_4) ?fe9_10_8_4 (fun K hK=>?fc9_10_8_4) ?fn9_10_8_4
         case fe9_10_8_4=>((simp only[gZa,gZb,gZc]) <;> rfl)
         case fc9_10_8_4 =>
          go_simp
          refine hK.out _ _ ?_ (fun hHeld=>?_)
          · exact SC.out _ (((((zAa w0.heap.size w0 1).alloc (Nat.le_refl _) _) |> alB) |> alB) |> alB)
          clear hK K
          try simp only[Act.put,sZa,sZb,sZc]
          refine wpAnyH_take (i:=11) (oi:=?fo11_10_8_4_9) (v:=?fv11_10_8_4_9) ?fe11_10_8_4_9 (by kernel_rfl) (by kernel_rfl) (by kernel_rfl) (fun _ _ _ h=>h) (Or.inl ⟨?fw11_10_8_4_9,?fy11_10_8_4_9⟩) (by assumption) ?fr11_10_8_4_9
          case fe11_10_8_4_9=>((simp only[gZa,gZb,gZc]) <;> rfl)
          case fw11_10_8_4_9=>rfl
          case fy11_10_8_4_9=>(intro w hSw;(try dsimp only at hSw);go_simp;(try with_reducible rfl))
          try simp only[Act.put,sZa,sZb,sZc]
          refine wpAnyH_ready (rs:=[12]) (by kernel_rfl) (by simp) ?_
          refine AllReadyH.cons (o:=?fo12_10_8_4_9) ?fe12_10_8_4_9 (fun K hK=>?fc12_10_8_4_9) ?fn12_10_8_4_9
          case fe12_10_8_4_9=>((simp only[gZa,gZb,gZc]) <;> rfl)
          case fc12_10_8_4_9 =>
           go_simp
           refine hK.out _ _ ?_ (fun hHeld=>?_)
           · exact SC.out _ ((((((zAa w0.heap.size w0 1).alloc (Nat.le_refl _) _) |> alB) |> alB) |> alB) |> alB)
           clear hK K
           try simp only[Act.put,sZa,sZb,sZc]
           refine wpAnyH_take (i:=13) (oi:=?fo13_10_8_4_9) (v:=?fv13_10_8_4_9) ?fe13_10_8_4_9 (by kernel_rfl) (by kernel_rfl) (by kernel_rfl) (fun _ _ _ h=>h) (Or.inl ⟨?fw13_10_8_4_9,?fy13_10_8_4_9⟩) (by assumption) ?fr13_10_8_4_9
           case fe13_10_8_4_9=>((simp only[gZa,gZb,gZc]) <;> rfl)
           case fw13_10_8_4_9=>rfl
           case fy13_10_8_4_9=>(intro w hSw;(try dsimp only at hSw);go_simp;(try with_reducible rfl))
           try simp only[Act.put,sZa,sZb,sZc]
           refine wpAnyH_done (by kernel_rfl) ?_ _
           refine NoPanic.normal ?_
           try go_wp2_with fail
           go_meet
           obtain⟨k1,k2,k3,k4,k5,kb,-⟩:=lay5 (w0.drewN 1) _ _ _ _ _ rfl
           exact zBf hp hun (b0.trans ((zAb kb).mono b0.size)) k3 k2 k4 k1 k5 (by omega) (by omega) (by have:=b0.size;simp;omega) (by have:=b0.size;simp;omega) (by have:=b0.size;simp;omega) (by have:=b0.size;simp;omega) (by have:=b0.size;simp;omega) hsl
          case fn12_10_8_4_9=>exact AllReadyH.nil
         case fn9_10_8_4=>exact AllReadyH.nil
        case fn4_10_8 =>
         refine AllReadyH.cons (o:=?fo9_10_8) ?fe9_10_8 (fun K hK=>?fc9_10_8) ?fn9_10_8
         case fe9_10_8=>((simp only[gZa,gZb,gZc]) <;> rfl)
         case fc9_10_8 =>
          go_simp
          refine hK.out _ _ ?_ (fun hHeld=>?_)
          · exact SC.out _ ((((zAa w0.heap.size w0 1).alloc (Nat.le_refl _) _) |> alB) |> alB)
          clear hK K
          try simp only[Act.put,sZa,sZb,sZc]
          refine wpAnyH_ready (rs:=[4]) (by kernel_rfl) (by simp) ?_
          refine AllReadyH.cons (o:=?fo4_10_8_9) ?fe4_10_8_9 (fun K hK=>?fc4_10_8_9) ?fn4_10_8_9
          case fe4_10_8_9=>((simp only[gZa,gZb,gZc]) <;> rfl)
          case fc4_10_8_9 =>
           go_simp
           refine hK.out _ _ ?_ (fun hHeld=>?_)
           · exact SC.out _ (((((zAa w0.heap.size w0 1).alloc (Nat.le_refl _) _) |> alB) |> alB) |> alB)
           clear hK K
           try simp only[Act.put,sZa,sZb,sZc]
           refine wpAnyH_take (i:=11) (oi:=?fo11_10_8_9_4) (v:=?fv11_10_8_9_4) ?fe11_10_8_9_4 (by kernel_rfl) (by kernel_rfl) (by kernel_rfl) (fun _ _ _ h=>h) (Or.inl ⟨?fw11_10_8_9_4,?fy11_10_8_9_4⟩) (by assumption) ?fr11_10_8_9_4
           case fe11_10_8_9_4=>((simp only[gZa,gZb,gZc]) <;> rfl)
           case fw11_10_8_9_4=>rfl
           case fy11_10_8_9_4=>(intro w hSw;(try dsimp only at hSw);go_simp;(try with_reducible rfl))
           try simp only[Act.put,sZa,sZb,sZc]
           refine wpAnyH_ready (rs:=[12]) (by kernel_rfl) (by simp) ?_
           refine AllReadyH.cons (o:=?fo12_10_8_9_4) ?fe12_10_8_9_4 (fun K hK=>?fc12_10_8_9_4) ?fn12_10_8_9_4
           case fe12_10_8_9_4=>((simp only[gZa,gZb,gZc]) <;> rfl)
           case fc12_10_8_9_4 =>
            go_simp
            refine hK.out _ _ ?_ (fun hHeld=>?_)
            · exact SC.out _ ((((((zAa w0.heap.size w0 1).alloc (Nat.le_refl _) _) |> alB) |> alB) |> alB) |> alB)
            clear hK K
            try simp only[Act.put,sZa,sZb,sZc]
            refine wpAnyH_take (i:=13) (oi:=?fo13_10_8_9_4) (v:=?fv13_10_8_9_4) ?fe13_10_8_9_4 (by kernel_rfl) (by kernel_rfl) (by kernel_rfl) (fun _ _ _ h=>h) (Or.inl ⟨?fw13_10_8_9_4,?fy13_10_8_9_4⟩) (by assumption) ?fr13_10_8_9_4
            case fe13_10_8_9_4=>((simp only[gZa,gZb,gZc]) <;> rfl)
            case fw13_10_8_9_4=>rfl
            case fy13_10_8_9_4=>(intro w hSw;(try dsimp only at hSw);go_simp;(try with_reducible rfl))
            try simp only[Act.put,sZa,sZb,sZc]
            refine wpAnyH_done (by kernel_rfl) ?_ _
            refine NoPanic.normal ?_
            try go_wp2_with fail
            go_meet
            obtain⟨k1,k2,k3,k4,k5,kb,-⟩:=lay5 (w0.drewN 1) _ _ _ _ _ rfl
            exact zBf hp hun (b0.trans ((zAb kb).mono b0.size)) k4 k2 k3 k1 k5 (by omega) (by omega) (by have:=b0.size;simp;omega) (by have:=b0.size;simp;omega) (by have:=b0.size;simp;omega) (by have:=b0.size;simp;omega) (by have:=b0.size;simp;omega) hsl
           case fn12_10_8_9_4=>exact AllReadyH.nil
          case fn4_10_8_9=>exact AllReadyH.nil
         case fn9_10_8=>exact AllReadyH.nil
       case fn8_10 =>
        refine AllReadyH.cons (o:=?fo9_10) ?fe9_10 (fun K hK=>?fc9_10) ?fn9_10
        case fe9_10=>((simp only[gZa,gZb,gZc]) <;> rfl)
        case fc9_10 =>
         go_simp
         refine hK.out _ _ ?_ (fun hHeld=>?_)
         · exact SC.out _ (((zAa w0.heap.size w0 1).alloc (Nat.le_refl _) _) |> alB)
         clear hK K
         try simp only[Act.put,sZa,sZb,sZc]
         refine wpAnyH_ready (rs:=[4,8]) (by kernel_rfl) (by simp) ?_
         refine AllReadyH.cons (o:=?fo4_10_9) ?fe4_10_9 (fun K hK=>?fc4_10_9) ?fn4_10_9
         case fe4_10_9=>((simp only[gZa,gZb,gZc]) <;> rfl)
         case fc4_10_9 =>
          go_simp
          refine hK.out _ _ ?_ (fun hHeld=>?_)
          · exact SC.out _ ((((zAa w0.heap.size w0 1).alloc (Nat.le_refl _) _) |> alB) |> alB)
          clear hK K
          try simp only[Act.put,sZa,sZb,sZc]
          refine wpAnyH_ready (rs:=[8]) (by kernel_rfl) (by simp) ?_
          refine AllReadyH.cons (o:=?fo8_10_9_4) ?fe8_10_9_4 (fun K hK=>?fc8_10_9_4) ?fn8_10_9_4
          case fe8_10_9_4=>((simp only[gZa,gZb,gZc]) <;> rfl)
          case fc8_10_9_4 =>
           go_simp
           refine hK.out _ _ ?_ (fun hHeld=>?_)
           · exact SC.out _ (((((zAa w0.heap.size w0 1).alloc (Nat.le_refl _) _) |> alB) |> alB) |> alB)
           clear hK K
           try simp only[Act.put,sZa,sZb,sZc]
           refine wpAnyH_take (i:=11) (oi:=?fo11_10_9_4_8) (v:=?fv11_10_9_4_8) ?fe11_10_9_4_8 (by kernel_rfl) (by kernel_rfl) (by kernel_rfl) (fun _ _ _ h=>h) (Or.inl ⟨?fw11_10_9_4_8,?fy11_10_9_4_8⟩) (by assumption) ?fr11_10_9_4_8
           case fe11_10_9_4_8=>((simp only[gZa,gZb,gZc]) <;> rfl)
           case fw11_10_9_4_8=>rfl
           case fy11_10_9_4_8=>(intro w hSw;(try dsimp only at hSw);go_simp;(try with_reducible rfl))
           try simp only[Act.put,sZa,sZb,sZc]
           refine wpAnyH_ready (rs:=[12]) (by kernel_rfl) (by simp) ?_
           refine AllReadyH.cons (o:=?fo12_10_9_4_8) ?fe12_10_9_4_8 (fun K hK=>?fc12_10_9_4_8) ?fn12_10_9_4_8
           case fe12_10_9_4_8=>((simp only[gZa,gZb,gZc]) <;> rfl)
           case fc12_10_9_4_8 =>
            go_simp
            refine hK.out _ _ ?_ (fun hHeld=>?_)
            · exact SC.out _ ((((((zAa w0.heap.size w0 1).alloc (Nat.le_refl _) _) |> alB) |> alB) |> alB) |> alB)
            clear hK K
            try simp only[Act.put,sZa,sZb,sZc]
            refine wpAnyH_take (i:=13) (oi:=?fo13_10_9_4_8) (v:=?fv13_10_9_4_8) ?fe13_10_9_4_8 (by kernel_rfl) (by kernel_rfl) (by kernel_rfl) (fun _ _ _ h=>h) (Or.inl ⟨?fw13_10_9_4_8,?fy13_10_9_4_8⟩) (by assumption) ?fr13_10_9_4_8
            case fe13_10_9_4_8=>((simp only[gZa,gZb,gZc]) <;> rfl)
            case fw13_10_9_4_8=>rfl
            case fy13_10_9_4_8=>(intro w hSw;(try dsimp only at hSw);go_simp;(try with_reducible rfl))
            try simp only[Act.put,sZa,sZb,sZc]
            refine wpAnyH_done (by kernel_rfl) ?_ _
            refine NoPanic.normal ?_
            try go_wp2_with fail
            go_meet
            obtain⟨k1,k2,k3,k4,k5,kb,-⟩:=lay5 (w0.drewN 1) _ _ _ _ _ rfl
            exact zBf hp hun (b0.trans ((zAb kb).mono b0.size)) k3 k4 k2 k1 k5 (by omega) (by omega) (by have:=b0.size;simp;omega) (by have:=b0.size;simp;omega) (by have:=b0.size;simp;omega) (by have:=b0.size;simp;omega) (by have:=b0.size;simp;omega) hsl
           case fn12_10_9_4_8=>exact AllReadyH.nil
          case fn8_10_9_4=>exact AllReadyH.nil
         case fn4_10_9 =>
          refine AllReadyH.cons (o:=?fo8_10_9) ?fe8_10_9 (fun K hK=>?fc8_10_9) ?fn8_10_9
          case fe8_10_9=>((simp only[gZa,gZb,gZc]) <;> rfl)
          case fc8_10_9 =>
           go_simp
           refine hK.out _ _ ?_ (fun hHeld=>?_)
           · exact SC.out _ ((((zAa w0.heap.size w0 1).alloc (Nat.le_refl _) _) |> alB) |> alB)
           clear hK K
           try simp only[Act.put,sZa,sZb,sZc]
           refine wpAnyH_ready (rs:=[4]) (by kernel_rfl) (by simp) ?_
           refine AllReadyH.cons (o:=?fo4_10_9_8) ?fe4_10_9_8 (fun K hK=>?fc4_10_9_8) ?fn4_10_9_8
           case fe4_10_9_8=>((simp only[gZa,gZb,gZc]) <;> rfl)
           case fc4_10_9_8 =>
            go_simp
            refine hK.out _ _ ?_ (fun hHeld=>?_)
            · exact SC.out _ (((((zAa w0.heap.size w0 1).alloc (Nat.le_refl _) _) |> alB) |> alB) |> alB)
            clear hK K
            try simp only[Act.put,sZa,sZb,sZc]
            refine wpAnyH_take (i:=11) (oi:=?fo11_10_9_8_4) (v:=?fv11_10_9_8_4) ?fe11_10_9_8_4 (by kernel_rfl) (by kernel_rfl) (by kernel_rfl) (fun _ _ _ h=>h) (Or.inl ⟨?fw11_10_9_8_4,?fy11_10_9_8_4⟩) (by assumption) ?fr11_10_9_8_4
            case fe11_10_9_8_4=>((simp only[gZa,gZb,gZc]) <;> rfl)
            case fw11_10_9_8_4=>rfl
            case fy11_10_9_8_4=>(intro w hSw;(try dsimp only at hSw);go_simp;(try with_reducible rfl))
            try simp only[Act.put,sZa,sZb,sZc]
            refine wpAnyH_ready (rs:=[12]) (by kernel_rfl) (by simp) ?_
            refine AllReadyH.cons (o:=?fo12_10_9_8_4) ?fe12_10_9_8_4 (fun K hK=>?fc12_10_9_8_4) ?fn12_10_9_8_4
            case fe12_10_9_8_4=>((simp only[gZa,gZb,gZc]) <;> rfl)
            case fc12_10_9_8_4 =>
             go_simp
             refine hK.out _ _ ?_ (fun hHeld=>?_)
             · exact SC.out _ ((((((zAa w0.heap.size w0 1).alloc (Nat.le_refl _) _) |> alB) |> alB) |> alB) |> alB)
             clear hK K
             try simp only[Act.put,sZa,sZb,sZc]
             refine wpAnyH_take (i:=13) (oi:=?fo13_10_9_8_4) (v:=?fv13_10_9_8_4) ?fe13_10_9_8_4 (by kernel_rfl) (by kernel_rfl) (by kernel_rfl) (fun _ _ _ h=>h) (Or.inl ⟨?fw13_10_9_8_4,?fy13_10_9_8_4⟩) (by assumption) ?fr13_10_9_8_4
             case fe13_10_9_8_4=>((simp only[gZa,gZb,gZc]) <;> rfl)
             case fw13_10_9_8_4=>rfl
             case fy13_10_9_8_4=>(intro w hSw;(try dsimp only at hSw);go_simp;(try with_reducible rfl))
             try simp only[Act.put,sZa,sZb,sZc]
             refine wpAnyH_done (by kernel_rfl) ?_ _
             refine NoPanic.normal ?_
             try go_wp2_with fail
             go_meet
             obtain⟨k1,k2,k3,k4,k5,kb,-⟩:=lay5 (w0.drewN 1) _ _ _ _ _ rfl
             exact zBf hp hun (b0.trans ((zAb kb).mono b0.size)) k4 k3 k2 k1 k5 (by omega) (by omega) (by have:=b0.size;simp;omega) (by have:=b0.size;simp;omega) (by have:=b0.size;simp;omega) (by have:=b0.size;simp;omega) (by have:=b0.size;simp;omega) hsl
            case fn12_10_9_8_4=>exact AllReadyH.nil
           case fn4_10_9_8=>exact AllReadyH.nil
          case fn8_10_9=>exact AllReadyH.nil
        case fn9_10=>exact AllReadyH.nil
     case fn10=>exact AllReadyH.nil
 case rest =>
  obtain⟨g,D,gw,gu,pm,sm,wc',uc,rfl,hcm,hbc⟩:=hcut
  clear hmm hmk hlt hn16 hn0 h0 b0 SC HW
  have HS:=hid hs
  clear hp hs
  go_wp2_with fail
  go_loopw [23] (fun n0 wr=>∃(k:Nat) (vd:Value),k≤l.length∧n0=.int .i64 (k:Int)∧CM w.heap.size D wr g ss lim (rdF ss (l.take k)) (.slice va ss.length vc) (.slice (some ⟨gw,0,none⟩) ss.length wc') (.slice (some ⟨gu,0,none⟩) ss.length uc) vd pm sm k∧Below w.heap.size w wr) (fun n0 _=>l.length - (intOf n0).toNat)
  case atStart=>exact⟨0,.slice none 0 0,Nat.zero_le _,rfl,by rw[List.take_zero];exact hcm,hbc⟩
  case round =>
   clear hcm hbc
   obtain⟨k,vd,hk,rfl,hcm,hb⟩:=hrel
   by_cases hlt:k<l.length
   case neg =>
    obtain rfl:k=l.length:=by omega
    rw[List.take_length] at hcm
    have HC:=hid hcm
    have HB:=hid hb
    clear hcm hb
    go_wp2_with fail
    go_ret
    exact⟨g,D,gw,gu,pm,sm,wc',uc,vd,rfl,by rw[zI8,← HSS.out];exact HC.out,HB.out⟩
   have hat:=zWj hH hlt
   rw[← HSS.out] at hat
   have hevp:=(hH.nth k _ (List.getElem?_eq_getElem hlt)).1
   have hnx:=zG6 hlt ss
   have hsr:=HS.out.below hb
   obtain⟨_,_,a',cap,hv,hc⟩:=hsr
   rw[Value.slice.injEq] at hv
   obtain⟨rfl,-,rfl⟩:=hv
   obtain⟨b,off,rfl,hblt,hc⟩:=hc.resolve_left (by omega)
   obtain⟨L,hL⟩:∃L,L=l:=⟨_,rfl⟩
   have c0:wr.cell? ⟨b,off+k*8,none⟩=some (.int .i64 (l[k]).1):=zAd hc k 0 (by decide) hlt _ rfl
   have c1:wr.cell? ⟨b,off+k*8+1,none⟩=some (.int .i64 (l[k]).2.1):=zAd hc k 1 (by decide) hlt _ rfl
   have c2:wr.cell? ⟨b,off+k*8+2,none⟩=some (.int .i64 (l[k]).2.2.1):=zAd hc k 2 (by decide) hlt _ rfl
   have c3:wr.cell? ⟨b,off+k*8+3,none⟩=some (.int .i64 (l[k]).2.2.2.1):=zAd hc k 3 (by decide) hlt _ rfl
   have c4:wr.cell? ⟨b,off+k*8+4,none⟩=some (.int .i64 (l[k]).2.2.2.2.1):=zAd hc k 4 (by decide) hlt _ rfl
   have c5:wr.cell? ⟨b,off+k*8+5,none⟩=some (.int .i64 (l[k]).2.2.2.2.2.1):=zAd hc k 5 (by decide) hlt _ rfl
   have c6:wr.cell? ⟨b,off+k*8+6,none⟩=some (.bool (l[k]).2.2.2.2.2.2.1):=zAd hc k 6 (by decide) hlt _ rfl
   have c7:wr.cell? ⟨b,off+k*8+7,none⟩=some (.string ⟨(l[k]).2.2.2.2.2.2.2.toArray⟩):=zAd hc k 7 (by decide) hlt _ rfl
   have hdt0:(l[k]).2.2.2.2.2.2.2.length≤1400:=zGc hevp.2.2.2.2.2.2.2
   clear hc hL L
   obtain⟨X,hX⟩:∃X,X=l[k]:=⟨_,rfl⟩
   rw[← hX] at hat hevp hnx hdt0 c0 c1 c2 c3 c4 c5 c6 c7
   clear hX
   obtain⟨id,kd,tk,rf,sp,ty,ud,dt⟩:=X
   obtain⟨⟨ho1,ho2⟩,hwl,hul,hdl,hsg⟩:=hat
   have hP:=hevp
   have hrf0:=zKv hevp
   obtain⟨q1,q2,-⟩:=hP
   simp only[Ev.id,Ev.kd,Ev.rf,Ev.sp] at q1 q2 ho1 ho2 hrf0
   simp only at hdt0 c0 c1 c2 c3 c4 c5 c6 c7
   have hid64:i64B id:=by unfold i64B;omega
   have hrf64:i64B rf:=by unfold i64B;omega
   generalize hcq:rdF ss (l.take k)=cr at *
   have hkI:(k:Int)<(l.length:Int):=by omega
   have hk5:(k:Int)≤500:=by omega
   have hkp:(0:Int)≤(k:Int):=by omega
   clear hevp
   have HNX:=hid hnx
   obtain⟨we,hwe⟩:∃x,x=wr.alloc (.cells #[.int .i64 id,.int .i64 kd,.int .i64 tk,.int .i64 rf,.int .i64 sp,.int .i64 ty,.bool ud,.string ⟨dt.toArray⟩] 52):=⟨_,rfl⟩
   have be:Below wr.heap.size wr we:=by rw[hwe];exact(Below.refl _ _).alloc (Nat.le_refl _) _
   have hxe:we.heap[wr.heap.size]?=some (.cells #[.int .i64 id,.int .i64 kd,.int .i64 tk,.int .i64 rf,.int .i64 sp,.int .i64 ty,.bool ud,.string ⟨dt.toArray⟩] 52 (0,0)):=by rw[hwe];exact heap_alloc_new wr _
   have hcm:=hcm.below be
   have hb:=hb.trans (be.mono hb.size)
   have HWE:=hid hwe
   have HCQ:=hid hcq
   clear hwe be hnx hcq
   by_cases k6:kd=6
   · subst k6
     by_cases hud:ud=true
     · subst hud
       obtain⟨i,rfl,hil⟩:=ho1 (by omega)
       have hst:zAc ss cr (id,6,tk,rf,(i:Int),ty,true,dt) = { cr with undone:=cr.undone.set i 1,pl:=updI cr.pl id ((i:Int),1) }:=rfl
       have d3:we.cell? ⟨g,3,none⟩=some (.slice (some ⟨gu,0,none⟩) ss.length uc):=cR hcm.row rfl
       obtain⟨y0,y1,y2,y3,y4,y5,y6,y7⟩:=cA hxe
       obtain⟨hold,hfr⟩:=zD8 hcm.hu hil
       have hi0:(0:Int)≤(i:Int):=by omega
       have hi1:(i:Int)<(ss.length:Int):=by omega
       have HST:=hid hst
       clear hst
       have hset:=hcm.setUndone i 1
       obtain⟨w2,hw2⟩:∃x,x=(we.setCell ⟨gu,i,none⟩ (.int .i64 1)).drew:=⟨_,rfl⟩
       have hc2:CM w.heap.size D w2 g ss lim { cr with undone:=cr.undone.set i 1 } (.slice va ss.length vc) (.slice (some ⟨gw,0,none⟩) ss.length wc') (.slice (some ⟨gu,0,none⟩) ss.length uc) vd pm sm k:=by rw[hw2];exact hset.1.below (zAa _ _ 1)
       have hB2:Below w.heap.size w w2:=by rw[hw2];exact hb.trans (hset.2.trans ⟨rfl,rfl,rfl,Nat.le_refl _,fun _ _=>rfl⟩)
       have hx2:w2.heap[wr.heap.size]?=some (.cells #[.int .i64 id,.int .i64 6,.int .i64 tk,.int .i64 rf,.int .i64 (i:Int),.int .i64 ty,.bool true,.string ⟨dt.toArray⟩] 52 (0,0)):=by
        rw[hw2]
        refine(Below.heap_setCell _ _ _ _ ?_).trans hxe
        have q:=zBp hcm.hu (b:=gu) rfl
        intro z
        obtain⟨cur,q⟩:=q
        have z':wr.heap.size=gu:=by simpa using z
        rw[← z',hxe] at q
        cases q
       obtain⟨f,hf,hpl⟩:=hc2.hp
       have hkey:=hid (keyI hid64)
       have e4:w2.cell? ⟨g,4,none⟩=some (.map (some pm)):=cR hc2.row rfl
       obtain⟨z0,-,-,-,z4,-⟩:=cA hx2
       have hfd:MapV Tryz.prog w2.drew 3 pm k f:=hf.below (zAa _ _ 1)
       have HC2:=hid hc2
       have HB2:=hid hB2
       have HW2:=hid hw2
       have HPL:=hid hpl
       clear hset hw2 hc2 hB2 hx2 hcm hb hxe hpl hf
       go_wp2_with fail
       rw[← HWE.out]
       go_wp2_with fail
       go_region
       all_goals go_wp2_with fail
       all_goals rw[← HW2.out]
       all_goals clear hold hfr d3 y0 y1 y2 y3 y4 y5 y6 y7
       go_still_tail 9,(by kernel_rfl)
       refine zC0 w2.drew rfl _ _ _ 89 rfl 3 93 kInt Tryz.underlying89 pm k f rfl hfd (by unfold maxLen;omega) _ _ (.int .i64 id) rfl rfl hkey.out ?_
       intro w7 hown7 hgrow7
       have h7:=(HC2.out.below (zAa _ _ 1)).setPl hgrow7 ⟨_,hown7,HPL.out.put hid64⟩
       have HF:=hid (show CM w.heap.size D w7 g ss lim (rdF ss (l.take (k+1))) (.slice va ss.length vc) (.slice (some ⟨gw,0,none⟩) ss.length wc') (.slice (some ⟨gu,0,none⟩) ss.length uc) vd pm sm (k+1)∧Below w.heap.size w w7 from⟨by rw[HNX.out,HST.out];exact h7.1,HB2.out.trans ((zAa _ _ 1).trans h7.2)⟩)
       clear hown7 hgrow7 h7 e4 z0 z4 hfd
       go_wp2_with fail
       go_roundw
       case rel=>first
        | exact⟨k+1,_,by omega,by go_num,HF.out.1,HF.out.2⟩
        | ((repeat apply Exists.intro);exact⟨⟨k+1,_,by omega,by go_num,HF.out.1,HF.out.2⟩,rfl⟩)
       case measure=>simp[intOf];omega
     obtain rfl:ud=false:=by simpa using hud
     obtain⟨i,rfl,hil⟩:=ho1 (by omega)
     have hst:zAc ss cr (id,6,tk,rf,(i:Int),ty,false,dt) = { cr with went:=cr.went.set i 1,pl:=updI cr.pl id ((i:Int),0) }:=rfl
     have d2:we.cell? ⟨g,2,none⟩=some (.slice (some ⟨gw,0,none⟩) ss.length wc'):=cR hcm.row rfl
     obtain⟨y0,y1,y2,y3,y4,y5,y6,y7⟩:=cA hxe
     obtain⟨hold,hfr⟩:=zD8 hcm.hw hil
     have hi0:(0:Int)≤(i:Int):=by omega
     have hi1:(i:Int)<(ss.length:Int):=by omega
     have HST:=hid hst
     clear hst
     have hset:=hcm.setWent i 1
     obtain⟨w2,hw2⟩:∃x,x=(we.setCell ⟨gw,i,none⟩ (.int .i64 1)).drew:=⟨_,rfl⟩
     have hc2:CM w.heap.size D w2 g ss lim { cr with went:=cr.went.set i 1 } (.slice va ss.length vc) (.slice (some ⟨gw,0,none⟩) ss.length wc') (.slice (some ⟨gu,0,none⟩) ss.length uc) vd pm sm k:=by rw[hw2];exact hset.1.below (zAa _ _ 1)
     have hB2:Below w.heap.size w w2:=by rw[hw2];exact hb.trans (hset.2.trans ⟨rfl,rfl,rfl,Nat.le_refl _,fun _ _=>rfl⟩)
     have hx2:w2.heap[wr.heap.size]?=some (.cells #[.int .i64 id,.int .i64 6,.int .i64 tk,.int .i64 rf,.int .i64 (i:Int),.int .i64 ty,.bool false,.string ⟨dt.toArray⟩] 52 (0,0)):=by
      rw[hw2]
      refine(Below.heap_setCell _ _ _ _ ?_).trans hxe
      have q:=zBp hcm.hw (b:=gw) rfl
      intro z
      obtain⟨cur,q⟩:=q
      have z':wr.heap.size=gw:=by simpa using z
      rw[← z',hxe] at q
      cases q
     obtain⟨f,hf,hpl⟩:=hc2.hp
     have hkey:=hid (keyI hid64)
     have e4:w2.cell? ⟨g,4,none⟩=some (.map (some pm)):=cR hc2.row rfl
     obtain⟨z0,-,-,-,z4,-⟩:=cA hx2
     have hfd:MapV Tryz.prog w2.drew 3 pm k f:=hf.below (zAa _ _ 1)
     have HC2:=hid hc2
     have HB2:=hid hB2
     have HW2:=hid hw2
     have HPL:=hid hpl
     clear hset hw2 hc2 hB2 hx2 hcm hb hxe hpl hf
     go_wp2_with fail
     rw[← HWE.out]
     go_wp2_with fail
     go_region
     all_goals go_wp2_with fail
     all_goals rw[← HW2.out]
     all_goals clear hold hfr d2 y0 y1 y2 y3 y4 y5 y6 y7
     go_still_tail 9,(by kernel_rfl)
     refine zC0 w2.drew rfl _ _ _ 89 rfl 3 93 kInt Tryz.underlying89 pm k f rfl hfd (by unfold maxLen;omega) _ _ (.int .i64 id) rfl rfl hkey.out ?_
     intro w7 hown7 hgrow7
     have h7:=(HC2.out.below (zAa _ _ 1)).setPl hgrow7 ⟨_,hown7,HPL.out.put hid64⟩
     have HF:=hid (show CM w.heap.size D w7 g ss lim (rdF ss (l.take (k+1))) (.slice va ss.length vc) (.slice (some ⟨gw,0,none⟩) ss.length wc') (.slice (some ⟨gu,0,none⟩) ss.length uc) vd pm sm (k+1)∧Below w.heap.size w w7 from⟨by rw[HNX.out,HST.out];exact h7.1,HB2.out.trans ((zAa _ _ 1).trans h7.2)⟩)
     clear hown7 hgrow7 h7 e4 z0 z4 hfd
     go_wp2_with fail
     go_roundw
     case rel=>first
      | exact⟨k+1,_,by omega,by go_num,HF.out.1,HF.out.2⟩
      | ((repeat apply Exists.intro);exact⟨⟨k+1,_,by omega,by go_num,HF.out.1,HF.out.2⟩,rfl⟩)
     case measure=>simp[intOf];omega
   by_cases k10:kd=10
   · subst k10
     obtain⟨i,rfl,hil⟩:=ho1 (by omega)
     have hst:zAc ss cr (id,10,tk,rf,(i:Int),ty,ud,dt) = { cr with went:=cr.went.set i 1,pl:=updI cr.pl id ((i:Int),0) }:=rfl
     have d2:we.cell? ⟨g,2,none⟩=some (.slice (some ⟨gw,0,none⟩) ss.length wc'):=cR hcm.row rfl
     obtain⟨y0,y1,y2,y3,y4,y5,y6,y7⟩:=cA hxe
     obtain⟨hold,hfr⟩:=zD8 hcm.hw hil
     have hi0:(0:Int)≤(i:Int):=by omega
     have hi1:(i:Int)<(ss.length:Int):=by omega
     have HST:=hid hst
     clear hst
     have hset:=hcm.setWent i 1
     obtain⟨w2,hw2⟩:∃x,x=(we.setCell ⟨gw,i,none⟩ (.int .i64 1)).drew:=⟨_,rfl⟩
     have hc2:CM w.heap.size D w2 g ss lim { cr with went:=cr.went.set i 1 } (.slice va ss.length vc) (.slice (some ⟨gw,0,none⟩) ss.length wc') (.slice (some ⟨gu,0,none⟩) ss.length uc) vd pm sm k:=by rw[hw2];exact hset.1.below (zAa _ _ 1)
     have hB2:Below w.heap.size w w2:=by rw[hw2];exact hb.trans (hset.2.trans ⟨rfl,rfl,rfl,Nat.le_refl _,fun _ _=>rfl⟩)
     have hx2:w2.heap[wr.heap.size]?=some (.cells #[.int .i64 id,.int .i64 10,.int .i64 tk,.int .i64 rf,.int .i64 (i:Int),.int .i64 ty,.bool ud,.string ⟨dt.toArray⟩] 52 (0,0)):=by
      rw[hw2]
      refine(Below.heap_setCell _ _ _ _ ?_).trans hxe
      have q:=zBp hcm.hw (b:=gw) rfl
      intro z
      obtain⟨cur,q⟩:=q
      have z':wr.heap.size=gw:=by simpa using z
      rw[← z',hxe] at q
      cases q
     obtain⟨f,hf,hpl⟩:=hc2.hp
     have hkey:=hid (keyI hid64)
     have e4:w2.cell? ⟨g,4,none⟩=some (.map (some pm)):=cR hc2.row rfl
     obtain⟨z0,-,-,-,z4,-⟩:=cA hx2
     have hfd:MapV Tryz.prog w2.drew 3 pm k f:=hf.below (zAa _ _ 1)
     have HC2:=hid hc2
     have HB2:=hid hB2
     have HW2:=hid hw2
     have HPL:=hid hpl
     clear hset hw2 hc2 hB2 hx2 hcm hb hxe hpl hf
     go_wp2_with fail
     rw[← HWE.out]
     go_wp2_with fail
     go_region
     all_goals go_wp2_with fail
     all_goals rw[← HW2.out]
     all_goals clear hold hfr d2 y0 y1 y2 y3 y4 y5 y6 y7
     go_still_tail 9,(by kernel_rfl)
     refine zC0 w2.drew rfl _ _ _ 89 rfl 3 93 kInt Tryz.underlying89 pm k f rfl hfd (by unfold maxLen;omega) _ _ (.int .i64 id) rfl rfl hkey.out ?_
     intro w7 hown7 hgrow7
     have h7:=(HC2.out.below (zAa _ _ 1)).setPl hgrow7 ⟨_,hown7,HPL.out.put hid64⟩
     have HF:=hid (show CM w.heap.size D w7 g ss lim (rdF ss (l.take (k+1))) (.slice va ss.length vc) (.slice (some ⟨gw,0,none⟩) ss.length wc') (.slice (some ⟨gu,0,none⟩) ss.length uc) vd pm sm (k+1)∧Below w.heap.size w w7 from⟨by rw[HNX.out,HST.out];exact h7.1,HB2.out.trans ((zAa _ _ 1).trans h7.2)⟩)
     clear hown7 hgrow7 h7 e4 z0 z4 hfd
     go_wp2_with fail
     go_roundw
     case rel=>first
      | exact⟨k+1,_,by omega,by go_num,HF.out.1,HF.out.2⟩
      | ((repeat apply Exists.intro);exact⟨⟨k+1,_,by omega,by go_num,HF.out.1,HF.out.2⟩,rfl⟩)
     case measure=>simp[intOf];omega
   by_cases k7:kd=7
   · subst k7
     obtain⟨i,x,hil,hpi,hx01⟩:=ho2 (by omega)
     have hst:zAc ss cr (id,7,tk,rf,sp,ty,ud,dt)=zAr ss cr rf 2:=rfl
     have HST:=hid hst
     obtain⟨-,y1,-,y3,-⟩:=cA hxe
     have hC:=hid (zJr w.heap.size D g k ss lim cr va (some ⟨gw,0,none⟩) (some ⟨gu,0,none⟩) vc wc' uc vd pm sm rf 2 i x hpi hx01 (by omega) hil hsl hrf64 (by omega) hwl hul we hcm)
     have HB:=hid hb
     clear hst hpi hxe hcm hb
     go_wp2_with fail
     rw[← HWE.out]
     go_wp2_with fail
     refine hC.out.mono ?_
     rintro _ w7 ⟨rfl,vd',hc7,hb7⟩
     have HF:=hid (show CM w.heap.size D w7 g ss lim (rdF ss (l.take (k+1))) (.slice va ss.length vc) (.slice (some ⟨gw,0,none⟩) ss.length wc') (.slice (some ⟨gu,0,none⟩) ss.length uc) vd' pm sm (k+1)∧Below w.heap.size w w7 from⟨by rw[HNX.out,HST.out];exact hc7.mono (Nat.le_succ k),HB.out.trans hb7⟩)
     clear hc7 hb7 y1 y3 hC
     go_wp2_with fail
     go_roundw
     case rel=>first
      | exact⟨k+1,_,by omega,by go_num,HF.out.1,HF.out.2⟩
      | ((repeat apply Exists.intro);exact⟨⟨k+1,_,by omega,by go_num,HF.out.1,HF.out.2⟩,rfl⟩)
     case measure=>simp[intOf];omega
   by_cases k11:kd=11
   · subst k11
     obtain⟨i,x,hil,hpi,hx01⟩:=ho2 (by omega)
     have hst:zAc ss cr (id,11,tk,rf,sp,ty,ud,dt)=zAr ss cr rf 2:=rfl
     have HST:=hid hst
     obtain⟨-,y1,-,y3,-⟩:=cA hxe
     have hC:=hid (zJr w.heap.size D g k ss lim cr va (some ⟨gw,0,none⟩) (some ⟨gu,0,none⟩) vc wc' uc vd pm sm rf 2 i x hpi hx01 (by omega) hil hsl hrf64 (by omega) hwl hul we hcm)
     have HB:=hid hb
     clear hst hpi hxe hcm hb
     go_wp2_with fail
     rw[← HWE.out]
     go_wp2_with fail
     refine hC.out.mono ?_
     rintro _ w7 ⟨rfl,vd',hc7,hb7⟩
     have HF:=hid (show CM w.heap.size D w7 g ss lim (rdF ss (l.take (k+1))) (.slice va ss.length vc) (.slice (some ⟨gw,0,none⟩) ss.length wc') (.slice (some ⟨gu,0,none⟩) ss.length uc) vd' pm sm (k+1)∧Below w.heap.size w w7 from⟨by rw[HNX.out,HST.out];exact hc7.mono (Nat.le_succ k),HB.out.trans hb7⟩)
     clear hc7 hb7 y1 y3 hC
     go_wp2_with fail
     go_roundw
     case rel=>first
      | exact⟨k+1,_,by omega,by go_num,HF.out.1,HF.out.2⟩
      | ((repeat apply Exists.intro);exact⟨⟨k+1,_,by omega,by go_num,HF.out.1,HF.out.2⟩,rfl⟩)
     case measure=>simp[intOf];omega
   by_cases k9:kd=9
   · subst k9
     obtain⟨i,x,hil,hpi,hx01⟩:=ho2 (by omega)
     have hst:zAc ss cr (id,9,tk,rf,sp,ty,ud,dt)=zAr ss cr rf 3:=rfl
     have HST:=hid hst
     obtain⟨-,y1,-,y3,-⟩:=cA hxe
     have hC:=hid (zJr w.heap.size D g k ss lim cr va (some ⟨gw,0,none⟩) (some ⟨gu,0,none⟩) vc wc' uc vd pm sm rf 3 i x hpi hx01 (by omega) hil hsl hrf64 (by omega) hwl hul we hcm)
     have HB:=hid hb
     clear hst hpi hxe hcm hb
     go_wp2_with fail
     rw[← HWE.out]
     go_wp2_with fail
     refine hC.out.mono ?_
     rintro _ w7 ⟨rfl,vd',hc7,hb7⟩
     have HF:=hid (show CM w.heap.size D w7 g ss lim (rdF ss (l.take (k+1))) (.slice va ss.length vc) (.slice (some ⟨gw,0,none⟩) ss.length wc') (.slice (some ⟨gu,0,none⟩) ss.length uc) vd' pm sm (k+1)∧Below w.heap.size w w7 from⟨by rw[HNX.out,HST.out];exact hc7.mono (Nat.le_succ k),HB.out.trans hb7⟩)
     clear hc7 hb7 y1 y3 hC
     go_wp2_with fail
     go_roundw
     case rel=>first
      | exact⟨k+1,_,by omega,by go_num,HF.out.1,HF.out.2⟩
      | ((repeat apply Exists.intro);exact⟨⟨k+1,_,by omega,by go_num,HF.out.1,HF.out.2⟩,rfl⟩)
     case measure=>simp[intOf];omega
   by_cases k12:kd=12
   · subst k12
     have hst:zAc ss cr (id,12,tk,rf,sp,ty,ud,dt) = { cr with sig:=updS cr.sig dt (cr.sig dt+1) }:=rfl
     have HST:=hid hst
     obtain⟨-,y1,-,-,-,-,-,y7⟩:=cA hxe
     have d6:we.cell? ⟨g,6,none⟩=some (.map (some sm)):=cR hcm.row rfl
     obtain⟨f,hf,hsgf⟩:=hcm.hg
     have hkey:=hid (keyS (l:=dt) (by omega))
     have hfd:MapV Tryz.prog we.drew 9 sm k f:=hf.below (zAa _ _ 1)
     have hlk:(Instr.lookup 90 (.map (some sm)) (.string ⟨dt.toArray⟩) false).run Tryz.prog we.drew=.ok (.int .i64 (cr.sig dt)) we.drew:=by
      have:=hfd.look kStr Tryz.underlying90 (zWn _) hkey.out
      rw[hsgf dt] at this;exact this
     have hs0:=(hsg dt).1
     have hs1:cr.sig dt≤500:=by have:=(hsg dt).2;omega
     have HC:=hid hcm
     have HB:=hid hb
     have HSGF:=hid hsgf
     clear hst hxe hcm hb hf hsgf hsg
     go_wp2_with fail
     rw[← HWE.out]
     go_wp2_with fail
     go_still_tail 8,(by kernel_rfl)
     refine zC0 we.drew rfl _ _ _ 90 rfl 9 3 kStr Tryz.underlying90 sm k f rfl hfd (by unfold maxLen;omega) _ _ (.string dt) rfl rfl hkey.out ?_
     intro w7 hown7 hgrow7
     have h7:=(HC.out.below (zAa _ _ 1)).setSig hgrow7 ⟨_,hown7,HSGF.out.put dt _⟩
     rw[show IntKind.i64.wrap (cr.sig dt+1)=cr.sig dt+1 from IntWalk.i64_in _ (by omega)] at h7
     have HF:=hid (show CM w.heap.size D w7 g ss lim (rdF ss (l.take (k+1))) (.slice va ss.length vc) (.slice (some ⟨gw,0,none⟩) ss.length wc') (.slice (some ⟨gu,0,none⟩) ss.length uc) vd pm sm (k+1)∧Below w.heap.size w w7 from⟨by rw[HNX.out,HST.out];exact h7.1,HB.out.trans ((zAa _ _ 1).trans h7.2)⟩)
     clear hown7 hgrow7 h7 hfd hlk y1 y7 d6
     go_wp2_with fail
     go_roundw
     case rel=>first
      | exact⟨k+1,_,by omega,by go_num,HF.out.1,HF.out.2⟩
      | ((repeat apply Exists.intro);exact⟨⟨k+1,_,by omega,by go_num,HF.out.1,HF.out.2⟩,rfl⟩)
     case measure=>simp[intOf];omega
   by_cases k13:kd=13
   · subst k13
     have hst:zAc ss cr (id,13,tk,rf,sp,ty,ud,dt) = { cr with stop:=true }:=rfl
     have HST:=hid hst
     have y1:we.cell? ⟨wr.heap.size,1,none⟩=some (.int .i64 13):=cR hxe rfl
     have d7:we.cell? ⟨g,7,none⟩=some (.bool cr.stop):=cR hcm.row rfl
     have df7:=frozen_of_row we _ 7 _ _ hcm.row
     have h7:=hcm.setStop
     have HF:=hid (show CM w.heap.size D (we.setCell ⟨g,7,none⟩ (.bool true)) g ss lim (rdF ss (l.take (k+1))) (.slice va ss.length vc) (.slice (some ⟨gw,0,none⟩) ss.length wc') (.slice (some ⟨gu,0,none⟩) ss.length uc) vd pm sm (k+1)∧Below w.heap.size w (we.setCell ⟨g,7,none⟩ (.bool true)) from⟨by rw[HNX.out,HST.out];exact h7.1.mono (Nat.le_succ k),hb.trans h7.2⟩)
     clear hst hxe hcm hb h7
     rw[HWE.out] at d7 df7
     go_wp2_with fail
     rw[← HWE.out]
     go_roundw
     case rel=>first
      | exact⟨k+1,_,by omega,by go_num,HF.out.1,HF.out.2⟩
      | ((repeat apply Exists.intro);exact⟨⟨k+1,_,by omega,by go_num,HF.out.1,HF.out.2⟩,rfl⟩)
     case measure=>simp[intOf];omega
   by_cases k14:kd=14
   · subst k14
     have hst:zAc ss cr (id,14,tk,rf,sp,ty,ud,dt) = { cr with stop:=true }:=rfl
     have HST:=hid hst
     have y1:we.cell? ⟨wr.heap.size,1,none⟩=some (.int .i64 14):=cR hxe rfl
     have d7:we.cell? ⟨g,7,none⟩=some (.bool cr.stop):=cR hcm.row rfl
     have df7:=frozen_of_row we _ 7 _ _ hcm.row
     have h7:=hcm.setStop
     have HF:=hid (show CM w.heap.size D (we.setCell ⟨g,7,none⟩ (.bool true)) g ss lim (rdF ss (l.take (k+1))) (.slice va ss.length vc) (.slice (some ⟨gw,0,none⟩) ss.length wc') (.slice (some ⟨gu,0,none⟩) ss.length uc) vd pm sm (k+1)∧Below w.heap.size w (we.setCell ⟨g,7,none⟩ (.bool true)) from⟨by rw[HNX.out,HST.out];exact h7.1.mono (Nat.le_succ k),hb.trans h7.2⟩)
     clear hst hxe hcm hb h7
     rw[HWE.out] at d7 df7
     go_wp2_with fail
     rw[← HWE.out]
     go_roundw
     case rel=>first
      | exact⟨k+1,_,by omega,by go_num,HF.out.1,HF.out.2⟩
      | ((repeat apply Exists.intro);exact⟨⟨k+1,_,by omega,by go_num,HF.out.1,HF.out.2⟩,rfl⟩)
     case measure=>simp[intOf];omega
   have hst:zAc ss cr (id,kd,tk,rf,sp,ty,ud,dt)=cr:=by
    unfold zAc
    rw[if_neg (fun q=>k6 q.1),if_neg (fun q=>q.elim k6 k10),if_neg (fun q=>q.elim k7 k11),if_neg k9,if_neg k12,if_neg (fun q=>q.elim k13 k14)]
   have HST:=hid hst
   have y1:we.cell? ⟨wr.heap.size,1,none⟩=some (.int .i64 kd):=cR hxe rfl
   have e6:(kd==6)=false:=by simpa using k6
   have e10:(kd==10)=false:=by simpa using k10
   have e7:(kd==7)=false:=by simpa using k7
   have e11:(kd==11)=false:=by simpa using k11
   have e9:(kd==9)=false:=by simpa using k9
   have e12:(kd==12)=false:=by simpa using k12
   have e13:(kd==13)=false:=by simpa using k13
   have e14:(kd==14)=false:=by simpa using k14
   have HF:=hid (show CM w.heap.size D we g ss lim (rdF ss (l.take (k+1))) (.slice va ss.length vc) (.slice (some ⟨gw,0,none⟩) ss.length wc') (.slice (some ⟨gu,0,none⟩) ss.length uc) vd pm sm (k+1)∧Below w.heap.size w we from⟨by rw[HNX.out,HST.out];exact hcm.mono (Nat.le_succ k),hb⟩)
   clear hst hxe hcm hb k6 k7 k9 k10 k11 k12 k13 k14
   go_wp2_with fail
   rw[← HWE.out]
   go_wp2_with fail
   go_roundw
   case rel=>first
    | exact⟨k+1,_,by omega,by go_num,HF.out.1,HF.out.2⟩
    | ((repeat apply Exists.intro);exact⟨⟨k+1,_,by omega,by go_num,HF.out.1,HF.out.2⟩,rfl⟩)
   case measure=>simp[intOf];omega
end Go.Proofs.YtkedafopdkhnfaaGreat
