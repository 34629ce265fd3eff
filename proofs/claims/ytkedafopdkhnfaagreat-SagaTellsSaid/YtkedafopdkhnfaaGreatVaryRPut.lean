/- CONTRACT: vary.Put: the bytes of a number of 64 bits, whatever it is. CONTRACTS: wherryref01.Put, Int, Text; vary.Text. -/
import Derived.Test.YtkedafopdkhnfaaGreatProg
import Derived.Test.YtkedafopdkhnfaaGreatVaryPlain
import Derived.Test.YtkedafopdkhnfaaGreatBytes
import Derived.WalkKit
import Derived.WalkSpells
import Derived.Outline
import Derived.WalkLawsBesides
namespace Go.Proofs.YtkedafopdkhnfaaGreat
open Go.RowKit
theorem zTn:(Tryz.prog.info? 5).map (fun i=>(i.zero,i.size,i.bytes))=some (some (.int .u8 0),1,1):=by kernel_rfl
end Go.Proofs.YtkedafopdkhnfaaGreat
namespace Go.Proofs.YtkedafopdkhnfaaGreat
open Go.RowKit
set_option maxHeartbeats 800000 in
set_option maxRecDepth 100000 in
theorem zNp(n:Nat)(hn:U64 n)(w:World) :
 Calls Tryz.prog 109 #[.int .u64 n] w fun e w'=>e=.returned (.string ⟨(putL n).toArray⟩)∧Below w.heap.size w w':=by
 go_enter Tryz.func109,Tryz.ntmps109
 go_wp2
 go_loopw [0,3] (fun n0 b wr=>∃(m:Nat) (pre:List UInt8),n0=.int .u64 m∧U64 m∧Own wr w.heap.size 5 b pre∧Below w.heap.size w wr∧pre++putL m=putL n) (fun n0 _ _=>(intOf n0).toNat)
 case atStart=>exact⟨n,[],rfl,hn,Own.nil _ _ _,Below.refl _ _,rfl⟩
 case round =>
  obtain⟨m,pre,rfl,hm,hown,hb,hpre⟩:=hrel
  have HP:Hid (pre++putL m=putL n):=hpre
  have hlen:pre.length<70368744177664:=by have:=zDp hn;rw[← hpre] at this;simp at this;omega
  clear hpre
  have hsz:=hb.size
  have hq:IntKind.u64.wrap ((m:Int) / 128)=(m:Int) / 128:=zGu (by omega) (by unfold U64 at hm;omega)
  by_cases hlt:m<128
  · go_wp2_with (at_builtin;go_must (refine zD7 _ rfl _ _ 169 rfl w.heap.size 5 Tryz.underlying169 zTn _ pre rfl ?h1 wr.heap.size rfl (m:Int) ?h2 (zOe m) ?h3 hlen w ?h4 ?h5 ?_))
    case h1=>exact World.ownsRow.alloc hown _
    case h2=>exact zJj _ _ _
    case h3=>rw[zGi (by omega)]
    case h4=>simp;omega
    case h5=>exact hb.alloc (by omega) _
    intro v' w1 hown1 hb1 _
    have hs:=zIt (P:=Tryz.prog) w1 169 9 5 _ _ _ Tryz.underlying169 Tryz.underlying5 Tryz.underlying9 hown1
    go_wp2
    go_ret
    exact⟨zU5 (by rw[← HP.out,zFb hlt]),hb1⟩
  · go_wp2_with (at_builtin;go_must (refine zD7 _ rfl _ _ 169 rfl w.heap.size 5 Tryz.underlying169 zTn _ pre rfl ?g1 wr.heap.size rfl ((m:Int) % 128+128) ?g2 (zMd m) ?g3 hlen w ?g4 ?g5 ?_))
    case g1=>exact World.ownsRow.alloc hown _
    case g2=>exact zJj _ _ _
    case g3=>rw[zE9];omega
    case g4=>simp;omega
    case g5=>exact hb.alloc (by omega) _
    intro v' w1 hown1 hb1 _
    go_wp2
    go_roundw
    case rel=>exact⟨m / 128,pre ++ [zMd m],by go_num,hm.div _,hown1,hb1,by rw[← HP.out,zFx hlt];simp⟩
    case measure=>simp[intOf];omega
theorem zNo(n:Int)(h0:0≤n)(hn:n≤9223372036854775807)(w:World) :
 Calls Tryz.prog 103 #[.int .i64 n] w fun e w'=>e=.returned (.string ⟨(putL n.toNat).toArray⟩)∧Below w.heap.size w w':=by
 obtain⟨n,rfl⟩:=Int.eq_ofNat_of_zero_le h0
 rw[Int.toNat_natCast]
 have hu:U64 n:=by unfold U64;omega
 go_enter Tryz.func103,Tryz.ntmps103
 go_wp2_with fail
 refine(zNp n hu _).mono ?_
 rintro e w1 ⟨rfl,hb⟩
 go_wp2
 go_ret
 exact⟨rfl,hb⟩
def zCe(l:List UInt8):List UInt8:=putL l.length++l
theorem zLg(l:List UInt8)(hl:l.length≤9223372036854775000)(w:World) :
 Calls Tryz.prog 104 #[.string ⟨l.toArray⟩] w fun e w'=>e=.returned (.string ⟨(zCe l).toArray⟩)∧Below w.heap.size w w':=by
 have hu:U64 l.length:=by unfold U64;omega
 have h10:=zDp hu
 go_enter Tryz.func104,Tryz.ntmps104
 go_wp2_with fail
 refine(zNo _ (by omega) (by omega) _).mono ?_
 rintro e w1 ⟨rfl,hb⟩
 rw[Int.toNat_natCast]
 have hcat:=zDu (P:=Tryz.prog) w1 (putL l.length) l (by omega)
 go_wp2
 go_ret
 exact⟨rfl,hb⟩
end Go.Proofs.YtkedafopdkhnfaaGreat
