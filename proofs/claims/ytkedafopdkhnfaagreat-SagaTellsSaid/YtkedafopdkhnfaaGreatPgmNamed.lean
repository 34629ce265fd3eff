/- CONTRACTS: prog.Named, within; the reference's Named, in. -/
import Derived.Test.YtkedafopdkhnfaaGreatPgmPlain
namespace Go.Proofs.YtkedafopdkhnfaaGreat
set_option maxHeartbeats 800000
open Go.RowKit
set_option linter.unusedVariables false
def okC(c:UInt8):Prop:=33≤c.toNat∧c.toNat≤126
instance (c:UInt8):Decidable (okC c):=inferInstanceAs (Decidable (_∧_))
theorem zDt(n low high:Int)(w:World):Calls Tryz.prog 87 #[.int .i64 n,.int .i64 low,.int .i64 high] w fun e w'=>e=.returned (.bool (decide (low≤n∧n≤high)))∧w'=w:=by
 by_cases h1:low≤n
 · by_cases h2:n≤high
   · rw[decide_eq_true (And.intro h1 h2)]
     go_enter Tryz.func87,Tryz.ntmps87
     go_wp2_with fail
     go_ret
     exact⟨rfl,rfl⟩
   · rw[decide_eq_false (fun h=>h2 h.2)]
     go_enter Tryz.func87,Tryz.ntmps87
     go_wp2_with fail
     go_ret
     exact⟨rfl,rfl⟩
 · rw[decide_eq_false (fun h=>h1 h.1)]
   go_enter Tryz.func87,Tryz.ntmps87
   go_wp2_with fail
   go_ret
   exact⟨rfl,rfl⟩
theorem zI0(n low high:Int)(w:World):Calls Tryz.prog 107 #[.int .i64 n,.int .i64 low,.int .i64 high] w fun e w'=>e=.returned (.bool (decide (low≤n∧n≤high)))∧w'=w:=by
 by_cases h1:low≤n
 · by_cases h2:n≤high
   · rw[decide_eq_true (And.intro h1 h2)]
     go_enter Tryz.func107,Tryz.ntmps107
     go_wp2_with fail
     go_ret
     exact⟨rfl,rfl⟩
   · rw[decide_eq_false (fun h=>h2 h.2)]
     go_enter Tryz.func107,Tryz.ntmps107
     go_wp2_with fail
     go_ret
     exact⟨rfl,rfl⟩
 · rw[decide_eq_false (fun h=>h1 h.1)]
   go_enter Tryz.func107,Tryz.ntmps107
   go_wp2_with fail
   go_ret
   exact⟨rfl,rfl⟩
theorem zNj{l:List UInt8}{k:Nat}(hk:k<l.length)(h:¬okC l[k]):decide (zCi l)=false:=decide_eq_false (fun hn=>h (hn.2.2 _ (List.getElem_mem hk)))
theorem zK4{l:List UInt8}(h1:1≤l.length)(h2:l.length≤16)(h:∀j (hj:j<l.length),okC l[j]):decide (zCi l)=true:=decide_eq_true ⟨h1,h2,fun c hc=>by
 obtain⟨j,hj,rfl⟩:=List.getElem_of_mem hc
 exact h j hj⟩
theorem zDd(l:List UInt8)(hl:l.length≤maxLen)(w:World):Calls Tryz.prog 61 #[.string ⟨l.toArray⟩] w fun e w'=>e=.returned (.bool (decide (zCi l)))∧w'=w:=by
 by_cases h0:l=[]
 · subst h0
   have hv:decide (zCi [])=false:=rfl
   rw[hv]
   go_enter Tryz.func61,Tryz.ntmps61
   go_wp2_with fail
   go_ret
   exact⟨rfl,rfl⟩
 · have h1 : 1≤l.length:=by cases l;exact absurd rfl h0;simp
   have ht:(l == [])=false:=by cases l;exact absurd rfl h0;rfl
   by_cases h16:(16:Int)<(l.length:Int)
   · have hv:decide (zCi l)=false:=decide_eq_false (fun h=>by have:=h.2.1;omega)
     rw[hv]
     clear hv
     go_enter Tryz.func61,Tryz.ntmps61
     go_wp2_with fail
     go_ret
     exact⟨rfl,rfl⟩
   · go_enter Tryz.func61,Tryz.ntmps61
     go_wp2_with fail
     go_loop [13] (fun i=>∃k:Nat,k≤l.length∧i=.int .i64 k∧∀j (hj:j<l.length),j<k→okC l[j]) (fun i=>l.length - (intOf i).toNat)
     case atStart=>exact⟨0,by omega,rfl,fun j _ h=>absurd h (Nat.not_lt_zero _)⟩
     case round =>
      obtain⟨k,hk,rfl,hall⟩:=hrel
      by_cases hlt:k<l.length
      · have hcc:(((⟨l.toArray⟩:ByteArray)[k]'hlt).toNat:Int)=((l[k]'hlt).toNat:Int):=rfl
        by_cases hc:okC l[k]
        · have hc':=hid hc
          have a1:¬(((⟨l.toArray⟩:ByteArray)[k]'hlt).toNat:Int)≤32:=by rw[hcc];have:=hc.1;omega
          have a2:¬(126:Int)<(((⟨l.toArray⟩:ByteArray)[k]'hlt).toNat:Int):=by rw[hcc];have:=hc.2;omega
          clear hc hcc
          go_wp2_with fail
          go_round
          case rel =>
           refine⟨k+1,by omega,by go_num,fun j hj hjk=>?_⟩
           by_cases e:j=k
           · subst e;exact hc'.out
           · exact hall j hj (by omega)
          case measure=>simp[intOf];omega
        · have HN:=hid (zNj hlt hc)
          by_cases a1:(((⟨l.toArray⟩:ByteArray)[k]'hlt).toNat:Int)≤32
          · clear hcc hc
            go_wp2_with fail
            go_ret
            exact⟨by rw[HN.out];rfl,rfl⟩
          · have a2:(126:Int)<(((⟨l.toArray⟩:ByteArray)[k]'hlt).toNat:Int):=by
             rw[hcc] at a1 ⊢
             unfold okC at hc;omega
            clear hcc hc
            go_wp2_with fail
            go_ret
            exact⟨by rw[HN.out];rfl,rfl⟩
      · obtain rfl:k=l.length:=by omega
        have HN:=hid (zK4 h1 (by omega) (fun j hj=>hall j hj hj))
        go_wp2_with fail
        go_ret
        exact⟨by rw[HN.out];rfl,rfl⟩
theorem zEk(l:List UInt8)(hl:l.length≤maxLen)(w:World):Calls Tryz.prog 79 #[.string ⟨l.toArray⟩] w fun e w'=>e=.returned (.bool (decide (zCi l)))∧w'=w:=by
 unfold maxLen at hl
 go_enter Tryz.func79,Tryz.ntmps79
 go_wp2_with fail
 go_loop [3] (fun i=>∃k:Nat,k≤l.length∧i=.int .i64 k∧∀j (hj:j<l.length),j<k→okC l[j]) (fun i=>l.length - (intOf i).toNat)
 case atStart=>exact⟨0,by omega,rfl,fun j _ h=>absurd h (Nat.not_lt_zero _)⟩
 case round =>
  obtain⟨k,hk,rfl,hall⟩:=hrel
  by_cases hlt:k<l.length
  · have hcc:(((⟨l.toArray⟩:ByteArray)[k]'hlt).toNat:Int)=((l[k]'hlt).toNat:Int):=rfl
    by_cases hc:okC l[k]
    · have hc':=hid hc
      have a1:¬(((⟨l.toArray⟩:ByteArray)[k]'hlt).toNat:Int)<33:=by rw[hcc];have:=hc.1;omega
      have a2:¬(126:Int)<(((⟨l.toArray⟩:ByteArray)[k]'hlt).toNat:Int):=by rw[hcc];have:=hc.2;omega
      clear hc hcc
      go_wp2_with fail
      go_round
      case rel =>
       refine⟨k+1,by omega,by go_num,fun j hj hjk=>?_⟩
       by_cases e:j=k
       · subst e;exact hc'.out
       · exact hall j hj (by omega)
      case measure=>simp[intOf];omega
    · have HN:=hid (zNj hlt hc)
      by_cases a1:(((⟨l.toArray⟩:ByteArray)[k]'hlt).toNat:Int)<33
      · clear hcc hc
        go_wp2_with fail
        go_ret
        exact⟨by rw[HN.out];rfl,rfl⟩
      · have a2:(126:Int)<(((⟨l.toArray⟩:ByteArray)[k]'hlt).toNat:Int):=by
         rw[hcc] at a1 ⊢
         unfold okC at hc;omega
        clear hcc hc
        go_wp2_with fail
        go_ret
        exact⟨by rw[HN.out];rfl,rfl⟩
  · obtain rfl:k=l.length:=by omega
    by_cases h1:(1:Int)≤(l.length:Int)
    · by_cases h2:(l.length:Int)≤16
      · have HN:=hid (zK4 (by omega) (by omega) (fun j hj=>hall j hj hj))
        go_wp2_with fail
        go_ret
        exact⟨by rw[HN.out];rfl,rfl⟩
      · have hv:decide (zCi l)=false:=decide_eq_false (fun h=>by have:=h.2.1;omega)
        have HN:=hid hv
        clear hv
        go_wp2_with fail
        go_ret
        exact⟨by rw[HN.out];rfl,rfl⟩
    · have hv:decide (zCi l)=false:=decide_eq_false (fun h=>by have:=h.1;omega)
      have HN:=hid hv
      clear hv
      go_wp2_with fail
      go_ret
      exact⟨by rw[HN.out];rfl,rfl⟩
end Go.Proofs.YtkedafopdkhnfaaGreat
