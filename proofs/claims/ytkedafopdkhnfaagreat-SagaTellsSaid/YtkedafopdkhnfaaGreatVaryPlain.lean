/- PLAIN FACTS: the bytes of a number as the document has them (base 128, the lowest first), and of eight bytes; no program in sight. -/
import Derived.WalkKit
import Derived.Below
import Derived.Laws.Rows
namespace Go.Proofs.YtkedafopdkhnfaaGreat
def zMd(n:Nat):UInt8:=UInt8.ofNat (n % 128+128)
def zOe(n:Nat):UInt8:=UInt8.ofNat n
theorem zE9(n:Nat):(zMd n).toNat=n % 128+128:=by simp[zMd,UInt8.toNat_ofNat'];omega
theorem zGi{n:Nat}(h:n<256):(zOe n).toNat=n:=by simp[zOe,UInt8.toNat_ofNat'];omega
def putL(n:Nat):List UInt8:=if h:n<128 then [zOe n] else zMd n :: putL (n / 128)
termination_by n
decreasing_by omega
theorem zFb{n:Nat}(h:n<128):putL n=[zOe n]:=by rw[putL,dif_pos h]
theorem zFx{n:Nat}(h:¬n<128):putL n=zMd n :: putL (n / 128):=by rw[putL,dif_neg h]
theorem zSx(k:Nat):∀n,n<128 ^ (k+1)→(putL n).length≤k+1:=by
 induction k with
 | zero=>intro n h;rw[zFb (by simpa using h)];simp
 | succ k ih =>
   intro n h
   by_cases hn:n<128
   · rw[zFb hn];simp
   · rw[zFx hn]
     have:n / 128<128 ^ (k+1):=by
      rw[Nat.div_lt_iff_lt_mul (by omega)];rw[Nat.pow_succ] at h;omega
     have:=ih _ this
     simp;omega
def U64(n:Nat):Prop:=n<18446744073709551616
theorem U64.div{n:Nat}(h:U64 n)(k:Nat):U64 (n / k):=Nat.lt_of_le_of_lt (Nat.div_le_self _ _) h
theorem zDp{n:Nat}(h:U64 n):(putL n).length≤10:=zSx 9 n (Nat.lt_of_lt_of_le h (by decide))
theorem zSy(n:Nat):0<(putL n).length:=by
 by_cases hn:n<128
 · rw[zFb hn];simp
 · rw[zFx hn];simp
def zAz(i:Nat):List UInt8→Option (Nat×List UInt8)
 | []=>none
 | c :: r=>if i≥10∨(i=9∧1<c.toNat)∨(0<i∧c.toNat=0) then none else if c.toNat<128 then some (c.toNat,r) else(zAz (i+1) r).map fun(m,r)=>(c.toNat % 128+128*m,r)
def getN(l:List UInt8):Nat:=((zAz 0 l).map Prod.fst).getD 0
def getR(l:List UInt8):List UInt8:=((zAz 0 l).map Prod.snd).getD []
def getB(l:List UInt8):Bool:=(zAz 0 l).isSome
def GetP(l:List UInt8)(n k:Nat):Prop:=n<128 ^ k∧zAz 0 l=(zAz k (l.drop k)).map fun x=>(n+128 ^ k*x.1,x.2)
theorem GetP.start(l:List UInt8):GetP l 0 0:=by
 refine⟨by decide,?_⟩
 cases h:zAz 0 l <;> simp[h]
def zLx(k:Nat)(c:UInt8):Prop:=(k=9∧1<c.toNat)∨(0<k∧c.toNat=0)
theorem zJp{l:List UInt8}{k:Nat}(h:k<l.length):l.drop k=l[k] :: l.drop (k+1):=List.drop_eq_getElem_cons h
theorem zUf{l:List UInt8}{n k:Nat}(h:GetP l n k)(hk:k<l.length)(hb:zLx k l[k]):zAz 0 l=none:=by
 rw[h.2,zJp hk,zAz,if_pos (.inr hb)];rfl
theorem zSj{l:List UInt8}{n k:Nat}(h:GetP l n k)(hk:k<l.length)(h10:k<10)(hb:¬zLx k l[k])(hc:l[k].toNat<128):zAz 0 l=some (n+128 ^ k*(l[k].toNat % 128),l.drop (k+1)):=by
 rw[h.2,zJp hk,zAz,if_neg (by intro h';rcases h' with h' | h';omega;exact hb h'),if_pos hc,Nat.mod_eq_of_lt hc];rfl
theorem zSk{l:List UInt8}{n k:Nat}(h:GetP l n k)(hk:k<l.length)(h10:k<10)(hb:¬zLx k l[k])(hc:¬l[k].toNat<128):GetP l (n+128 ^ k*(l[k].toNat % 128)) (k+1):=by
 refine⟨?_,?_⟩
 · have h1:=h.1
   have h2:128 ^ k*(l[k].toNat % 128)≤128 ^ k*127:=Nat.mul_le_mul_left _ (by omega)
   rw[Nat.pow_succ];omega
 · rw[h.2,zJp hk,zAz,if_neg (by intro h';rcases h' with h' | h';omega;exact hb h'),if_neg hc]
   cases zAz (k+1) (l.drop (k+1)) with
   | none=>rfl
   | some x=>simp[Nat.pow_succ,Nat.mul_add,Nat.mul_assoc,Nat.add_assoc]
theorem zUg{l:List UInt8}{n k:Nat}(h:GetP l n k)(hk:k=l.length∨k=10):zAz 0 l=none:=by
 rw[h.2]
 rcases hk with hk | hk
 · rw[List.drop_of_length_le (by omega),zAz];rfl
 · cases hd:l.drop k with
   | nil=>rfl
   | cons c r=>rw[zAz,if_pos (.inl (by omega))];rfl
theorem zVh(c:Nat)(h:c<256):bits .and .u8 (c:Int) 127=((c % 128:Nat):Int):=by
 have h1:bits .and .u8 (c:Int) 127=((c &&& 127:Nat):Int):=u8_and_nat c 127 h (by omega)
 rw[h1,show(127:Nat)=2 ^ 7 - 1 from rfl,Nat.and_two_pow_sub_one_eq_mod]
theorem zNm(k:Nat):128 ^ k=2 ^ (7*k):=by rw[show 128=2 ^ 7 from rfl,← Nat.pow_mul]
theorem zGu{n:Int}(h0:0≤n)(h:n<18446744073709551616):IntKind.u64.wrap n=n:=by
 simp[IntKind.wrap,IntKind.signed,IntKind.bits];omega
theorem zTj{k c:Nat}(h10:k<10)(h9:k=9→c≤1)(hc:c<128):128 ^ k*c<18446744073709551616:=by
 have h:∀j:Fin 9,128 ^ j.val*127<18446744073709551616:=by decide
 by_cases hk:k=9
 · subst hk
   have:=h9 rfl
   have h2:128 ^ 9*c≤128 ^ 9*1:=Nat.mul_le_mul_left _ this
   have h3:128 ^ 9=9223372036854775808:=by decide
   omega
 · have h1:=h ⟨k,by omega⟩
   have h2:128 ^ k*c≤128 ^ k*127:=Nat.mul_le_mul_left _ (by omega)
   simp only at h1
   omega
theorem zVg{n k c:Nat}(hn:n<128 ^ k)(h10:k<10)(h9:k=9→c≤1)(hc:c<256) :
 bits .or .u64 (n:Int) (IntKind.u64.wrap (IntKind.u64.wrap (bits .and .u8 (c:Int) 127)*2 ^ (7*k)))=((n+128 ^ k*(c % 128):Nat):Int):=by
 have hl:=zTj (k:=k) (c:=c % 128) h10 (by omega) (by omega)
 have hN:n<18446744073709551616:=by
  have h:∀j:Fin 10,128 ^ j.val<18446744073709551616:=by decide
  have h1:=h ⟨k,h10⟩
  simp only at h1
  omega
 have e:((c % 128:Nat):Int)*2 ^ (7*k)=((128 ^ k*(c % 128):Nat):Int):=by
  rw[zNm,Int.natCast_mul,Int.natCast_pow,Int.mul_comm];rfl
 have e1:IntKind.u64.wrap ((c % 128:Nat):Int)=((c % 128:Nat):Int):=zGu (by omega) (by omega)
 have e2:IntKind.u64.wrap ((128 ^ k*(c % 128):Nat):Int)=((128 ^ k*(c % 128):Nat):Int):=zGu (by omega) (by omega)
 rw[zVh c hc,e1,e,e2,u64_or_nat n _ hN hl]
 congr 1
 rw[zNm] at *
 rw[Nat.mul_comm,← Nat.shiftLeft_eq,Nat.or_comm,← Nat.shiftLeft_add_eq_or_of_lt hn,Nat.add_comm]
/-! ### what is put is got, and only that -/
def valL:List UInt8→Nat | []=>0 | c :: r=>c.toNat % 128+128*valL r
def zD5:List UInt8→Option (List UInt8×List UInt8)
 | []=>none
 | c :: r=>if c.toNat<128 then some ([c],r) else(zD5 r).map fun x=>(c :: x.1,x.2)
theorem zMh{motive:Nat→Prop}(lo:∀n,n<128→motive n)(hi:∀n,¬n<128→motive (n / 128)→motive n):∀n,motive n:=by
 intro n
 induction n using Nat.strongRecOn with
 | ind n ih =>
   by_cases h:n<128
   · exact lo n h
   · exact hi n h (ih (n / 128) (by omega))
theorem zQ8(n:Nat):valL (putL n)=n:=by
 induction n using zMh with
 | lo n h=>rw[zFb h];simp[valL,zGi (show n<256 by omega)];omega
 | hi n h ih=>rw[zFx h];simp only[valL,zE9,ih];omega
theorem zIj(n:Nat)(r:List UInt8):zD5 (putL n++r)=some (putL n,r):=by
 induction n using zMh with
 | lo n h=>rw[zFb h];simp[zD5,zGi (show n<256 by omega),h]
 | hi n h ih =>
   rw[zFx h,List.cons_append,zD5,if_neg (by rw[zE9];omega),ih];rfl
theorem zIi{l:List UInt8}{k:Nat}(hk:k≤l.length)(h:∀j (hj:j<l.length),j<k→128≤l[j].toNat):zD5 l=(zD5 (l.drop k)).map fun x=>(l.take k++x.1,x.2):=by
 induction k generalizing l with
 | zero=>cases h:zD5 l <;> simp[h]
 | succ k ih =>
   cases l with
   | nil=>simp at hk
   | cons c r =>
     have h0:=h 0 (by simp) (by omega)
     rw[zD5,if_neg (by simp at h0;omega),ih (by simp at hk;omega) (fun j hj hjk=>by have:=h (j+1) (by simp;omega) (by omega);simpa using this)]
     simp only[List.drop_succ_cons,List.take_succ_cons]
     cases zD5 (r.drop k) <;> simp
theorem zKx(n:Nat):∀(i:Nat)(r:List UInt8),i<10→n<2 ^ (64 - 7*i)→(0<i→0<n)→zAz i (putL n++r)=some (n,r):=by
 induction n using zMh with
 | lo n h =>
   intro i r hi hn h0
   rw[zFb h]
   have e:=zGi (show n<256 by omega)
   simp only[List.cons_append,List.nil_append,zAz,e]
   rw[if_neg,if_pos h]
   rintro(h1 | ⟨rfl,h1⟩ | ⟨h1,h2⟩)
   · omega
   · simp at hn;omega
   · have:=h0 h1;omega
 | hi n h ih =>
   intro i r hi hn h0
   have h9:i<9:=by
    by_cases h9:i=9
    · subst h9;simp at hn;omega
    · omega
   have hn':n / 128<2 ^ (64 - 7*(i+1)):=by
    rw[Nat.div_lt_iff_lt_mul (by omega)]
    have e:64 - 7*i=64 - 7*(i+1)+7:=by omega
    rw[e,Nat.pow_add] at hn;omega
   rw[zFx h,List.cons_append,zAz,zE9,if_neg (by omega),if_neg (by omega),ih (i+1) r (by omega) hn' (by omega)]
   simp;omega
theorem zKy(l:List UInt8):∀(i n:Nat)(r:List UInt8),zAz i l=some (n,r)→l=putL n++r∧n<2 ^ (64 - 7*i)∧(0<i→0<n)∧i<10:=by
 induction l with
 | nil=>intro i n r h;simp[zAz] at h
 | cons c s ih =>
   intro i n r h
   rw[zAz] at h
   by_cases hb:i≥10∨(i=9∧1<c.toNat)∨(0<i∧c.toNat=0)
   · rw[if_pos hb] at h;cases h
   · rw [if_neg hb] at h
     have hi:i<10:=by omega
     by_cases hc:c.toNat<128
     · rw [if_pos hc] at h
       simp only[Option.some.injEq,Prod.mk.injEq] at h
       obtain⟨rfl,rfl⟩:=h
       refine⟨?_,?_,by omega,hi⟩
       · rw[zFb hc];simp[zOe]
       · by_cases h9:i=9
         · subst h9;simp;omega
         · have:2 ^ 8≤2 ^ (64 - 7*i):=Nat.pow_le_pow_right (by omega) (by omega)
           omega
     · rw [if_neg hc] at h
       cases hg:zAz (i+1) s with
       | none=>rw[hg] at h;cases h
       | some x =>
         rw[hg] at h
         simp only[Option.map_some,Option.some.injEq,Prod.mk.injEq] at h
         obtain⟨rfl,rfl⟩:=h
         obtain⟨h1,h2,h3,h4⟩:=ih (i+1) x.1 x.2 hg
         have h5:=h3 (by omega)
         have hcl:=UInt8.toNat_lt c
         refine⟨?_,?_,by omega,hi⟩
         · rw[zFx (by omega)]
           have e1:(c.toNat % 128+128*x.1) / 128=x.1:=by omega
           have e2:zMd (c.toNat % 128+128*x.1)=c:=by
            apply UInt8.toNat_inj.1;rw[zE9];omega
           rw[e1,e2,List.cons_append,← h1]
         · have e:64 - 7*i=64 - 7*(i+1)+7:=by omega
           rw[e,Nat.pow_add];omega
theorem zLp{l:List UInt8}{k:Nat}(hk:k<l.length):valL (l.take (k+1))=valL (l.take k)+128 ^ k*(l[k].toNat % 128):=by
 induction k generalizing l with
 | zero=>cases l with
   | nil=>simp at hk
   | cons c r=>simp[valL]
 | succ k ih =>
   cases l with
   | nil=>simp at hk
   | cons c r =>
     simp only[List.take_succ_cons,valL,List.getElem_cons_succ]
     rw[ih (by simpa using hk),Nat.mul_add,← Nat.mul_assoc,Nat.mul_comm 128 (128 ^ k),← Nat.pow_succ,Nat.succ_eq_add_one];omega
theorem zEq(l:List UInt8)(n:Nat)(r:List UInt8):zAz 0 l=some (n,r)↔U64 n∧l=putL n++r:=by
 constructor
 · intro h
   obtain⟨h1,h2,_,_⟩:=zKy l 0 n r h
   exact⟨h2,h1⟩
 · rintro⟨h1,rfl⟩
   exact zKx n 0 r (by omega) h1 (by omega)
def getK(l:List UInt8):Nat:=if getB l then l.length - (getR l).length else 0
theorem zH8{l:List UInt8}(h:zAz 0 l=none):getN l=0∧getK l=0:=by simp[getN,getK,getB,h]
theorem zPv{l:List UInt8}{n k:Nat}(hk:k<l.length)(h:zAz 0 l=some (n,l.drop (k+1))):getN l=n∧getK l=k+1:=by
 simp[getN,getK,getB,getR,h];omega
def RP(l:List UInt8)(n k:Nat):Prop:=(k≤9→n=valL (l.take k))∧U64 n∧∀j (hj:j<l.length),j<k→128≤l[j].toNat
theorem RP.start(l:List UInt8):RP l 0 0:=⟨fun _=>rfl,by simp[U64],fun _ _ h=>by omega⟩
theorem zQu{l:List UInt8}{n k:Nat}(h:RP l n k)(hk:k<l.length)(hc:l[k].toNat<128):zD5 l=some (l.take (k+1),l.drop (k+1)):=by
 rw[zIi (by omega) h.2.2,zJp hk,zD5,if_pos hc]
 simp
theorem zU6{l:List UInt8}{n k n':Nat}(_h:RP l n k)(hu:U64 n')(he:putL n'=l.take (k+1)):zAz 0 l=some (n',l.drop (k+1)) :=
 (zEq _ _ _).2 ⟨hu,by rw[he,List.take_append_drop]⟩
theorem zU7{l:List UInt8}{n k n':Nat}(h:RP l n k)(hk:k<l.length)(h10:k<10)(hc:l[k].toNat<128)
 (hn:n+128 ^ k*(l[k].toNat % 128)<18446744073709551616→n'=n+128 ^ k*(l[k].toNat % 128))(he:putL n'≠l.take (k+1)):zAz 0 l=none:=by
 cases hg:zAz 0 l with
 | none=>rfl
 | some x =>
   exfalso
   obtain⟨hu,hl⟩:=(zEq l x.1 x.2).1 hg
   have h1:=zIj x.1 x.2
   rw[← hl,zQu h hk hc] at h1
   simp only[Option.some.injEq,Prod.mk.injEq] at h1
   have h2:valL (l.take (k+1))=x.1:=by rw[h1.1,zQ8]
   rw[zLp hk,← h.1 (by omega)] at h2
   exact he (by rw[hn (by rw[h2];exact hu),h2,← h1.1])
theorem zQ7(l:List UInt8):valL l<128 ^ l.length:=by
 induction l with
 | nil=>simp[valL]
 | cons c r ih=>simp only[valL,List.length_cons,Nat.pow_succ];omega
theorem zQm{l:List UInt8}{n k n':Nat}(h:RP l n k)(hk:k<l.length)(h10:k<10)(hc:128≤l[k].toNat)
 (hu:U64 n')(hn:n+128 ^ k*(l[k].toNat % 128)<18446744073709551616→n'=n+128 ^ k*(l[k].toNat % 128)):RP l n' (k+1):=by
 refine⟨fun h9=>?_,hu,fun j hj hjk=>?_⟩
 · rw[zLp hk,← h.1 (by omega)]
   refine hn ?_
   have h1:=zTj (k:=k) (c:=l[k].toNat % 128) h10 (by omega) (by omega)
   have h2:n<128 ^ k:=by
    rw[h.1 (by omega)]
    have:=zQ7 (l.take k)
    rwa[List.length_take,Nat.min_eq_left (by omega)] at this
   have h3:128 ^ k*(l[k].toNat % 128)≤128 ^ k*127:=Nat.mul_le_mul_left _ (by omega)
   have h4:∀j:Fin 9,128 ^ j.val*128<18446744073709551616:=by decide
   have h5:=h4 ⟨k,by omega⟩
   simp only at h5
   omega
 · by_cases e:j=k
   · subst e;exact hc
   · exact h.2.2 j hj (by omega)
theorem zS4{l:List UInt8}{n k:Nat}(h:RP l n k)(hk:k=l.length∨k=10)(hkl:k≤l.length):zAz 0 l=none:=by
 cases hg:zAz 0 l with
 | none=>rfl
 | some x =>
   exfalso
   obtain⟨hu,hl⟩:=(zEq l x.1 x.2).1 hg
   have h1:=zIj x.1 x.2
   rw[← hl,zIi hkl h.2.2] at h1
   cases hd:zD5 (l.drop k) with
   | none=>rw[hd] at h1;cases h1
   | some y =>
     rw[hd] at h1
     simp only[Option.map_some,Option.some.injEq,Prod.mk.injEq] at h1
     have h3:=zDp hu
     rw[← h1.1] at h3
     simp only[List.length_append,List.length_take] at h3
     have h4:y.1≠[]∧l.drop k≠[]:=by
      cases hdd:l.drop k with
      | nil=>rw[hdd] at hd;cases hd
      | cons c r =>
        rw[hdd,zD5] at hd
        refine⟨?_,by simp⟩
        split at hd
        · cases hd;simp
        · cases hr:zD5 r with
          | none=>rw[hr] at hd;cases hd
          | some z=>rw[hr] at hd;cases hd;simp
     rcases hk with hk | hk
     · exact h4.2 (by rw[hk];simp)
     · have:0<y.1.length:=by cases hy:y.1 with
        | nil=>exact absurd hy h4.1
        | cons _ _=>simp
       omega
theorem zTs{n k c:Nat}(hn:U64 n)(_h10:k<10) :
 ∃N:Nat,U64 N∧bits .or .u64 (n:Int) (IntKind.u64.wrap ((c:Int) % 128*2 ^ (7*k)))=(N:Int)∧(n<128 ^ k→n+128 ^ k*(c % 128)<18446744073709551616→N=n+128 ^ k*(c % 128)):=by
 have e:(c:Int) % 128*2 ^ (7*k)=((128 ^ k*(c % 128):Nat):Int):=by
  rw[zNm,Int.natCast_mul,Int.natCast_pow,Int.mul_comm,Int.natCast_emod];rfl
 have e2:IntKind.u64.wrap ((128 ^ k*(c % 128):Nat):Int)=((128 ^ k*(c % 128) % 18446744073709551616:Nat):Int):=by
  simp[IntKind.wrap,IntKind.signed,IntKind.bits]
 refine⟨n ||| 128 ^ k*(c % 128) % 18446744073709551616,?_,?_,?_⟩
 · exact Nat.or_lt_two_pow (n:=64) hn (Nat.mod_lt _ (by omega))
 · rw[e,e2,u64_or_nat n _ hn (Nat.mod_lt _ (by omega))]
 · intro h1 h2
   rw[Nat.mod_eq_of_lt (by omega)]
   rw[zNm] at *
   rw[Nat.mul_comm,← Nat.shiftLeft_eq,Nat.or_comm,← Nat.shiftLeft_add_eq_or_of_lt h1,Nat.add_comm]
theorem RP.lt{l:List UInt8}{n k:Nat}(h:RP l n k)(h9:k≤9)(hk:k≤l.length):n<128 ^ k:=by
 rw[h.1 h9]
 have:=zQ7 (l.take k)
 rwa[List.length_take,Nat.min_eq_left hk] at this
open Go.RowKit
theorem cR{w:World}{g j:Nat}{R:Array Value}{T:TypeId}{v:Value}(h:w.heap[g]?=some (.cells R T (0,0)))(e:R[j]?=some v):w.cell? ⟨g,j,none⟩=some v:=by
 rw[cell_of_row w g j R T (0,0) h];exact e
theorem gL{α:Type}{a:Array α}{i:Nat}{x:α}(h:a[i]?=some x):i<a.size:=(Array.getElem?_eq_some_iff.1 h).1
theorem alB{w w':World}{o:Obj}(h:Below w.heap.size w w'):Below w.heap.size w (w'.alloc o):=h.alloc h.size o
open Go.RowKit
def zTp(w:World)(g:Nat):List Value→Prop
 | [a0]=>w.cell? ⟨g,0,none⟩=some a0
 | [a0,a1]=>w.cell? ⟨g,0,none⟩=some a0∧w.cell? ⟨g,1,none⟩=some a1
 | [a0,a1,a2]=>w.cell? ⟨g,0,none⟩=some a0∧w.cell? ⟨g,1,none⟩=some a1∧w.cell? ⟨g,2,none⟩=some a2
 | [a0,a1,a2,a3]=>w.cell? ⟨g,0,none⟩=some a0∧w.cell? ⟨g,1,none⟩=some a1∧w.cell? ⟨g,2,none⟩=some a2∧w.cell? ⟨g,3,none⟩=some a3
 | [a0,a1,a2,a3,a4]=>w.cell? ⟨g,0,none⟩=some a0∧w.cell? ⟨g,1,none⟩=some a1∧w.cell? ⟨g,2,none⟩=some a2∧w.cell? ⟨g,3,none⟩=some a3∧w.cell? ⟨g,4,none⟩=some a4
 | [a0,a1,a2,a3,a4,a5]=>w.cell? ⟨g,0,none⟩=some a0∧w.cell? ⟨g,1,none⟩=some a1∧w.cell? ⟨g,2,none⟩=some a2∧w.cell? ⟨g,3,none⟩=some a3∧w.cell? ⟨g,4,none⟩=some a4∧w.cell? ⟨g,5,none⟩=some a5
 | [a0,a1,a2,a3,a4,a5,a6]=>w.cell? ⟨g,0,none⟩=some a0∧w.cell? ⟨g,1,none⟩=some a1∧w.cell? ⟨g,2,none⟩=some a2∧w.cell? ⟨g,3,none⟩=some a3∧w.cell? ⟨g,4,none⟩=some a4∧w.cell? ⟨g,5,none⟩=some a5∧w.cell? ⟨g,6,none⟩=some a6
 | [a0,a1,a2,a3,a4,a5,a6,a7]=>w.cell? ⟨g,0,none⟩=some a0∧w.cell? ⟨g,1,none⟩=some a1∧w.cell? ⟨g,2,none⟩=some a2∧w.cell? ⟨g,3,none⟩=some a3∧w.cell? ⟨g,4,none⟩=some a4∧w.cell? ⟨g,5,none⟩=some a5∧w.cell? ⟨g,6,none⟩=some a6∧w.cell? ⟨g,7,none⟩=some a7
 | [a0,a1,a2,a3,a4,a5,a6,a7,a8]=>w.cell? ⟨g,0,none⟩=some a0∧w.cell? ⟨g,1,none⟩=some a1∧w.cell? ⟨g,2,none⟩=some a2∧w.cell? ⟨g,3,none⟩=some a3∧w.cell? ⟨g,4,none⟩=some a4∧w.cell? ⟨g,5,none⟩=some a5∧w.cell? ⟨g,6,none⟩=some a6∧w.cell? ⟨g,7,none⟩=some a7∧w.cell? ⟨g,8,none⟩=some a8
 | [a0,a1,a2,a3,a4,a5,a6,a7,a8,a9]=>w.cell? ⟨g,0,none⟩=some a0∧w.cell? ⟨g,1,none⟩=some a1∧w.cell? ⟨g,2,none⟩=some a2∧w.cell? ⟨g,3,none⟩=some a3∧w.cell? ⟨g,4,none⟩=some a4∧w.cell? ⟨g,5,none⟩=some a5∧w.cell? ⟨g,6,none⟩=some a6∧w.cell? ⟨g,7,none⟩=some a7∧w.cell? ⟨g,8,none⟩=some a8∧w.cell? ⟨g,9,none⟩=some a9
 | [a0,a1,a2,a3,a4,a5,a6,a7,a8,a9,a10]=>w.cell? ⟨g,0,none⟩=some a0∧w.cell? ⟨g,1,none⟩=some a1∧w.cell? ⟨g,2,none⟩=some a2∧w.cell? ⟨g,3,none⟩=some a3∧w.cell? ⟨g,4,none⟩=some a4∧w.cell? ⟨g,5,none⟩=some a5∧w.cell? ⟨g,6,none⟩=some a6∧w.cell? ⟨g,7,none⟩=some a7∧w.cell? ⟨g,8,none⟩=some a8∧w.cell? ⟨g,9,none⟩=some a9∧w.cell? ⟨g,10,none⟩=some a10
 | [a0,a1,a2,a3,a4,a5,a6,a7,a8,a9,a10,a11]=>w.cell? ⟨g,0,none⟩=some a0∧w.cell? ⟨g,1,none⟩=some a1∧w.cell? ⟨g,2,none⟩=some a2∧w.cell? ⟨g,3,none⟩=some a3∧w.cell? ⟨g,4,none⟩=some a4∧w.cell? ⟨g,5,none⟩=some a5∧w.cell? ⟨g,6,none⟩=some a6∧w.cell? ⟨g,7,none⟩=some a7∧w.cell? ⟨g,8,none⟩=some a8∧w.cell? ⟨g,9,none⟩=some a9∧w.cell? ⟨g,10,none⟩=some a10∧w.cell? ⟨g,11,none⟩=some a11
 | _=>True
theorem cA{w:World}{g:Nat}{R:Array Value}{T:TypeId}(h:w.heap[g]?=some (.cells R T (0,0))):zTp w g R.toList:=by
 have k:∀(j:Nat) (v:Value),R.toList[j]?=some v→w.cell? ⟨g,j,none⟩=some v:=fun j v e=>cR h (by rw[← e];simp)
 generalize R.toList=L at k
 match L,k with
 | [],_=>exact trivial
 | [a0],k=>exact k 0 _ rfl
 | [a0,a1],k=>exact⟨k 0 _ rfl,k 1 _ rfl⟩
 | [a0,a1,a2],k=>exact⟨k 0 _ rfl,k 1 _ rfl,k 2 _ rfl⟩
 | [a0,a1,a2,a3],k=>exact⟨k 0 _ rfl,k 1 _ rfl,k 2 _ rfl,k 3 _ rfl⟩
 | [a0,a1,a2,a3,a4],k=>exact⟨k 0 _ rfl,k 1 _ rfl,k 2 _ rfl,k 3 _ rfl,k 4 _ rfl⟩
 | [a0,a1,a2,a3,a4,a5],k=>exact⟨k 0 _ rfl,k 1 _ rfl,k 2 _ rfl,k 3 _ rfl,k 4 _ rfl,k 5 _ rfl⟩
 | [a0,a1,a2,a3,a4,a5,a6],k=>exact⟨k 0 _ rfl,k 1 _ rfl,k 2 _ rfl,k 3 _ rfl,k 4 _ rfl,k 5 _ rfl,k 6 _ rfl⟩
 | [a0,a1,a2,a3,a4,a5,a6,a7],k=>exact⟨k 0 _ rfl,k 1 _ rfl,k 2 _ rfl,k 3 _ rfl,k 4 _ rfl,k 5 _ rfl,k 6 _ rfl,k 7 _ rfl⟩
 | [a0,a1,a2,a3,a4,a5,a6,a7,a8],k=>exact⟨k 0 _ rfl,k 1 _ rfl,k 2 _ rfl,k 3 _ rfl,k 4 _ rfl,k 5 _ rfl,k 6 _ rfl,k 7 _ rfl,k 8 _ rfl⟩
 | [a0,a1,a2,a3,a4,a5,a6,a7,a8,a9],k=>exact⟨k 0 _ rfl,k 1 _ rfl,k 2 _ rfl,k 3 _ rfl,k 4 _ rfl,k 5 _ rfl,k 6 _ rfl,k 7 _ rfl,k 8 _ rfl,k 9 _ rfl⟩
 | [a0,a1,a2,a3,a4,a5,a6,a7,a8,a9,a10],k=>exact⟨k 0 _ rfl,k 1 _ rfl,k 2 _ rfl,k 3 _ rfl,k 4 _ rfl,k 5 _ rfl,k 6 _ rfl,k 7 _ rfl,k 8 _ rfl,k 9 _ rfl,k 10 _ rfl⟩
 | [a0,a1,a2,a3,a4,a5,a6,a7,a8,a9,a10,a11],k=>exact⟨k 0 _ rfl,k 1 _ rfl,k 2 _ rfl,k 3 _ rfl,k 4 _ rfl,k 5 _ rfl,k 6 _ rfl,k 7 _ rfl,k 8 _ rfl,k 9 _ rfl,k 10 _ rfl,k 11 _ rfl⟩
 | a0 :: a1 :: a2 :: a3 :: a4 :: a5 :: a6 :: a7 :: a8 :: a9 :: a10 :: a11 :: a12 :: r,_=>exact trivial
def FzAt(w:World)(g:Nat):List Value→Prop
 | [_]=>w.frozen? ⟨g,0,none⟩=false
 | [_,_]=>w.frozen? ⟨g,0,none⟩=false∧w.frozen? ⟨g,1,none⟩=false
 | [_,_,_]=>w.frozen? ⟨g,0,none⟩=false∧w.frozen? ⟨g,1,none⟩=false∧w.frozen? ⟨g,2,none⟩=false
 | [_,_,_,_]=>w.frozen? ⟨g,0,none⟩=false∧w.frozen? ⟨g,1,none⟩=false∧w.frozen? ⟨g,2,none⟩=false∧w.frozen? ⟨g,3,none⟩=false
 | [_,_,_,_,_]=>w.frozen? ⟨g,0,none⟩=false∧w.frozen? ⟨g,1,none⟩=false∧w.frozen? ⟨g,2,none⟩=false∧w.frozen? ⟨g,3,none⟩=false∧w.frozen? ⟨g,4,none⟩=false
 | [_,_,_,_,_,_]=>w.frozen? ⟨g,0,none⟩=false∧w.frozen? ⟨g,1,none⟩=false∧w.frozen? ⟨g,2,none⟩=false∧w.frozen? ⟨g,3,none⟩=false∧w.frozen? ⟨g,4,none⟩=false∧w.frozen? ⟨g,5,none⟩=false
 | [_,_,_,_,_,_,_]=>w.frozen? ⟨g,0,none⟩=false∧w.frozen? ⟨g,1,none⟩=false∧w.frozen? ⟨g,2,none⟩=false∧w.frozen? ⟨g,3,none⟩=false∧w.frozen? ⟨g,4,none⟩=false∧w.frozen? ⟨g,5,none⟩=false∧w.frozen? ⟨g,6,none⟩=false
 | [_,_,_,_,_,_,_,_]=>w.frozen? ⟨g,0,none⟩=false∧w.frozen? ⟨g,1,none⟩=false∧w.frozen? ⟨g,2,none⟩=false∧w.frozen? ⟨g,3,none⟩=false∧w.frozen? ⟨g,4,none⟩=false∧w.frozen? ⟨g,5,none⟩=false∧w.frozen? ⟨g,6,none⟩=false∧w.frozen? ⟨g,7,none⟩=false
 | [_,_,_,_,_,_,_,_,_]=>w.frozen? ⟨g,0,none⟩=false∧w.frozen? ⟨g,1,none⟩=false∧w.frozen? ⟨g,2,none⟩=false∧w.frozen? ⟨g,3,none⟩=false∧w.frozen? ⟨g,4,none⟩=false∧w.frozen? ⟨g,5,none⟩=false∧w.frozen? ⟨g,6,none⟩=false∧w.frozen? ⟨g,7,none⟩=false∧w.frozen? ⟨g,8,none⟩=false
 | [_,_,_,_,_,_,_,_,_,_]=>w.frozen? ⟨g,0,none⟩=false∧w.frozen? ⟨g,1,none⟩=false∧w.frozen? ⟨g,2,none⟩=false∧w.frozen? ⟨g,3,none⟩=false∧w.frozen? ⟨g,4,none⟩=false∧w.frozen? ⟨g,5,none⟩=false∧w.frozen? ⟨g,6,none⟩=false∧w.frozen? ⟨g,7,none⟩=false∧w.frozen? ⟨g,8,none⟩=false∧w.frozen? ⟨g,9,none⟩=false
 | [_,_,_,_,_,_,_,_,_,_,_]=>w.frozen? ⟨g,0,none⟩=false∧w.frozen? ⟨g,1,none⟩=false∧w.frozen? ⟨g,2,none⟩=false∧w.frozen? ⟨g,3,none⟩=false∧w.frozen? ⟨g,4,none⟩=false∧w.frozen? ⟨g,5,none⟩=false∧w.frozen? ⟨g,6,none⟩=false∧w.frozen? ⟨g,7,none⟩=false∧w.frozen? ⟨g,8,none⟩=false∧w.frozen? ⟨g,9,none⟩=false∧w.frozen? ⟨g,10,none⟩=false
 | [_,_,_,_,_,_,_,_,_,_,_,_]=>w.frozen? ⟨g,0,none⟩=false∧w.frozen? ⟨g,1,none⟩=false∧w.frozen? ⟨g,2,none⟩=false∧w.frozen? ⟨g,3,none⟩=false∧w.frozen? ⟨g,4,none⟩=false∧w.frozen? ⟨g,5,none⟩=false∧w.frozen? ⟨g,6,none⟩=false∧w.frozen? ⟨g,7,none⟩=false∧w.frozen? ⟨g,8,none⟩=false∧w.frozen? ⟨g,9,none⟩=false∧w.frozen? ⟨g,10,none⟩=false∧w.frozen? ⟨g,11,none⟩=false
 | _=>True
theorem fA{w:World}{g:Nat}{R:Array Value}{T:TypeId}(h:w.heap[g]?=some (.cells R T (0,0))):FzAt w g R.toList:=by
 have k:∀j:Nat,w.frozen? ⟨g,j,none⟩=false:=fun j=>frozen_of_row w g j _ _ h
 generalize R.toList=L
 match L with
 | []=>exact trivial
 | [_]=>exact k 0
 | [_,_]=>exact⟨k 0,k 1⟩
 | [_,_,_]=>exact⟨k 0,k 1,k 2⟩
 | [_,_,_,_]=>exact⟨k 0,k 1,k 2,k 3⟩
 | [_,_,_,_,_]=>exact⟨k 0,k 1,k 2,k 3,k 4⟩
 | [_,_,_,_,_,_]=>exact⟨k 0,k 1,k 2,k 3,k 4,k 5⟩
 | [_,_,_,_,_,_,_]=>exact⟨k 0,k 1,k 2,k 3,k 4,k 5,k 6⟩
 | [_,_,_,_,_,_,_,_]=>exact⟨k 0,k 1,k 2,k 3,k 4,k 5,k 6,k 7⟩
 | [_,_,_,_,_,_,_,_,_]=>exact⟨k 0,k 1,k 2,k 3,k 4,k 5,k 6,k 7,k 8⟩
 | [_,_,_,_,_,_,_,_,_,_]=>exact⟨k 0,k 1,k 2,k 3,k 4,k 5,k 6,k 7,k 8,k 9⟩
 | [_,_,_,_,_,_,_,_,_,_,_]=>exact⟨k 0,k 1,k 2,k 3,k 4,k 5,k 6,k 7,k 8,k 9,k 10⟩
 | [_,_,_,_,_,_,_,_,_,_,_,_]=>exact⟨k 0,k 1,k 2,k 3,k 4,k 5,k 6,k 7,k 8,k 9,k 10,k 11⟩
 | _ :: _ :: _ :: _ :: _ :: _ :: _ :: _ :: _ :: _ :: _ :: _ :: _ :: r=>exact trivial
theorem sZa{α:Type}{l:List α}{i:Nat}{a:α}:l.toArray.setIfInBounds i a=(l.set i a).toArray:=by simp
theorem sZb{α:Type}{x a:α}{l:List α}:(x :: l).set 0 a=a :: l:=rfl
theorem sZc{α:Type}{x a:α}{l:List α}{n:Nat}:(x :: l).set (n+1) a=x :: l.set n a:=rfl
theorem gZa{α:Type}{l:List α}{i:Nat}:l.toArray[i]?=l[i]?:=by simp
theorem gZb{α:Type}{x:α}{l:List α}{i:Nat}:(x :: l)[i+1]?=l[i]?:=rfl
theorem gZc{α:Type}{x:α}{l:List α}:(x :: l)[0]?=some x:=rfl
end Go.Proofs.YtkedafopdkhnfaaGreat
