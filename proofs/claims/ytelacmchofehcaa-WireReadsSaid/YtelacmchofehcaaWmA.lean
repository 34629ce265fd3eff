/- PLAIN: the wire's messages: what may be one, its bytes, what is read of bytes. PLAIN: what is read of a message: there and back. PLAIN: what a reader of the wire refuses is no message. PLAIN: messages that are alike are of the same request, the same reply. -/
import Derived.Test.YtelacmchofehcaaEvtPlain
import Derived.Test.YtelacmchofehcaaRowPlain
import Derived.Test.YtelacmchofehcaaFrameTurnP
namespace Go.Proofs.Ytelacmchofehcaa
open Go.RowKit
set_option linter.unusedVariables false

abbrev Cm := Int × Int × Bool
def CmP (c : Cm) : Prop := (0 ≤ c.1 ∧ c.1 ≤ 5) ∧ (0 ≤ c.2.1 ∧ c.2.1 ≤ 16)
instance (c : Cm) : Decidable (CmP c) := inferInstanceAs (Decidable (_ ∧ _))
def encC (c : Cm) : List UInt8 := putL c.1.toNat ++ (putL c.2.1.toNat ++ putL (udN c.2.2))
structure Rq where
  kd : Int
  rq : List UInt8
  wd : List UInt8
  nm : List UInt8
  ss : List St
  lim : Int
  cs : List Cm
  rf : Int
  ty : Int
  fr : Int
  sh : Int
  gd : Bool
def RqA (id : Int) (q : Rq) : Prop := (0 ≤ id ∧ id ≤ 2147483647) ∧ (1 ≤ q.kd ∧ q.kd ≤ 11) ∧ (q.rq.length ≤ 16 ∧ q.wd.length ≤ 16 ∧ q.nm.length ≤ 16) ∧ ((0 ≤ q.rf ∧ q.rf ≤ 501) ∧ (0 ≤ q.ty ∧ q.ty ≤ 501) ∧ (0 ≤ q.fr ∧ q.fr ≤ 501)) ∧ (0 ≤ q.sh ∧ q.sh ≤ 16) ∧ q.cs.length ≤ 4
instance (id : Int) (q : Rq) : Decidable (RqA id q) := inferInstanceAs (Decidable (_ ∧ _ ∧ _ ∧ _ ∧ _ ∧ _))
def RqP (id : Int) (q : Rq) : Prop := RqA id q ∧ ProgP q.lim q.ss ∧ ∀ c ∈ q.cs, CmP c
instance (id : Int) (q : Rq) : Decidable (RqP id q) := inferInstanceAs (Decidable (_ ∧ _ ∧ _))
def encRq (id : Int) (q : Rq) : List UInt8 := putL 1 ++ (putL id.toNat ++ (putL q.kd.toNat ++ (textL q.rq ++ (textL q.wd ++ (textL q.nm ++ (textL (encP q.lim q.ss) ++ (putL q.rf.toNat ++ (putL q.ty.toNat ++ (putL q.fr.toNat ++ (putL q.sh.toNat ++ (putL (udN q.gd) ++ (putL q.cs.length ++ q.cs.flatMap encC))))))))))))
def rqV (id : Int) (q : Rq) : List UInt8 := if RqP id q then wrapL (encRq id q) else []
def rqE (id : Int) (q : Rq) : Int := if RqP id q then 0 else if RqA id q ∧ ¬ ProgP q.lim q.ss then 130 else 1
structure Rp where
  er : Int
  st : Int
  nx : Int
  tk : Tk
  nm : List UInt8
  ev : List Ev
def tk0 : Tk := (0, [], 0, 0)
def taskB (t : Tk) : List UInt8 := if t = tk0 then [] else encT t
def RpA (id : Int) (x : Rp) : Prop := (0 ≤ id ∧ id ≤ 2147483647) ∧ (0 ≤ x.er ∧ x.er ≤ 999) ∧ (0 ≤ x.st ∧ x.st ≤ 4) ∧ (0 ≤ x.nx ∧ x.nx ≤ 501) ∧ x.nm.length ≤ 16
instance (id : Int) (x : Rp) : Decidable (RpA id x) := inferInstanceAs (Decidable (_ ∧ _ ∧ _ ∧ _ ∧ _))
def RpT (x : Rp) : Prop := x.tk = tk0 ∨ TaskP x.tk
instance (x : Rp) : Decidable (RpT x) := inferInstanceAs (Decidable (_ ∨ _))
def RpP (id : Int) (x : Rp) : Prop := RpA id x ∧ RpT x ∧ HistP x.ev
instance (id : Int) (x : Rp) : Decidable (RpP id x) := inferInstanceAs (Decidable (_ ∧ _ ∧ _))
def encRp (id : Int) (x : Rp) : List UInt8 := putL 1 ++ (putL id.toNat ++ (putL x.er.toNat ++ (putL x.st.toNat ++ (putL x.nx.toNat ++ (textL (taskB x.tk) ++ (textL x.nm ++ textL (encHi x.ev)))))))
def rpV (id : Int) (x : Rp) : List UInt8 := if RpP id x then wrapL (encRp id x) else []
def rpE (id : Int) (x : Rp) : Int := if RpP id x then 0 else if RpA id x ∧ RpT x then hiE x.ev else 1

theorem tk0_no : ¬ TaskP tk0 := by decide
theorem taskB_len {t : Tk} (h : t = tk0 ∨ TaskP t) : (taskB t).length ≤ 100 := by
  unfold taskB
  split
  · simp
  · rcases h with h | ⟨g1, g2, g3, g4⟩
    · contradiction
    · have h1 := putL_len10' t.1.toNat (by omega)
      have h2 := textL_len g2.2.1
      have h3 := putL_len10' t.2.2.1.toNat (by omega)
      have h4 := putL_len10' t.2.2.2.toNat (by omega)
      unfold encT
      simp only [List.length_append]; omega
theorem encC_len {c : Cm} (h : CmP c) : (encC c).length ≤ 30 := by
  obtain ⟨g1, g2⟩ := h
  have h1 := putL_len10' c.1.toNat (by omega)
  have h2 := putL_len10' c.2.1.toNat (by omega)
  have h3 := putL_len10' (udN c.2.2) (by unfold udN; split <;> omega)
  unfold encC
  simp only [List.length_append]; omega
theorem encCs_len {l : List Cm} (h : ∀ c ∈ l, CmP c) : (l.flatMap encC).length ≤ 30 * l.length := by
  induction l with
  | nil => simp
  | cons x r ih =>
    have h1 := encC_len (h x (by simp))
    have h2 := ih (fun y hy => h y (by simp [hy]))
    rw [List.flatMap_cons, List.length_append, List.length_cons]; omega
theorem encRq_len {id : Int} {q : Rq} (h : RqP id q) : (encRq id q).length ≤ 2000 := by
  obtain ⟨⟨g1, g2, g3, g4, g5, g6⟩, hp, hc⟩ := h
  have h0 := putL_len10' 1 (by decide)
  have h1 : (putL id.toNat).length ≤ 10 := putL_len10 (by unfold U64; omega)
  have h2 := putL_len10' q.kd.toNat (by omega)
  have h3 := textL_len g3.1
  have h4 := textL_len g3.2.1
  have h5 := textL_len g3.2.2
  have h6 := encP_len hp
  have h7 := putL_len10' (encP q.lim q.ss).length (by omega)
  have h8 := putL_len10' q.rf.toNat (by omega)
  have h9 := putL_len10' q.ty.toNat (by omega)
  have h10 := putL_len10' q.fr.toNat (by omega)
  have h11 := putL_len10' q.sh.toNat (by omega)
  have h12 := putL_len10' (udN q.gd) (by unfold udN; split <;> omega)
  have h13 := putL_len10' q.cs.length (by omega)
  have h14 := encCs_len hc
  have h15 : (textL (encP q.lim q.ss)).length ≤ 1410 := by unfold textL; rw [List.length_append]; omega
  unfold encRq
  simp only [List.length_append]; omega
theorem encHs_len : ∀ m : List Ev, (∀ x ∈ m, EvP x) → (encHs m).length ≤ 1510 * m.length
  | [], _ => by simp [encHs]
  | x :: m, hm => by
    have hx := encE_len (hm x (by simp))
    have i2 := encHs_len m (fun y hy => hm y (by simp [hy]))
    have h3 := putL_len10' (encE x).length (by omega)
    unfold encHs at i2 ⊢
    rw [List.flatMap_cons, List.length_append, List.length_cons]
    have : (textL (encE x)).length ≤ 1510 := by unfold textL; rw [List.length_append]; omega
    omega
theorem encHi_len' {l : List Ev} (h : HistP l) : (encHi l).length ≤ 800000 := by
  have h1 := putL_len10' l.length (by have := h.1; omega)
  have h2 := encHs_len l h.2
  have h3 := h.1
  unfold encHi
  rw [List.length_append]; omega
theorem encRp_len {id : Int} {x : Rp} (h : RpP id x) : (encRp id x).length ≤ 900000 := by
  obtain ⟨⟨g1, g2, g3, g4, g5⟩, ht, hh⟩ := h
  have h0 := putL_len10' 1 (by decide)
  have h1 : (putL id.toNat).length ≤ 10 := putL_len10 (by unfold U64; omega)
  have h2 := putL_len10' x.er.toNat (by omega)
  have h3 := putL_len10' x.st.toNat (by omega)
  have h4 := putL_len10' x.nx.toNat (by omega)
  have h5 := taskB_len ht
  have h6 := putL_len10' (taskB x.tk).length (by omega)
  have h7 := textL_len g5
  have h8 := encHi_len' hh
  have h9 : (putL (encHi x.ev).length).length ≤ 10 := putL_len10 (by unfold U64; omega)
  have h10 : (textL (taskB x.tk)).length ≤ 110 := by unfold textL; rw [List.length_append]; omega
  have h11 : (textL (encHi x.ev)).length ≤ 800010 := by unfold textL; rw [List.length_append]; omega
  unfold encRp
  simp only [List.length_append]; omega

/-- a frame that is read is one that was wrapped -/
theorem next_out {l b r : List UInt8} (h : nextF l = (b, r, 0)) : l = wrapL b ++ r ∧ b.length ≤ 1048576 := by
  unfold nextF at h
  cases hg : getFrom 0 l with
  | none => rw [hg] at h; simp only at h; split at h <;> simp at h
  | some x =>
    obtain ⟨n, t⟩ := x
    rw [hg] at h
    simp only at h
    split at h
    · simp at h
    · rename_i h1
      split at h
      · simp at h
      · rename_i h2
        split at h
        · simp at h
        · rename_i h3
          have h3 := Decidable.of_not_not h3
          simp only [Prod.mk.injEq, and_true] at h
          obtain ⟨rfl, rfl⟩ := h
          obtain ⟨hu, hl⟩ := (get_iff _ _ _).1 hg
          have hlen : ((t.drop 4).take n).length = n := by rw [List.length_take, List.length_drop]; omega
          refine ⟨?_, by rw [hlen]; omega⟩
          unfold wrapL
          rw [hlen, ← h3, hl]
          rw [List.append_assoc, List.append_assoc, ← List.drop_drop, List.take_append_drop, List.take_append_drop]
theorem wrap_inj {a b : List UInt8} (ha : a.length ≤ 1048576) (hb : b.length ≤ 1048576) (h : wrapL a = wrapL b) : a = b := by
  have h1 := next_wrap a [] ha
  have h2 := next_wrap b [] hb
  rw [h, h2] at h1
  simp only [Prod.mk.injEq, and_true] at h1
  exact h1.symm

def manyG {α : Type} (f : RS → α × RS) : Nat → RS → List α × RS
  | 0, s => ([], s)
  | n + 1, s => ((f s).1 :: (manyG f n (f s).2).1, (manyG f n (f s).2).2)
def cmG (c1 c2 : Int) (s : RS) : Cm × RS :=
  ((((rdI c1 s).1 : Int), ((rdI c2 (rdI c1 s).2).1 : Int), decide (((rdI 1 (rdI c2 (rdI c1 s).2).2).1 : Int) = 1)), (rdI 1 (rdI c2 (rdI c1 s).2).2).2)
theorem bit_back (n : Nat) (h : (n : Int) ≤ 1) : n = udN (decide ((n : Int) = 1)) := by
  unfold udN
  rcases (by omega : n = 0 ∨ n = 1) with rfl | rfl <;> rfl
theorem bit_put (b : Bool) : decide (((udN b : Nat) : Int) = 1) = b := by cases b <;> rfl
theorem cmG_put {c1 c2 : Int} (h1 : 5 ≤ c1 ∧ c1 ≤ 1000) (h2 : 16 ≤ c2 ∧ c2 ≤ 1000) {c : Cm} (h : CmP c) (r : List UInt8) : cmG c1 c2 (encC c ++ r, false) = (c, r, false) := by
  obtain ⟨a, b, u⟩ := c
  obtain ⟨g1, g2⟩ := h
  simp only at g1 g2
  unfold cmG encC
  simp only [List.append_assoc]
  rw [rdI_put' _ g1.1 (by omega) (by omega)]
  simp only
  rw [rdI_put' _ g2.1 (by omega) (by omega)]
  simp only
  rw [rdI_put _ (by unfold udN; split <;> omega) (by decide)]
  simp only [bit_put]
  rw [Int.toNat_of_nonneg g1.1, Int.toNat_of_nonneg g2.1]
theorem manyG_put {c1 c2 : Int} (h1 : 5 ≤ c1 ∧ c1 ≤ 1000) (h2 : 16 ≤ c2 ∧ c2 ≤ 1000) (l : List Cm) (h : ∀ c ∈ l, CmP c) (r : List UInt8) : manyG (cmG c1 c2) l.length (l.flatMap encC ++ r, false) = (l, r, false) := by
  induction l with
  | nil => rfl
  | cons c l ih =>
    rw [List.flatMap_cons, List.append_assoc, List.length_cons]
    simp only [manyG]
    rw [cmG_put h1 h2 (h c (by simp)), ih (fun y hy => h y (by simp [hy]))]
theorem cmG_out {s : RS} (h : (cmG 5 16 s).2.2 = false) : s = (encC (cmG 5 16 s).1 ++ (cmG 5 16 s).2.1, false) ∧ CmP (cmG 5 16 s).1 := by
  unfold cmG at h ⊢
  simp only at h ⊢
  have e3 := rdI_out h
  have e2 := rdI_out (m := 16) (s := (rdI 5 s).2) (by rw [e3])
  have e1 := rdI_out (m := 5) (s := s) (by rw [e2])
  have b1 := intF_le (r := s.1) (b := s.2) (m := 5) (by decide)
  have b2 := intF_le (r := (rdI 5 s).2.1) (b := (rdI 5 s).2.2) (m := 16) (by decide)
  have b3 := intF_le (r := (rdI 16 (rdI 5 s).2).2.1) (b := (rdI 16 (rdI 5 s).2).2.2) (m := 1) (by decide)
  have hb := bit_back (rdI 1 (rdI 16 (rdI 5 s).2).2).1 b3
  refine ⟨?_, ⟨Int.natCast_nonneg _, b1⟩, ⟨Int.natCast_nonneg _, b2⟩⟩
  conv => lhs; rw [e1, e2, e3]
  unfold encC
  simp only [Int.toNat_natCast, List.append_assoc]
  rw [← hb]
theorem manyG_out : ∀ (n : Nat) (s : RS), (manyG (cmG 5 16) n s).2.2 = false → s = ((manyG (cmG 5 16) n s).1.flatMap encC ++ (manyG (cmG 5 16) n s).2.1, false) ∧ (∀ c ∈ (manyG (cmG 5 16) n s).1, CmP c)
  | 0, s, h => by
    obtain ⟨r, b⟩ := s
    simp only [manyG] at h ⊢
    subst h
    simp
  | n + 1, s, h => by
    simp only [manyG] at h ⊢
    obtain ⟨e1, p1⟩ := manyG_out n _ h
    obtain ⟨e2, p2⟩ := cmG_out (s := s) (by rw [e1])
    refine ⟨?_, fun c hc => ?_⟩
    · conv => lhs; rw [e2, e1]
      simp [List.flatMap_cons]
    · rcases List.mem_cons.1 hc with rfl | h
      · exact p2
      · exact p1 c h
theorem manyG_len {α : Type} (f : RS → α × RS) : ∀ (n : Nat) (s : RS), (manyG f n s).1.length = n
  | 0, _ => rfl
  | n + 1, s => by simp only [manyG, List.length_cons, manyG_len f n]
end Go.Proofs.Ytelacmchofehcaa
namespace Go.Proofs.Ytelacmchofehcaa
open Go.RowKit
set_option linter.unusedVariables false

theorem textF_back {r r' t : List UInt8} {b : Bool} (h : textF r b = (t, r', false)) (hl : t.length < 1099511627776) : b = false ∧ r = textL t ++ r' := by
  have h1 := textF_out (r := r) (b := b) (by rw [h]) (by rw [h]; exact hl)
  rw [h] at h1
  exact h1
def erF (l : List UInt8) : Int := if (nextF l).2.2 = 0 then 60 else (nextF l).2.2
theorem erF_ne (l : List UInt8) : erF l ≠ 0 := by
  unfold erF
  split
  · decide
  · assumption
/-- what is no message of a version -/
def NoMsg (l : List UInt8) : Prop := (nextF l).2.2 ≠ 0 ∨ (nextF l).2.1 ≠ [] ∨ (intF (nextF l).1 false 1).1 ≠ 1
theorem noMsg {l : List UInt8} (h : NoMsg l) (b : List UInt8) (hb : (putL 1 ++ b).length ≤ 1048576) : l ≠ wrapL (putL 1 ++ b) := fun e => by
  have h1 := next_wrap (putL 1 ++ b) [] hb
  rw [List.append_nil, ← e] at h1
  unfold NoMsg at h
  rw [h1] at h
  simp only [ne_eq, not_true_eq_false, false_or] at h
  rw [intF_put (n := 1) b (by decide) (by decide)] at h
  exact h rfl
section
variable {tx : RS → List UInt8 × RS} {mv mi m2 m3 m4 c1 c2 : Int}
theorem rq_put (htx : ∀ t r, t.length ≤ 800000 → tx (textL t ++ r, false) = (t, r, false)) (bv : 1 ≤ mv ∧ mv ≤ 9223372036854775807) (bi : 2147483647 ≤ mi ∧ mi ≤ 9223372036854775807) (b2' : 11 ≤ m2 ∧ m2 ≤ 9223372036854775807) (b3' : 501 ≤ m3 ∧ m3 ≤ 9223372036854775807) (b4' : 16 ≤ m4 ∧ m4 ≤ 9223372036854775807) (d1 : 5 ≤ c1 ∧ c1 ≤ 1000) (d2 : 16 ≤ c2 ∧ c2 ≤ 1000)
    {id : Int} {q : Rq} (hP : RqP id q) {n0 n1 n2 n7 n8 n9 n10 n11 n12 : Nat} {t3 t4 t5 t6 r0 r1 r2 r3 r4 r5 r6 r7 r8 r9 r10 r11 r12 r13 : List UInt8} {b0 b1 b2 b3 b4 b5 b6 b7 b8 b9 b10 b11 b12 b13 : Bool} {cs : List Cm}
    (h0 : intF (encRq id q) false mv = (n0, r0, b0)) (h1 : intF r0 b0 mi = (n1, r1, b1)) (h2 : intF r1 b1 m2 = (n2, r2, b2)) (h3 : tx (r2, b2) = (t3, r3, b3)) (h4 : tx (r3, b3) = (t4, r4, b4)) (h5 : tx (r4, b4) = (t5, r5, b5)) (h6 : tx (r5, b5) = (t6, r6, b6))
    (h7 : intF r6 b6 m3 = (n7, r7, b7)) (h8 : intF r7 b7 m3 = (n8, r8, b8)) (h9 : intF r8 b8 m3 = (n9, r9, b9)) (h10 : intF r9 b9 m4 = (n10, r10, b10)) (h11 : intF r10 b10 1 = (n11, r11, b11)) (h12 : intF r11 b11 4 = (n12, r12, b12)) (h13 : manyG (cmG c1 c2) n12 (r12, b12) = (cs, r13, b13)) :
    n0 = 1 ∧ n1 = id.toNat ∧ n2 = q.kd.toNat ∧ t3 = q.rq ∧ t4 = q.wd ∧ t5 = q.nm ∧ t6 = encP q.lim q.ss ∧ n7 = q.rf.toNat ∧ n8 = q.ty.toNat ∧ n9 = q.fr.toNat ∧ n10 = q.sh.toNat ∧ n11 = udN q.gd ∧ cs = q.cs ∧ r13 = [] ∧ b13 = false := by
  obtain ⟨⟨g1, g2, g3, g4, g5, g6⟩, hp, hc⟩ := hP
  have hpl := encP_len hp
  have hud : udN q.gd ≤ 1 := by unfold udN; split <;> omega
  unfold encRq at h0
  rw [intF_put _ (by omega) (by omega), Prod.mk.injEq, Prod.mk.injEq] at h0
  obtain ⟨rfl, rfl, rfl⟩ := h0
  rw [intF_put _ (by omega) (by omega), Prod.mk.injEq, Prod.mk.injEq] at h1
  obtain ⟨rfl, rfl, rfl⟩ := h1
  rw [intF_put _ (by omega) (by omega), Prod.mk.injEq, Prod.mk.injEq] at h2
  obtain ⟨rfl, rfl, rfl⟩ := h2
  rw [htx _ _ (by omega), Prod.mk.injEq, Prod.mk.injEq] at h3
  obtain ⟨rfl, rfl, rfl⟩ := h3
  rw [htx _ _ (by omega), Prod.mk.injEq, Prod.mk.injEq] at h4
  obtain ⟨rfl, rfl, rfl⟩ := h4
  rw [htx _ _ (by omega), Prod.mk.injEq, Prod.mk.injEq] at h5
  obtain ⟨rfl, rfl, rfl⟩ := h5
  rw [htx _ _ (by omega), Prod.mk.injEq, Prod.mk.injEq] at h6
  obtain ⟨rfl, rfl, rfl⟩ := h6
  rw [intF_put _ (by omega) (by omega), Prod.mk.injEq, Prod.mk.injEq] at h7
  obtain ⟨rfl, rfl, rfl⟩ := h7
  rw [intF_put _ (by omega) (by omega), Prod.mk.injEq, Prod.mk.injEq] at h8
  obtain ⟨rfl, rfl, rfl⟩ := h8
  rw [intF_put _ (by omega) (by omega), Prod.mk.injEq, Prod.mk.injEq] at h9
  obtain ⟨rfl, rfl, rfl⟩ := h9
  rw [intF_put _ (by omega) (by omega), Prod.mk.injEq, Prod.mk.injEq] at h10
  obtain ⟨rfl, rfl, rfl⟩ := h10
  rw [intF_put _ (by omega) (by omega), Prod.mk.injEq, Prod.mk.injEq] at h11
  obtain ⟨rfl, rfl, rfl⟩ := h11
  rw [intF_put _ (by omega) (by omega), Prod.mk.injEq, Prod.mk.injEq] at h12
  obtain ⟨rfl, rfl, rfl⟩ := h12
  have hm := manyG_put d1 d2 q.cs hc []
  rw [List.append_nil] at hm
  rw [hm, Prod.mk.injEq, Prod.mk.injEq] at h13
  obtain ⟨rfl, rfl, rfl⟩ := h13
  exact ⟨rfl, rfl, rfl, rfl, rfl, rfl, rfl, rfl, rfl, rfl, rfl, rfl, rfl, rfl, rfl⟩
theorem rp_put (htx : ∀ t r, t.length ≤ 800000 → tx (textL t ++ r, false) = (t, r, false)) (bv : 1 ≤ mv ∧ mv ≤ 9223372036854775807) (bi : 2147483647 ≤ mi ∧ mi ≤ 9223372036854775807) (b2' : 999 ≤ m2 ∧ m2 ≤ 9223372036854775807) (b3' : 4 ≤ m3 ∧ m3 ≤ 9223372036854775807) (b4' : 501 ≤ m4 ∧ m4 ≤ 9223372036854775807)
    {id : Int} {x : Rp} (hP : RpP id x) {n0 n1 n2 n3 n4 : Nat} {t5 t6 t7 r0 r1 r2 r3 r4 r5 r6 r7 : List UInt8} {b0 b1 b2 b3 b4 b5 b6 b7 : Bool}
    (h0 : intF (encRp id x) false mv = (n0, r0, b0)) (h1 : intF r0 b0 mi = (n1, r1, b1)) (h2 : intF r1 b1 m2 = (n2, r2, b2)) (h3 : intF r2 b2 m3 = (n3, r3, b3)) (h4 : intF r3 b3 m4 = (n4, r4, b4)) (h5 : tx (r4, b4) = (t5, r5, b5)) (h6 : tx (r5, b5) = (t6, r6, b6)) (h7 : tx (r6, b6) = (t7, r7, b7)) :
    n0 = 1 ∧ n1 = id.toNat ∧ n2 = x.er.toNat ∧ n3 = x.st.toNat ∧ n4 = x.nx.toNat ∧ t5 = taskB x.tk ∧ t6 = x.nm ∧ t7 = encHi x.ev ∧ r7 = [] ∧ b7 = false := by
  obtain ⟨⟨g1, g2, g3, g4, g5⟩, ht, hh⟩ := hP
  have htl := taskB_len ht
  have hhl := encHi_len' hh
  unfold encRp at h0
  rw [intF_put _ (by omega) (by omega), Prod.mk.injEq, Prod.mk.injEq] at h0
  obtain ⟨rfl, rfl, rfl⟩ := h0
  rw [intF_put _ (by omega) (by omega), Prod.mk.injEq, Prod.mk.injEq] at h1
  obtain ⟨rfl, rfl, rfl⟩ := h1
  rw [intF_put _ (by omega) (by omega), Prod.mk.injEq, Prod.mk.injEq] at h2
  obtain ⟨rfl, rfl, rfl⟩ := h2
  rw [intF_put _ (by omega) (by omega), Prod.mk.injEq, Prod.mk.injEq] at h3
  obtain ⟨rfl, rfl, rfl⟩ := h3
  rw [intF_put _ (by omega) (by omega), Prod.mk.injEq, Prod.mk.injEq] at h4
  obtain ⟨rfl, rfl, rfl⟩ := h4
  rw [htx _ _ (by omega), Prod.mk.injEq, Prod.mk.injEq] at h5
  obtain ⟨rfl, rfl, rfl⟩ := h5
  rw [htx _ _ (by omega), Prod.mk.injEq, Prod.mk.injEq] at h6
  obtain ⟨rfl, rfl, rfl⟩ := h6
  have h8 := htx (encHi x.ev) [] (by omega)
  rw [List.append_nil] at h8
  rw [h8, Prod.mk.injEq, Prod.mk.injEq] at h7
  obtain ⟨rfl, rfl, rfl⟩ := h7
  exact ⟨rfl, rfl, rfl, rfl, rfl, rfl, rfl, rfl, rfl, rfl⟩
end
theorem tx1_long (t r : List UInt8) (h : t.length ≤ 800000) : tx1 (textL t ++ r, false) = (t, r, false) := textF_put t r (by omega)
theorem tx2_long (t r : List UInt8) (h : t.length ≤ 800000) : tx2 (textL t ++ r, false) = (t, r, false) := rtextF_put t r (by omega)
theorem rq_acc {body : List UInt8} {n1 n2 n7 n8 n9 n10 n11 n12 : Nat} {t3 t4 t5 t6 r0 r1 r2 r3 r4 r5 r6 r7 r8 r9 r10 r11 r12 r13 : List UInt8} {b0 b1 b2 b3 b4 b5 b6 b7 b8 b9 b10 b11 b12 b13 : Bool} {cs : List Cm} {lim : Int} {ss : List St}
    (h0 : intF body false 1 = (1, r0, b0)) (h1 : intF r0 b0 2147483647 = (n1, r1, b1)) (h2 : intF r1 b1 11 = (n2, r2, b2)) (h3 : textF r2 b2 = (t3, r3, b3)) (h4 : textF r3 b3 = (t4, r4, b4)) (h5 : textF r4 b4 = (t5, r5, b5)) (h6 : textF r5 b5 = (t6, r6, b6))
    (h7 : intF r6 b6 501 = (n7, r7, b7)) (h8 : intF r7 b7 501 = (n8, r8, b8)) (h9 : intF r8 b8 501 = (n9, r9, b9)) (h10 : intF r9 b9 16 = (n10, r10, b10)) (h11 : intF r10 b10 1 = (n11, r11, b11)) (h12 : intF r11 b11 4 = (n12, r12, b12)) (h13 : manyG (cmG 5 16) n12 (r12, b12) = (cs, r13, b13))
    (hp : progF t6 = some (lim, ss)) (he : endF r13 b13 = true) (hk : 1 ≤ n2) (hs : t3.length ≤ 16 ∧ t4.length ≤ 16 ∧ t5.length ≤ 16) :
    RqP n1 ⟨n2, t3, t4, t5, ss, lim, cs, n7, n8, n9, n10, decide ((n11 : Int) = 1)⟩ ∧ body = encRq n1 ⟨n2, t3, t4, t5, ss, lim, cs, n7, n8, n9, n10, decide ((n11 : Int) = 1)⟩ := by
  obtain ⟨rfl, rfl⟩ := endF_iff.1 he
  obtain ⟨hpP, rfl⟩ := progF_iff.1 hp
  have hpl := encP_len hpP
  have hlen := manyG_len (cmG 5 16) n12 (r12, b12)
  obtain ⟨e13, hc⟩ := manyG_out n12 (r12, b12) (by rw [h13])
  rw [h13] at e13 hc hlen
  simp only [List.append_nil, Prod.mk.injEq] at e13
  obtain ⟨rfl, rfl⟩ := e13
  obtain ⟨rfl, u12, l12, rfl⟩ := intF_iff.1 h12
  obtain ⟨rfl, u11, l11, rfl⟩ := intF_iff.1 h11
  obtain ⟨rfl, u10, l10, rfl⟩ := intF_iff.1 h10
  obtain ⟨rfl, u9, l9, rfl⟩ := intF_iff.1 h9
  obtain ⟨rfl, u8, l8, rfl⟩ := intF_iff.1 h8
  obtain ⟨rfl, u7, l7, rfl⟩ := intF_iff.1 h7
  obtain ⟨rfl, rfl⟩ := textF_back h6 (by omega)
  obtain ⟨rfl, rfl⟩ := textF_back h5 (by omega)
  obtain ⟨rfl, rfl⟩ := textF_back h4 (by omega)
  obtain ⟨rfl, rfl⟩ := textF_back h3 (by omega)
  obtain ⟨rfl, u2, l2, rfl⟩ := intF_iff.1 h2
  obtain ⟨rfl, u1, l1, rfl⟩ := intF_iff.1 h1
  obtain ⟨-, -, -, rfl⟩ := intF_iff.1 h0
  simp only at hlen
  refine ⟨⟨⟨⟨by omega, by omega⟩, ⟨by simp only; omega, by simp only; omega⟩, hs, ⟨⟨by simp only; omega, by simp only; omega⟩, ⟨by simp only; omega, by simp only; omega⟩, by simp only; omega, by simp only; omega⟩, ⟨by simp only; omega, by simp only; omega⟩, by simp only; omega⟩, hpP, hc⟩, ?_⟩
  unfold encRq
  simp only [Int.toNat_natCast, hlen]
  rw [← bit_back n11 l11]
theorem rp_acc {body : List UInt8} {n1 n2 n3 n4 : Nat} {t5 t6 t7 r0 r1 r2 r3 r4 r5 r6 r7 : List UInt8} {b0 b1 b2 b3 b4 b5 b6 b7 : Bool} {tk : Tk} {ev : List Ev}
    (h0 : intF body false 1 = (1, r0, b0)) (h1 : intF r0 b0 2147483647 = (n1, r1, b1)) (h2 : intF r1 b1 999 = (n2, r2, b2)) (h3 : intF r2 b2 4 = (n3, r3, b3)) (h4 : intF r3 b3 501 = (n4, r4, b4)) (h5 : textF r4 b4 = (t5, r5, b5)) (h6 : textF r5 b5 = (t6, r6, b6)) (h7 : textF r6 b6 = (t7, r7, b7))
    (ht : (t5 = [] ∧ tk = tk0) ∨ taskF t5 = some tk) (hu : unF t7 = some ev) (he : endF r7 b7 = true) (hs : t6.length ≤ 16) :
    RpP n1 ⟨n2, n3, n4, tk, t6, ev⟩ ∧ body = encRp n1 ⟨n2, n3, n4, tk, t6, ev⟩ := by
  obtain ⟨rfl, rfl⟩ := endF_iff.1 he
  obtain ⟨hh, rfl⟩ := unF_iff.1 hu
  have hhl := encHi_len' hh
  have htk : RpT ⟨n2, n3, n4, tk, t6, ev⟩ ∧ t5 = taskB tk := by
    rcases ht with ⟨rfl, rfl⟩ | h
    · exact ⟨.inl rfl, by unfold taskB; rw [if_pos rfl]⟩
    · obtain ⟨h1, h2⟩ := taskF_iff.1 h
      exact ⟨.inr h1, by unfold taskB; rw [if_neg (fun q : tk = tk0 => tk0_no (by rw [← q]; exact h1))]; exact h2⟩
  obtain ⟨hT, rfl⟩ := htk
  have htl := taskB_len hT
  simp only at htl
  obtain ⟨rfl, rfl⟩ := textF_back h7 (by omega)
  obtain ⟨rfl, rfl⟩ := textF_back h6 (by omega)
  obtain ⟨rfl, rfl⟩ := textF_back h5 (by omega)
  obtain ⟨rfl, u4, l4, rfl⟩ := intF_iff.1 h4
  obtain ⟨rfl, u3, l3, rfl⟩ := intF_iff.1 h3
  obtain ⟨rfl, u2, l2, rfl⟩ := intF_iff.1 h2
  obtain ⟨rfl, u1, l1, rfl⟩ := intF_iff.1 h1
  obtain ⟨-, -, -, rfl⟩ := intF_iff.1 h0
  refine ⟨⟨⟨⟨by omega, by omega⟩, ⟨by simp only; omega, by simp only; omega⟩, ⟨by simp only; omega, by simp only; omega⟩, ⟨by simp only; omega, by simp only; omega⟩, hs⟩, hT, hh⟩, ?_⟩
  unfold encRp
  simp only [Int.toNat_natCast, List.append_nil]
end Go.Proofs.Ytelacmchofehcaa
namespace Go.Proofs.Ytelacmchofehcaa
open Go.RowKit
set_option linter.unusedVariables false

theorem rp_rej {l body : List UInt8} {n1 n2 n3 n4 : Nat} {t5 t6 t7 r0 r1 r2 r3 r4 r5 r6 r7 : List UInt8} {b0 b1 b2 b3 b4 b5 b6 b7 : Bool}
    (hn : nextF l = (body, [], 0)) (h0 : intF body false 1 = (1, r0, b0)) (h1 : intF r0 b0 2147483647 = (n1, r1, b1)) (h2 : intF r1 b1 999 = (n2, r2, b2)) (h3 : intF r2 b2 4 = (n3, r3, b3)) (h4 : intF r3 b3 501 = (n4, r4, b4)) (h5 : textF r4 b4 = (t5, r5, b5)) (h6 : textF r5 b5 = (t6, r6, b6)) (h7 : textF r6 b6 = (t7, r7, b7))
    (hbad : ¬ ((t5 = [] ∨ ∃ tk, taskF t5 = some tk) ∧ (∃ ev, unF t7 = some ev) ∧ endF r7 b7 = true ∧ t6.length ≤ 16)) : ∀ i y, RpP i y → l ≠ wrapL (encRp i y) := by
  intro i y hP e
  have hw := next_wrap (encRp i y) [] (by have := encRp_len hP; omega)
  rw [List.append_nil, ← e, hn] at hw
  simp only [Prod.mk.injEq, and_true] at hw
  subst hw
  obtain ⟨-, -, -, -, -, q5, q6, q7, q8, q9⟩ := rp_put (tx := tx1) tx1_long (by decide) (by decide) (by decide) (by decide) (by decide) hP h0 h1 h2 h3 h4 h5 h6 h7
  refine hbad ⟨?_, ⟨y.ev, unF_iff.2 ⟨hP.2.2, q7⟩⟩, endF_iff.2 ⟨q8, q9⟩, by rw [q6]; exact hP.1.2.2.2.2⟩
  rcases hP.2.1 with h | h
  · exact .inl (by rw [q5]; unfold taskB; rw [if_pos h])
  · exact .inr ⟨y.tk, taskF_iff.2 ⟨h, by rw [q5]; unfold taskB; rw [if_neg (fun q => tk0_no (by rw [← q]; exact h))]⟩⟩
theorem rq_rej {l body : List UInt8} {n1 n2 n7 n8 n9 n10 n11 n12 : Nat} {t3 t4 t5 t6 r0 r1 r2 r3 r4 r5 r6 r7 r8 r9 r10 r11 r12 r13 : List UInt8} {b0 b1 b2 b3 b4 b5 b6 b7 b8 b9 b10 b11 b12 b13 : Bool} {cs : List Cm}
    (hn : nextF l = (body, [], 0)) (h0 : intF body false 1 = (1, r0, b0)) (h1 : intF r0 b0 2147483647 = (n1, r1, b1)) (h2 : intF r1 b1 11 = (n2, r2, b2)) (h3 : textF r2 b2 = (t3, r3, b3)) (h4 : textF r3 b3 = (t4, r4, b4)) (h5 : textF r4 b4 = (t5, r5, b5)) (h6 : textF r5 b5 = (t6, r6, b6))
    (h7 : intF r6 b6 501 = (n7, r7, b7)) (h8 : intF r7 b7 501 = (n8, r8, b8)) (h9 : intF r8 b8 501 = (n9, r9, b9)) (h10 : intF r9 b9 16 = (n10, r10, b10)) (h11 : intF r10 b10 1 = (n11, r11, b11)) (h12 : intF r11 b11 4 = (n12, r12, b12)) (h13 : manyG (cmG 5 16) n12 (r12, b12) = (cs, r13, b13))
    (hbad : ¬ ((∃ lim ss, progF t6 = some (lim, ss)) ∧ endF r13 b13 = true ∧ 1 ≤ n2 ∧ (t3.length ≤ 16 ∧ t4.length ≤ 16 ∧ t5.length ≤ 16))) : ∀ i y, RqP i y → l ≠ wrapL (encRq i y) := by
  intro i y hP e
  have hw := next_wrap (encRq i y) [] (by have := encRq_len hP; omega)
  rw [List.append_nil, ← e, hn] at hw
  simp only [Prod.mk.injEq, and_true] at hw
  subst hw
  obtain ⟨-, -, q2, q3, q4, q5, q6, -, -, -, -, -, -, q13, q14⟩ := rq_put (tx := tx1) tx1_long (by decide) (by decide) (by decide) (by decide) (by decide) (by decide) (by decide) hP h0 h1 h2 h3 h4 h5 h6 h7 h8 h9 h10 h11 h12 h13
  obtain ⟨⟨g1, g2, g3, g4, g5, g6⟩, hp, hc⟩ := hP
  exact hbad ⟨⟨y.lim, y.ss, progF_iff.2 ⟨hp, q6⟩⟩, endF_iff.2 ⟨q13, q14⟩, by omega, by rw [q3, q4, q5]; exact g3⟩
end Go.Proofs.Ytelacmchofehcaa
namespace Go.Proofs.Ytelacmchofehcaa
open Go.RowKit
set_option linter.unusedVariables false

theorem encRq_inj {id id' : Int} {q q' : Rq} (hP : RqP id q) (hP' : RqP id' q') (e : encRq id q = encRq id' q') : id = id' ∧ q = q' := by
  obtain ⟨n0, r0, b0, h0⟩ : ∃ n r b, intF (encRq id q) false 1 = (n, r, b) := ⟨_, _, _, rfl⟩
  obtain ⟨n1, r1, b1, h1⟩ : ∃ n r b, intF r0 b0 2147483647 = (n, r, b) := ⟨_, _, _, rfl⟩
  obtain ⟨n2, r2, b2, h2⟩ : ∃ n r b, intF r1 b1 11 = (n, r, b) := ⟨_, _, _, rfl⟩
  obtain ⟨t3, r3, b3, h3⟩ : ∃ n r b, tx1 (r2, b2) = (n, r, b) := ⟨_, _, _, rfl⟩
  obtain ⟨t4, r4, b4, h4⟩ : ∃ n r b, tx1 (r3, b3) = (n, r, b) := ⟨_, _, _, rfl⟩
  obtain ⟨t5, r5, b5, h5⟩ : ∃ n r b, tx1 (r4, b4) = (n, r, b) := ⟨_, _, _, rfl⟩
  obtain ⟨t6, r6, b6, h6⟩ : ∃ n r b, tx1 (r5, b5) = (n, r, b) := ⟨_, _, _, rfl⟩
  obtain ⟨n7, r7, b7, h7⟩ : ∃ n r b, intF r6 b6 501 = (n, r, b) := ⟨_, _, _, rfl⟩
  obtain ⟨n8, r8, b8, h8⟩ : ∃ n r b, intF r7 b7 501 = (n, r, b) := ⟨_, _, _, rfl⟩
  obtain ⟨n9, r9, b9, h9⟩ : ∃ n r b, intF r8 b8 501 = (n, r, b) := ⟨_, _, _, rfl⟩
  obtain ⟨n10, r10, b10, h10⟩ : ∃ n r b, intF r9 b9 16 = (n, r, b) := ⟨_, _, _, rfl⟩
  obtain ⟨n11, r11, b11, h11⟩ : ∃ n r b, intF r10 b10 1 = (n, r, b) := ⟨_, _, _, rfl⟩
  obtain ⟨n12, r12, b12, h12⟩ : ∃ n r b, intF r11 b11 4 = (n, r, b) := ⟨_, _, _, rfl⟩
  obtain ⟨cs, r13, b13, h13⟩ : ∃ n r b, manyG (cmG 5 16) n12 (r12, b12) = (n, r, b) := ⟨_, _, _, rfl⟩
  obtain ⟨-, a1, a2, a3, a4, a5, a6, a7, a8, a9, a10, a11, a12, -, -⟩ := rq_put (tx := tx1) (mv := 1) (mi := 2147483647) (m2 := 11) (m3 := 501) (m4 := 16) (c1 := 5) (c2 := 16) tx1_long (by decide) (by decide) (by decide) (by decide) (by decide) (by decide) (by decide) hP h0 h1 h2 h3 h4 h5 h6 h7 h8 h9 h10 h11 h12 h13
  obtain ⟨-, d1, d2, d3, d4, d5, d6, d7, d8, d9, d10, d11, d12, -, -⟩ := rq_put (tx := tx1) (mv := 1) (mi := 2147483647) (m2 := 11) (m3 := 501) (m4 := 16) (c1 := 5) (c2 := 16) tx1_long (by decide) (by decide) (by decide) (by decide) (by decide) (by decide) (by decide) hP' (by rw [← e]; exact h0) h1 h2 h3 h4 h5 h6 h7 h8 h9 h10 h11 h12 h13
  clear h0 h1 h2 h3 h4 h5 h6 h7 h8 h9 h10 h11 h12 h13
  obtain ⟨⟨g1, g2, g3, g4, g5, g6⟩, hp, hc⟩ := hP
  obtain ⟨⟨g1', g2', g3', g4', g5', g6'⟩, hp', hc'⟩ := hP'
  obtain ⟨el, es⟩ := encP_inj hp hp' (a6.symm.trans d6)
  have eb : q.gd = q'.gd := by
    have := a11.symm.trans d11
    unfold udN at this
    cases h : q.gd <;> cases h' : q'.gd <;> simp [h, h'] at this ⊢
  obtain ⟨kd, rq, wd, nm, ss, lim, cs1, rf, ty, fr, sh, gd⟩ := q
  obtain ⟨kd', rq', wd', nm', ss', lim', cs1', rf', ty', fr', sh', gd'⟩ := q'
  simp only at *
  refine ⟨by omega, ?_⟩
  rw [Rq.mk.injEq]
  exact ⟨by omega, a3.symm.trans d3, a4.symm.trans d4, a5.symm.trans d5, es, el, a12.symm.trans d12, by omega, by omega, by omega, by omega, eb⟩
theorem taskB_inj {t t' : Tk} (h : t = tk0 ∨ TaskP t) (h' : t' = tk0 ∨ TaskP t') (e : taskB t = taskB t') : t = t' := by
  have hne : ∀ x : Tk, encT x ≠ [] := fun x q => by
    have h1 := putL_pos x.1.toNat
    unfold encT at q
    have := congrArg List.length q
    rw [List.length_append, List.length_nil] at this
    omega
  unfold taskB at e
  by_cases c : t = tk0
  · rw [if_pos c] at e
    by_cases c' : t' = tk0
    · rw [c, c']
    · rw [if_neg c'] at e; exact absurd e.symm (hne _)
  · rw [if_neg c] at e
    by_cases c' : t' = tk0
    · rw [if_pos c'] at e; exact absurd e (hne _)
    · rw [if_neg c'] at e
      have h1 := taskF_iff.2 ⟨h.resolve_left c, rfl⟩
      rw [e, taskF_iff.2 ⟨h'.resolve_left c', rfl⟩] at h1
      injection h1 with h1
      exact h1.symm
theorem encRp_inj {id id' : Int} {x x' : Rp} (hP : RpP id x) (hP' : RpP id' x') (e : encRp id x = encRp id' x') : id = id' ∧ x = x' := by
  obtain ⟨n0, r0, b0, h0⟩ : ∃ n r b, intF (encRp id x) false 1 = (n, r, b) := ⟨_, _, _, rfl⟩
  obtain ⟨n1, r1, b1, h1⟩ : ∃ n r b, intF r0 b0 2147483647 = (n, r, b) := ⟨_, _, _, rfl⟩
  obtain ⟨n2, r2, b2, h2⟩ : ∃ n r b, intF r1 b1 999 = (n, r, b) := ⟨_, _, _, rfl⟩
  obtain ⟨n3, r3, b3, h3⟩ : ∃ n r b, intF r2 b2 4 = (n, r, b) := ⟨_, _, _, rfl⟩
  obtain ⟨n4, r4, b4, h4⟩ : ∃ n r b, intF r3 b3 501 = (n, r, b) := ⟨_, _, _, rfl⟩
  obtain ⟨t5, r5, b5, h5⟩ : ∃ n r b, tx1 (r4, b4) = (n, r, b) := ⟨_, _, _, rfl⟩
  obtain ⟨t6, r6, b6, h6⟩ : ∃ n r b, tx1 (r5, b5) = (n, r, b) := ⟨_, _, _, rfl⟩
  obtain ⟨t7, r7, b7, h7⟩ : ∃ n r b, tx1 (r6, b6) = (n, r, b) := ⟨_, _, _, rfl⟩
  obtain ⟨-, a1, a2, a3, a4, a5, a6, a7, -, -⟩ := rp_put (tx := tx1) (mv := 1) (mi := 2147483647) (m2 := 999) (m3 := 4) (m4 := 501) tx1_long (by decide) (by decide) (by decide) (by decide) (by decide) hP h0 h1 h2 h3 h4 h5 h6 h7
  obtain ⟨-, d1, d2, d3, d4, d5, d6, d7, -, -⟩ := rp_put (tx := tx1) (mv := 1) (mi := 2147483647) (m2 := 999) (m3 := 4) (m4 := 501) tx1_long (by decide) (by decide) (by decide) (by decide) (by decide) hP' (by rw [← e]; exact h0) h1 h2 h3 h4 h5 h6 h7
  clear h0 h1 h2 h3 h4 h5 h6 h7
  have ht := taskB_inj hP.2.1 hP'.2.1 (a5.symm.trans d5)
  have hev : x.ev = x'.ev := by
    have h1 := unF_iff.2 ⟨hP.2.2, rfl⟩
    rw [a7.symm.trans d7, unF_iff.2 ⟨hP'.2.2, rfl⟩] at h1
    injection h1 with h1
    exact h1.symm
  obtain ⟨⟨g1, g2, g3, g4, g5⟩, -, -⟩ := hP
  obtain ⟨⟨g1', g2', g3', g4', g5'⟩, -, -⟩ := hP'
  obtain ⟨er, st, nx, tk, nm, ev⟩ := x
  obtain ⟨er', st', nx', tk', nm', ev'⟩ := x'
  simp only at *
  refine ⟨by omega, ?_⟩
  rw [Rp.mk.injEq]
  exact ⟨by omega, by omega, by omega, ht, a6.symm.trans d6, hev⟩
end Go.Proofs.Ytelacmchofehcaa
