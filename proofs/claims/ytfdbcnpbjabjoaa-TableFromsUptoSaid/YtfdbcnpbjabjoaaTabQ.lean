/- TABLES in plain words: what opens, as the program and as the reference read it; that they agree. -/
import Derived.Test.YtfdbcnpbjabjoaaTabO
namespace Go.Proofs.Ytfdbcnpbjabjoaa
open Go.RowKit
set_option linter.unusedVariables false
set_option linter.unusedSimpArgs false

/-- n texts, one behind the other -/
def textsF : Nat → List UInt8 → Bool → List (List UInt8) × List UInt8 × Bool
  | 0, r, b => ([], r, b)
  | n + 1, r, b => ((textF r b).1 :: (textsF n (textF r b).2.1 (textF r b).2.2).1, (textsF n (textF r b).2.1 (textF r b).2.2).2)
theorem textsF_len : ∀ (n : Nat) (r : List UInt8) (b : Bool), (textsF n r b).1.length = n
  | 0, _, _ => rfl
  | n + 1, r, b => by rw [textsF]; simp [textsF_len n]
theorem textsF_rest : ∀ (n : Nat) (r : List UInt8) (b : Bool), (textsF n r b).2.1.length ≤ r.length
  | 0, _, _ => Nat.le_refl _
  | n + 1, r, b => by
    rw [textsF]
    exact Nat.le_trans (textsF_rest n _ _) (textF_len r b)
theorem textsF_snoc : ∀ (n : Nat) (r : List UInt8) (b : Bool), textsF (n + 1) r b = ((textsF n r b).1 ++ [(textF (textsF n r b).2.1 (textsF n r b).2.2).1], (textF (textsF n r b).2.1 (textsF n r b).2.2).2)
  | 0, _, _ => rfl
  | n + 1, r, b => by
    rw [textsF, textsF_snoc n]
    rfl
theorem textsF_true : ∀ (n : Nat) (r : List UInt8), (textsF n r true).2.2 = true
  | 0, _ => rfl
  | n + 1, r => by rw [textsF]; exact textsF_true n _
def lastK (last : List UInt8) (x : List Pr) : List UInt8 := (x.getLast?.map (·.1)).getD last
/-- a block that may be -/
def BlkOk (last f : List UInt8) (more : Bool) (x : List Pr) : Prop := x ≠ [] ∧ x.length ≤ 8 ∧ (more = true → x.length = 8) ∧ headK x = f ∧ ascB last x
instance decAsc : (last : List UInt8) → (l : List Pr) → Decidable (ascB last l)
  | _, [] => isTrue trivial
  | last, p :: r => @instDecidableAnd _ _ _ (decAsc p.1 r)
instance (last f : List UInt8) (more : Bool) (x : List Pr) : Decidable (BlkOk last f more x) := inferInstanceAs (Decidable (_ ∧ _))
/-- the blocks' pairs, if all may be -/
def chkBlocks (fl : List UInt8) : List UInt8 → List (List UInt8) → List (List UInt8) → Option (List Pr)
  | _, _, [] => some []
  | _, [], _ :: _ => none
  | last, f :: fs, bk :: bs =>
    match pairsL bk with
    | none => none
    | some x => if BlkOk last f (!bs.isEmpty) x ∧ ∀ p ∈ x, hasL fl p.1 = true then (chkBlocks fl (lastK last x) fs bs).map (x ++ ·) else none
/-- the reference's loop -/
def rloopF : List UInt8 → List UInt8 → Bool → List (List UInt8) → Option (List Pr × List UInt8 × Bool)
  | _, r, b, [] => some ([], r, b)
  | last, r, b, bk :: bs =>
    match pairsL bk with
    | none => none
    | some x => if BlkOk last (textF r b).1 (!bs.isEmpty) x ∧ (textF r b).2.2 = false then (rloopF (lastK last x) (textF r b).2.1 (textF r b).2.2 bs).map (fun y => (x ++ y.1, y.2)) else none
structure Tb where
  fs : List (List UInt8)
  bs : List (List UInt8)
  fl : List UInt8
  ps : List Pr
/-- what the program opens -/
def openP (s : List UInt8) : Option Tb :=
  if (scanL s).2 ≠ [] ∨ (scanL s).1.length < 2 then none else
  let bs := (scanL s).1.dropLast
  let ft := (scanL s).1.getLast?.getD []
  let a := intF ft false bs.length
  if a.1 ≠ bs.length then none else
  let t := textsF bs.length a.2.1 a.2.2
  let c := intF t.2.1 t.2.2 ((bs.length * 8 : Nat) : Int)
  let f := textF c.2.1 c.2.2
  if endF f.2.1 f.2.2 = false ∨ f.1 = [] ∨ 8192 < f.1.length then none else
  match chkBlocks f.1 [] t.1 bs with
  | none => none
  | some l => if l.length ≠ c.1 then none else some ⟨t.1, bs, f.1, l⟩
/-- what the reference opens -/
def openR (s : List UInt8) : Option (List Pr) :=
  if (scanL s).2 ≠ [] ∨ (scanL s).1.length < 2 then none else
  let bs := (scanL s).1.dropLast
  let ft := (scanL s).1.getLast?.getD []
  let a := intF ft false (s.length : Int)
  if a.1 ≠ bs.length then none else
  match rloopF [] a.2.1 a.2.2 bs with
  | none => none
  | some (l, r, b) =>
    let c := intF r b 1073741824
    let f := textF c.2.1 c.2.2
    if endF f.2.1 f.2.2 = false ∨ c.1 ≠ l.length ∨ f.1 = [] ∨ 8192 < f.1.length ∨ ¬ (∀ p ∈ l, hasL f.1 p.1 = true) then none else some l
theorem textF_sticky {r : List UInt8} {b : Bool} (h : (textF r b).2.2 = false) : b = false := by
  cases b with
  | false => rfl
  | true => rw [textF_true] at h; cases h
theorem intF_sticky {r : List UInt8} {b : Bool} {m : Int} (h : (intF r b m).2.2 = false) : b = false := (intF_out h).1
theorem textsF_sticky {n : Nat} {r : List UInt8} {b : Bool} (h : (textsF n r b).2.2 = false) : b = false := by
  cases b with
  | false => rfl
  | true => rw [textsF_true] at h; cases h
/-- without the filter -/
def chk0 : List UInt8 → List (List UInt8) → List (List UInt8) → Option (List Pr)
  | _, _, [] => some []
  | _, [], _ :: _ => none
  | last, f :: fs, bk :: bs =>
    match pairsL bk with
    | none => none
    | some x => if BlkOk last f (!bs.isEmpty) x then (chk0 (lastK last x) fs bs).map (x ++ ·) else none
theorem rloop_chk0 : ∀ (bs : List (List UInt8)) (last r : List UInt8) (b : Bool), (textsF bs.length r b).2.2 = false → rloopF last r b bs = (chk0 last (textsF bs.length r b).1 bs).map fun l => (l, (textsF bs.length r b).2)
  | [], _, r, b, _ => by simp [rloopF, chk0, textsF]
  | bk :: bs, last, r, b, h => by
    rw [List.length_cons, textsF] at h ⊢
    dsimp only at h ⊢
    have hb := textsF_sticky h
    rw [rloopF, chk0]
    cases pairsL bk with
    | none => rfl
    | some x =>
      simp only
      by_cases hc : BlkOk last (textF r b).1 (!bs.isEmpty) x
      · rw [if_pos ⟨hc, hb⟩, if_pos hc, rloop_chk0 bs _ _ _ h]
        simp [Option.map_map, Function.comp_def]
      · rw [if_neg (fun q => hc q.1), if_neg hc]; rfl
theorem rloop_bad : ∀ (bs : List (List UInt8)) (last r : List UInt8) (b : Bool), bs ≠ [] → (textsF bs.length r b).2.2 = true → rloopF last r b bs = none
  | [], _, _, _, h, _ => absurd rfl h
  | bk :: bs, last, r, b, _, h => by
    rw [List.length_cons, textsF] at h
    rw [rloopF]
    cases pairsL bk with
    | none => rfl
    | some x =>
      simp only
      split
      · rename_i hc
        by_cases h0 : bs = []
        · subst h0
          simp only [List.length_nil, textsF] at h
          rw [hc.2] at h; cases h
        · rw [rloop_bad bs _ _ _ h0 h]; rfl
      · rfl
theorem chk_has (fl : List UInt8) : ∀ (bs : List (List UInt8)) (last : List UInt8) (fs : List (List UInt8)), chkBlocks fl last fs bs = (chk0 last fs bs).bind fun l => if ∀ p ∈ l, hasL fl p.1 = true then some l else none
  | [], _, _ => by simp [chkBlocks, chk0]
  | bk :: bs, last, [] => by simp [chkBlocks, chk0]
  | bk :: bs, last, f :: fs => by
    rw [chkBlocks, chk0]
    cases pairsL bk with
    | none => rfl
    | some x =>
      simp only
      by_cases hc : BlkOk last f (!bs.isEmpty) x
      · rw [if_pos hc, chk_has fl bs]
        cases hq : chk0 (lastK last x) fs bs with
        | none => simp
        | some l =>
          simp only [Option.bind_some, Option.map_some]
          by_cases hx : ∀ p ∈ x, hasL fl p.1 = true
          · rw [if_pos ⟨hc, hx⟩]
            by_cases hl : ∀ p ∈ l, hasL fl p.1 = true
            · rw [if_pos hl, if_pos (fun p hp => (List.mem_append.1 hp).elim (hx p) (hl p))]; rfl
            · rw [if_neg hl, if_neg (fun q => hl fun p hp => q p (List.mem_append_right _ hp))]; rfl
          · rw [if_neg (fun q => hx q.2), if_neg (fun q => hx fun p hp => q p (List.mem_append_left _ hp))]
      · rw [if_neg (fun q => hc q.1), if_neg hc]; rfl
theorem chk0_len : ∀ (bs : List (List UInt8)) (last : List UInt8) (fs : List (List UInt8)) (l : List Pr), chk0 last fs bs = some l → l.length ≤ bs.length * 8
  | [], _, _, l, h => by simp [chk0] at h; subst h; simp
  | bk :: bs, last, [], l, h => by simp [chk0] at h
  | bk :: bs, last, f :: fs, l, h => by
    rw [chk0] at h
    cases hp : pairsL bk with
    | none => rw [hp] at h; cases h
    | some x =>
      rw [hp] at h
      simp only at h
      split at h
      · rename_i hc
        cases hq : chk0 (lastK last x) fs bs with
        | none => rw [hq] at h; cases h
        | some l' =>
          rw [hq] at h
          simp only [Option.map_some, Option.some.injEq] at h
          subst h
          have := chk0_len bs _ _ l' hq
          have := hc.2.1
          rw [List.length_append, List.length_cons]; omega
      · cases h
theorem intF_two {r : List UInt8} {b : Bool} {m m' : Int} (h : (intF r b m).2.2 = false) (hm : ((intF r b m).1 : Int) ≤ m') : intF r b m' = intF r b m := by
  obtain ⟨h1, h2, h3, h4⟩ := intF_out h
  have e := intF_iff.2 ⟨h1, h2, hm, h4⟩
  rw [e, ← h]
theorem open_same (s : List UInt8) (hs : s.length ≤ 5242880) (hn : (scanL s).1.length ≤ s.length) : (openP s).map (·.ps) = openR s := by
  unfold openP openR
  by_cases h1 : (scanL s).2 ≠ [] ∨ (scanL s).1.length < 2
  · rw [if_pos h1, if_pos h1]; rfl
  rw [if_neg h1, if_neg h1]
  obtain ⟨bs, hbs⟩ : ∃ bs, bs = (scanL s).1.dropLast := ⟨_, rfl⟩
  obtain ⟨ft, hft⟩ : ∃ ft, ft = (scanL s).1.getLast?.getD [] := ⟨_, rfl⟩
  rw [← hbs, ← hft]
  have hb1 : 1 ≤ bs.length ∧ bs.length ≤ s.length := by rw [hbs, List.length_dropLast]; omega
  clear hbs hft h1 hn
  simp only
  have hbn : bs ≠ [] := fun e => by rw [e] at hb1; simp at hb1
  -- the number of blocks
  have ha : ∀ m : Int, (intF ft false m).1 = bs.length → (intF ft false m).2.2 = false := fun m h => by
    cases q : (intF ft false m).2.2 with
    | false => rfl
    | true =>
      exfalso
      have : (intF ft false m).1 = 0 := by
        unfold intF at q ⊢
        split
        · rfl
        · split
          · rfl
          · rename_i x y
            simp only [if_neg x, if_neg y] at q
            cases q
      omega
  by_cases h2 : (intF ft false (bs.length : Int)).1 = bs.length
  · have e := intF_two (m' := (s.length : Int)) (ha _ h2) (by rw [h2]; omega)
    rw [e, if_neg (not_not_intro h2), if_neg (not_not_intro h2)]
    obtain ⟨r, hr⟩ : ∃ r, r = (intF ft false (bs.length : Int)).2.1 := ⟨_, rfl⟩
    rw [ha _ h2, ← hr]
    clear ha h2 e hr
    cases hb : (textsF bs.length r false).2.2 with
    | true =>
      rw [rloop_bad bs _ _ _ hbn hb, if_pos (.inl (by rw [intF_true, textF_true]; rfl))]; rfl
    | false =>
      rw [rloop_chk0 bs _ _ _ hb]
      have hbz : (textsF bs.length r false).2 = ((textsF bs.length r false).2.1, false) := Prod.ext rfl hb
      obtain ⟨t, ht⟩ : ∃ t, t = (textsF bs.length r false).2.1 := ⟨_, rfl⟩
      obtain ⟨fs, hfs⟩ : ∃ t, t = (textsF bs.length r false).1 := ⟨_, rfl⟩
      rw [hbz, ← ht, ← hfs]
      clear hb hbz ht hfs
      have hbig : ((bs.length * 8 : Nat) : Int) ≤ 1073741824 := by omega
      have hl0 := chk0_len bs [] fs
      cases hc : (intF t false ((bs.length * 8 : Nat) : Int)).2.2 with
      | true =>
        rw [if_pos (.inl (by rw [textF_true]; rfl))]
        cases hq : chk0 [] fs bs with
        | none => rfl
        | some l =>
          have hll := hl0 l hq
          simp only [Option.map_some, Option.map_none]
          rw [if_pos]
          cases hc2 : (intF t false 1073741824).2.2 with
          | true => exact .inl (by rw [textF_true]; rfl)
          | false =>
            refine .inr (.inl fun e => ?_)
            have := intF_two (m' := ((bs.length * 8 : Nat) : Int)) hc2 (by rw [e]; omega)
            rw [this] at hc
            rw [hc2] at hc; cases hc
      | false =>
        have hle : ((intF t false ((bs.length * 8 : Nat) : Int)).1 : Int) ≤ ((bs.length * 8 : Nat) : Int) := (intF_out hc).2.2.1
        have e := intF_two (m' := 1073741824) hc (by omega)
        rw [chk_has]
        cases hq : chk0 [] fs bs with
        | none =>
          simp only [Option.bind_none, Option.map_none]
          split <;> rfl
        | some l =>
          simp only [Option.map_some, Option.bind_some]
          rw [e]
          obtain ⟨c, hcq⟩ : ∃ c, c = intF t false ((bs.length * 8 : Nat) : Int) := ⟨_, rfl⟩
          rw [← hcq] at hc ⊢
          rw [hc]
          obtain ⟨f, hf⟩ : ∃ f, f = textF c.2.1 false := ⟨_, rfl⟩
          rw [← hf]
          by_cases he : endF f.2.1 f.2.2 = false ∨ f.1 = [] ∨ 8192 < f.1.length
          · rw [if_pos he, if_pos]
            · rfl
            rcases he with q | q | q
            · exact .inl q
            · exact .inr (.inr (.inl q))
            · exact .inr (.inr (.inr (.inl q)))
          · rw [if_neg he]
            by_cases hh : ∀ p ∈ l, hasL f.1 p.1 = true
            · rw [if_pos hh]
              simp only
              by_cases hlc : l.length = c.1
              · rw [if_neg (not_not_intro hlc), if_neg]
                · rfl
                · rintro (q | q | q | q | q)
                  · exact he (.inl q)
                  · exact q hlc.symm
                  · exact he (.inr (.inl q))
                  · exact he (.inr (.inr q))
                  · exact q hh
              · rw [if_pos hlc, if_pos (.inr (.inl (fun q => hlc q.symm)))]; rfl
            · rw [if_neg hh, if_pos (.inr (.inr (.inr (.inr hh))))]; rfl
  · rw [if_pos h2]
    by_cases h3 : (intF ft false (s.length : Int)).1 = bs.length
    · have e := intF_two (m' := (bs.length : Int)) (ha _ h3) (by rw [h3]; omega)
      rw [e] at h2
      exact absurd h3 h2
    · rw [if_pos h3]; rfl
end Go.Proofs.Ytfdbcnpbjabjoaa
