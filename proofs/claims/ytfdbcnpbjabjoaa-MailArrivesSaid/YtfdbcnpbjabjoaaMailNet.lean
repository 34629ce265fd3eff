/- THE NET OF LETTERS: what stands in its blocks; what turns. CONTRACTS: mail.New, wrong, Len. -/
import Derived.Test.YtfdbcnpbjabjoaaProg
import Derived.Test.YtfdbcnpbjabjoaaSlices
import Derived.Test.YtfdbcnpbjabjoaaObj
import Derived.WalkLawsBesides
import Derived.WalkSpells
namespace Go.Proofs.Ytfdbcnpbjabjoaa
open Go.RowKit

/-- what turned stands in blocks of the call's own whose elements are of these types, or is new -/
structure KeepT (B : Nat) (S : List TypeId) (w w' : World) : Prop where
  os : w'.os = w.os
  tape : w'.tape = w.tape
  output : w'.output = w.output
  size : w.heap.size ≤ w'.heap.size
  block : ∀ k, k < w.heap.size → (k < B ∨ ∀ c t f, w.heap[k]? = some (.cells c t f) → t ∉ S) → w'.heap[k]? = w.heap[k]?
theorem KeepT.refl (B : Nat) (S : List TypeId) (w : World) : KeepT B S w w := ⟨rfl, rfl, rfl, Nat.le_refl _, fun _ _ _ => rfl⟩
theorem KeepT.trans {B : Nat} {S : List TypeId} {a b c : World} (h : KeepT B S a b) (k : KeepT B S b c) : KeepT B S a c :=
  ⟨k.os.trans h.os, k.tape.trans h.tape, k.output.trans h.output, Nat.le_trans h.size k.size, fun i hi hn => by
    have e := h.block i hi hn
    exact (k.block i (Nat.lt_of_lt_of_le hi h.size) (hn.imp id (fun f c t fz hc => f c t fz (e ▸ hc)))).trans e⟩
theorem KeepT.of_below {B : Nat} {S : List TypeId} {w w' : World} (h : Below w.heap.size w w') : KeepT B S w w' := ⟨h.os, h.tape, h.output, h.size, fun k hk _ => h.block k hk⟩
theorem KeepT.below {B : Nat} {S : List TypeId} {w0 w w' : World} (h : Below B w0 w) (k : KeepT B S w w') (hB : B ≤ w.heap.size) : Below B w0 w' :=
  ⟨k.os.trans h.os, k.tape.trans h.tape, k.output.trans h.output, Nat.le_trans h.size k.size, fun i hi => (k.block i (by omega) (.inl hi)).trans (h.block i hi)⟩
theorem KeepT.drew {B : Nat} {S : List TypeId} {w w' : World} (h : KeepT B S w w') : KeepT B S w w'.drew := ⟨h.os, h.tape, h.output, h.size, h.block⟩
theorem KeepT.drewN {B : Nat} {S : List TypeId} {w w' : World} (h : KeepT B S w w') (n : Nat) : KeepT B S w (w'.drewN n) := ⟨h.os, h.tape, h.output, h.size, h.block⟩
theorem KeepT.of_drew {B : Nat} {S : List TypeId} {w w' : World} (h : KeepT B S w.drew w') : KeepT B S w w' := ⟨h.os, h.tape, h.output, h.size, h.block⟩
theorem KeepT.alloc {B : Nat} {S : List TypeId} {w w' : World} (h : KeepT B S w w') (o : Obj) : KeepT B S w (w'.alloc o) :=
  h.trans (KeepT.of_below ((Below.refl _ _).alloc (Nat.le_refl _) o))
theorem KeepT.setCell {B : Nat} {S : List TypeId} {w w' : World} (h : KeepT B S w w') {g j : Nat} {u : Value} {c : Array Value} {t : TypeId} {f : Nat × Nat} (hg : w'.heap[g]? = some (.cells c t f)) (ht : t ∈ S) (hB : B ≤ g) : KeepT B S w (w'.setCell ⟨g, j, none⟩ u) :=
  h.trans ⟨rfl, rfl, rfl, by simp [World.setCell], fun k _ hn => Below.heap_setCell _ _ _ _ (fun e => by
    have e' : k = g := e
    subst e'
    rcases hn with hn | hn
    · omega
    · exact hn _ _ _ hg ht)⟩
theorem KeepT.mono {B : Nat} {S S' : List TypeId} {w w' : World} (h : KeepT B S w w') (hs : ∀ t, t ∈ S → t ∈ S') : KeepT B S' w w' :=
  ⟨h.os, h.tape, h.output, h.size, fun k hk hn => h.block k hk (hn.imp id (fun f c t fz e ht => f c t fz e (hs t ht)))⟩
/-- a block of other elements stands -/
theorem KeepT.at {B : Nat} {S : List TypeId} {w w' : World} (h : KeepT B S w w') {g : Nat} {c : Array Value} {t : TypeId} {f : Nat × Nat} (hg : w.heap[g]? = some (.cells c t f)) (ht : t ∉ S) : w'.heap[g]? = some (.cells c t f) :=
  (h.block g (Array.getElem?_eq_some_iff.1 hg).1 (.inr (fun c' t' f' e => by rw [hg] at e; cases e; exact ht))).trans hg
theorem KeepT.obj {B : Nat} {S : List TypeId} {w w' : World} (h : KeepT B S w w') {g : Nat} {T : TypeId} {x y : Value} (ho : Obj2 w g T x y) (ht : T ∉ S) : Obj2 w' g T x y := h.at ho ht
theorem KeepT.own {B : Nat} {S : List TypeId} {w w' : World} (h : KeepT B S w w') {C : Nat} {e : TypeId} {k n : Nat} {v : Value} {xs : List Value} (ho : w.ownsRow C e k v n xs) (ht : e ∉ S) : w'.ownsRow C e k v n xs := by
  obtain ⟨h1, h2⟩ := ho
  refine ⟨h1, h2.imp id ?_⟩
  rintro ⟨g, cap, cur, rfl, hg, hc, rest⟩
  exact ⟨g, cap, cur, rfl, hg, h.at hc ht, rest⟩

theorem ownsRow_slice {w : World} {B : Nat} {e : TypeId} {k n : Nat} {v : Value} {xs : List Value} (h : w.ownsRow B e k v n xs) : ∃ a c, v = .slice a n c := by
  rcases h.2 with ⟨rfl, h0⟩ | ⟨b, cap, cur, rfl, _⟩
  · exact ⟨_, _, by rw [h0]⟩
  · exact ⟨_, _, rfl⟩
abbrev Letter := Int × List UInt8 × List UInt8
def letC (x : Letter) : List Value := [.int .i64 x.1, strV x.2.1, strV x.2.2]
theorem letC_len (x : Letter) : (letC x).length = 3 := rfl
/-- the net in block g: its letters, the next number -/
def Net (w : World) (B g : Nat) (L : List Letter) (nx : Int) : Prop :=
  ∃ lv, Obj2 w g 85 lv (.int .i64 nx) ∧ w.ownsRow B 87 3 lv L.length (L.flatMap letC) ∧ B ≤ g

theorem Net.shape {w : World} {B g : Nat} {L : List Letter} {nx : Int} (h : Net w B g L nx) : ∃ a c, Obj2 w g 85 (.slice a L.length c) (.int .i64 nx) ∧ w.ownsRow B 87 3 (.slice a L.length c) L.length (L.flatMap letC) ∧ B ≤ g := by
  obtain ⟨lv, ho, hr, hB⟩ := h
  have hlv : ∃ a c, lv = .slice a L.length c := by
    rcases hr.2 with ⟨rfl, h0⟩ | ⟨b, cap, cur, rfl, _⟩
    · exact ⟨_, _, by rw [h0]⟩
    · exact ⟨_, _, rfl⟩
  obtain ⟨a, c, rfl⟩ := hlv
  exact ⟨a, c, ho, hr, hB⟩
theorem new_any (w : World) : Calls Try.prog 12 #[] w fun e w' => e = .returned (.pointer (some ⟨w.heap.size, 0, none⟩)) ∧ Net w' w.heap.size w.heap.size [] 1 ∧ Below w.heap.size w w' := by
  go_enter Try.func12, Try.ntmps12
  go_wp2
  go_ret
  exact ⟨rfl, ⟨_, Obj2.new _ _ _ _, World.ownsRow_nil _ _ _ _, Nat.le_refl _⟩, (Below.refl _ _).alloc (Nat.le_refl _) _⟩
theorem len_any (w : World) (B g : Nat) (L : List Letter) (nx : Int) (h : Net w B g L nx) :
    Calls Try.prog 20 #[.pointer (some ⟨g, 0, none⟩)] w fun e w' => e = .returned (.int .i64 L.length) ∧ w' = w := by
  obtain ⟨a, c, ho, hr, hB⟩ := h.shape
  have c0 := ho.c0
  clear h hr ho
  go_enter Try.func20, Try.ntmps20
  go_wp2_with fail
  go_ret
  exact ⟨rfl, rfl⟩
theorem len_none (w : World) : Calls Try.prog 20 #[.pointer none] w fun e w' => e = .returned (.int .i64 0) ∧ w' = w := by
  go_enter Try.func20, Try.ntmps20
  go_wp2_with fail
  go_ret
  exact ⟨rfl, rfl⟩
/-- no letter stands there -/
def wrongB (L : List Letter) (i : Int) : Bool := decide (i < 0) || decide ((L.length : Int) ≤ i)
theorem wrong_any (w : World) (B g : Nat) (L : List Letter) (nx i : Int) (h : Net w B g L nx) :
    Calls Try.prog 34 #[.pointer (some ⟨g, 0, none⟩), .int .i64 i] w fun e w' => e = .returned (.bool (wrongB L i)) ∧ w' = w := by
  obtain ⟨a, c, ho, hr, hB⟩ := h.shape
  have c0 := ho.c0
  clear h hr ho
  by_cases h1 : i < 0
  · have hv : wrongB L i = true := by unfold wrongB; rw [decide_eq_true h1, Bool.true_or]
    rw [hv]
    clear hv
    go_enter Try.func34, Try.ntmps34
    go_wp2_with fail
    go_ret
    exact ⟨rfl, rfl⟩
  · by_cases h2 : (L.length : Int) ≤ i
    · have hv : wrongB L i = true := by unfold wrongB; rw [decide_eq_true h2, Bool.or_true]
      rw [hv]
      clear hv
      go_enter Try.func34, Try.ntmps34
      go_wp2_with fail
      go_ret
      exact ⟨rfl, rfl⟩
    · have hv : wrongB L i = false := by unfold wrongB; rw [decide_eq_false h1, decide_eq_false h2]; rfl
      rw [hv]
      clear hv
      go_enter Try.func34, Try.ntmps34
      go_wp2_with fail
      go_ret
      exact ⟨rfl, rfl⟩
theorem wrong_none (w : World) (i : Int) : Calls Try.prog 34 #[.pointer none, .int .i64 i] w fun e w' => e = .returned (.bool true) ∧ w' = w := by
  go_enter Try.func34, Try.ntmps34
  go_wp2_with fail
  go_ret
  exact ⟨rfl, rfl⟩
end Go.Proofs.Ytfdbcnpbjabjoaa
