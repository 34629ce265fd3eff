/- A ROW OF BYTES THAT THE CALL OWNS: 'Own w B e v l': v is a slice of bytes of the call's own (blocks from B on) that reads as l. -/
import Derived.WalkKit
import Derived.Laws.IdiomStrings
import Derived.Lib.Strings
import Derived.Deep.Quiet
namespace Go.Proofs.Ytfdbcnpbjabjoaa
open Go.RowKit
variable {P : Program}

def byteV (x : UInt8) : Value := .int .u8 (x.toNat : Int)
def Own (w : World) (B : Nat) (e : TypeId) (v : Value) (l : List UInt8) : Prop := w.ownsRow B e 1 v l.length (l.map byteV)

theorem Own.nil (w : World) (B : Nat) (e : TypeId) : Own w B e (.slice none 0 0) [] := World.ownsRow_nil w B e 1

theorem wpList_append_byte (w : World) {ops : Array Oper} {rest : List Oper} {o : Oper} {a : Act} {Q : Exit → Act → World → Prop} (hgd : o.guard = none) (s x : Operand) (t : TypeId)
    (ho : o.op = .call { callee := .builtin .append, args := #[s, x], argTypes := #[t, t] })
    (B : Nat) (e : TypeId) (ht : P.underlying t = some (.slice e)) (hi : (P.info? e).map (fun i => (i.zero, i.size, i.bytes)) = some (some (.int .u8 0), 1, 1))
    (v : Value) (l : List UInt8) (hs : a.eval s = v) (hown : Own w B e v l)
    (g : Nat) (hx : a.eval x = .slice (some ⟨g, 0, none⟩) 1 1) (k : Int) (hk : w.cell? ⟨g, 0, none⟩ = some (.int .u8 k)) (c : UInt8) (hc : k = (c.toNat : Int))
    (hlen : l.length < 70368744177664) (w0 : World) (hB : B ≤ w.heap.size) (hb : Below B w0 w)
    (h : ∀ v' w', Own w' B e v' (l ++ [c]) → Below B w0 w' → w.grownBy w' v.ownBlock → wpList P ops Q rest (a.put o.dst v') w') : wpList P ops Q (o :: rest) a w := by
  obtain ⟨i0, hi0, hz0, hz1, hz2⟩ := info_parts hi
  refine wpList_append_own w hgd s x t ho B e i0 (.int .u8 0) 1 1 ht hi0 hz0 hz1 hz2 rfl (by decide) v l.length (l.map byteV) hs hown ⟨g, 0, none⟩ 1 1 [.int .u8 k] hx rfl ?_ ?_ (by simp only [maxLen]; omega) (by omega) hB ?_
  · intro j u hj
    match j with
    | 0 => simp at hj; rw [← hj]; exact hk
    | j + 1 => simp at hj
  · intro u hu; simp at hu; subst hu; rfl
  · intro v' w' h1 h2 _
    refine h v' w' ?_ (hb.grown h2 hB (fun k hk => by have := (World.ownsRow.lt hown k hk).1; omega)) h2
    unfold Own; rw [List.length_append, List.map_append]; simp only [List.length_singleton, List.map_cons, List.map_nil]; unfold byteV at *; rw [← hc]; exact h1

theorem Own.len {w : World} {B : Nat} {e : TypeId} {a : Option Addr} {n cap : Nat} {l : List UInt8} (h : Own w B e (.slice a n cap) l) : n = l.length := by
  rcases h.2 with ⟨hv, h0⟩ | ⟨g, cap', cur, hv, _⟩
  · simp at hv; omega
  · simp at hv; exact hv.2.1
theorem Own.cellAt {w : World} {B g : Nat} {e : TypeId} {n cap : Nat} {l : List UInt8} (h : Own w B e (.slice (some ⟨g, 0, none⟩) n cap) l) (j : Nat) (hj : j < l.length) : w.cell? ⟨g, j, none⟩ = some (byteV l[j]) := by
  have hn := h.len; subst hn
  rw [World.ownsRow.cellAt h j (by omega)]
  simp [hj]
theorem Own.frozenAt {w : World} {B g : Nat} {e : TypeId} {n cap : Nat} {l : List UInt8} (h : Own w B e (.slice (some ⟨g, 0, none⟩) n cap) l) (j : Nat) : w.frozen? ⟨g, j, none⟩ = false := by
  have hn := h.len; subst hn
  exact World.ownsRow.frozenAt h j
theorem Own.stored {w : World} {B g : Nat} {e : TypeId} {n cap : Nat} {l : List UInt8} (h : Own w B e (.slice (some ⟨g, 0, none⟩) n cap) l) (j : Nat) (c : UInt8) : Own (w.setCell ⟨g, j, none⟩ (byteV c)) B e (.slice (some ⟨g, 0, none⟩) n cap) (l.set j c) := by
  have hn := h.len; subst hn
  have := (World.ownsRow.stored h j (byteV c)).1
  unfold Own; rw [List.length_set, List.map_set]; exact this
theorem ext_mid (l : List UInt8) (a b : Nat) : (⟨l.toArray⟩ : ByteArray).extract a b = ⟨((l.drop a).take (b - a)).toArray⟩ := Lib.extract_eq _ a b
theorem ext_drop (l : List UInt8) (a : Nat) : (⟨l.toArray⟩ : ByteArray).extract a l.length = ⟨(l.drop a).toArray⟩ := by
  rw [ext_mid, List.take_of_length_le (by simp)]

theorem below_of_drew {B : Nat} {w w' : World} (h : Below B w.drew w') : Below B w w' := ⟨h.os, h.tape, h.output, h.size, h.block⟩
theorem below_drewN (B : Nat) (w : World) (n : Nat) : Below B w (w.drewN n) := ⟨rfl, rfl, rfl, Nat.le_refl _, fun _ _ => rfl⟩
/-- one call behind the other -/
theorem bnext {w0 w w' : World} (h : Below w0.heap.size w0 w) (k : Below w.heap.size w w') : Below w0.heap.size w0 w' := h.trans (k.mono h.size)
theorem below_of_drewN {B : Nat} {w w' : World} {n : Nat} (h : Below B (w.drewN n) w') : Below B w w' := ⟨h.os, h.tape, h.output, h.size, h.block⟩
theorem ext_take (l : List UInt8) (b : Nat) : ((⟨l.toArray⟩ : ByteArray).extract 0 b).toList = l.take b := by
  rw [ext_mid, Lib.toList_data]; simp
theorem Own.keep {w w' : World} {B : Nat} {e : TypeId} {v : Value} {l : List UInt8} (h : Own w B e v l) (hb : Below w.heap.size w w') : Own w' B e v l :=
  World.ownsRow.kept (row := none) h ⟨hb.os, hb.tape, hb.output, hb.size, fun k hk _ => hb.block k hk⟩ (by cases hv : v.ownBlock <;> simp)
theorem hid {p : Prop} (h : p) : Hid p := h
theorem cell_new (w : World) (v : Value) (e : TypeId) : (w.alloc (.cells #[v] e)).cell? ⟨w.heap.size, 0, none⟩ = some v := by
  rw [World.cell?_alloc_at _ _ _ _ rfl]; rfl
theorem ret_str {l l' : List UInt8} (h : l = l') : Ending.returned (.string ⟨l.toArray⟩) = .returned (.string ⟨l'.toArray⟩) := by rw [h]

theorem ret_nsb {k : IntKind} {a a' : Int} {s s' : ByteArray} {b b' : Bool} (ha : a = a') (hs : s = s') (hb : b = b') : Ending.returned (.tuple #[.int k a, .string s, .bool b]) = .returned (.tuple #[.int k a', .string s', .bool b']) := by rw [ha, hs, hb]
theorem run_cat (w : World) (a b : List UInt8) (h : a.length + b.length ≤ 9223372036854775807) : (Op.stringOp .add ⟨a.toArray⟩ ⟨b.toArray⟩).run P w = .ok (.string ⟨(a ++ b).toArray⟩) w := by
  have e := run_string_add_sum (P := P) w ⟨a.toArray⟩ ⟨b.toArray⟩ h
  rwa [ByteArray.mk_append_mk] at e

/-- 'string(b)' -/
theorem run_string_own (w : World) (src dst e : TypeId) (B : Nat) (v : Value) (l : List UInt8) (hs : P.underlying src = some (.slice e)) (he : P.underlying e = some (.int .u8)) (hd : P.underlying dst = some .string)
    (hown : Own w B e v l) : (convert src dst v).run P w = .ok (.string ⟨l.toArray⟩) w := by
  rcases hown.2 with ⟨rfl, h0⟩ | ⟨g, cap, cur, rfl, hbg, hg, hnc, hcm, hcs, htake⟩
  · have hl : l = [] := List.eq_nil_of_length_eq_zero h0
    subst hl
    rw [run_convert_bytes_string w src dst e none 0 0 hs he hd]
    simp [Conv.bytesToString, Sem.run_pure]
    rfl
  · refine run_convert_bytes_back w src dst e ⟨g, 0, none⟩ cap l hs he hd (fun j hj => ?_)
    have := World.ownsRow.cells hown (g := g) rfl j (byteV l[j]) (by simp [hj])
    exact this

end Go.Proofs.Ytfdbcnpbjabjoaa
