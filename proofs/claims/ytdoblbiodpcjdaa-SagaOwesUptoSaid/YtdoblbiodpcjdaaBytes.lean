/- A ROW OF BYTES THAT THE CALL OWNS: 'Own w B e v l': v is a slice of bytes of the call's own (blocks from B on) that reads as l. -/
import Derived.WalkKit
import Derived.Laws.IdiomStrings
import Derived.Lib.Strings
import Derived.Deep.Quiet
namespace Go.Proofs.Ytdoblbiodpcjdaa
open Go.RowKit
variable {P : Program}
def byteV (x : UInt8) : Value := .int .u8 (x.toNat : Int)
def Own (w : World) (B : Nat) (e : TypeId) (v : Value) (l : List UInt8) : Prop := w.ownsRow B e 1 v l.length (l.map byteV)
theorem ext_mid (l : List UInt8) (a b : Nat) : (⟨l.toArray⟩ : ByteArray).extract a b = ⟨((l.drop a).take (b - a)).toArray⟩ := Lib.extract_eq _ a b
theorem ext_drop (l : List UInt8) (a : Nat) : (⟨l.toArray⟩ : ByteArray).extract a l.length = ⟨(l.drop a).toArray⟩ := by
 rw [ext_mid, List.take_of_length_le (by simp)]
theorem below_drewN (B : Nat) (w : World) (n : Nat) : Below B w (w.drewN n) := ⟨rfl, rfl, rfl, Nat.le_refl _, fun _ _ => rfl⟩
theorem bnext {w0 w w' : World} (h : Below w0.heap.size w0 w) (k : Below w.heap.size w w') : Below w0.heap.size w0 w' := h.trans (k.mono h.size)
theorem below_of_drewN {B : Nat} {w w' : World} {n : Nat} (h : Below B (w.drewN n) w') : Below B w w' := ⟨h.os, h.tape, h.output, h.size, h.block⟩
theorem hid {p : Prop} (h : p) : Hid p := h
theorem cell_new (w : World) (v : Value) (e : TypeId) : (w.alloc (.cells #[v] e)).cell? ⟨w.heap.size, 0, none⟩ = some v := by
 rw [World.cell?_alloc_at _ _ _ _ rfl]; rfl
theorem ret_nsb {k : IntKind} {a a' : Int} {s s' : ByteArray} {b b' : Bool} (ha : a = a') (hs : s = s') (hb : b = b') : Ending.returned (.tuple #[.int k a, .string s, .bool b]) = .returned (.tuple #[.int k a', .string s', .bool b']) := by rw [ha, hs, hb]
end Go.Proofs.Ytdoblbiodpcjdaa
