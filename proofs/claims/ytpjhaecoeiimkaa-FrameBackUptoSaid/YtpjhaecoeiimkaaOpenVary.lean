/- WHAT THE ROWS OF VaryBack, VaryReads HAND OVER: []uint64, []string, []Ask, as lists; and their bulk. -/
import Derived.Test.YtpjhaecoeiimkaaRows
import Derived.Test.YtpjhaecoeiimkaaFrames
import Derived.Test.YtpjhaecoeiimkaaSlices
import Derived.SliceStrings
import Derived.Deep.Fields
namespace Go.Proofs.Ytpjhaecoeiimkaa
open Go.ChangeShapes Go.WideShapes Go.ChangeAt Go.RowKit Go.Deep

theorem bulk_one {H : Type} (d : DataW H) : 1 ≤ Rows.uptoBulk d := by
  cases d with
  | lit l => cases l <;> simp [Rows.uptoBulk]
  | nil => simp [Rows.uptoBulk]
  | ptr d => simp [Rows.uptoBulk]
  | slice elems spare => simp [Rows.uptoBulk]
  | agg parts => simp [Rows.uptoBulk]
  | iface t d => simp [Rows.uptoBulk]
  | map entries => simp [Rows.uptoBulk]
  | held h => simp [Rows.uptoBulk]
theorem bulk_len {H : Type} (l : List (DataW H)) : l.length ≤ Rows.uptoBulkAll l := by
  induction l with
  | nil => simp [Rows.uptoBulkAll]
  | cons x r ih => have := bulk_one x; simp only [Rows.uptoBulkAll, List.length_cons]; omega
theorem bulk_slice {H : Type} (elems spare : List (DataW H)) : Rows.uptoBulkAll elems + 1 ≤ Rows.uptoBulk (.slice elems spare) := by
  simp only [Rows.uptoBulk]; omega

def u64V (n : Nat) : Value := .int .u64 (n : Int)
/-- how many letters in all, and texts -/
def lettersL : List (List UInt8) → Nat | [] => 0 | s :: r => s.length + 1 + lettersL r
theorem lettersL_len (l : List (List UInt8)) : l.length ≤ lettersL l := by
  induction l with
  | nil => simp
  | cons s r ih => simp only [lettersL, List.length_cons]; omega
theorem bulk_strs {H : Type} (ss : List ByteArray) : Rows.uptoBulkAll (strs (H := H) ss) = lettersL (ss.map fun s => s.data.toList) := by
  induction ss with
  | nil => rfl
  | cons s r ih =>
    show Rows.uptoBulkAll (DataW.lit (Lit.string s.data.toList) :: strs r) = _
    simp only [Rows.uptoBulkAll, Rows.uptoBulk, ih, List.map_cons, lettersL]

theorem open_u64s {H : Type} {enc : TypeId × Value → H} {W : World} {base : Nat} {v : Value} {d : DataW H} {p : List MemPlace} (hv : Value.okWide Try.prog W .any base 33 v)
    (h : DataW.Trod enc Try.prog W 0 (fun _ => true) true 33 v d p) : ∃ ns : List Nat, Sl W v 1 ns.length (ns.map u64V) ∧ (∀ n ∈ ns, U64 n) ∧ ns.length + 1 ≤ Rows.uptoBulk d := by
  obtain ⟨a0, len0, cap0, rfl⟩ := okWide_slice Try.underlying33 hv
  obtain ⟨fuel, hf⟩ := h
  rcases open_ints Try.underlying33 Try.underlying23 (by kernel_rfl) hf with ⟨hcs, hx⟩ | ⟨x, l, c, zs, hcs, _, hl, hm, hz, hx, hcell, hwz⟩
  · simp [Value.cells] at hcs
    obtain ⟨rfl, rfl, rfl⟩ := hcs
    exact ⟨[], Sl.none _ _, by simp, bulk_one _⟩
  · simp [Value.cells] at hcs
    obtain ⟨rfl, rfl, rfl⟩ := hcs
    simp only [if_true] at hz
    simp only [Prod.mk.injEq] at hx
    have hnat : ∀ z ∈ zs, ((z.toNat : Nat) : Int) = z ∧ U64 z.toNat := fun z hz => by
      obtain ⟨n, rfl, hu⟩ := u64_of_wf (hwz z hz)
      exact ⟨by simp, by simpa using hu⟩
    have hlen : ((zs.take len0).map Int.toNat).length = len0 := by simp; omega
    refine ⟨(zs.take len0).map Int.toNat, ?_, ?_, ?_⟩
    · rw [hlen]
      refine Sl.of_add (by simp; omega) (by omega) (by omega) (fun j hj => ?_)
      have hj' : j < len0 := by have h9 := hj; simp at h9; omega
      have h1 := hcell j (by omega)
      rw [h1]
      have hjz : j < zs.length := by omega
      have e := (hnat zs[j] (List.getElem_mem hjz)).1
      simp [u64V, List.getElem_take, e, hjz]
    · intro n hn
      simp only [List.mem_map] at hn
      obtain ⟨z, hz, rfl⟩ := hn
      exact (hnat z (List.mem_of_mem_take hz)).2
    · rw [hx.1, hlen]
      have h1 := bulk_slice (H := H) (lits IntKind.u64 (zs.take len0)) (lits IntKind.u64 (zs.drop len0))
      have h2 := bulk_len (H := H) (lits IntKind.u64 (zs.take len0))
      have h3 : (lits (H := H) IntKind.u64 (zs.take len0)).length = len0 := by simp [lits]; omega
      omega

theorem open_strs {H : Type} {enc : TypeId × Value → H} {W : World} {base : Nat} {v : Value} {d : DataW H} {p : List MemPlace} (hv : Value.okWide Try.prog W .any base 34 v)
    (h : DataW.Trod enc Try.prog W 0 (fun _ => true) true 34 v d p) : ∃ ss : List (List UInt8), Sl W v 1 ss.length (ss.map strV) ∧ lettersL ss + 1 ≤ Rows.uptoBulk d := by
  obtain ⟨a0, len0, cap0, rfl⟩ := okWide_slice Try.underlying34 hv
  obtain ⟨fuel, hf⟩ := h
  rcases open_strings Try.underlying34 Try.underlying9 (by kernel_rfl) hf with ⟨hcs, hx⟩ | ⟨x, l, c, ss, hcs, _, hl, hm, hz, hx, hcell, hwz⟩
  · simp [Value.cells] at hcs
    obtain ⟨rfl, rfl, rfl⟩ := hcs
    exact ⟨[], Sl.none _ _, bulk_one _⟩
  · simp [Value.cells] at hcs
    obtain ⟨rfl, rfl, rfl⟩ := hcs
    simp only [if_true] at hz
    simp only [Prod.mk.injEq] at hx
    have hlen : ((ss.take len0).map fun s => s.data.toList).length = len0 := by simp; omega
    refine ⟨(ss.take len0).map fun s => s.data.toList, ?_, ?_⟩
    · rw [hlen]
      refine Sl.of_add (by simp; omega) (by omega) (by omega) (fun j hj => ?_)
      have hj' : j < len0 := by have h9 := hj; simp at h9; omega
      have h1 := hcell j (by omega)
      rw [h1]
      have hjz : j < ss.length := by omega
      simp [strV, List.getElem_take, hjz]
    · rw [hx.1, ← bulk_strs (H := H)]
      exact bulk_slice _ _

/-- an ask's cells: what, and a number -/
def askC (a : Int × Int) : List Value := [.int .i64 a.1, .int .i64 a.2]
def I64 (n : Int) : Prop := -9223372036854775808 ≤ n ∧ n ≤ 9223372036854775807
theorem open_asks {H : Type} {enc : TypeId × Value → H} {W : World} {base : Nat} {v : Value} {d : DataW H} {p : List MemPlace} (hv : Value.okWide Try.prog W .any base 51 v)
    (h : DataW.Trod enc Try.prog W 0 (fun _ => true) true 51 v d p) : ∃ qs : List (Int × Int), Sl W v 2 qs.length (qs.flatMap askC) ∧ (∀ a ∈ qs, I64 a.1 ∧ I64 a.2) := by
  obtain ⟨qs, h1, h2, _⟩ := open_sl (P := Try.prog) Try.underlying51 2 (by kernel_rfl) (by omega) askC (fun _ => rfl) (fun a => I64 a.1 ∧ I64 a.2) (fun _ => 0) (fun _ => 0) (fun n cs x hx => by
    obtain ⟨ys, m, _, _, hcl, hf⟩ := trod_fields Try.underlying56 (by kernel_rfl) (by kernel_rfl) hx
    obtain ⟨c0, y0, e0, _, t0⟩ := hf 0 _ rfl
    obtain ⟨c1, y1, e1, _, t1⟩ := hf 1 _ rfl
    obtain ⟨K, k0, _, wk⟩ := DataW.trod_int Try.underlying3 t0
    obtain ⟨N, k1, _, wn⟩ := DataW.trod_int Try.underlying3 t1
    simp only [List.cons.injEq, and_true] at k0 k1
    subst k0; subst k1
    match cs, hcl with
    | [d0, d1], _ =>
      simp at e0 e1
      subst e0; subst e1
      exact ⟨(K, N), rfl, ⟨i64_of_wf wk, i64_of_wf wn⟩, Nat.zero_le _⟩) hv h
  exact ⟨qs, h1, h2⟩
end Go.Proofs.Ytpjhaecoeiimkaa
