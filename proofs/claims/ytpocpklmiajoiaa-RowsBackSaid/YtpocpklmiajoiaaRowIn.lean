/- THE WALKS of RowsBytes, RowsBack, as the frames want them. -/
import Derived.Test.YtpocpklmiajoiaaRowOpen
import Derived.Test.YtpocpklmiajoiaaRowBack
namespace Go.Proofs.Ytpocpklmiajoiaa
open Go.RowKit

theorem rowsBytes_w (v : Value) (k : Int) (nm : List UInt8) (r t n : Int) (host s : List UInt8) (hnm : nm.length ≤ 140737488351232) (hh : host.length ≤ 140737488351232) (hs : s.length ≤ 140737488351232) (w : World)
    (e : v = .agg #[.int .i64 k, .string ⟨nm.toArray⟩, .int .i64 r, .int .i64 t, .int .i64 n, .string ⟨host.toArray⟩, .string ⟨s.toArray⟩]) :
    Calls Try.prog 4 #[v] w fun e w' => e = .returned (.bool true) ∧ Below w.heap.size w w' := by
  rw [e]; exact rowsBytes_walk k nm r t n host s hnm hh hs w
theorem rowsBack_w (v : Value) (k : Int) (nm : List UInt8) (r t : Int) (hnm : nm.length ≤ 140737488351232) (n : Int) (_hn : -9223372036854775808 ≤ n ∧ n ≤ 9223372036854775807) (host : List UInt8) (hh : host.length ≤ 140737488351232) (w : World)
    (e : v = .agg #[.int .i64 k, .string ⟨nm.toArray⟩, .int .i64 r, .int .i64 t]) :
    Calls Try.prog 5 #[v, .int .i64 n, .string ⟨host.toArray⟩] w fun e w' => e = .returned (.bool true) ∧ Below w.heap.size w w' := by
  rw [e]; exact rowsBack_walk k nm r t n host hnm hh w
end Go.Proofs.Ytpocpklmiajoiaa
