/- CONTRACT: vary.Reader.Bad. -/
import Derived.Test.YtfdbcnpbjabjoaaRdr
namespace Go.Proofs.Ytfdbcnpbjabjoaa
open Go.RowKit

theorem bad_any (g : Nat) (r : List UInt8) (b : Bool) (w : World) (h : Rdr w g r b) :
    Calls Try.prog 78 #[.pointer (some ⟨g, 0, none⟩)] w fun e w' => e = .returned (.bool b) ∧ w' = w := by
  have c0 := h.c0; have c1 := h.c1
  go_enter Try.func78, Try.ntmps78
  go_wp2_with fail
  go_ret
  exact ⟨rfl, rfl⟩
end Go.Proofs.Ytfdbcnpbjabjoaa
