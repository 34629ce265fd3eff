/- CONTRACT: vary.Put: the bytes of a number of 64 bits, whatever it is. -/
import Derived.Test.YtdoblbiodpcjdaaGreatProg
import Derived.Test.YtdoblbiodpcjdaaGreatVaryPlain
import Derived.Test.YtdoblbiodpcjdaaGreatBytes
import Derived.WalkKit
import Derived.WalkSpells
import Derived.Outline
namespace Go.Proofs.YtdoblbiodpcjdaaGreat
open Go.RowKit
theorem zSu : (Tryz.prog.info? 5).map (fun i => (i.zero, i.size, i.bytes)) = some (some (.int .u8 0), 1, 1) := by kernel_rfl
end Go.Proofs.YtdoblbiodpcjdaaGreat
