/- CONTRACT: wherryref01.Get. -/
import Derived.Test.YtdoblbiodpcjdaaVaryRPut
import Derived.Deep.RegionHeld3
import Derived.WalkLawsBesides
namespace Go.Proofs.Ytdoblbiodpcjdaa
open Go.RowKit
end Go.Proofs.Ytdoblbiodpcjdaa
