/- CONTRACT: wherryref01.Get. -/
import Derived.Test.YtnbmfffppajniaaVaryRPut
import Derived.Deep.RegionHeld3
import Derived.WalkLawsBesides
namespace Go.Proofs.Ytnbmfffppajniaa
open Go.RowKit

end Go.Proofs.Ytnbmfffppajniaa
