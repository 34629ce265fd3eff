/- A PROGRAM's BYTES, step by step. -/
import Derived.Test.YtnbmfffppajniaaPgmCheck
import Derived.Test.YtnbmfffppajniaaHeld
import Derived.Deep.RegionHeld3
import Derived.Deep.QuietTactic
import Derived.BigQuiet
namespace Go.Proofs.Ytnbmfffppajniaa
open Go.RowKit
set_option linter.unusedVariables false

end Go.Proofs.Ytnbmfffppajniaa
