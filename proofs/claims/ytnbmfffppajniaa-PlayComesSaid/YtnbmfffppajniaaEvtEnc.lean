/- CONTRACT: event.Encode. -/
import Derived.Test.YtnbmfffppajniaaEvtCheck
import Derived.Test.YtnbmfffppajniaaPgmEncP
import Derived.Deep.RegionHeld3
import Derived.Deep.QuietTactic
import Derived.BigQuiet
namespace Go.Proofs.Ytnbmfffppajniaa
open Go.RowKit
set_option linter.unusedVariables false
set_option linter.unusedSimpArgs false

end Go.Proofs.Ytnbmfffppajniaa
