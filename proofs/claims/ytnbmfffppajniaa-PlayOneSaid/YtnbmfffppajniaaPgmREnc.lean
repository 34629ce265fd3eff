/- CONTRACT: the reference's Encode. -/
import Derived.Test.YtnbmfffppajniaaPgmEncP
namespace Go.Proofs.Ytnbmfffppajniaa
open Go.RowKit
set_option linter.unusedVariables false

end Go.Proofs.Ytnbmfffppajniaa
