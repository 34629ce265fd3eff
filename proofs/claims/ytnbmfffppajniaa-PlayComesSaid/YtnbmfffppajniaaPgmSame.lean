/- CONTRACT: the reference's Same. -/
import Derived.Test.YtnbmfffppajniaaPgmCheck
import Derived.Deep.QuietTactic
import Derived.BigQuiet
namespace Go.Proofs.Ytnbmfffppajniaa
open Go.RowKit
set_option linter.unusedVariables false

end Go.Proofs.Ytnbmfffppajniaa
