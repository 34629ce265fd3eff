/- CONTRACT: the reference's Right, Encode. -/
import Derived.Test.YtnbmfffppajniaaEvtRight1
namespace Go.Proofs.Ytnbmfffppajniaa
open Go.RowKit
set_option linter.unusedVariables false

end Go.Proofs.Ytnbmfffppajniaa
