/- CONTRACT: the reference's Decode. -/
import Derived.Test.YtnbmfffppajniaaPgmDec
import Derived.Test.YtnbmfffppajniaaRTextFull
namespace Go.Proofs.Ytnbmfffppajniaa
open Go.RowKit
set_option linter.unusedVariables false

end Go.Proofs.Ytnbmfffppajniaa
