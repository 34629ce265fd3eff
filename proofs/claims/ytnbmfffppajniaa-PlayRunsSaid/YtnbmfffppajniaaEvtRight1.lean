/- CONTRACT: the reference's Right. -/
import Derived.Test.YtnbmfffppajniaaEvtEnc
import Derived.Test.YtnbmfffppajniaaPgmRDec
namespace Go.Proofs.Ytnbmfffppajniaa
open Go.RowKit
set_option linter.unusedVariables false
set_option linter.unusedSimpArgs false

end Go.Proofs.Ytnbmfffppajniaa
