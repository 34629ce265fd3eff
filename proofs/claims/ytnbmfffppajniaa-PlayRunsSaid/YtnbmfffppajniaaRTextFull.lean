/- CONTRACT: the reference's Reader.Text, at whatever length. -/
import Derived.Test.YtnbmfffppajniaaRdrPlain
namespace Go.Proofs.Ytnbmfffppajniaa
open Go.RowKit
set_option linter.unusedVariables false

end Go.Proofs.Ytnbmfffppajniaa
