/- CONTRACT: the reference's Right, Encode. -/
import Derived.Test.YtdoblbiodpcjdaaEvtRight1
namespace Go.Proofs.Ytdoblbiodpcjdaa
open Go.RowKit
set_option linter.unusedVariables false
end Go.Proofs.Ytdoblbiodpcjdaa
