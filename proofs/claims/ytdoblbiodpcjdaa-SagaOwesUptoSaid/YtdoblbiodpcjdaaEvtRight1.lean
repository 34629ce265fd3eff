/- CONTRACT: the reference's Right. -/
import Derived.Test.YtdoblbiodpcjdaaEvtEnc
import Derived.Test.YtdoblbiodpcjdaaPgmRDec
namespace Go.Proofs.Ytdoblbiodpcjdaa
open Go.RowKit
set_option linter.unusedVariables false
set_option linter.unusedSimpArgs false
end Go.Proofs.Ytdoblbiodpcjdaa
