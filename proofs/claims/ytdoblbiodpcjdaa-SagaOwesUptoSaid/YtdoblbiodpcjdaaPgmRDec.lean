/- CONTRACT: the reference's Decode. -/
import Derived.Test.YtdoblbiodpcjdaaPgmDec
import Derived.Test.YtdoblbiodpcjdaaRTextFull
namespace Go.Proofs.Ytdoblbiodpcjdaa
open Go.RowKit
set_option linter.unusedVariables false
end Go.Proofs.Ytdoblbiodpcjdaa
