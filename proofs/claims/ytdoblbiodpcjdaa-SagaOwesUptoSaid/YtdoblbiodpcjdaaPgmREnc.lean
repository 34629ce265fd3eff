/- CONTRACT: the reference's Encode. -/
import Derived.Test.YtdoblbiodpcjdaaPgmEncP
namespace Go.Proofs.Ytdoblbiodpcjdaa
open Go.RowKit
set_option linter.unusedVariables false
end Go.Proofs.Ytdoblbiodpcjdaa
