/- CONTRACT: the reference's Same. -/
import Derived.Test.YtdoblbiodpcjdaaPgmCheck
import Derived.Deep.QuietTactic
import Derived.BigQuiet
namespace Go.Proofs.Ytdoblbiodpcjdaa
open Go.RowKit
set_option linter.unusedVariables false
end Go.Proofs.Ytdoblbiodpcjdaa
