/- CONTRACT: the reference's Same. -/
import Derived.Test.YtdoblbiodpcjdaaGreatPgmCheck
import Derived.Deep.QuietTactic
import Derived.BigQuiet
namespace Go.Proofs.YtdoblbiodpcjdaaGreat
open Go.RowKit
set_option linter.unusedVariables false
end Go.Proofs.YtdoblbiodpcjdaaGreat
