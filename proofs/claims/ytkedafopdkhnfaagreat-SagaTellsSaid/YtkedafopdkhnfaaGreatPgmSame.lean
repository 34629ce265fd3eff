/- CONTRACT: the reference's Same. -/
import Derived.Test.YtkedafopdkhnfaaGreatPgmCheck
import Derived.Deep.QuietTactic
import Derived.BigQuiet
namespace Go.Proofs.YtkedafopdkhnfaaGreat
open Go.RowKit
set_option linter.unusedVariables false
end Go.Proofs.YtkedafopdkhnfaaGreat
