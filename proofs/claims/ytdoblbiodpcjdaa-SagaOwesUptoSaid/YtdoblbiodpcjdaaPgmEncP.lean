/- A PROGRAM's BYTES, step by step. -/
import Derived.Test.YtdoblbiodpcjdaaPgmCheck
import Derived.Test.YtdoblbiodpcjdaaHeld
import Derived.Deep.RegionHeld3
import Derived.Deep.QuietTactic
import Derived.BigQuiet
namespace Go.Proofs.Ytdoblbiodpcjdaa
open Go.RowKit
set_option linter.unusedVariables false
end Go.Proofs.Ytdoblbiodpcjdaa
