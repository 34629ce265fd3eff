/- CONTRACT: event.Encode. -/
import Derived.Test.YtdoblbiodpcjdaaEvtCheck
import Derived.Test.YtdoblbiodpcjdaaPgmEncP
import Derived.Deep.RegionHeld3
import Derived.Deep.QuietTactic
import Derived.BigQuiet
namespace Go.Proofs.Ytdoblbiodpcjdaa
open Go.RowKit
set_option linter.unusedVariables false
set_option linter.unusedSimpArgs false
end Go.Proofs.Ytdoblbiodpcjdaa
