/- CONTRACT: the reference's Reader.Text, at whatever length. -/
import Derived.Test.YtdoblbiodpcjdaaRdrPlain
namespace Go.Proofs.Ytdoblbiodpcjdaa
open Go.RowKit
set_option linter.unusedVariables false
end Go.Proofs.Ytdoblbiodpcjdaa
