/- A NUMBER THAT IS TURNED ON ITS WAY; cells that stay. -/
import Derived.Test.YtdoblbiodpcjdaaVaryPut
import Derived.Test.YtdoblbiodpcjdaaObj
import Derived.Test.YtdoblbiodpcjdaaFrames
namespace Go.Proofs.Ytdoblbiodpcjdaa
open Go.RowKit
set_option linter.unusedVariables false
end Go.Proofs.Ytdoblbiodpcjdaa
