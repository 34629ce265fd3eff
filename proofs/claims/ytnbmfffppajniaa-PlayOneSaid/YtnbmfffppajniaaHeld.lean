/- A NUMBER THAT IS TURNED ON ITS WAY; cells that stay. -/
import Derived.Test.YtnbmfffppajniaaVaryPut
import Derived.Test.YtnbmfffppajniaaObj
import Derived.Test.YtnbmfffppajniaaFrames
namespace Go.Proofs.Ytnbmfffppajniaa
open Go.RowKit
set_option linter.unusedVariables false

end Go.Proofs.Ytnbmfffppajniaa
