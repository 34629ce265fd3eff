/- CONTRACT: vary.Put: the bytes of a number of 64 bits, whatever it is. -/
import Derived.Test.YtnbmfffppajniaaProg
import Derived.Test.YtnbmfffppajniaaVaryPlain
import Derived.Test.YtnbmfffppajniaaBytes
import Derived.WalkKit
import Derived.WalkSpells
import Derived.Outline
namespace Go.Proofs.Ytnbmfffppajniaa
open Go.RowKit

end Go.Proofs.Ytnbmfffppajniaa
