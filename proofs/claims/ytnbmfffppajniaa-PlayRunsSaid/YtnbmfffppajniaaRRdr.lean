/- CONTRACTS: the methods of wherryref01.Reader, over a reader of the call's own (block g); whoever is bad has nothing left. -/
import Derived.Test.YtnbmfffppajniaaRdr
import Derived.Test.YtnbmfffppajniaaVaryRGet
namespace Go.Proofs.Ytnbmfffppajniaa
open Go.RowKit

end Go.Proofs.Ytnbmfffppajniaa
