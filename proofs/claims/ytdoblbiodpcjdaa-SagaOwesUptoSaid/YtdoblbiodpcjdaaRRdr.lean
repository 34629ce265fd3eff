/- CONTRACTS: the methods of wherryref01.Reader, over a reader of the call's own (block g); whoever is bad has nothing left. -/
import Derived.Test.YtdoblbiodpcjdaaRdr
import Derived.Test.YtdoblbiodpcjdaaVaryRGet
namespace Go.Proofs.Ytdoblbiodpcjdaa
open Go.RowKit
end Go.Proofs.Ytdoblbiodpcjdaa
