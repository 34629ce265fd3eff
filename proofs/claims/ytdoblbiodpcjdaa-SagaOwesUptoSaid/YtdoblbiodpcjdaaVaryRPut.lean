/- CONTRACTS: wherryref01.Put, Int, Text; vary.Text. -/
import Derived.Test.YtdoblbiodpcjdaaVaryPut
import Derived.WalkLawsBesides
namespace Go.Proofs.Ytdoblbiodpcjdaa
open Go.RowKit
def textL (l : List UInt8) : List UInt8 := putL l.length ++ l
end Go.Proofs.Ytdoblbiodpcjdaa
