/- CONTRACTS: wherryref01.Put, Int, Text; vary.Text. -/
import Derived.Test.YtnbmfffppajniaaVaryPut
import Derived.WalkLawsBesides
namespace Go.Proofs.Ytnbmfffppajniaa
open Go.RowKit

/-- a text's bytes: its length, then itself -/
def textL (l : List UInt8) : List UInt8 := putL l.length ++ l

end Go.Proofs.Ytnbmfffppajniaa
