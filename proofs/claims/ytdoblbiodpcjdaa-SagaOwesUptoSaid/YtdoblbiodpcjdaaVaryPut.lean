/- CONTRACT: vary.Put: the bytes of a number of 64 bits, whatever it is. -/
import Derived.Test.YtdoblbiodpcjdaaProg
import Derived.Test.YtdoblbiodpcjdaaVaryPlain
import Derived.Test.YtdoblbiodpcjdaaBytes
import Derived.WalkKit
import Derived.WalkSpells
import Derived.Outline
namespace Go.Proofs.Ytdoblbiodpcjdaa
open Go.RowKit
end Go.Proofs.Ytdoblbiodpcjdaa
