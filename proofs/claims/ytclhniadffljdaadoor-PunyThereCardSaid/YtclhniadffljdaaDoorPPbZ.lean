/- PunyThere. No condition. -/
import Derived.Test.YtclhniadffljdaaDoorPPbE
import Derived.Test.YtclhniadffljdaaDoorPPnX
namespace Go.Proofs.YtclhniadffljdaaDoor
open Go Go.SE
theorem law_punyThere (s : ByteArray) : m_eponymlaw06_PunyThere s = some true := there awake06 s
end Go.Proofs.YtclhniadffljdaaDoor
