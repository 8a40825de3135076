/- PunyEncodes. No condition. -/
import Derived.Test.YtclhniadffljdaaDoorPPeD
import Derived.Test.YtclhniadffljdaaDoorPPnX
namespace Go.Proofs.YtclhniadffljdaaDoor
open Go Go.SE
theorem law_punyEncodes (l : List Int) : m_eponymlaw06_PunyEncodes l = some true := encodes awake06 l
end Go.Proofs.YtclhniadffljdaaDoor
