/- PunyBack. No condition. -/
import Derived.Test.YtclhniadffljdaaDoorPPbD
import Derived.Test.YtclhniadffljdaaDoorPPnX
namespace Go.Proofs.YtclhniadffljdaaDoor
open Go Go.SE
theorem law_punyBack (l : List Int) : m_eponymlaw06_PunyBack l = some true := back awake06 l
end Go.Proofs.YtclhniadffljdaaDoor
