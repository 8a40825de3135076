/- The law of Punycode's numbers. No condition. -/
import Derived.Test.YtclhniadffljdaaDoorPPnB
import Derived.Test.YtclhniadffljdaaDoorPPnW
namespace Go.Proofs.YtclhniadffljdaaDoor
open Go Go.SE
theorem law_punyNumbers (d many : Int) (first : Bool) : m_eponymlaw06_PunyNumbers d many first = some true := numbers d many first awake06
end Go.Proofs.YtclhniadffljdaaDoor
