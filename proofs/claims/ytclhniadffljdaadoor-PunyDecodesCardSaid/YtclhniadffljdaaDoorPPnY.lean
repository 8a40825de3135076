/- The law of Punycode read. No condition. -/
import Derived.Test.YtclhniadffljdaaDoorPPnJ
import Derived.Test.YtclhniadffljdaaDoorPPnX
namespace Go.Proofs.YtclhniadffljdaaDoor
open Go Go.SE
theorem law_punyDecodes (s : ByteArray) : m_eponymlaw06_PunyDecodes s = some true := decodes awake06 s
end Go.Proofs.YtclhniadffljdaaDoor
