/- Towards the statement: a part of its frame. No condition. -/
import Derived.Test.YtclhniadffljdaaDoorRows
import Derived.Test.YtclhniadffljdaaDoorTie
import Derived.Test.YtclhniadffljdaaDoorCards
import Derived.Test.YtclhniadffljdaaDoorSe24
import Derived.Test.YtclhniadffljdaaDoorM
import Derived.Test.YtclhniadffljdaaDoorSe22
import Derived.OpenShut
import Derived.WalkKit
import Derived.ProofKit
import Derived.ChangeOld
import Derived.Below
import Derived.LaidMore
import Derived.LaidHandle
import Derived.SevenTiedAt
import Derived.ChangeMaps5
namespace Go.Proofs.YtclhniadffljdaaDoor
open Go Go.ChangeShapes Go.WideShapes Go.ChangeAt Go.RowKit Go.SE
set_option linter.unusedVariables false
theorem cT9 : Tryd.prog.cellsOf 9 = 1 := by kernel_rfl
theorem o9 : Opens Tryd.prog 9 (fun s : ByteArray => AV.str s) (fun s : ByteArray => s.size ≤ maxLen) := opens_string Tryd.underlying9 cT9
end Go.Proofs.YtclhniadffljdaaDoor
