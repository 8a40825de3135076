/- Towards the statement: a part of its frame. No condition. -/
import Derived.Test.YtclhniadffljdaaDoorRows
import Derived.Test.YtclhniadffljdaaDoorTie
import Derived.Test.YtclhniadffljdaaDoorCards
import Derived.Test.YtclhniadffljdaaDoorSe24
import Derived.Test.YtclhniadffljdaaDoorM
import Derived.Test.YtclhniadffljdaaDoorSe22
import Derived.OpenShut
import Derived.WalkKit
import Derived.ProofKit
import Derived.ChangeOld
import Derived.Below
import Derived.LaidMore
import Derived.LaidHandle
import Derived.SevenTiedAt
import Derived.ChangeMaps5
namespace Go.Proofs.YtclhniadffljdaaDoor
open Go Go.ChangeShapes Go.WideShapes Go.ChangeAt Go.RowKit Go.SE
set_option linter.unusedVariables false
theorem cT3 : Tryd.prog.cellsOf 3 = 1 := by kernel_rfl
theorem o3 : Opens Tryd.prog 3 (fun n : Int => AV.int .i64 n) (fun n : Int => (Lit.int .i64 n).wf = true) := opens_int Tryd.underlying3 cT3
theorem cT4 : Tryd.prog.cellsOf 4 = 1 := by kernel_rfl
theorem o4 : Opens Tryd.prog 4 (fun b : Bool => AV.bool b) (fun _ : Bool => True) := opens_bool Tryd.underlying4 cT4
end Go.Proofs.YtclhniadffljdaaDoor
