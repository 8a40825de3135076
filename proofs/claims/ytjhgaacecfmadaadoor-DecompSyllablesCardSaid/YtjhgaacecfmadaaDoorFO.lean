/- Towards the statement: a part of its frame. No condition. -/
import Derived.Test.YtjhgaacecfmadaaDoorRows
import Derived.Test.YtjhgaacecfmadaaDoorTie
import Derived.Test.YtjhgaacecfmadaaDoorCards
import Derived.Test.YtjhgaacecfmadaaDoorSe24
import Derived.Test.YtjhgaacecfmadaaDoorM
import Derived.Test.YtjhgaacecfmadaaDoorSe22
import Derived.OpenShut
import Derived.WalkKit
import Derived.ProofKit
import Derived.ChangeOld
import Derived.Below
import Derived.LaidMore
import Derived.LaidHandle
import Derived.SevenTiedAt
namespace Go.Proofs.YtjhgaacecfmadaaDoor
open Go Go.ChangeShapes Go.WideShapes Go.ChangeAt Go.RowKit Go.SE
set_option linter.unusedVariables false
theorem cT3 : Tryd.prog.cellsOf 3 = 1 := by kernel_rfl
theorem o3 : Opens Tryd.prog 3 (fun n : Int => AV.int .i64 n) (fun n : Int => (Lit.int .i64 n).wf = true) := opens_int Tryd.underlying3 cT3
end Go.Proofs.YtjhgaacecfmadaaDoor
