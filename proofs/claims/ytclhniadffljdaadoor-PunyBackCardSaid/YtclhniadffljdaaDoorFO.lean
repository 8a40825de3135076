/- Towards the statement: a part of its frame. No condition. -/
import Derived.Test.YtclhniadffljdaaDoorRows
import Derived.Test.YtclhniadffljdaaDoorTie
import Derived.Test.YtclhniadffljdaaDoorCards
import Derived.Test.YtclhniadffljdaaDoorSe24
import Derived.Test.YtclhniadffljdaaDoorM
import Derived.Test.YtclhniadffljdaaDoorSe22
import Derived.OpenShut
import Derived.WalkKit
import Derived.ProofKit
import Derived.ChangeOld
import Derived.Below
import Derived.LaidMore
import Derived.LaidHandle
import Derived.SevenTiedAt
import Derived.ChangeMaps5
namespace Go.Proofs.YtclhniadffljdaaDoor
open Go Go.ChangeShapes Go.WideShapes Go.ChangeAt Go.RowKit Go.SE
set_option linter.unusedVariables false
theorem cT25 : Tryd.prog.cellsOf 25 = 1 := by kernel_rfl
theorem cT21 : Tryd.prog.cellsOf 21 = 1 := by kernel_rfl
theorem o21 : Opens Tryd.prog 21 (fun n : Int => AV.int .i32 n) (fun n : Int => (Lit.int .i32 n).wf = true) := opens_int Tryd.underlying21 cT21
def ok_L_i32 (l : (List Int)) : Prop := l.length ≤ maxLen ∧ ∀ j, j < l.length → (fun n : Int => (Lit.int .i32 n).wf = true) (l.getD j 0)
theorem o25 : Opens Tryd.prog 25 e_L_i32 ok_L_i32 := opens_list Tryd.underlying25 cT25 (by rw [cT21]; decide) o21 0
end Go.Proofs.YtclhniadffljdaaDoor
