/- The program, with what is told of its listed variables. No condition. -/
import Derived.Test.YtjhgaacecfmadaaDoorSe24
import Derived.Test.YtjhgaacecfmadaaDoorProg
namespace Go.Proofs.YtjhgaacecfmadaaDoor
open Go Go.SE
set_option linter.unusedVariables false
def gsL : List Nat := [6, 2, 7, 4, 5, 0, 3]
noncomputable def pl : PL := { toProgram := Tryd.prog, laid := ⟨207, gsL, []⟩ }
end Go.Proofs.YtjhgaacecfmadaaDoor
