/- The program, with what is told of its listed variables. No condition. -/
import Derived.Test.YtclhniadffljdaaSe25
import Derived.Test.YtclhniadffljdaaProg
namespace Go.Proofs.Ytclhniadffljdaa
open Go Go.SE
set_option linter.unusedVariables false
def gsL : List Nat := []
noncomputable def pl : PL := { toProgram := Try.prog, laid := ⟨0, gsL, []⟩ }
end Go.Proofs.Ytclhniadffljdaa
