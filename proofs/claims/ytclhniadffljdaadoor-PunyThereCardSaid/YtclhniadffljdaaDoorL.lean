/- The program, with what is told of its listed variables. No condition. -/
import Derived.Test.YtclhniadffljdaaDoorSe26
import Derived.Test.YtclhniadffljdaaDoorProg
namespace Go.Proofs.YtclhniadffljdaaDoor
open Go Go.SE
set_option linter.unusedVariables false
def gsL : List Nat := [5, 9, 4, 3, 0, 7, 2, 10, 11, 12, 13, 14, 15, 16, 17, 6, 18, 1]
noncomputable def pl : PL := { toProgram := Tryd.prog, laid := ⟨170, gsL, [(8, .iface 132 (.agg #[.pointer (some ⟨20, 29, none⟩)]))]⟩ }
/-- errors.As at a pointer to a Fault: what it finds. -/
def m_errors_As (x : Er) : Option (Int × Er) := match x with | .box t n e => if t = 62 then some (n, e) else none | _ => none
/-- errors.Is of a Fault around a listed error. -/
def m_errors_Is (x z : Er) : Option Bool := match x, z with | .box t n (.sent g), .sent g' => if t = 62 ∧ g ∈ gsL ∧ g' ∈ gsL then some (g == g') else none | _, _ => none
end Go.Proofs.YtclhniadffljdaaDoor
