/- The program, with what is told of its listed variables. No condition. -/
import Derived.Test.YtjhgaacecfmadaaDoorSe24
import Derived.Test.YtjhgaacecfmadaaDoorProg
namespace Go.Proofs.YtjhgaacecfmadaaDoor
open Go Go.SE
set_option linter.unusedVariables false
def gsL : List Nat := [9, 10, 11, 6, 2, 7, 4, 12, 5, 13, 14, 1, 15, 16, 17, 18, 0, 3]
noncomputable def pl : PL := { toProgram := Tryd.prog, laid := ⟨207, gsL, [(8, .iface 178 (.agg #[.pointer (some ⟨19, 28, none⟩)]))]⟩ }
/-- errors.As at a pointer to a Fault: what it finds. -/
def m_errors_As (x : Er) : Option (Int × Er) := match x with | .box t n e => if t = 89 then some (n, e) else none | _ => none
/-- errors.Is of a Fault around a listed error. -/
def m_errors_Is (x z : Er) : Option Bool := match x, z with | .box t n (.sent g), .sent g' => if t = 89 ∧ g ∈ gsL ∧ g' ∈ gsL then some (g == g') else none | _, _ => none
end Go.Proofs.YtjhgaacecfmadaaDoor
