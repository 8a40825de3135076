/- The program, with what is told of its listed variables. No condition. -/
import Derived.Test.YtjhgaacecfmadaaGreatDoorSe24
import Derived.Test.YtjhgaacecfmadaaGreatDoorProg
namespace Go.Proofs.YtjhgaacecfmadaaGreatDoor
open Go Go.SE
set_option linter.unusedVariables false
def gsL : List Nat := [2, 3, 4, 0, 5, 6, 7, 8, 9, 10, 11, 12, 13, 14, 15, 16, 17, 18]
noncomputable def pl : PL := { toProgram := Tryz.prog, laid := ⟨138, gsL, [(1, .iface 106 (.agg #[.pointer (some ⟨19, 30, none⟩)]))]⟩ }
/-- errors.As at a pointer to a Fault: what it finds. -/
def m_errors_As (x : Er) : Option (Int × Er) := match x with | .box t n e => if t = 51 then some (n, e) else none | _ => none
/-- errors.Is of a Fault around a listed error. -/
def m_errors_Is (x z : Er) : Option Bool := match x, z with | .box t n (.sent g), .sent g' => if t = 51 ∧ g ∈ gsL ∧ g' ∈ gsL then some (g == g') else none | _, _ => none
end Go.Proofs.YtjhgaacecfmadaaGreatDoor
