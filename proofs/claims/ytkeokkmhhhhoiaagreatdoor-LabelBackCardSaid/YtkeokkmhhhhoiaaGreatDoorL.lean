import Derived.Test.YtkeokkmhhhhoiaaGreatDoorSe27
import Derived.Test.YtkeokkmhhhhoiaaGreatDoorProg
namespace Go.Proofs.YtkeokkmhhhhoiaaGreatDoor
open Go Go.SE
set_option linter.unusedVariables false
def gsL:List Nat:= [7,11,6,12,13,14,15,16,17,3,4,5,2,1,8,0,9,18]
noncomputable def pl:PL:= { toProgram:=Tryz.prog,laid:=⟨270,gsL,[(10, .iface 177 (.agg #[.pointer (some ⟨20,37,none⟩)]))]⟩ }
def TR (x:Er):Option (Int×Er):=match x with| .box t n e=>if t=70 then some (n,e)else none|_=>none
def QL (x z:Er):Option Bool:=match x,z with| .nil, .sent g'=>if g'∈gsL then some false else none| .box t n (.sent g), .sent g'=>if t=70/\g∈gsL/\g'∈gsL then some (g==g')else none|_,_=>none
end Go.Proofs.YtkeokkmhhhhoiaaGreatDoor
