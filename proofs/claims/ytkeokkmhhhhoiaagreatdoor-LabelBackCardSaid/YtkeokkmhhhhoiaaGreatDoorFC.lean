import Derived.Test.YtkeokkmhhhhoiaaGreatDoorRows
import Derived.Test.YtkeokkmhhhhoiaaGreatDoorTie
import Derived.Test.YtkeokkmhhhhoiaaGreatDoorCards
import Derived.Test.YtkeokkmhhhhoiaaGreatDoorSe24
import Derived.Test.YtkeokkmhhhhoiaaGreatDoorK2
import Derived.Test.YtkeokkmhhhhoiaaGreatDoorPLd
import Derived.Test.YtkeokkmhhhhoiaaGreatDoorFR
import Derived.OpenShut
import Derived.WalkKit
import Derived.ProofKit
import Derived.ChangeOld
import Derived.Below
import Derived.LaidMore
import Derived.LaidHandle
import Derived.SevenTiedAt
import Derived.ChangeMaps5
namespace Go.Proofs.YtkeokkmhhhhoiaaGreatDoor
open Go Go.ChangeShapes Go.WideShapes Go.ChangeAt Go.RowKit Go.SE
set_option linter.unusedVariables false
theorem fc1:Rows.labelBackRow.wfByText (OpenSpec.ofChange Rows.labelBackSpec)=true:=by kernel_rfl
theorem fc2:Tryz.pinned.checked.prog.mainIs=some ((true,"bdd68c5d6f13cc261eebd82d28eb8800b5296c1e1b3a0dd3749b83ec7b44505b").1,(true,"bdd68c5d6f13cc261eebd82d28eb8800b5296c1e1b3a0dd3749b83ec7b44505b").2.toList):=by kernel_rfl
theorem fc3:Tryz.prog.funcNamed "eponym/eponymlaw10.LabelBack" =some 7:=by kernel_rfl
theorem fc4:true=Tryz.pinned.checked.prog.looks []:=by kernel_rfl
theorem fc5:([31,24,9].all fun u=> !Tryz.prog.wantsStandIn u)=true:=by kernel_rfl
theorem fc6:false=Rows.labelBackRow.goesBy Tryz.pinned.checked.prog:=by kernel_rfl
theorem labelBack_card:Rows.LabelBackCardSaid:=
 Claim7.holds_tied_plain_at .later [] [.handle, .sentinel, .sentinel, .sentinel, .sentinel, .sentinel, .sentinel, .sentinel, .sentinel, .sentinel, .sentinel, .sentinel, .sentinel, .sentinel, .sentinel, .sentinel, .sentinel, .sentinel, .sentinel] true (true,"bdd68c5d6f13cc261eebd82d28eb8800b5296c1e1b3a0dd3749b83ec7b44505b") true
  kL (fun _ h=>by cases h) fc1 (fun _ h=>by cases h) labelBack_row_tie rfl ⟨rfl,rfl⟩ fc2 rfl
  (fun f fn hf hfn=>by
    obtain rfl:f=7:=Option.some.inj (fc3.symm.trans hf) |>.symm
    obtain rfl:fn=Tryz.f7:=(Option.some.inj (Tryz.func7.symm.trans hfn)).symm
    exact⟨fc4,fun j t ht=>by
     rw[Tryz.params7]at ht
     have hm:t∈ [31,24,9]:=by simpa using Array.mem_of_getElem? ht
     exact(show Tryz.prog.wantsStandIn t=false by simpa using List.all_eq_true.1 fc5 t hm)⟩)
  fc6
#print axioms labelBack_card
end Go.Proofs.YtkeokkmhhhhoiaaGreatDoor
