/- THE STATEMENT 'CompTexts': for every input the law returns true, and each argument reads afterwards as it read before; the listed variables are tied to the program's text. No condition but what the row lists. -/
import Derived.Test.YtjhgaacecfmadaaGreatDoorRows
import Derived.Test.YtjhgaacecfmadaaGreatDoorTie
import Derived.Test.YtjhgaacecfmadaaGreatDoorCards
import Derived.Test.YtjhgaacecfmadaaGreatDoorSe24
import Derived.Test.YtjhgaacecfmadaaGreatDoorK3
import Derived.Test.YtjhgaacecfmadaaGreatDoorPU6
import Derived.Test.YtjhgaacecfmadaaGreatDoorFR
import Derived.OpenShut
import Derived.WalkKit
import Derived.ProofKit
import Derived.ChangeOld
import Derived.Below
import Derived.LaidMore
import Derived.LaidHandle
import Derived.SevenTiedAt
namespace Go.Proofs.YtjhgaacecfmadaaGreatDoor
open Go Go.ChangeShapes Go.WideShapes Go.ChangeAt Go.RowKit Go.SE
set_option linter.unusedVariables false
theorem fc1 : Rows.compTextsRow.wfByText (OpenSpec.ofChange Rows.compTextsSpec) = true := by kernel_rfl
theorem fc2 : Tryz.pinned.checked.prog.mainIs = some ((true, "9ca45c2db855d9a3a816de44946be2dea30f1d4d0cc96dd490920aebdae4690c").1, (true, "9ca45c2db855d9a3a816de44946be2dea30f1d4d0cc96dd490920aebdae4690c").2.toList) := by kernel_rfl
theorem fc3 : Tryz.prog.funcNamed "eponym/eponymlaw05.CompTexts" = some 3 := by kernel_rfl
theorem fc4 : true = Tryz.pinned.checked.prog.looks [] := by kernel_rfl
theorem fc5 : ([26, 9].all fun u => !Tryz.prog.wantsStandIn u) = true := by kernel_rfl
theorem fc6 : false = Rows.compTextsRow.goesBy Tryz.pinned.checked.prog := by kernel_rfl
/-- THE STATEMENT: the tied card. -/
theorem compTexts_card : Rows.CompTextsCardSaid :=
  Claim7.holds_tied_plain_at .later [] [.handle, .sentinel, .sentinel, .sentinel, .sentinel, .sentinel, .sentinel, .sentinel, .sentinel, .sentinel, .sentinel, .sentinel, .sentinel, .sentinel, .sentinel, .sentinel, .sentinel, .sentinel, .sentinel] true (true, "9ca45c2db855d9a3a816de44946be2dea30f1d4d0cc96dd490920aebdae4690c") true
    compTexts_over (fun _ h => by cases h) fc1 (fun _ h => by cases h) compTexts_row_tie rfl ⟨rfl, rfl⟩ fc2 rfl
    (fun f fn hf hfn => by
      obtain rfl : f = 3 := Option.some.inj (fc3.symm.trans hf) |>.symm
      obtain rfl : fn = Tryz.f3 := (Option.some.inj (Tryz.func3.symm.trans hfn)).symm
      exact ⟨fc4, fun j t ht => by
        rw [Tryz.params3] at ht
        have hm : t ∈ [26, 9] := by simpa using Array.mem_of_getElem? ht
        exact (show Tryz.prog.wantsStandIn t = false by simpa using List.all_eq_true.1 fc5 t hm)⟩)
    fc6
#print axioms compTexts_card
end Go.Proofs.YtjhgaacecfmadaaGreatDoor
