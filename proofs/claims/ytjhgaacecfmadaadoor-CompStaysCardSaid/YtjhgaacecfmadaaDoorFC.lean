/- THE STATEMENT 'CompStays': for every input the law returns true, and each argument reads afterwards as it read before; the listed variables are tied to the program's text. No condition but what the row lists. -/
import Derived.Test.YtjhgaacecfmadaaDoorRows
import Derived.Test.YtjhgaacecfmadaaDoorTie
import Derived.Test.YtjhgaacecfmadaaDoorCards
import Derived.Test.YtjhgaacecfmadaaDoorSe24
import Derived.Test.YtjhgaacecfmadaaDoorK2
import Derived.Test.YtjhgaacecfmadaaDoorPCStaysL
import Derived.Test.YtjhgaacecfmadaaDoorFR
import Derived.OpenShut
import Derived.WalkKit
import Derived.ProofKit
import Derived.ChangeOld
import Derived.Below
import Derived.LaidMore
import Derived.LaidHandle
import Derived.SevenTiedAt
namespace Go.Proofs.YtjhgaacecfmadaaDoor
open Go Go.ChangeShapes Go.WideShapes Go.ChangeAt Go.RowKit Go.SE
set_option linter.unusedVariables false
theorem fc1 : Rows.compStaysRow.wfByText (OpenSpec.ofChange Rows.compStaysSpec) = true := by kernel_rfl
theorem fc2 : Tryd.pinned.checked.prog.mainIs = some ((true, "7bede78d00c4cdd5d533e047a33d9230bc718a783d3f63241c7f983115507577").1, (true, "7bede78d00c4cdd5d533e047a33d9230bc718a783d3f63241c7f983115507577").2.toList) := by kernel_rfl
theorem fc3 : Tryd.prog.funcNamed "eponym/eponymlaw05.CompStays" = some 17 := by kernel_rfl
theorem fc4 : true = Tryd.pinned.checked.prog.looks [] := by kernel_rfl
theorem fc5 : ([40, 32].all fun u => !Tryd.prog.wantsStandIn u) = true := by kernel_rfl
theorem fc6 : false = Rows.compStaysRow.goesBy Tryd.pinned.checked.prog := by kernel_rfl
/-- THE STATEMENT: the tied card. -/
theorem compStays_card : Rows.CompStaysCardSaid :=
  Claim7.holds_tied_plain_at .later [] [.sentinel, .sentinel, .sentinel, .sentinel, .sentinel, .sentinel, .sentinel] true (true, "7bede78d00c4cdd5d533e047a33d9230bc718a783d3f63241c7f983115507577") true
    compStays_over (fun _ h => by cases h) fc1 (fun _ h => by cases h) compStays_row_tie rfl ⟨rfl, rfl⟩ fc2 rfl
    (fun f fn hf hfn => by
      obtain rfl : f = 17 := Option.some.inj (fc3.symm.trans hf) |>.symm
      obtain rfl : fn = Tryd.f17 := (Option.some.inj (Tryd.func17.symm.trans hfn)).symm
      exact ⟨fc4, fun j t ht => by
        rw [Tryd.params17] at ht
        have hm : t ∈ [40, 32] := by simpa using Array.mem_of_getElem? ht
        exact (show Tryd.prog.wantsStandIn t = false by simpa using List.all_eq_true.1 fc5 t hm)⟩)
    fc6
#print axioms compStays_card
end Go.Proofs.YtjhgaacecfmadaaDoor
