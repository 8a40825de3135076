/- THE STATEMENT 'PunyThere': for every input the law returns true, and each argument reads afterwards as it read before; the listed variables are tied to the program's text. No condition but what the row lists. -/
import Derived.Test.YtclhniadffljdaaDoorRows
import Derived.Test.YtclhniadffljdaaDoorTie
import Derived.Test.YtclhniadffljdaaDoorCards
import Derived.Test.YtclhniadffljdaaDoorSe24
import Derived.Test.YtclhniadffljdaaDoorK2
import Derived.Test.YtclhniadffljdaaDoorPPbZ
import Derived.Test.YtclhniadffljdaaDoorFR
import Derived.OpenShut
import Derived.WalkKit
import Derived.ProofKit
import Derived.ChangeOld
import Derived.Below
import Derived.LaidMore
import Derived.LaidHandle
import Derived.SevenTiedAt
import Derived.ChangeMaps5
namespace Go.Proofs.YtclhniadffljdaaDoor
open Go Go.ChangeShapes Go.WideShapes Go.ChangeAt Go.RowKit Go.SE
set_option linter.unusedVariables false
theorem fc1 : Rows.punyThereRow.wfByText (OpenSpec.ofChange Rows.punyThereSpec) = true := by kernel_rfl
theorem fc2 : Tryd.pinned.checked.prog.mainIs = some ((true, "eda40858b06087ea1813162da14972dc11fd4334c7d8b94747388e2e77256d3a").1, (true, "eda40858b06087ea1813162da14972dc11fd4334c7d8b94747388e2e77256d3a").2.toList) := by kernel_rfl
theorem fc3 : Tryd.prog.funcNamed "eponym/eponymlaw06.PunyThere" = some 8 := by kernel_rfl
theorem fc4 : true = Tryd.pinned.checked.prog.looks [] := by kernel_rfl
theorem fc5 : ([9].all fun u => !Tryd.prog.wantsStandIn u) = true := by kernel_rfl
theorem fc6 : false = Rows.punyThereRow.goesBy Tryd.pinned.checked.prog := by kernel_rfl
/-- THE STATEMENT: the tied card. -/
theorem punyThere_card : Rows.PunyThereCardSaid :=
  Claim7.holds_tied_plain_at .later [] [.handle, .sentinel, .sentinel, .sentinel, .sentinel, .sentinel, .sentinel, .sentinel, .sentinel, .sentinel, .sentinel, .sentinel, .sentinel, .sentinel, .sentinel, .sentinel, .sentinel, .sentinel, .sentinel] true (true, "eda40858b06087ea1813162da14972dc11fd4334c7d8b94747388e2e77256d3a") true
    punyThere_over (fun _ h => by cases h) fc1 (fun _ h => by cases h) punyThere_row_tie rfl ⟨rfl, rfl⟩ fc2 rfl
    (fun f fn hf hfn => by
      obtain rfl : f = 8 := Option.some.inj (fc3.symm.trans hf) |>.symm
      obtain rfl : fn = Tryd.f8 := (Option.some.inj (Tryd.func8.symm.trans hfn)).symm
      exact ⟨fc4, fun j t ht => by
        rw [Tryd.params8] at ht
        have hm : t ∈ [9] := by simpa using Array.mem_of_getElem? ht
        exact (show Tryd.prog.wantsStandIn t = false by simpa using List.all_eq_true.1 fc5 t hm)⟩)
    fc6
#print axioms punyThere_card
end Go.Proofs.YtclhniadffljdaaDoor
