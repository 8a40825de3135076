/- THE STATEMENT 'PunyBack': for every input the law returns true, and each argument reads afterwards as it read before; the listed variables are tied to the program's text. No condition but what the row lists. -/
import Derived.Test.YtclhniadffljdaaDoorRows
import Derived.Test.YtclhniadffljdaaDoorTie
import Derived.Test.YtclhniadffljdaaDoorCards
import Derived.Test.YtclhniadffljdaaDoorSe24
import Derived.Test.YtclhniadffljdaaDoorK2
import Derived.Test.YtclhniadffljdaaDoorPPbY
import Derived.Test.YtclhniadffljdaaDoorFR
import Derived.OpenShut
import Derived.WalkKit
import Derived.ProofKit
import Derived.ChangeOld
import Derived.Below
import Derived.LaidMore
import Derived.LaidHandle
import Derived.SevenTiedAt
import Derived.ChangeMaps5
namespace Go.Proofs.YtclhniadffljdaaDoor
open Go Go.ChangeShapes Go.WideShapes Go.ChangeAt Go.RowKit Go.SE
set_option linter.unusedVariables false
theorem fc1 : Rows.punyBackRow.wfByText (OpenSpec.ofChange Rows.punyBackSpec) = true := by kernel_rfl
theorem fc2 : Tryd.pinned.checked.prog.mainIs = some ((true, "eda40858b06087ea1813162da14972dc11fd4334c7d8b94747388e2e77256d3a").1, (true, "eda40858b06087ea1813162da14972dc11fd4334c7d8b94747388e2e77256d3a").2.toList) := by kernel_rfl
theorem fc3 : Tryd.prog.funcNamed "eponym/eponymlaw06.PunyBack" = some 7 := by kernel_rfl
theorem fc4 : true = Tryd.pinned.checked.prog.looks [] := by kernel_rfl
theorem fc5 : ([25].all fun u => !Tryd.prog.wantsStandIn u) = true := by kernel_rfl
theorem fc6 : false = Rows.punyBackRow.goesBy Tryd.pinned.checked.prog := by kernel_rfl
/-- THE STATEMENT: the tied card. -/
theorem punyBack_card : Rows.PunyBackCardSaid :=
  Claim7.holds_tied_plain_at .later [] [.handle, .sentinel, .sentinel, .sentinel, .sentinel, .sentinel, .sentinel, .sentinel, .sentinel, .sentinel, .sentinel, .sentinel, .sentinel, .sentinel, .sentinel, .sentinel, .sentinel, .sentinel, .sentinel] true (true, "eda40858b06087ea1813162da14972dc11fd4334c7d8b94747388e2e77256d3a") true
    punyBack_over (fun _ h => by cases h) fc1 (fun _ h => by cases h) punyBack_row_tie rfl ⟨rfl, rfl⟩ fc2 rfl
    (fun f fn hf hfn => by
      obtain rfl : f = 7 := Option.some.inj (fc3.symm.trans hf) |>.symm
      obtain rfl : fn = Tryd.f7 := (Option.some.inj (Tryd.func7.symm.trans hfn)).symm
      exact ⟨fc4, fun j t ht => by
        rw [Tryd.params7] at ht
        have hm : t ∈ [25] := by simpa using Array.mem_of_getElem? ht
        exact (show Tryd.prog.wantsStandIn t = false by simpa using List.all_eq_true.1 fc5 t hm)⟩)
    fc6
#print axioms punyBack_card
end Go.Proofs.YtclhniadffljdaaDoor
