/- Towards the statement: a part of its frame. No condition. -/
import Derived.Test.YtjhgaacecfmadaaDoorRows
import Derived.Test.YtjhgaacecfmadaaDoorTie
import Derived.Test.YtjhgaacecfmadaaDoorCards
import Derived.Test.YtjhgaacecfmadaaDoorSe24
import Derived.Test.YtjhgaacecfmadaaDoorK2
import Derived.Test.YtjhgaacecfmadaaDoorPCStaysL
import Derived.Test.YtjhgaacecfmadaaDoorFO
import Derived.OpenShut
import Derived.WalkKit
import Derived.ProofKit
import Derived.ChangeOld
import Derived.Below
import Derived.LaidMore
import Derived.LaidHandle
import Derived.SevenTiedAt
namespace Go.Proofs.YtjhgaacecfmadaaDoor
open Go Go.ChangeShapes Go.WideShapes Go.ChangeAt Go.RowKit Go.SE
set_option linter.unusedVariables false
theorem ownT : ownKnob Tryd.prog.godebug = none := by kernel_rfl
theorem laidT : laidOutB Tryd.prog = true := by kernel_rfl
def sentRows : List SentRow := [("eponym/api.ErrRange", 6, [97, 32, 110, 117, 109, 98, 101, 114, 32, 105, 115, 32, 111, 117, 116, 115, 105, 100, 101, 32, 105, 116, 115, 32, 98, 111, 117, 110, 100, 115]), ("eponym/api.ErrForm", 2, [105, 116, 32, 105, 115, 110, 39, 116, 32, 111, 102, 32, 116, 104, 101, 32, 102, 111, 114, 109]), ("eponym/api.ErrOrder", 7, [105, 116, 32, 105, 115, 110, 39, 116, 32, 105, 110, 32, 111, 114, 100, 101, 114]), ("eponym/api.ErrThere", 4, [105, 116, 32, 105, 115, 32, 116, 104, 101, 114, 101, 32, 97, 108, 114, 101, 97, 100, 121]), ("eponym/api.ErrDeep", 5, [105, 116, 32, 105, 115, 32, 116, 111, 111, 32, 100, 101, 101, 112]), ("eponym/api.ErrKind", 0, [116, 104, 101, 114, 101, 32, 105, 115, 32, 110, 111, 32, 115, 117, 99, 104, 32, 107, 105, 110, 100]), ("eponym/api.ErrFull", 3, [116, 104, 101, 114, 101, 32, 97, 114, 101, 32, 116, 111, 111, 32, 109, 97, 110, 121])]
theorem esCells : Tryd.prog.cellsOf 231 = 1 := by kernel_rfl
theorem stCells : Tryd.prog.cellsOf 9 = 1 := by kernel_rfl
theorem esStar : "*" ++ "errors.errorString" = "*errors.errorString" := by decide
theorem esRow (u : TypeId) (h : Tryd.prog.typeName? 3 u = some "*errors.errorString") : u = 207 :=
  typeName_ptr_named (nm := "errors.errorString") (by rw [esStar]; kernel_rfl) (by kernel_rfl) (by decide) u (by rw [esStar]; exact h)
theorem sentNamed : (sentRows.all fun x => decide (Tryd.prog.globalNamed x.1 = some x.2.1) && decide ((Tryd.prog.globals[x.2.1]?).map (·.type) = some 28)) = true := by kernel_rfl
theorem sentFilter : (Rows.compStaysRow.laid.filter fun x => x.2.handleName?.isNone) = laidList sentRows := by kernel_rfl
theorem handFilter : (Rows.compStaysRow.laid.filter fun x => x.2.handleName?.isSome) = [] := by kernel_rfl
/-- What the listed variables give the contract. -/
theorem compStays_glob {W : World} (h : laidMetH Tryd.prog Rows.compStaysRow.laid W) : Glob pl.laid W A0 := by
  unfold laidMetH at h
  rw [handFilter] at h
  have hall : Rows.compStaysRow.laid = laidList sentRows := by kernel_rfl
  rw [hall] at h
  have h1 := h
  have hn : ∀ x : SentRow, x ∈ sentRows → Tryd.prog.globalNamed x.1 = some x.2.1 ∧ (Tryd.prog.globals[x.2.1]?).map (·.type) = some 28 := fun x hx => by
    have := List.all_eq_true.1 sentNamed x hx
    simpa using this
  exact glob_of_laid Tryd.underlying28 esRow Tryd.underlying207 Tryd.underlying231 rfl rfl Tryd.underlying9 esCells stCells sentRows h1 hn [] (fun x hx => absurd hx List.not_mem_nil)
theorem compStays_door (os : Os) (args : Array Value) : laidMetH Tryd.prog Rows.compStaysRow.laid ((World.doorLaid Tryd.prog 358 os).forCall (fun _ _ => 0) ⟨#[], args, []⟩).memory :=
  laidMetH_of_parts3 (fuel := 8) (laidMet_of_run' 8 (by kernel_rfl) (by kernel_rfl)) (by kernel_rfl) (by kernel_rfl)
end Go.Proofs.YtjhgaacecfmadaaDoor
