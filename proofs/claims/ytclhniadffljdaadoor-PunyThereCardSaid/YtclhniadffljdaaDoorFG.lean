/- Towards the statement: a part of its frame. No condition. -/
import Derived.Test.YtclhniadffljdaaDoorRows
import Derived.Test.YtclhniadffljdaaDoorTie
import Derived.Test.YtclhniadffljdaaDoorCards
import Derived.Test.YtclhniadffljdaaDoorSe24
import Derived.Test.YtclhniadffljdaaDoorK2
import Derived.Test.YtclhniadffljdaaDoorPPbZ
import Derived.Test.YtclhniadffljdaaDoorFO
import Derived.OpenShut
import Derived.WalkKit
import Derived.ProofKit
import Derived.ChangeOld
import Derived.Below
import Derived.LaidMore
import Derived.LaidHandle
import Derived.SevenTiedAt
import Derived.ChangeMaps5
namespace Go.Proofs.YtclhniadffljdaaDoor
open Go Go.ChangeShapes Go.WideShapes Go.ChangeAt Go.RowKit Go.SE
set_option linter.unusedVariables false
theorem ownT : ownKnob Tryd.prog.godebug = none := by kernel_rfl
theorem laidT : laidOutB Tryd.prog = true := by kernel_rfl
def sentRows : List SentRow := [("eponym/api.ErrByte", 5, [97, 32, 98, 121, 116, 101, 44, 32, 111, 114, 32, 97, 32, 114, 117, 110, 101, 44, 32, 116, 104, 97, 116, 32, 99, 97, 110, 39, 116, 32, 115, 116, 97, 110, 100, 32, 116, 104, 101, 114, 101]), ("eponym/api.ErrEnd", 9, [105, 116, 32, 101, 110, 100, 115, 32, 116, 111, 111, 32, 101, 97, 114, 108, 121]), ("eponym/api.ErrLong", 4, [105, 116, 32, 105, 115, 32, 116, 111, 111, 32, 108, 111, 110, 103]), ("eponym/api.ErrRange", 3, [97, 32, 110, 117, 109, 98, 101, 114, 32, 105, 115, 32, 111, 117, 116, 115, 105, 100, 101, 32, 105, 116, 115, 32, 98, 111, 117, 110, 100, 115]), ("eponym/api.ErrForm", 0, [105, 116, 32, 105, 115, 110, 39, 116, 32, 111, 102, 32, 116, 104, 101, 32, 102, 111, 114, 109]), ("eponym/api.ErrOrder", 7, [105, 116, 32, 105, 115, 110, 39, 116, 32, 105, 110, 32, 111, 114, 100, 101, 114]), ("eponym/api.ErrThere", 2, [105, 116, 32, 105, 115, 32, 116, 104, 101, 114, 101, 32, 97, 108, 114, 101, 97, 100, 121]), ("eponym/api.ErrNone", 10, [116, 104, 101, 114, 101, 32, 105, 115, 32, 110, 111, 110, 101]), ("eponym/api.ErrDeep", 11, [105, 116, 32, 105, 115, 32, 116, 111, 111, 32, 100, 101, 101, 112]), ("eponym/api.ErrClass", 12, [97, 32, 114, 117, 110, 101, 32, 116, 104, 97, 116, 32, 110, 97, 109, 101, 115, 32, 100, 111, 110, 39, 116, 32, 104, 97, 118, 101]), ("eponym/api.ErrContext", 13, [97, 32, 114, 117, 110, 101, 32, 116, 104, 97, 116, 32, 100, 111, 101, 115, 110, 39, 116, 32, 103, 111, 32, 119, 105, 116, 104, 32, 105, 116, 115, 32, 110, 101, 105, 103, 104, 98, 111, 117, 114, 115]), ("eponym/api.ErrBidi", 14, [105, 116, 32, 99, 97, 110, 39, 116, 32, 98, 101, 32, 114, 101, 97, 100, 32, 102, 114, 111, 109, 32, 111, 110, 101, 32, 115, 105, 100, 101]), ("eponym/api.ErrHyphen", 15, [97, 32, 104, 121, 112, 104, 101, 110, 32, 116, 104, 97, 116, 32, 99, 97, 110, 39, 116, 32, 115, 116, 97, 110, 100, 32, 116, 104, 101, 114, 101]), ("eponym/api.ErrNorm", 16, [105, 116, 32, 105, 115, 110, 39, 116, 32, 99, 111, 109, 112, 111, 115, 101, 100]), ("eponym/api.ErrPuny", 17, [105, 116, 32, 105, 115, 110, 39, 116, 32, 97, 110, 32, 101, 110, 99, 111, 100, 101, 100, 32, 108, 97, 98, 101, 108]), ("eponym/api.ErrEmpty", 6, [105, 116, 32, 105, 115, 32, 101, 109, 112, 116, 121]), ("eponym/api.ErrKind", 18, [116, 104, 101, 114, 101, 32, 105, 115, 32, 110, 111, 32, 115, 117, 99, 104, 32, 107, 105, 110, 100]), ("eponym/api.ErrFull", 1, [116, 104, 101, 114, 101, 32, 97, 114, 101, 32, 116, 111, 111, 32, 109, 97, 110, 121])]
theorem esCells : Tryd.prog.cellsOf 188 = 1 := by kernel_rfl
theorem stCells : Tryd.prog.cellsOf 9 = 1 := by kernel_rfl
theorem esStar : "*" ++ "errors.errorString" = "*errors.errorString" := by decide
theorem esRow (u : TypeId) (h : Tryd.prog.typeName? 3 u = some "*errors.errorString") : u = 170 :=
  typeName_ptr_named (nm := "errors.errorString") (by rw [esStar]; kernel_rfl) (by kernel_rfl) (by decide) u (by rw [esStar]; exact h)
theorem sentNamed : (sentRows.all fun x => decide (Tryd.prog.globalNamed x.1 = some x.2.1) && decide ((Tryd.prog.globals[x.2.1]?).map (·.type) = some 29)) = true := by kernel_rfl
theorem sentFilter : (Rows.punyThereRow.laid.filter fun x => x.2.handleName?.isNone) = laidList sentRows := by kernel_rfl
theorem handFilter : (Rows.punyThereRow.laid.filter fun x => x.2.handleName?.isSome) = [("errors.errorType", Rows.laid_errors_errorType)] := by kernel_rfl
theorem etNamed : Tryd.prog.globalNamed "errors.errorType" = some 8 := by kernel_rfl
theorem etRt : (Tryd.prog.cutTypes.find? (·.1 == "internal/reflectlite.rtype")).map (·.2) = some 132 := by kernel_rfl
theorem etOne : ((List.range 200).filter fun t => Tryd.prog.rowNamed t [101, 114, 114, 111, 114]) = [29] := by kernel_rfl
theorem etSize : Tryd.prog.types.size = 200 := by kernel_rfl
/-- What the listed variables give the contract. -/
theorem punyThere_glob {W : World} (h : laidMetH Tryd.prog Rows.punyThereRow.laid W) : Glob pl.laid W A0 := by
  unfold laidMetH at h
  rw [handFilter] at h
  rw [sentFilter] at h
  obtain ⟨h1, h2⟩ := h
  have hn : ∀ x : SentRow, x ∈ sentRows → Tryd.prog.globalNamed x.1 = some x.2.1 ∧ (Tryd.prog.globals[x.2.1]?).map (·.type) = some 29 := fun x hx => by
    have := List.all_eq_true.1 sentNamed x hx
    simpa using this
  have hcst : W.cell? ⟨8, 0, none⟩ = some (.iface 132 (.agg #[.pointer (some ⟨20, 29, none⟩)])) := by
    have h2 := h2 _ (List.mem_singleton.2 rfl)
    obtain ⟨name, u, ty, e1, e2, e3, e4, e5⟩ := h2
    have en : name = [101, 114, 114, 111, 114] := (Option.some.inj e1).symm
    subst en
    obtain rfl := Option.some.inj (etRt.symm.trans e2)
    have hm : ty ∈ (List.range 200).filter fun t => Tryd.prog.rowNamed t [101, 114, 114, 111, 114] := List.mem_filter.2 ⟨List.mem_range.2 (by rw [← etSize]; exact e3), e4⟩
    rw [etOne] at hm
    obtain rfl := List.mem_singleton.1 hm
    have hh : typeHandle Tryd.prog 29 = .pointer (some ⟨20, 29, none⟩) := by kernel_rfl
    rw [hh] at e5
    simpa using World.var?_cell etNamed e5 0
  have hlt : 8 < W.heap.size := by
    rcases Nat.lt_or_ge 8 W.heap.size with h | h
    · exact h
    · simp [World.cell?, Array.getElem?_eq_none h] at hcst
  exact glob_of_laid Tryd.underlying29 esRow Tryd.underlying170 Tryd.underlying188 rfl rfl Tryd.underlying9 esCells stCells sentRows h1 hn _ (fun x hx => by
    have hx := List.mem_singleton.1 hx
    subst hx
    exact ⟨hlt, hcst⟩)
theorem punyThere_door (os : Os) (args : Array Value) : laidMetH Tryd.prog Rows.punyThereRow.laid ((World.doorLaid Tryd.prog 358 os).forCall (fun _ _ => 0) ⟨#[], args, []⟩).memory :=
  laidMetH_of_parts3 (fuel := 8) (laidMet_of_run' 8 (by kernel_rfl) (by kernel_rfl)) (by kernel_rfl) (by kernel_rfl)
end Go.Proofs.YtclhniadffljdaaDoor
