/-
  DERIVED. GIVEN WITH THE SEED: THE PROGRAM's TIES (one call each: nine closed facts by the kernel) AND EACH ROW's TIE, after the 31st guide's Derived/Test/Toyas{Tie, Card}.lean. No idea stands in it: it is a product of the set-up. Laid BY PROGRAM, IN A SANDBOX (cutbox-door.mjs). By AI agents, Wed Nov 11 2026. No macro, syntax, notation, axiom, sorry.
-/
import Derived.Test.YtjhgaacecfmadaaDoorRows
import Derived.LaidByTextLater
import Derived.SevenTiedAt
import Derived.LaidSub
import Derived.LaidOnce
namespace Go.Proofs.YtjhgaacecfmadaaDoor
open Go
set_option maxRecDepth 100000
theorem seatTie1 : Tryd.prog.laidByTextLater [("errors.errorType", Rows.laid_errors_errorType), ("eponym/api.ErrByte", Rows.laid_eponym_api_ErrByte), ("eponym/api.ErrEnd", Rows.laid_eponym_api_ErrEnd), ("eponym/api.ErrLong", Rows.laid_eponym_api_ErrLong), ("eponym/api.ErrRange", Rows.laid_eponym_api_ErrRange), ("eponym/api.ErrForm", Rows.laid_eponym_api_ErrForm), ("eponym/api.ErrOrder", Rows.laid_eponym_api_ErrOrder), ("eponym/api.ErrThere", Rows.laid_eponym_api_ErrThere), ("eponym/api.ErrNone", Rows.laid_eponym_api_ErrNone), ("eponym/api.ErrDeep", Rows.laid_eponym_api_ErrDeep), ("eponym/api.ErrClass", Rows.laid_eponym_api_ErrClass), ("eponym/api.ErrContext", Rows.laid_eponym_api_ErrContext), ("eponym/api.ErrBidi", Rows.laid_eponym_api_ErrBidi), ("eponym/api.ErrHyphen", Rows.laid_eponym_api_ErrHyphen), ("eponym/api.ErrNorm", Rows.laid_eponym_api_ErrNorm), ("eponym/api.ErrPuny", Rows.laid_eponym_api_ErrPuny), ("eponym/api.ErrEmpty", Rows.laid_eponym_api_ErrEmpty), ("eponym/api.ErrKind", Rows.laid_eponym_api_ErrKind), ("eponym/api.ErrFull", Rows.laid_eponym_api_ErrFull)] [.handle, .sentinel, .sentinel, .sentinel, .sentinel, .sentinel, .sentinel, .sentinel, .sentinel, .sentinel, .sentinel, .sentinel, .sentinel, .sentinel, .sentinel, .sentinel, .sentinel, .sentinel, .sentinel] true :=
  Program.laidByTextLater_by_one 358 8 2 (by kernel_rfl) (by kernel_rfl) (by kernel_rfl) (by kernel_rfl) (by kernel_rfl) (by kernel_rfl) (fun _ _ => by kernel_rfl)
theorem noOwnUnsafe : Tryd.pinned.checked.prog.headLifts.contains "ownunsafe" = false := by kernel_rfl
theorem tie : Tryd.prog.laidByTextLater [("eponym/api.ErrRange", Rows.laid_eponym_api_ErrRange), ("eponym/api.ErrOrder", Rows.laid_eponym_api_ErrOrder), ("eponym/api.ErrKind", Rows.laid_eponym_api_ErrKind), ("eponym/api.ErrFull", Rows.laid_eponym_api_ErrFull)] [.sentinel, .sentinel, .sentinel, .sentinel] true :=
  Program.laidByTextLater.sub seatTie1 ["eponym/api.ErrRange", "eponym/api.ErrOrder", "eponym/api.ErrKind", "eponym/api.ErrFull"] (by kernel_rfl) (by kernel_rfl)
theorem classesLetters_row_tie : Rows.classesLettersRow.laidByTextAt .later Tryd.pinned [.sentinel, .sentinel, .sentinel, .sentinel] true :=
  OpenClaim.laidByTextAt_later rfl rfl tie noOwnUnsafe
theorem tie2 : Tryd.prog.laidByTextLater [("eponym/api.ErrRange", Rows.laid_eponym_api_ErrRange), ("eponym/api.ErrOrder", Rows.laid_eponym_api_ErrOrder), ("eponym/api.ErrBidi", Rows.laid_eponym_api_ErrBidi), ("eponym/api.ErrKind", Rows.laid_eponym_api_ErrKind), ("eponym/api.ErrFull", Rows.laid_eponym_api_ErrFull)] [.sentinel, .sentinel, .sentinel, .sentinel, .sentinel] true :=
  Program.laidByTextLater.sub seatTie1 ["eponym/api.ErrRange", "eponym/api.ErrOrder", "eponym/api.ErrBidi", "eponym/api.ErrKind", "eponym/api.ErrFull"] (by kernel_rfl) (by kernel_rfl)
theorem bidiEnds_row_tie : Rows.bidiEndsRow.laidByTextAt .later Tryd.pinned [.sentinel, .sentinel, .sentinel, .sentinel, .sentinel] true :=
  OpenClaim.laidByTextAt_later rfl rfl tie2 noOwnUnsafe
theorem tie3 : Tryd.prog.laidByTextLater [("eponym/api.ErrRange", Rows.laid_eponym_api_ErrRange), ("eponym/api.ErrForm", Rows.laid_eponym_api_ErrForm), ("eponym/api.ErrOrder", Rows.laid_eponym_api_ErrOrder), ("eponym/api.ErrThere", Rows.laid_eponym_api_ErrThere), ("eponym/api.ErrDeep", Rows.laid_eponym_api_ErrDeep), ("eponym/api.ErrKind", Rows.laid_eponym_api_ErrKind), ("eponym/api.ErrFull", Rows.laid_eponym_api_ErrFull)] [.sentinel, .sentinel, .sentinel, .sentinel, .sentinel, .sentinel, .sentinel] true :=
  Program.laidByTextLater.sub seatTie1 ["eponym/api.ErrRange", "eponym/api.ErrForm", "eponym/api.ErrOrder", "eponym/api.ErrThere", "eponym/api.ErrDeep", "eponym/api.ErrKind", "eponym/api.ErrFull"] (by kernel_rfl) (by kernel_rfl)
theorem decompOnes_row_tie : Rows.decompOnesRow.laidByTextAt .later Tryd.pinned [.sentinel, .sentinel, .sentinel, .sentinel, .sentinel, .sentinel, .sentinel] true :=
  OpenClaim.laidByTextAt_later rfl rfl tie3 noOwnUnsafe
theorem decompSyllables_row_tie : Rows.decompSyllablesRow.laidByTextAt .later Tryd.pinned [.sentinel, .sentinel, .sentinel, .sentinel, .sentinel, .sentinel, .sentinel] true :=
  OpenClaim.laidByTextAt_later rfl rfl tie3 noOwnUnsafe
theorem contextsDigits_row_tie : Rows.contextsDigitsRow.laidByTextAt .later Tryd.pinned [.sentinel, .sentinel, .sentinel, .sentinel, .sentinel, .sentinel, .sentinel] true :=
  OpenClaim.laidByTextAt_later rfl rfl tie3 noOwnUnsafe
theorem contextsBehind_row_tie : Rows.contextsBehindRow.laidByTextAt .later Tryd.pinned [.sentinel, .sentinel, .sentinel, .sentinel, .sentinel, .sentinel, .sentinel] true :=
  OpenClaim.laidByTextAt_later rfl rfl tie3 noOwnUnsafe
theorem decompAlls_row_tie : Rows.decompAllsRow.laidByTextAt .later Tryd.pinned [.sentinel, .sentinel, .sentinel, .sentinel, .sentinel, .sentinel, .sentinel] true :=
  OpenClaim.laidByTextAt_later rfl rfl tie3 noOwnUnsafe
theorem decompStays_row_tie : Rows.decompStaysRow.laidByTextAt .later Tryd.pinned [.sentinel, .sentinel, .sentinel, .sentinel, .sentinel, .sentinel, .sentinel] true :=
  OpenClaim.laidByTextAt_later rfl rfl tie3 noOwnUnsafe
theorem compStays_row_tie : Rows.compStaysRow.laidByTextAt .later Tryd.pinned [.sentinel, .sentinel, .sentinel, .sentinel, .sentinel, .sentinel, .sentinel] true :=
  OpenClaim.laidByTextAt_later rfl rfl tie3 noOwnUnsafe
theorem compSame_row_tie : Rows.compSameRow.laidByTextAt .later Tryd.pinned [.sentinel, .sentinel, .sentinel, .sentinel, .sentinel, .sentinel, .sentinel] true :=
  OpenClaim.laidByTextAt_later rfl rfl tie3 noOwnUnsafe
theorem tie4 : Tryd.prog.laidByTextLater [("errors.errorType", Rows.laid_errors_errorType), ("eponym/api.ErrByte", Rows.laid_eponym_api_ErrByte), ("eponym/api.ErrEnd", Rows.laid_eponym_api_ErrEnd), ("eponym/api.ErrLong", Rows.laid_eponym_api_ErrLong), ("eponym/api.ErrRange", Rows.laid_eponym_api_ErrRange), ("eponym/api.ErrForm", Rows.laid_eponym_api_ErrForm), ("eponym/api.ErrOrder", Rows.laid_eponym_api_ErrOrder), ("eponym/api.ErrThere", Rows.laid_eponym_api_ErrThere), ("eponym/api.ErrNone", Rows.laid_eponym_api_ErrNone), ("eponym/api.ErrDeep", Rows.laid_eponym_api_ErrDeep), ("eponym/api.ErrClass", Rows.laid_eponym_api_ErrClass), ("eponym/api.ErrContext", Rows.laid_eponym_api_ErrContext), ("eponym/api.ErrBidi", Rows.laid_eponym_api_ErrBidi), ("eponym/api.ErrHyphen", Rows.laid_eponym_api_ErrHyphen), ("eponym/api.ErrNorm", Rows.laid_eponym_api_ErrNorm), ("eponym/api.ErrPuny", Rows.laid_eponym_api_ErrPuny), ("eponym/api.ErrEmpty", Rows.laid_eponym_api_ErrEmpty), ("eponym/api.ErrKind", Rows.laid_eponym_api_ErrKind), ("eponym/api.ErrFull", Rows.laid_eponym_api_ErrFull)] [.handle, .sentinel, .sentinel, .sentinel, .sentinel, .sentinel, .sentinel, .sentinel, .sentinel, .sentinel, .sentinel, .sentinel, .sentinel, .sentinel, .sentinel, .sentinel, .sentinel, .sentinel, .sentinel] true :=
  Program.laidByTextLater.sub seatTie1 ["errors.errorType", "eponym/api.ErrByte", "eponym/api.ErrEnd", "eponym/api.ErrLong", "eponym/api.ErrRange", "eponym/api.ErrForm", "eponym/api.ErrOrder", "eponym/api.ErrThere", "eponym/api.ErrNone", "eponym/api.ErrDeep", "eponym/api.ErrClass", "eponym/api.ErrContext", "eponym/api.ErrBidi", "eponym/api.ErrHyphen", "eponym/api.ErrNorm", "eponym/api.ErrPuny", "eponym/api.ErrEmpty", "eponym/api.ErrKind", "eponym/api.ErrFull"] (by kernel_rfl) (by kernel_rfl)
theorem bidiBreaks_row_tie : Rows.bidiBreaksRow.laidByTextAt .later Tryd.pinned [.handle, .sentinel, .sentinel, .sentinel, .sentinel, .sentinel, .sentinel, .sentinel, .sentinel, .sentinel, .sentinel, .sentinel, .sentinel, .sentinel, .sentinel, .sentinel, .sentinel, .sentinel, .sentinel] true :=
  OpenClaim.laidByTextAt_later rfl rfl tie4 noOwnUnsafe
theorem classesChecks_row_tie : Rows.classesChecksRow.laidByTextAt .later Tryd.pinned [.handle, .sentinel, .sentinel, .sentinel, .sentinel, .sentinel, .sentinel, .sentinel, .sentinel, .sentinel, .sentinel, .sentinel, .sentinel, .sentinel, .sentinel, .sentinel, .sentinel, .sentinel, .sentinel] true :=
  OpenClaim.laidByTextAt_later rfl rfl tie4 noOwnUnsafe
theorem bidiNames_row_tie : Rows.bidiNamesRow.laidByTextAt .later Tryd.pinned [.handle, .sentinel, .sentinel, .sentinel, .sentinel, .sentinel, .sentinel, .sentinel, .sentinel, .sentinel, .sentinel, .sentinel, .sentinel, .sentinel, .sentinel, .sentinel, .sentinel, .sentinel, .sentinel] true :=
  OpenClaim.laidByTextAt_later rfl rfl tie4 noOwnUnsafe
theorem variantsChecks_row_tie : Rows.variantsChecksRow.laidByTextAt .later Tryd.pinned [.handle, .sentinel, .sentinel, .sentinel, .sentinel, .sentinel, .sentinel, .sentinel, .sentinel, .sentinel, .sentinel, .sentinel, .sentinel, .sentinel, .sentinel, .sentinel, .sentinel, .sentinel, .sentinel] true :=
  OpenClaim.laidByTextAt_later rfl rfl tie4 noOwnUnsafe
theorem decompChecks_row_tie : Rows.decompChecksRow.laidByTextAt .later Tryd.pinned [.handle, .sentinel, .sentinel, .sentinel, .sentinel, .sentinel, .sentinel, .sentinel, .sentinel, .sentinel, .sentinel, .sentinel, .sentinel, .sentinel, .sentinel, .sentinel, .sentinel, .sentinel, .sentinel] true :=
  OpenClaim.laidByTextAt_later rfl rfl tie4 noOwnUnsafe
theorem contextsChecks_row_tie : Rows.contextsChecksRow.laidByTextAt .later Tryd.pinned [.handle, .sentinel, .sentinel, .sentinel, .sentinel, .sentinel, .sentinel, .sentinel, .sentinel, .sentinel, .sentinel, .sentinel, .sentinel, .sentinel, .sentinel, .sentinel, .sentinel, .sentinel, .sentinel] true :=
  OpenClaim.laidByTextAt_later rfl rfl tie4 noOwnUnsafe
theorem tie5 : Tryd.prog.laidByTextLater [("errors.errorType", Rows.laid_errors_errorType), ("eponym/api.ErrByte", Rows.laid_eponym_api_ErrByte), ("eponym/api.ErrEnd", Rows.laid_eponym_api_ErrEnd), ("eponym/api.ErrRange", Rows.laid_eponym_api_ErrRange), ("eponym/api.ErrForm", Rows.laid_eponym_api_ErrForm), ("eponym/api.ErrOrder", Rows.laid_eponym_api_ErrOrder), ("eponym/api.ErrThere", Rows.laid_eponym_api_ErrThere), ("eponym/api.ErrEmpty", Rows.laid_eponym_api_ErrEmpty), ("eponym/api.ErrFull", Rows.laid_eponym_api_ErrFull)] [.handle, .sentinel, .sentinel, .sentinel, .sentinel, .sentinel, .sentinel, .sentinel, .sentinel] true :=
  Program.laidByTextLater.sub seatTie1 ["errors.errorType", "eponym/api.ErrByte", "eponym/api.ErrEnd", "eponym/api.ErrRange", "eponym/api.ErrForm", "eponym/api.ErrOrder", "eponym/api.ErrThere", "eponym/api.ErrEmpty", "eponym/api.ErrFull"] (by kernel_rfl) (by kernel_rfl)
theorem variantsAlike_row_tie : Rows.variantsAlikeRow.laidByTextAt .later Tryd.pinned [.handle, .sentinel, .sentinel, .sentinel, .sentinel, .sentinel, .sentinel, .sentinel, .sentinel] true :=
  OpenClaim.laidByTextAt_later rfl rfl tie5 noOwnUnsafe
theorem classesLettersUpto_row_tie : Rows.classesLettersUptoRow.laidByTextAt .later Tryd.pinned [.sentinel, .sentinel, .sentinel, .sentinel] true :=
  OpenClaim.laidByTextAt_later rfl rfl tie noOwnUnsafe
theorem bidiEndsUpto_row_tie : Rows.bidiEndsUptoRow.laidByTextAt .later Tryd.pinned [.sentinel, .sentinel, .sentinel, .sentinel, .sentinel] true :=
  OpenClaim.laidByTextAt_later rfl rfl tie2 noOwnUnsafe
theorem decompOnesUpto_row_tie : Rows.decompOnesUptoRow.laidByTextAt .later Tryd.pinned [.sentinel, .sentinel, .sentinel, .sentinel, .sentinel, .sentinel, .sentinel] true :=
  OpenClaim.laidByTextAt_later rfl rfl tie3 noOwnUnsafe
theorem decompSyllablesUpto_row_tie : Rows.decompSyllablesUptoRow.laidByTextAt .later Tryd.pinned [.sentinel, .sentinel, .sentinel, .sentinel, .sentinel, .sentinel, .sentinel] true :=
  OpenClaim.laidByTextAt_later rfl rfl tie3 noOwnUnsafe
theorem bidiBreaksUpto_row_tie : Rows.bidiBreaksUptoRow.laidByTextAt .later Tryd.pinned [.handle, .sentinel, .sentinel, .sentinel, .sentinel, .sentinel, .sentinel, .sentinel, .sentinel, .sentinel, .sentinel, .sentinel, .sentinel, .sentinel, .sentinel, .sentinel, .sentinel, .sentinel, .sentinel] true :=
  OpenClaim.laidByTextAt_later rfl rfl tie4 noOwnUnsafe
theorem classesChecksUpto_row_tie : Rows.classesChecksUptoRow.laidByTextAt .later Tryd.pinned [.handle, .sentinel, .sentinel, .sentinel, .sentinel, .sentinel, .sentinel, .sentinel, .sentinel, .sentinel, .sentinel, .sentinel, .sentinel, .sentinel, .sentinel, .sentinel, .sentinel, .sentinel, .sentinel] true :=
  OpenClaim.laidByTextAt_later rfl rfl tie4 noOwnUnsafe
theorem bidiNamesUpto_row_tie : Rows.bidiNamesUptoRow.laidByTextAt .later Tryd.pinned [.handle, .sentinel, .sentinel, .sentinel, .sentinel, .sentinel, .sentinel, .sentinel, .sentinel, .sentinel, .sentinel, .sentinel, .sentinel, .sentinel, .sentinel, .sentinel, .sentinel, .sentinel, .sentinel] true :=
  OpenClaim.laidByTextAt_later rfl rfl tie4 noOwnUnsafe
theorem contextsDigitsUpto_row_tie : Rows.contextsDigitsUptoRow.laidByTextAt .later Tryd.pinned [.sentinel, .sentinel, .sentinel, .sentinel, .sentinel, .sentinel, .sentinel] true :=
  OpenClaim.laidByTextAt_later rfl rfl tie3 noOwnUnsafe
theorem contextsBehindUpto_row_tie : Rows.contextsBehindUptoRow.laidByTextAt .later Tryd.pinned [.sentinel, .sentinel, .sentinel, .sentinel, .sentinel, .sentinel, .sentinel] true :=
  OpenClaim.laidByTextAt_later rfl rfl tie3 noOwnUnsafe
theorem variantsAlikeUpto_row_tie : Rows.variantsAlikeUptoRow.laidByTextAt .later Tryd.pinned [.handle, .sentinel, .sentinel, .sentinel, .sentinel, .sentinel, .sentinel, .sentinel, .sentinel] true :=
  OpenClaim.laidByTextAt_later rfl rfl tie5 noOwnUnsafe
theorem variantsChecksUpto_row_tie : Rows.variantsChecksUptoRow.laidByTextAt .later Tryd.pinned [.handle, .sentinel, .sentinel, .sentinel, .sentinel, .sentinel, .sentinel, .sentinel, .sentinel, .sentinel, .sentinel, .sentinel, .sentinel, .sentinel, .sentinel, .sentinel, .sentinel, .sentinel, .sentinel] true :=
  OpenClaim.laidByTextAt_later rfl rfl tie4 noOwnUnsafe
theorem decompAllsUpto_row_tie : Rows.decompAllsUptoRow.laidByTextAt .later Tryd.pinned [.sentinel, .sentinel, .sentinel, .sentinel, .sentinel, .sentinel, .sentinel] true :=
  OpenClaim.laidByTextAt_later rfl rfl tie3 noOwnUnsafe
theorem decompStaysUpto_row_tie : Rows.decompStaysUptoRow.laidByTextAt .later Tryd.pinned [.sentinel, .sentinel, .sentinel, .sentinel, .sentinel, .sentinel, .sentinel] true :=
  OpenClaim.laidByTextAt_later rfl rfl tie3 noOwnUnsafe
theorem decompChecksUpto_row_tie : Rows.decompChecksUptoRow.laidByTextAt .later Tryd.pinned [.handle, .sentinel, .sentinel, .sentinel, .sentinel, .sentinel, .sentinel, .sentinel, .sentinel, .sentinel, .sentinel, .sentinel, .sentinel, .sentinel, .sentinel, .sentinel, .sentinel, .sentinel, .sentinel] true :=
  OpenClaim.laidByTextAt_later rfl rfl tie4 noOwnUnsafe
theorem compStaysUpto_row_tie : Rows.compStaysUptoRow.laidByTextAt .later Tryd.pinned [.sentinel, .sentinel, .sentinel, .sentinel, .sentinel, .sentinel, .sentinel] true :=
  OpenClaim.laidByTextAt_later rfl rfl tie3 noOwnUnsafe
theorem compSameUpto_row_tie : Rows.compSameUptoRow.laidByTextAt .later Tryd.pinned [.sentinel, .sentinel, .sentinel, .sentinel, .sentinel, .sentinel, .sentinel] true :=
  OpenClaim.laidByTextAt_later rfl rfl tie3 noOwnUnsafe
theorem contextsChecksUpto_row_tie : Rows.contextsChecksUptoRow.laidByTextAt .later Tryd.pinned [.handle, .sentinel, .sentinel, .sentinel, .sentinel, .sentinel, .sentinel, .sentinel, .sentinel, .sentinel, .sentinel, .sentinel, .sentinel, .sentinel, .sentinel, .sentinel, .sentinel, .sentinel, .sentinel] true :=
  OpenClaim.laidByTextAt_later rfl rfl tie4 noOwnUnsafe
end Go.Proofs.YtjhgaacecfmadaaDoor
