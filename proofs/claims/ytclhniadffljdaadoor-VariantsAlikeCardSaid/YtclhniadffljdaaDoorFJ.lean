/- Towards the statement: a part of its frame. No condition. -/
import Derived.Test.YtclhniadffljdaaDoorRows
import Derived.Test.YtclhniadffljdaaDoorTie
import Derived.Test.YtclhniadffljdaaDoorCards
import Derived.Test.YtclhniadffljdaaDoorSe24
import Derived.Test.YtclhniadffljdaaDoorFL
import Derived.OpenShut
import Derived.WalkKit
import Derived.ProofKit
import Derived.ChangeOld
import Derived.Below
import Derived.LaidMore
import Derived.LaidHandle
import Derived.SevenTiedAt
import Derived.ChangeMaps5
namespace Go.Proofs.YtclhniadffljdaaDoor
open Go Go.ChangeShapes Go.WideShapes Go.ChangeAt Go.RowKit Go.SE
set_option linter.unusedVariables false
theorem j0 : (Rows.variantsAlikeRow.wf (OpenSpec.ofChange Rows.variantsAlikeSpec)) = true := by kernel_rfl
theorem j1 : (laidOutB Tryd.prog) = true := by kernel_rfl
theorem j2 : (mapsRowed Tryd.prog) = true := by kernel_rfl
theorem j3 : (Tryd.f3.params.all (Tryd.prog.readableRec ·)) = true := by kernel_rfl
theorem j4 : (namedTie Tryd.prog Rows.variantsAlikeRow.named Rows.variantsAlikeSpec.vars) = true := by kernel_rfl
theorem j5 : ((Rows.variantsAlikeRow.stops == [])) = true := by kernel_rfl
theorem j6 : ((Tryd.prog.stops == [])) = true := by kernel_rfl
theorem j7 : ((Rows.variantsAlikeRow.knobs == [])) = true := by kernel_rfl
theorem j8 : ((Tryd.prog.stopKnobs == [])) = true := by kernel_rfl
theorem j9 : ((Rows.variantsAlikeRow.inPlace == Tryd.prog.inPlace 3)) = true := by kernel_rfl
theorem j10 : ((Rows.variantsAlikeRow.unfollowed == Tryd.prog.unfollowed 3)) = true := by kernel_rfl
theorem j11 : ((Rows.variantsAlikeRow.recurses == Tryd.prog.recurses 3)) = true := by kernel_rfl
theorem j12 : ((Rows.variantsAlikeRow.named == Tryd.prog.varsNamed 3)) = true := by kernel_rfl
theorem j13 : ((Rows.variantsAlikeRow.maps == (Tryd.f3.params.toList ++ Rows.variantsAlikeSpec.plain.varTypes Tryd.prog).any (Tryd.prog.mapsRec ·))) = true := by kernel_rfl
theorem j14 : ((Rows.variantsAlikeRow.ifaces == (Tryd.f3.params.toList ++ Rows.variantsAlikeSpec.plain.varTypes Tryd.prog).any (Tryd.prog.ifacesRec ·))) = true := by kernel_rfl
theorem j15 : ((Rows.variantsAlikeRow.mapsOut == Tryd.prog.mapsAmong Tryd.f3.resultTypes.toList)) = true := by kernel_rfl
theorem j16 : ((Rows.variantsAlikeRow.loops == (Tryd.f3.params.toList ++ Rows.variantsAlikeSpec.plain.varTypes Tryd.prog).any (Tryd.prog.loopsFrom ·))) = true := by kernel_rfl
theorem j17 : ((Rows.variantsAlikeRow.wideKeys == (Tryd.f3.params.toList ++ Rows.variantsAlikeSpec.plain.varTypes Tryd.prog ++ Tryd.f3.resultTypes.toList).any (Tryd.prog.wideKeysFrom ·))) = true := by kernel_rfl
theorem j18 : (Rows.variantsAlikeSpec.vars.all (Tryd.prog.varReadable ·)) = true := by kernel_rfl
theorem j19 : (Tryd.f3.resultTypes.all (fun t => Tryd.prog.readableRec t && decide (t < Tryd.prog.types.size))) = true := by kernel_rfl
theorem j20 : ((Rows.variantsAlikeRow.ifacesOut == Tryd.f3.resultTypes.toList.any (Tryd.prog.ifacesRec ·))) = true := by kernel_rfl
theorem j21 : ((Rows.variantsAlikeRow.loopsOut == Tryd.f3.resultTypes.toList.any (Tryd.prog.loopsFrom ·))) = true := by kernel_rfl
theorem j22 : ((Rows.variantsAlikeRow.plainKeys == Tryd.prog.plainKeys)) = true := by kernel_rfl
theorem j23 : (Rows.variantsAlikeRow.shortTexts.isNone) = true := by kernel_rfl
theorem j24 : (Tryd.prog.stopsHeard) = true := by kernel_rfl
theorem j25 : (Tryd.prog.mayEnter) = true := by kernel_rfl
theorem j26 : ((Rows.variantsAlikeRow.lifted == Tryd.prog.liftsFinal)) = true := by kernel_rfl
theorem j27 : ((Tryd.prog.make == some Rows.variantsAlikeRow.make)) = true := by kernel_rfl
theorem j28 : ((Rows.variantsAlikeRow.kinds == (if Rows.variantsAlikeRow.domain.isEmpty then [] else Tryd.f3.params.toList.map fun t => match Tryd.prog.underlying t with | some (.int k) => some k | _ => none))) = true := by kernel_rfl
theorem j29 : ((Rows.variantsAlikeRow.pinned == Rows.variantsAlikeRow.pinnedBy)) = true := by kernel_rfl
theorem j30 : ((Rows.variantsAlikeRow.veiled == (Tryd.f3.params.toList ++ Rows.variantsAlikeSpec.plain.varTypes Tryd.prog ++ Tryd.f3.resultTypes.toList).any (Tryd.prog.veiledRec ·))) = true := by kernel_rfl
theorem j31 : (Rows.variantsAlikeRow.veiledFits Tryd.prog Tryd.f3.params.toList (Tryd.f3.params.toList ++ Rows.variantsAlikeSpec.plain.varTypes Tryd.prog ++ Tryd.f3.resultTypes.toList)) = true := by kernel_rfl
end Go.Proofs.YtclhniadffljdaaDoor
