/- Towards the statement: a part of its frame. No condition. -/
import Derived.Test.YtjhgaacecfmadaaDoorRows
import Derived.Test.YtjhgaacecfmadaaDoorTie
import Derived.Test.YtjhgaacecfmadaaDoorCards
import Derived.Test.YtjhgaacecfmadaaDoorSe24
import Derived.Test.YtjhgaacecfmadaaDoorFL
import Derived.OpenShut
import Derived.WalkKit
import Derived.ProofKit
import Derived.ChangeOld
import Derived.Below
import Derived.LaidMore
import Derived.LaidHandle
import Derived.SevenTiedAt
namespace Go.Proofs.YtjhgaacecfmadaaDoor
open Go Go.ChangeShapes Go.WideShapes Go.ChangeAt Go.RowKit Go.SE
set_option linter.unusedVariables false
theorem j0 : (Rows.compStaysRow.wf (OpenSpec.ofChange Rows.compStaysSpec)) = true := by kernel_rfl
theorem j1 : (laidOutB Tryd.prog) = true := by kernel_rfl
theorem j2 : (mapsRowed Tryd.prog) = true := by kernel_rfl
theorem j3 : (Tryd.f17.params.all (Tryd.prog.readableRec ·)) = true := by kernel_rfl
theorem j4 : (namedTie Tryd.prog Rows.compStaysRow.named Rows.compStaysSpec.vars) = true := by kernel_rfl
theorem j5 : ((Rows.compStaysRow.stops == [])) = true := by kernel_rfl
theorem j6 : ((Tryd.prog.stops == [])) = true := by kernel_rfl
theorem j7 : ((Rows.compStaysRow.knobs == [])) = true := by kernel_rfl
theorem j8 : ((Tryd.prog.stopKnobs == [])) = true := by kernel_rfl
theorem j9 : ((Rows.compStaysRow.inPlace == Tryd.prog.inPlace 17)) = true := by kernel_rfl
theorem j10 : ((Rows.compStaysRow.unfollowed == Tryd.prog.unfollowed 17)) = true := by kernel_rfl
theorem j11 : ((Rows.compStaysRow.recurses == Tryd.prog.recurses 17)) = true := by kernel_rfl
theorem j12 : ((Rows.compStaysRow.named == Tryd.prog.varsNamed 17)) = true := by kernel_rfl
theorem j13 : ((Rows.compStaysRow.maps == (Tryd.f17.params.toList ++ Rows.compStaysSpec.plain.varTypes Tryd.prog).any (Tryd.prog.mapsRec ·))) = true := by kernel_rfl
theorem j14 : ((Rows.compStaysRow.ifaces == (Tryd.f17.params.toList ++ Rows.compStaysSpec.plain.varTypes Tryd.prog).any (Tryd.prog.ifacesRec ·))) = true := by kernel_rfl
theorem j15 : ((Rows.compStaysRow.mapsOut == Tryd.prog.mapsAmong Tryd.f17.resultTypes.toList)) = true := by kernel_rfl
theorem j16 : ((Rows.compStaysRow.loops == (Tryd.f17.params.toList ++ Rows.compStaysSpec.plain.varTypes Tryd.prog).any (Tryd.prog.loopsFrom ·))) = true := by kernel_rfl
theorem j17 : ((Rows.compStaysRow.wideKeys == (Tryd.f17.params.toList ++ Rows.compStaysSpec.plain.varTypes Tryd.prog ++ Tryd.f17.resultTypes.toList).any (Tryd.prog.wideKeysFrom ·))) = true := by kernel_rfl
theorem j18 : (Rows.compStaysSpec.vars.all (Tryd.prog.varReadable ·)) = true := by kernel_rfl
theorem j19 : (Tryd.f17.resultTypes.all (fun t => Tryd.prog.readableRec t && decide (t < Tryd.prog.types.size))) = true := by kernel_rfl
theorem j20 : ((Rows.compStaysRow.ifacesOut == Tryd.f17.resultTypes.toList.any (Tryd.prog.ifacesRec ·))) = true := by kernel_rfl
theorem j21 : ((Rows.compStaysRow.loopsOut == Tryd.f17.resultTypes.toList.any (Tryd.prog.loopsFrom ·))) = true := by kernel_rfl
theorem j22 : ((Rows.compStaysRow.plainKeys == Tryd.prog.plainKeys)) = true := by kernel_rfl
theorem j23 : (Rows.compStaysRow.shortTexts.isNone) = true := by kernel_rfl
theorem j24 : (Tryd.prog.stopsHeard) = true := by kernel_rfl
theorem j25 : (Tryd.prog.mayEnter) = true := by kernel_rfl
theorem j26 : ((Rows.compStaysRow.lifted == Tryd.prog.liftsFinal)) = true := by kernel_rfl
theorem j27 : ((Tryd.prog.make == some Rows.compStaysRow.make)) = true := by kernel_rfl
theorem j28 : ((Rows.compStaysRow.kinds == (if Rows.compStaysRow.domain.isEmpty then [] else Tryd.f17.params.toList.map fun t => match Tryd.prog.underlying t with | some (.int k) => some k | _ => none))) = true := by kernel_rfl
theorem j29 : ((Rows.compStaysRow.pinned == Rows.compStaysRow.pinnedBy)) = true := by kernel_rfl
theorem j30 : ((Rows.compStaysRow.veiled == (Tryd.f17.params.toList ++ Rows.compStaysSpec.plain.varTypes Tryd.prog ++ Tryd.f17.resultTypes.toList).any (Tryd.prog.veiledRec ·))) = true := by kernel_rfl
theorem j31 : (Rows.compStaysRow.veiledFits Tryd.prog Tryd.f17.params.toList (Tryd.f17.params.toList ++ Rows.compStaysSpec.plain.varTypes Tryd.prog ++ Tryd.f17.resultTypes.toList)) = true := by kernel_rfl
end Go.Proofs.YtjhgaacecfmadaaDoor
