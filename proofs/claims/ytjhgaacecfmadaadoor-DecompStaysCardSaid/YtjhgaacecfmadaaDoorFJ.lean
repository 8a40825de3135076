/- Towards the statement: a part of its frame. No condition. -/
import Derived.Test.YtjhgaacecfmadaaDoorRows
import Derived.Test.YtjhgaacecfmadaaDoorTie
import Derived.Test.YtjhgaacecfmadaaDoorCards
import Derived.Test.YtjhgaacecfmadaaDoorSe24
import Derived.Test.YtjhgaacecfmadaaDoorFL
import Derived.OpenShut
import Derived.WalkKit
import Derived.ProofKit
import Derived.ChangeOld
import Derived.Below
import Derived.LaidMore
import Derived.LaidHandle
import Derived.SevenTiedAt
namespace Go.Proofs.YtjhgaacecfmadaaDoor
open Go Go.ChangeShapes Go.WideShapes Go.ChangeAt Go.RowKit Go.SE
set_option linter.unusedVariables false
theorem j0 : (Rows.decompStaysRow.wf (OpenSpec.ofChange Rows.decompStaysSpec)) = true := by kernel_rfl
theorem j1 : (laidOutB Tryd.prog) = true := by kernel_rfl
theorem j2 : (mapsRowed Tryd.prog) = true := by kernel_rfl
theorem j3 : (Tryd.f15.params.all (Tryd.prog.readableRec ·)) = true := by kernel_rfl
theorem j4 : (namedTie Tryd.prog Rows.decompStaysRow.named Rows.decompStaysSpec.vars) = true := by kernel_rfl
theorem j5 : ((Rows.decompStaysRow.stops == [])) = true := by kernel_rfl
theorem j6 : ((Tryd.prog.stops == [])) = true := by kernel_rfl
theorem j7 : ((Rows.decompStaysRow.knobs == [])) = true := by kernel_rfl
theorem j8 : ((Tryd.prog.stopKnobs == [])) = true := by kernel_rfl
theorem j9 : ((Rows.decompStaysRow.inPlace == Tryd.prog.inPlace 15)) = true := by kernel_rfl
theorem j10 : ((Rows.decompStaysRow.unfollowed == Tryd.prog.unfollowed 15)) = true := by kernel_rfl
theorem j11 : ((Rows.decompStaysRow.recurses == Tryd.prog.recurses 15)) = true := by kernel_rfl
theorem j12 : ((Rows.decompStaysRow.named == Tryd.prog.varsNamed 15)) = true := by kernel_rfl
theorem j13 : ((Rows.decompStaysRow.maps == (Tryd.f15.params.toList ++ Rows.decompStaysSpec.plain.varTypes Tryd.prog).any (Tryd.prog.mapsRec ·))) = true := by kernel_rfl
theorem j14 : ((Rows.decompStaysRow.ifaces == (Tryd.f15.params.toList ++ Rows.decompStaysSpec.plain.varTypes Tryd.prog).any (Tryd.prog.ifacesRec ·))) = true := by kernel_rfl
theorem j15 : ((Rows.decompStaysRow.mapsOut == Tryd.prog.mapsAmong Tryd.f15.resultTypes.toList)) = true := by kernel_rfl
theorem j16 : ((Rows.decompStaysRow.loops == (Tryd.f15.params.toList ++ Rows.decompStaysSpec.plain.varTypes Tryd.prog).any (Tryd.prog.loopsFrom ·))) = true := by kernel_rfl
theorem j17 : ((Rows.decompStaysRow.wideKeys == (Tryd.f15.params.toList ++ Rows.decompStaysSpec.plain.varTypes Tryd.prog ++ Tryd.f15.resultTypes.toList).any (Tryd.prog.wideKeysFrom ·))) = true := by kernel_rfl
theorem j18 : (Rows.decompStaysSpec.vars.all (Tryd.prog.varReadable ·)) = true := by kernel_rfl
theorem j19 : (Tryd.f15.resultTypes.all (fun t => Tryd.prog.readableRec t && decide (t < Tryd.prog.types.size))) = true := by kernel_rfl
theorem j20 : ((Rows.decompStaysRow.ifacesOut == Tryd.f15.resultTypes.toList.any (Tryd.prog.ifacesRec ·))) = true := by kernel_rfl
theorem j21 : ((Rows.decompStaysRow.loopsOut == Tryd.f15.resultTypes.toList.any (Tryd.prog.loopsFrom ·))) = true := by kernel_rfl
theorem j22 : ((Rows.decompStaysRow.plainKeys == Tryd.prog.plainKeys)) = true := by kernel_rfl
theorem j23 : (Rows.decompStaysRow.shortTexts.isNone) = true := by kernel_rfl
theorem j24 : (Tryd.prog.stopsHeard) = true := by kernel_rfl
theorem j25 : (Tryd.prog.mayEnter) = true := by kernel_rfl
theorem j26 : ((Rows.decompStaysRow.lifted == Tryd.prog.liftsFinal)) = true := by kernel_rfl
theorem j27 : ((Tryd.prog.make == some Rows.decompStaysRow.make)) = true := by kernel_rfl
theorem j28 : ((Rows.decompStaysRow.kinds == (if Rows.decompStaysRow.domain.isEmpty then [] else Tryd.f15.params.toList.map fun t => match Tryd.prog.underlying t with | some (.int k) => some k | _ => none))) = true := by kernel_rfl
theorem j29 : ((Rows.decompStaysRow.pinned == Rows.decompStaysRow.pinnedBy)) = true := by kernel_rfl
theorem j30 : ((Rows.decompStaysRow.veiled == (Tryd.f15.params.toList ++ Rows.decompStaysSpec.plain.varTypes Tryd.prog ++ Tryd.f15.resultTypes.toList).any (Tryd.prog.veiledRec ·))) = true := by kernel_rfl
theorem j31 : (Rows.decompStaysRow.veiledFits Tryd.prog Tryd.f15.params.toList (Tryd.f15.params.toList ++ Rows.decompStaysSpec.plain.varTypes Tryd.prog ++ Tryd.f15.resultTypes.toList)) = true := by kernel_rfl
end Go.Proofs.YtjhgaacecfmadaaDoor
