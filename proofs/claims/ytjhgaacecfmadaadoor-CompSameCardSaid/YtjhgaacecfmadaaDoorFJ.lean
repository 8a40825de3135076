/- Towards the statement: a part of its frame. No condition. -/
import Derived.Test.YtjhgaacecfmadaaDoorRows
import Derived.Test.YtjhgaacecfmadaaDoorTie
import Derived.Test.YtjhgaacecfmadaaDoorCards
import Derived.Test.YtjhgaacecfmadaaDoorSe24
import Derived.Test.YtjhgaacecfmadaaDoorFL
import Derived.OpenShut
import Derived.WalkKit
import Derived.ProofKit
import Derived.ChangeOld
import Derived.Below
import Derived.LaidMore
import Derived.LaidHandle
import Derived.SevenTiedAt
namespace Go.Proofs.YtjhgaacecfmadaaDoor
open Go Go.ChangeShapes Go.WideShapes Go.ChangeAt Go.RowKit Go.SE
set_option linter.unusedVariables false
theorem j0 : (Rows.compSameRow.wf (OpenSpec.ofChange Rows.compSameSpec)) = true := by kernel_rfl
theorem j1 : (laidOutB Tryd.prog) = true := by kernel_rfl
theorem j2 : (mapsRowed Tryd.prog) = true := by kernel_rfl
theorem j3 : (Tryd.f18.params.all (Tryd.prog.readableRec ·)) = true := by kernel_rfl
theorem j4 : (namedTie Tryd.prog Rows.compSameRow.named Rows.compSameSpec.vars) = true := by kernel_rfl
theorem j5 : ((Rows.compSameRow.stops == [])) = true := by kernel_rfl
theorem j6 : ((Tryd.prog.stops == [])) = true := by kernel_rfl
theorem j7 : ((Rows.compSameRow.knobs == [])) = true := by kernel_rfl
theorem j8 : ((Tryd.prog.stopKnobs == [])) = true := by kernel_rfl
theorem j9 : ((Rows.compSameRow.inPlace == Tryd.prog.inPlace 18)) = true := by kernel_rfl
theorem j10 : ((Rows.compSameRow.unfollowed == Tryd.prog.unfollowed 18)) = true := by kernel_rfl
theorem j11 : ((Rows.compSameRow.recurses == Tryd.prog.recurses 18)) = true := by kernel_rfl
theorem j12 : ((Rows.compSameRow.named == Tryd.prog.varsNamed 18)) = true := by kernel_rfl
theorem j13 : ((Rows.compSameRow.maps == (Tryd.f18.params.toList ++ Rows.compSameSpec.plain.varTypes Tryd.prog).any (Tryd.prog.mapsRec ·))) = true := by kernel_rfl
theorem j14 : ((Rows.compSameRow.ifaces == (Tryd.f18.params.toList ++ Rows.compSameSpec.plain.varTypes Tryd.prog).any (Tryd.prog.ifacesRec ·))) = true := by kernel_rfl
theorem j15 : ((Rows.compSameRow.mapsOut == Tryd.prog.mapsAmong Tryd.f18.resultTypes.toList)) = true := by kernel_rfl
theorem j16 : ((Rows.compSameRow.loops == (Tryd.f18.params.toList ++ Rows.compSameSpec.plain.varTypes Tryd.prog).any (Tryd.prog.loopsFrom ·))) = true := by kernel_rfl
theorem j17 : ((Rows.compSameRow.wideKeys == (Tryd.f18.params.toList ++ Rows.compSameSpec.plain.varTypes Tryd.prog ++ Tryd.f18.resultTypes.toList).any (Tryd.prog.wideKeysFrom ·))) = true := by kernel_rfl
theorem j18 : (Rows.compSameSpec.vars.all (Tryd.prog.varReadable ·)) = true := by kernel_rfl
theorem j19 : (Tryd.f18.resultTypes.all (fun t => Tryd.prog.readableRec t && decide (t < Tryd.prog.types.size))) = true := by kernel_rfl
theorem j20 : ((Rows.compSameRow.ifacesOut == Tryd.f18.resultTypes.toList.any (Tryd.prog.ifacesRec ·))) = true := by kernel_rfl
theorem j21 : ((Rows.compSameRow.loopsOut == Tryd.f18.resultTypes.toList.any (Tryd.prog.loopsFrom ·))) = true := by kernel_rfl
theorem j22 : ((Rows.compSameRow.plainKeys == Tryd.prog.plainKeys)) = true := by kernel_rfl
theorem j23 : (Rows.compSameRow.shortTexts.isNone) = true := by kernel_rfl
theorem j24 : (Tryd.prog.stopsHeard) = true := by kernel_rfl
theorem j25 : (Tryd.prog.mayEnter) = true := by kernel_rfl
theorem j26 : ((Rows.compSameRow.lifted == Tryd.prog.liftsFinal)) = true := by kernel_rfl
theorem j27 : ((Tryd.prog.make == some Rows.compSameRow.make)) = true := by kernel_rfl
theorem j28 : ((Rows.compSameRow.kinds == (if Rows.compSameRow.domain.isEmpty then [] else Tryd.f18.params.toList.map fun t => match Tryd.prog.underlying t with | some (.int k) => some k | _ => none))) = true := by kernel_rfl
theorem j29 : ((Rows.compSameRow.pinned == Rows.compSameRow.pinnedBy)) = true := by kernel_rfl
theorem j30 : ((Rows.compSameRow.veiled == (Tryd.f18.params.toList ++ Rows.compSameSpec.plain.varTypes Tryd.prog ++ Tryd.f18.resultTypes.toList).any (Tryd.prog.veiledRec ·))) = true := by kernel_rfl
theorem j31 : (Rows.compSameRow.veiledFits Tryd.prog Tryd.f18.params.toList (Tryd.f18.params.toList ++ Rows.compSameSpec.plain.varTypes Tryd.prog ++ Tryd.f18.resultTypes.toList)) = true := by kernel_rfl
end Go.Proofs.YtjhgaacecfmadaaDoor
