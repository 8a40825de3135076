/- Towards the statement: a part of its frame. No condition. -/
import Derived.Test.YtjhgaacecfmadaaDoorRows
import Derived.Test.YtjhgaacecfmadaaDoorTie
import Derived.Test.YtjhgaacecfmadaaDoorCards
import Derived.Test.YtjhgaacecfmadaaDoorSe24
import Derived.Test.YtjhgaacecfmadaaDoorFL
import Derived.OpenShut
import Derived.WalkKit
import Derived.ProofKit
import Derived.ChangeOld
import Derived.Below
import Derived.LaidMore
import Derived.LaidHandle
import Derived.SevenTiedAt
namespace Go.Proofs.YtjhgaacecfmadaaDoor
open Go Go.ChangeShapes Go.WideShapes Go.ChangeAt Go.RowKit Go.SE
set_option linter.unusedVariables false
theorem j0 : (Rows.decompAllsRow.wf (OpenSpec.ofChange Rows.decompAllsSpec)) = true := by kernel_rfl
theorem j1 : (laidOutB Tryd.prog) = true := by kernel_rfl
theorem j2 : (mapsRowed Tryd.prog) = true := by kernel_rfl
theorem j3 : (Tryd.f14.params.all (Tryd.prog.readableRec ·)) = true := by kernel_rfl
theorem j4 : (namedTie Tryd.prog Rows.decompAllsRow.named Rows.decompAllsSpec.vars) = true := by kernel_rfl
theorem j5 : ((Rows.decompAllsRow.stops == [])) = true := by kernel_rfl
theorem j6 : ((Tryd.prog.stops == [])) = true := by kernel_rfl
theorem j7 : ((Rows.decompAllsRow.knobs == [])) = true := by kernel_rfl
theorem j8 : ((Tryd.prog.stopKnobs == [])) = true := by kernel_rfl
theorem j9 : ((Rows.decompAllsRow.inPlace == Tryd.prog.inPlace 14)) = true := by kernel_rfl
theorem j10 : ((Rows.decompAllsRow.unfollowed == Tryd.prog.unfollowed 14)) = true := by kernel_rfl
theorem j11 : ((Rows.decompAllsRow.recurses == Tryd.prog.recurses 14)) = true := by kernel_rfl
theorem j12 : ((Rows.decompAllsRow.named == Tryd.prog.varsNamed 14)) = true := by kernel_rfl
theorem j13 : ((Rows.decompAllsRow.maps == (Tryd.f14.params.toList ++ Rows.decompAllsSpec.plain.varTypes Tryd.prog).any (Tryd.prog.mapsRec ·))) = true := by kernel_rfl
theorem j14 : ((Rows.decompAllsRow.ifaces == (Tryd.f14.params.toList ++ Rows.decompAllsSpec.plain.varTypes Tryd.prog).any (Tryd.prog.ifacesRec ·))) = true := by kernel_rfl
theorem j15 : ((Rows.decompAllsRow.mapsOut == Tryd.prog.mapsAmong Tryd.f14.resultTypes.toList)) = true := by kernel_rfl
theorem j16 : ((Rows.decompAllsRow.loops == (Tryd.f14.params.toList ++ Rows.decompAllsSpec.plain.varTypes Tryd.prog).any (Tryd.prog.loopsFrom ·))) = true := by kernel_rfl
theorem j17 : ((Rows.decompAllsRow.wideKeys == (Tryd.f14.params.toList ++ Rows.decompAllsSpec.plain.varTypes Tryd.prog ++ Tryd.f14.resultTypes.toList).any (Tryd.prog.wideKeysFrom ·))) = true := by kernel_rfl
theorem j18 : (Rows.decompAllsSpec.vars.all (Tryd.prog.varReadable ·)) = true := by kernel_rfl
theorem j19 : (Tryd.f14.resultTypes.all (fun t => Tryd.prog.readableRec t && decide (t < Tryd.prog.types.size))) = true := by kernel_rfl
theorem j20 : ((Rows.decompAllsRow.ifacesOut == Tryd.f14.resultTypes.toList.any (Tryd.prog.ifacesRec ·))) = true := by kernel_rfl
theorem j21 : ((Rows.decompAllsRow.loopsOut == Tryd.f14.resultTypes.toList.any (Tryd.prog.loopsFrom ·))) = true := by kernel_rfl
theorem j22 : ((Rows.decompAllsRow.plainKeys == Tryd.prog.plainKeys)) = true := by kernel_rfl
theorem j23 : (Rows.decompAllsRow.shortTexts.isNone) = true := by kernel_rfl
theorem j24 : (Tryd.prog.stopsHeard) = true := by kernel_rfl
theorem j25 : (Tryd.prog.mayEnter) = true := by kernel_rfl
theorem j26 : ((Rows.decompAllsRow.lifted == Tryd.prog.liftsFinal)) = true := by kernel_rfl
theorem j27 : ((Tryd.prog.make == some Rows.decompAllsRow.make)) = true := by kernel_rfl
theorem j28 : ((Rows.decompAllsRow.kinds == (if Rows.decompAllsRow.domain.isEmpty then [] else Tryd.f14.params.toList.map fun t => match Tryd.prog.underlying t with | some (.int k) => some k | _ => none))) = true := by kernel_rfl
theorem j29 : ((Rows.decompAllsRow.pinned == Rows.decompAllsRow.pinnedBy)) = true := by kernel_rfl
theorem j30 : ((Rows.decompAllsRow.veiled == (Tryd.f14.params.toList ++ Rows.decompAllsSpec.plain.varTypes Tryd.prog ++ Tryd.f14.resultTypes.toList).any (Tryd.prog.veiledRec ·))) = true := by kernel_rfl
theorem j31 : (Rows.decompAllsRow.veiledFits Tryd.prog Tryd.f14.params.toList (Tryd.f14.params.toList ++ Rows.decompAllsSpec.plain.varTypes Tryd.prog ++ Tryd.f14.resultTypes.toList)) = true := by kernel_rfl
end Go.Proofs.YtjhgaacecfmadaaDoor
