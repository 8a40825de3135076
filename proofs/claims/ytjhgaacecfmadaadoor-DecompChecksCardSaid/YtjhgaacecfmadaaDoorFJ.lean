/- Towards the statement: a part of its frame. No condition. -/
import Derived.Test.YtjhgaacecfmadaaDoorRows
import Derived.Test.YtjhgaacecfmadaaDoorTie
import Derived.Test.YtjhgaacecfmadaaDoorCards
import Derived.Test.YtjhgaacecfmadaaDoorSe24
import Derived.Test.YtjhgaacecfmadaaDoorFL
import Derived.OpenShut
import Derived.WalkKit
import Derived.ProofKit
import Derived.ChangeOld
import Derived.Below
import Derived.LaidMore
import Derived.LaidHandle
import Derived.SevenTiedAt
namespace Go.Proofs.YtjhgaacecfmadaaDoor
open Go Go.ChangeShapes Go.WideShapes Go.ChangeAt Go.RowKit Go.SE
set_option linter.unusedVariables false
theorem j0 : (Rows.decompChecksRow.wf (OpenSpec.ofChange Rows.decompChecksSpec)) = true := by kernel_rfl
theorem j1 : (laidOutB Tryd.prog) = true := by kernel_rfl
theorem j2 : (mapsRowed Tryd.prog) = true := by kernel_rfl
theorem j3 : (Tryd.f16.params.all (Tryd.prog.readableRec ·)) = true := by kernel_rfl
theorem j4 : (namedTie Tryd.prog Rows.decompChecksRow.named Rows.decompChecksSpec.vars) = true := by kernel_rfl
theorem j5 : ((Rows.decompChecksRow.stops == [])) = true := by kernel_rfl
theorem j6 : ((Tryd.prog.stops == [])) = true := by kernel_rfl
theorem j7 : ((Rows.decompChecksRow.knobs == [])) = true := by kernel_rfl
theorem j8 : ((Tryd.prog.stopKnobs == [])) = true := by kernel_rfl
theorem j9 : ((Rows.decompChecksRow.inPlace == Tryd.prog.inPlace 16)) = true := by kernel_rfl
theorem j10 : ((Rows.decompChecksRow.unfollowed == Tryd.prog.unfollowed 16)) = true := by kernel_rfl
theorem j11 : ((Rows.decompChecksRow.recurses == Tryd.prog.recurses 16)) = true := by kernel_rfl
theorem j12 : ((Rows.decompChecksRow.named == Tryd.prog.varsNamed 16)) = true := by kernel_rfl
theorem j13 : ((Rows.decompChecksRow.maps == (Tryd.f16.params.toList ++ Rows.decompChecksSpec.plain.varTypes Tryd.prog).any (Tryd.prog.mapsRec ·))) = true := by kernel_rfl
theorem j14 : ((Rows.decompChecksRow.ifaces == (Tryd.f16.params.toList ++ Rows.decompChecksSpec.plain.varTypes Tryd.prog).any (Tryd.prog.ifacesRec ·))) = true := by kernel_rfl
theorem j15 : ((Rows.decompChecksRow.mapsOut == Tryd.prog.mapsAmong Tryd.f16.resultTypes.toList)) = true := by kernel_rfl
theorem j16 : ((Rows.decompChecksRow.loops == (Tryd.f16.params.toList ++ Rows.decompChecksSpec.plain.varTypes Tryd.prog).any (Tryd.prog.loopsFrom ·))) = true := by kernel_rfl
theorem j17 : ((Rows.decompChecksRow.wideKeys == (Tryd.f16.params.toList ++ Rows.decompChecksSpec.plain.varTypes Tryd.prog ++ Tryd.f16.resultTypes.toList).any (Tryd.prog.wideKeysFrom ·))) = true := by kernel_rfl
theorem j18 : (Rows.decompChecksSpec.vars.all (Tryd.prog.varReadable ·)) = true := by kernel_rfl
theorem j19 : (Tryd.f16.resultTypes.all (fun t => Tryd.prog.readableRec t && decide (t < Tryd.prog.types.size))) = true := by kernel_rfl
theorem j20 : ((Rows.decompChecksRow.ifacesOut == Tryd.f16.resultTypes.toList.any (Tryd.prog.ifacesRec ·))) = true := by kernel_rfl
theorem j21 : ((Rows.decompChecksRow.loopsOut == Tryd.f16.resultTypes.toList.any (Tryd.prog.loopsFrom ·))) = true := by kernel_rfl
theorem j22 : ((Rows.decompChecksRow.plainKeys == Tryd.prog.plainKeys)) = true := by kernel_rfl
theorem j23 : (Rows.decompChecksRow.shortTexts.isNone) = true := by kernel_rfl
theorem j24 : (Tryd.prog.stopsHeard) = true := by kernel_rfl
theorem j25 : (Tryd.prog.mayEnter) = true := by kernel_rfl
theorem j26 : ((Rows.decompChecksRow.lifted == Tryd.prog.liftsFinal)) = true := by kernel_rfl
theorem j27 : ((Tryd.prog.make == some Rows.decompChecksRow.make)) = true := by kernel_rfl
theorem j28 : ((Rows.decompChecksRow.kinds == (if Rows.decompChecksRow.domain.isEmpty then [] else Tryd.f16.params.toList.map fun t => match Tryd.prog.underlying t with | some (.int k) => some k | _ => none))) = true := by kernel_rfl
theorem j29 : ((Rows.decompChecksRow.pinned == Rows.decompChecksRow.pinnedBy)) = true := by kernel_rfl
theorem j30 : ((Rows.decompChecksRow.veiled == (Tryd.f16.params.toList ++ Rows.decompChecksSpec.plain.varTypes Tryd.prog ++ Tryd.f16.resultTypes.toList).any (Tryd.prog.veiledRec ·))) = true := by kernel_rfl
theorem j31 : (Rows.decompChecksRow.veiledFits Tryd.prog Tryd.f16.params.toList (Tryd.f16.params.toList ++ Rows.decompChecksSpec.plain.varTypes Tryd.prog ++ Tryd.f16.resultTypes.toList)) = true := by kernel_rfl
end Go.Proofs.YtjhgaacecfmadaaDoor
