/- Towards the statement: a part of its frame. No condition. -/
import Derived.Test.YtjhgaacecfmadaaDoorRows
import Derived.Test.YtjhgaacecfmadaaDoorTie
import Derived.Test.YtjhgaacecfmadaaDoorCards
import Derived.Test.YtjhgaacecfmadaaDoorSe24
import Derived.Test.YtjhgaacecfmadaaDoorFL
import Derived.OpenShut
import Derived.WalkKit
import Derived.ProofKit
import Derived.ChangeOld
import Derived.Below
import Derived.LaidMore
import Derived.LaidHandle
import Derived.SevenTiedAt
namespace Go.Proofs.YtjhgaacecfmadaaDoor
open Go Go.ChangeShapes Go.WideShapes Go.ChangeAt Go.RowKit Go.SE
set_option linter.unusedVariables false
theorem j0 : (Rows.contextsChecksRow.wf (OpenSpec.ofChange Rows.contextsChecksSpec)) = true := by kernel_rfl
theorem j1 : (laidOutB Tryd.prog) = true := by kernel_rfl
theorem j2 : (mapsRowed Tryd.prog) = true := by kernel_rfl
theorem j3 : (Tryd.f19.params.all (Tryd.prog.readableRec ·)) = true := by kernel_rfl
theorem j4 : (namedTie Tryd.prog Rows.contextsChecksRow.named Rows.contextsChecksSpec.vars) = true := by kernel_rfl
theorem j5 : ((Rows.contextsChecksRow.stops == [])) = true := by kernel_rfl
theorem j6 : ((Tryd.prog.stops == [])) = true := by kernel_rfl
theorem j7 : ((Rows.contextsChecksRow.knobs == [])) = true := by kernel_rfl
theorem j8 : ((Tryd.prog.stopKnobs == [])) = true := by kernel_rfl
theorem j9 : ((Rows.contextsChecksRow.inPlace == Tryd.prog.inPlace 19)) = true := by kernel_rfl
theorem j10 : ((Rows.contextsChecksRow.unfollowed == Tryd.prog.unfollowed 19)) = true := by kernel_rfl
theorem j11 : ((Rows.contextsChecksRow.recurses == Tryd.prog.recurses 19)) = true := by kernel_rfl
theorem j12 : ((Rows.contextsChecksRow.named == Tryd.prog.varsNamed 19)) = true := by kernel_rfl
theorem j13 : ((Rows.contextsChecksRow.maps == (Tryd.f19.params.toList ++ Rows.contextsChecksSpec.plain.varTypes Tryd.prog).any (Tryd.prog.mapsRec ·))) = true := by kernel_rfl
theorem j14 : ((Rows.contextsChecksRow.ifaces == (Tryd.f19.params.toList ++ Rows.contextsChecksSpec.plain.varTypes Tryd.prog).any (Tryd.prog.ifacesRec ·))) = true := by kernel_rfl
theorem j15 : ((Rows.contextsChecksRow.mapsOut == Tryd.prog.mapsAmong Tryd.f19.resultTypes.toList)) = true := by kernel_rfl
theorem j16 : ((Rows.contextsChecksRow.loops == (Tryd.f19.params.toList ++ Rows.contextsChecksSpec.plain.varTypes Tryd.prog).any (Tryd.prog.loopsFrom ·))) = true := by kernel_rfl
theorem j17 : ((Rows.contextsChecksRow.wideKeys == (Tryd.f19.params.toList ++ Rows.contextsChecksSpec.plain.varTypes Tryd.prog ++ Tryd.f19.resultTypes.toList).any (Tryd.prog.wideKeysFrom ·))) = true := by kernel_rfl
theorem j18 : (Rows.contextsChecksSpec.vars.all (Tryd.prog.varReadable ·)) = true := by kernel_rfl
theorem j19 : (Tryd.f19.resultTypes.all (fun t => Tryd.prog.readableRec t && decide (t < Tryd.prog.types.size))) = true := by kernel_rfl
theorem j20 : ((Rows.contextsChecksRow.ifacesOut == Tryd.f19.resultTypes.toList.any (Tryd.prog.ifacesRec ·))) = true := by kernel_rfl
theorem j21 : ((Rows.contextsChecksRow.loopsOut == Tryd.f19.resultTypes.toList.any (Tryd.prog.loopsFrom ·))) = true := by kernel_rfl
theorem j22 : ((Rows.contextsChecksRow.plainKeys == Tryd.prog.plainKeys)) = true := by kernel_rfl
theorem j23 : (Rows.contextsChecksRow.shortTexts.isNone) = true := by kernel_rfl
theorem j24 : (Tryd.prog.stopsHeard) = true := by kernel_rfl
theorem j25 : (Tryd.prog.mayEnter) = true := by kernel_rfl
theorem j26 : ((Rows.contextsChecksRow.lifted == Tryd.prog.liftsFinal)) = true := by kernel_rfl
theorem j27 : ((Tryd.prog.make == some Rows.contextsChecksRow.make)) = true := by kernel_rfl
theorem j28 : ((Rows.contextsChecksRow.kinds == (if Rows.contextsChecksRow.domain.isEmpty then [] else Tryd.f19.params.toList.map fun t => match Tryd.prog.underlying t with | some (.int k) => some k | _ => none))) = true := by kernel_rfl
theorem j29 : ((Rows.contextsChecksRow.pinned == Rows.contextsChecksRow.pinnedBy)) = true := by kernel_rfl
theorem j30 : ((Rows.contextsChecksRow.veiled == (Tryd.f19.params.toList ++ Rows.contextsChecksSpec.plain.varTypes Tryd.prog ++ Tryd.f19.resultTypes.toList).any (Tryd.prog.veiledRec ·))) = true := by kernel_rfl
theorem j31 : (Rows.contextsChecksRow.veiledFits Tryd.prog Tryd.f19.params.toList (Tryd.f19.params.toList ++ Rows.contextsChecksSpec.plain.varTypes Tryd.prog ++ Tryd.f19.resultTypes.toList)) = true := by kernel_rfl
end Go.Proofs.YtjhgaacecfmadaaDoor
