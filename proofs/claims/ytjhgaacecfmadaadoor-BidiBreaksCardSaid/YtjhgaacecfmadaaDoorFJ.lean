/- Towards the statement: a part of its frame. No condition. -/
import Derived.Test.YtjhgaacecfmadaaDoorRows
import Derived.Test.YtjhgaacecfmadaaDoorTie
import Derived.Test.YtjhgaacecfmadaaDoorCards
import Derived.Test.YtjhgaacecfmadaaDoorSe24
import Derived.Test.YtjhgaacecfmadaaDoorFL
import Derived.OpenShut
import Derived.WalkKit
import Derived.ProofKit
import Derived.ChangeOld
import Derived.Below
import Derived.LaidMore
import Derived.LaidHandle
import Derived.SevenTiedAt
namespace Go.Proofs.YtjhgaacecfmadaaDoor
open Go Go.ChangeShapes Go.WideShapes Go.ChangeAt Go.RowKit Go.SE
set_option linter.unusedVariables false
theorem j0 : (Rows.bidiBreaksRow.wf (OpenSpec.ofChange Rows.bidiBreaksSpec)) = true := by kernel_rfl
theorem j1 : (laidOutB Tryd.prog) = true := by kernel_rfl
theorem j2 : (mapsRowed Tryd.prog) = true := by kernel_rfl
theorem j3 : (Tryd.f7.params.all (Tryd.prog.readableRec ·)) = true := by kernel_rfl
theorem j4 : (namedTie Tryd.prog Rows.bidiBreaksRow.named Rows.bidiBreaksSpec.vars) = true := by kernel_rfl
theorem j5 : ((Rows.bidiBreaksRow.stops == [])) = true := by kernel_rfl
theorem j6 : ((Tryd.prog.stops == [])) = true := by kernel_rfl
theorem j7 : ((Rows.bidiBreaksRow.knobs == [])) = true := by kernel_rfl
theorem j8 : ((Tryd.prog.stopKnobs == [])) = true := by kernel_rfl
theorem j9 : ((Rows.bidiBreaksRow.inPlace == Tryd.prog.inPlace 7)) = true := by kernel_rfl
theorem j10 : ((Rows.bidiBreaksRow.unfollowed == Tryd.prog.unfollowed 7)) = true := by kernel_rfl
theorem j11 : ((Rows.bidiBreaksRow.recurses == Tryd.prog.recurses 7)) = true := by kernel_rfl
theorem j12 : ((Rows.bidiBreaksRow.named == Tryd.prog.varsNamed 7)) = true := by kernel_rfl
theorem j13 : ((Rows.bidiBreaksRow.maps == (Tryd.f7.params.toList ++ Rows.bidiBreaksSpec.plain.varTypes Tryd.prog).any (Tryd.prog.mapsRec ·))) = true := by kernel_rfl
theorem j14 : ((Rows.bidiBreaksRow.ifaces == (Tryd.f7.params.toList ++ Rows.bidiBreaksSpec.plain.varTypes Tryd.prog).any (Tryd.prog.ifacesRec ·))) = true := by kernel_rfl
theorem j15 : ((Rows.bidiBreaksRow.mapsOut == Tryd.prog.mapsAmong Tryd.f7.resultTypes.toList)) = true := by kernel_rfl
theorem j16 : ((Rows.bidiBreaksRow.loops == (Tryd.f7.params.toList ++ Rows.bidiBreaksSpec.plain.varTypes Tryd.prog).any (Tryd.prog.loopsFrom ·))) = true := by kernel_rfl
theorem j17 : ((Rows.bidiBreaksRow.wideKeys == (Tryd.f7.params.toList ++ Rows.bidiBreaksSpec.plain.varTypes Tryd.prog ++ Tryd.f7.resultTypes.toList).any (Tryd.prog.wideKeysFrom ·))) = true := by kernel_rfl
theorem j18 : (Rows.bidiBreaksSpec.vars.all (Tryd.prog.varReadable ·)) = true := by kernel_rfl
theorem j19 : (Tryd.f7.resultTypes.all (fun t => Tryd.prog.readableRec t && decide (t < Tryd.prog.types.size))) = true := by kernel_rfl
theorem j20 : ((Rows.bidiBreaksRow.ifacesOut == Tryd.f7.resultTypes.toList.any (Tryd.prog.ifacesRec ·))) = true := by kernel_rfl
theorem j21 : ((Rows.bidiBreaksRow.loopsOut == Tryd.f7.resultTypes.toList.any (Tryd.prog.loopsFrom ·))) = true := by kernel_rfl
theorem j22 : ((Rows.bidiBreaksRow.plainKeys == Tryd.prog.plainKeys)) = true := by kernel_rfl
theorem j23 : (Rows.bidiBreaksRow.shortTexts.isNone) = true := by kernel_rfl
theorem j24 : (Tryd.prog.stopsHeard) = true := by kernel_rfl
theorem j25 : (Tryd.prog.mayEnter) = true := by kernel_rfl
theorem j26 : ((Rows.bidiBreaksRow.lifted == Tryd.prog.liftsFinal)) = true := by kernel_rfl
theorem j27 : ((Tryd.prog.make == some Rows.bidiBreaksRow.make)) = true := by kernel_rfl
theorem j28 : ((Rows.bidiBreaksRow.kinds == (if Rows.bidiBreaksRow.domain.isEmpty then [] else Tryd.f7.params.toList.map fun t => match Tryd.prog.underlying t with | some (.int k) => some k | _ => none))) = true := by kernel_rfl
theorem j29 : ((Rows.bidiBreaksRow.pinned == Rows.bidiBreaksRow.pinnedBy)) = true := by kernel_rfl
theorem j30 : ((Rows.bidiBreaksRow.veiled == (Tryd.f7.params.toList ++ Rows.bidiBreaksSpec.plain.varTypes Tryd.prog ++ Tryd.f7.resultTypes.toList).any (Tryd.prog.veiledRec ·))) = true := by kernel_rfl
theorem j31 : (Rows.bidiBreaksRow.veiledFits Tryd.prog Tryd.f7.params.toList (Tryd.f7.params.toList ++ Rows.bidiBreaksSpec.plain.varTypes Tryd.prog ++ Tryd.f7.resultTypes.toList)) = true := by kernel_rfl
end Go.Proofs.YtjhgaacecfmadaaDoor
