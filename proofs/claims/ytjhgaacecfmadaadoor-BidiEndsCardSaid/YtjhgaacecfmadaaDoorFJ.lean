/- Towards the statement: a part of its frame. No condition. -/
import Derived.Test.YtjhgaacecfmadaaDoorRows
import Derived.Test.YtjhgaacecfmadaaDoorTie
import Derived.Test.YtjhgaacecfmadaaDoorCards
import Derived.Test.YtjhgaacecfmadaaDoorSe24
import Derived.Test.YtjhgaacecfmadaaDoorFL
import Derived.OpenShut
import Derived.WalkKit
import Derived.ProofKit
import Derived.ChangeOld
import Derived.Below
import Derived.LaidMore
import Derived.LaidHandle
import Derived.SevenTiedAt
namespace Go.Proofs.YtjhgaacecfmadaaDoor
open Go Go.ChangeShapes Go.WideShapes Go.ChangeAt Go.RowKit Go.SE
set_option linter.unusedVariables false
theorem j0 : (Rows.bidiEndsRow.wf (OpenSpec.ofChange Rows.bidiEndsSpec)) = true := by kernel_rfl
theorem j1 : (laidOutB Tryd.prog) = true := by kernel_rfl
theorem j2 : (mapsRowed Tryd.prog) = true := by kernel_rfl
theorem j3 : (Tryd.f4.params.all (Tryd.prog.readableRec ·)) = true := by kernel_rfl
theorem j4 : (namedTie Tryd.prog Rows.bidiEndsRow.named Rows.bidiEndsSpec.vars) = true := by kernel_rfl
theorem j5 : ((Rows.bidiEndsRow.stops == [])) = true := by kernel_rfl
theorem j6 : ((Tryd.prog.stops == [])) = true := by kernel_rfl
theorem j7 : ((Rows.bidiEndsRow.knobs == [])) = true := by kernel_rfl
theorem j8 : ((Tryd.prog.stopKnobs == [])) = true := by kernel_rfl
theorem j9 : ((Rows.bidiEndsRow.inPlace == Tryd.prog.inPlace 4)) = true := by kernel_rfl
theorem j10 : ((Rows.bidiEndsRow.unfollowed == Tryd.prog.unfollowed 4)) = true := by kernel_rfl
theorem j11 : ((Rows.bidiEndsRow.recurses == Tryd.prog.recurses 4)) = true := by kernel_rfl
theorem j12 : ((Rows.bidiEndsRow.named == Tryd.prog.varsNamed 4)) = true := by kernel_rfl
theorem j13 : ((Rows.bidiEndsRow.maps == (Tryd.f4.params.toList ++ Rows.bidiEndsSpec.plain.varTypes Tryd.prog).any (Tryd.prog.mapsRec ·))) = true := by kernel_rfl
theorem j14 : ((Rows.bidiEndsRow.ifaces == (Tryd.f4.params.toList ++ Rows.bidiEndsSpec.plain.varTypes Tryd.prog).any (Tryd.prog.ifacesRec ·))) = true := by kernel_rfl
theorem j15 : ((Rows.bidiEndsRow.mapsOut == Tryd.prog.mapsAmong Tryd.f4.resultTypes.toList)) = true := by kernel_rfl
theorem j16 : ((Rows.bidiEndsRow.loops == (Tryd.f4.params.toList ++ Rows.bidiEndsSpec.plain.varTypes Tryd.prog).any (Tryd.prog.loopsFrom ·))) = true := by kernel_rfl
theorem j17 : ((Rows.bidiEndsRow.wideKeys == (Tryd.f4.params.toList ++ Rows.bidiEndsSpec.plain.varTypes Tryd.prog ++ Tryd.f4.resultTypes.toList).any (Tryd.prog.wideKeysFrom ·))) = true := by kernel_rfl
theorem j18 : (Rows.bidiEndsSpec.vars.all (Tryd.prog.varReadable ·)) = true := by kernel_rfl
theorem j19 : (Tryd.f4.resultTypes.all (fun t => Tryd.prog.readableRec t && decide (t < Tryd.prog.types.size))) = true := by kernel_rfl
theorem j20 : ((Rows.bidiEndsRow.ifacesOut == Tryd.f4.resultTypes.toList.any (Tryd.prog.ifacesRec ·))) = true := by kernel_rfl
theorem j21 : ((Rows.bidiEndsRow.loopsOut == Tryd.f4.resultTypes.toList.any (Tryd.prog.loopsFrom ·))) = true := by kernel_rfl
theorem j22 : ((Rows.bidiEndsRow.plainKeys == Tryd.prog.plainKeys)) = true := by kernel_rfl
theorem j23 : (Rows.bidiEndsRow.shortTexts.isNone) = true := by kernel_rfl
theorem j24 : (Tryd.prog.stopsHeard) = true := by kernel_rfl
theorem j25 : (Tryd.prog.mayEnter) = true := by kernel_rfl
theorem j26 : ((Rows.bidiEndsRow.lifted == Tryd.prog.liftsFinal)) = true := by kernel_rfl
theorem j27 : ((Tryd.prog.make == some Rows.bidiEndsRow.make)) = true := by kernel_rfl
theorem j28 : ((Rows.bidiEndsRow.kinds == (if Rows.bidiEndsRow.domain.isEmpty then [] else Tryd.f4.params.toList.map fun t => match Tryd.prog.underlying t with | some (.int k) => some k | _ => none))) = true := by kernel_rfl
theorem j29 : ((Rows.bidiEndsRow.pinned == Rows.bidiEndsRow.pinnedBy)) = true := by kernel_rfl
theorem j30 : ((Rows.bidiEndsRow.veiled == (Tryd.f4.params.toList ++ Rows.bidiEndsSpec.plain.varTypes Tryd.prog ++ Tryd.f4.resultTypes.toList).any (Tryd.prog.veiledRec ·))) = true := by kernel_rfl
theorem j31 : (Rows.bidiEndsRow.veiledFits Tryd.prog Tryd.f4.params.toList (Tryd.f4.params.toList ++ Rows.bidiEndsSpec.plain.varTypes Tryd.prog ++ Tryd.f4.resultTypes.toList)) = true := by kernel_rfl
end Go.Proofs.YtjhgaacecfmadaaDoor
