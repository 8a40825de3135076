/- Towards the statement: a part of its frame. No condition. -/
import Derived.Test.YtjhgaacecfmadaaDoorRows
import Derived.Test.YtjhgaacecfmadaaDoorTie
import Derived.Test.YtjhgaacecfmadaaDoorCards
import Derived.Test.YtjhgaacecfmadaaDoorSe24
import Derived.Test.YtjhgaacecfmadaaDoorFL
import Derived.OpenShut
import Derived.WalkKit
import Derived.ProofKit
import Derived.ChangeOld
import Derived.Below
import Derived.LaidMore
import Derived.LaidHandle
import Derived.SevenTiedAt
namespace Go.Proofs.YtjhgaacecfmadaaDoor
open Go Go.ChangeShapes Go.WideShapes Go.ChangeAt Go.RowKit Go.SE
set_option linter.unusedVariables false
theorem j0 : (Rows.contextsBehindRow.wf (OpenSpec.ofChange Rows.contextsBehindSpec)) = true := by kernel_rfl
theorem j1 : (laidOutB Tryd.prog) = true := by kernel_rfl
theorem j2 : (mapsRowed Tryd.prog) = true := by kernel_rfl
theorem j3 : (Tryd.f11.params.all (Tryd.prog.readableRec ·)) = true := by kernel_rfl
theorem j4 : (namedTie Tryd.prog Rows.contextsBehindRow.named Rows.contextsBehindSpec.vars) = true := by kernel_rfl
theorem j5 : ((Rows.contextsBehindRow.stops == [])) = true := by kernel_rfl
theorem j6 : ((Tryd.prog.stops == [])) = true := by kernel_rfl
theorem j7 : ((Rows.contextsBehindRow.knobs == [])) = true := by kernel_rfl
theorem j8 : ((Tryd.prog.stopKnobs == [])) = true := by kernel_rfl
theorem j9 : ((Rows.contextsBehindRow.inPlace == Tryd.prog.inPlace 11)) = true := by kernel_rfl
theorem j10 : ((Rows.contextsBehindRow.unfollowed == Tryd.prog.unfollowed 11)) = true := by kernel_rfl
theorem j11 : ((Rows.contextsBehindRow.recurses == Tryd.prog.recurses 11)) = true := by kernel_rfl
theorem j12 : ((Rows.contextsBehindRow.named == Tryd.prog.varsNamed 11)) = true := by kernel_rfl
theorem j13 : ((Rows.contextsBehindRow.maps == (Tryd.f11.params.toList ++ Rows.contextsBehindSpec.plain.varTypes Tryd.prog).any (Tryd.prog.mapsRec ·))) = true := by kernel_rfl
theorem j14 : ((Rows.contextsBehindRow.ifaces == (Tryd.f11.params.toList ++ Rows.contextsBehindSpec.plain.varTypes Tryd.prog).any (Tryd.prog.ifacesRec ·))) = true := by kernel_rfl
theorem j15 : ((Rows.contextsBehindRow.mapsOut == Tryd.prog.mapsAmong Tryd.f11.resultTypes.toList)) = true := by kernel_rfl
theorem j16 : ((Rows.contextsBehindRow.loops == (Tryd.f11.params.toList ++ Rows.contextsBehindSpec.plain.varTypes Tryd.prog).any (Tryd.prog.loopsFrom ·))) = true := by kernel_rfl
theorem j17 : ((Rows.contextsBehindRow.wideKeys == (Tryd.f11.params.toList ++ Rows.contextsBehindSpec.plain.varTypes Tryd.prog ++ Tryd.f11.resultTypes.toList).any (Tryd.prog.wideKeysFrom ·))) = true := by kernel_rfl
theorem j18 : (Rows.contextsBehindSpec.vars.all (Tryd.prog.varReadable ·)) = true := by kernel_rfl
theorem j19 : (Tryd.f11.resultTypes.all (fun t => Tryd.prog.readableRec t && decide (t < Tryd.prog.types.size))) = true := by kernel_rfl
theorem j20 : ((Rows.contextsBehindRow.ifacesOut == Tryd.f11.resultTypes.toList.any (Tryd.prog.ifacesRec ·))) = true := by kernel_rfl
theorem j21 : ((Rows.contextsBehindRow.loopsOut == Tryd.f11.resultTypes.toList.any (Tryd.prog.loopsFrom ·))) = true := by kernel_rfl
theorem j22 : ((Rows.contextsBehindRow.plainKeys == Tryd.prog.plainKeys)) = true := by kernel_rfl
theorem j23 : (Rows.contextsBehindRow.shortTexts.isNone) = true := by kernel_rfl
theorem j24 : (Tryd.prog.stopsHeard) = true := by kernel_rfl
theorem j25 : (Tryd.prog.mayEnter) = true := by kernel_rfl
theorem j26 : ((Rows.contextsBehindRow.lifted == Tryd.prog.liftsFinal)) = true := by kernel_rfl
theorem j27 : ((Tryd.prog.make == some Rows.contextsBehindRow.make)) = true := by kernel_rfl
theorem j28 : ((Rows.contextsBehindRow.kinds == (if Rows.contextsBehindRow.domain.isEmpty then [] else Tryd.f11.params.toList.map fun t => match Tryd.prog.underlying t with | some (.int k) => some k | _ => none))) = true := by kernel_rfl
theorem j29 : ((Rows.contextsBehindRow.pinned == Rows.contextsBehindRow.pinnedBy)) = true := by kernel_rfl
theorem j30 : ((Rows.contextsBehindRow.veiled == (Tryd.f11.params.toList ++ Rows.contextsBehindSpec.plain.varTypes Tryd.prog ++ Tryd.f11.resultTypes.toList).any (Tryd.prog.veiledRec ·))) = true := by kernel_rfl
theorem j31 : (Rows.contextsBehindRow.veiledFits Tryd.prog Tryd.f11.params.toList (Tryd.f11.params.toList ++ Rows.contextsBehindSpec.plain.varTypes Tryd.prog ++ Tryd.f11.resultTypes.toList)) = true := by kernel_rfl
end Go.Proofs.YtjhgaacecfmadaaDoor
