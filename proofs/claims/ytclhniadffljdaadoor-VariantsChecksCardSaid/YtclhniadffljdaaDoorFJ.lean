/- Towards the statement: a part of its frame. No condition. -/
import Derived.Test.YtclhniadffljdaaDoorRows
import Derived.Test.YtclhniadffljdaaDoorTie
import Derived.Test.YtclhniadffljdaaDoorCards
import Derived.Test.YtclhniadffljdaaDoorSe24
import Derived.Test.YtclhniadffljdaaDoorFL
import Derived.OpenShut
import Derived.WalkKit
import Derived.ProofKit
import Derived.ChangeOld
import Derived.Below
import Derived.LaidMore
import Derived.LaidHandle
import Derived.SevenTiedAt
import Derived.ChangeMaps5
namespace Go.Proofs.YtclhniadffljdaaDoor
open Go Go.ChangeShapes Go.WideShapes Go.ChangeAt Go.RowKit Go.SE
set_option linter.unusedVariables false
theorem j0 : (Rows.variantsChecksRow.wf (OpenSpec.ofChange Rows.variantsChecksSpec)) = true := by kernel_rfl
theorem j1 : (laidOutB Tryd.prog) = true := by kernel_rfl
theorem j2 : (mapsRowed Tryd.prog) = true := by kernel_rfl
theorem j3 : (Tryd.f4.params.all (Tryd.prog.readableRec ·)) = true := by kernel_rfl
theorem j4 : (namedTie Tryd.prog Rows.variantsChecksRow.named Rows.variantsChecksSpec.vars) = true := by kernel_rfl
theorem j5 : ((Rows.variantsChecksRow.stops == [])) = true := by kernel_rfl
theorem j6 : ((Tryd.prog.stops == [])) = true := by kernel_rfl
theorem j7 : ((Rows.variantsChecksRow.knobs == [])) = true := by kernel_rfl
theorem j8 : ((Tryd.prog.stopKnobs == [])) = true := by kernel_rfl
theorem j9 : ((Rows.variantsChecksRow.inPlace == Tryd.prog.inPlace 4)) = true := by kernel_rfl
theorem j10 : ((Rows.variantsChecksRow.unfollowed == Tryd.prog.unfollowed 4)) = true := by kernel_rfl
theorem j11 : ((Rows.variantsChecksRow.recurses == Tryd.prog.recurses 4)) = true := by kernel_rfl
theorem j12 : ((Rows.variantsChecksRow.named == Tryd.prog.varsNamed 4)) = true := by kernel_rfl
theorem j13 : ((Rows.variantsChecksRow.maps == (Tryd.f4.params.toList ++ Rows.variantsChecksSpec.plain.varTypes Tryd.prog).any (Tryd.prog.mapsRec ·))) = true := by kernel_rfl
theorem j14 : ((Rows.variantsChecksRow.ifaces == (Tryd.f4.params.toList ++ Rows.variantsChecksSpec.plain.varTypes Tryd.prog).any (Tryd.prog.ifacesRec ·))) = true := by kernel_rfl
theorem j15 : ((Rows.variantsChecksRow.mapsOut == Tryd.prog.mapsAmong Tryd.f4.resultTypes.toList)) = true := by kernel_rfl
theorem j16 : ((Rows.variantsChecksRow.loops == (Tryd.f4.params.toList ++ Rows.variantsChecksSpec.plain.varTypes Tryd.prog).any (Tryd.prog.loopsFrom ·))) = true := by kernel_rfl
theorem j17 : ((Rows.variantsChecksRow.wideKeys == (Tryd.f4.params.toList ++ Rows.variantsChecksSpec.plain.varTypes Tryd.prog ++ Tryd.f4.resultTypes.toList).any (Tryd.prog.wideKeysFrom ·))) = true := by kernel_rfl
theorem j18 : (Rows.variantsChecksSpec.vars.all (Tryd.prog.varReadable ·)) = true := by kernel_rfl
theorem j19 : (Tryd.f4.resultTypes.all (fun t => Tryd.prog.readableRec t && decide (t < Tryd.prog.types.size))) = true := by kernel_rfl
theorem j20 : ((Rows.variantsChecksRow.ifacesOut == Tryd.f4.resultTypes.toList.any (Tryd.prog.ifacesRec ·))) = true := by kernel_rfl
theorem j21 : ((Rows.variantsChecksRow.loopsOut == Tryd.f4.resultTypes.toList.any (Tryd.prog.loopsFrom ·))) = true := by kernel_rfl
theorem j22 : ((Rows.variantsChecksRow.plainKeys == Tryd.prog.plainKeys)) = true := by kernel_rfl
theorem j23 : (Rows.variantsChecksRow.shortTexts.isNone) = true := by kernel_rfl
theorem j24 : (Tryd.prog.stopsHeard) = true := by kernel_rfl
theorem j25 : (Tryd.prog.mayEnter) = true := by kernel_rfl
theorem j26 : ((Rows.variantsChecksRow.lifted == Tryd.prog.liftsFinal)) = true := by kernel_rfl
theorem j27 : ((Tryd.prog.make == some Rows.variantsChecksRow.make)) = true := by kernel_rfl
theorem j28 : ((Rows.variantsChecksRow.kinds == (if Rows.variantsChecksRow.domain.isEmpty then [] else Tryd.f4.params.toList.map fun t => match Tryd.prog.underlying t with | some (.int k) => some k | _ => none))) = true := by kernel_rfl
theorem j29 : ((Rows.variantsChecksRow.pinned == Rows.variantsChecksRow.pinnedBy)) = true := by kernel_rfl
theorem j30 : ((Rows.variantsChecksRow.veiled == (Tryd.f4.params.toList ++ Rows.variantsChecksSpec.plain.varTypes Tryd.prog ++ Tryd.f4.resultTypes.toList).any (Tryd.prog.veiledRec ·))) = true := by kernel_rfl
theorem j31 : (Rows.variantsChecksRow.veiledFits Tryd.prog Tryd.f4.params.toList (Tryd.f4.params.toList ++ Rows.variantsChecksSpec.plain.varTypes Tryd.prog ++ Tryd.f4.resultTypes.toList)) = true := by kernel_rfl
end Go.Proofs.YtclhniadffljdaaDoor
