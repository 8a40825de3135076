/- Towards the statement: a part of its frame. No condition. -/
import Derived.Test.YtclhniadffljdaaDoorRows
import Derived.Test.YtclhniadffljdaaDoorTie
import Derived.Test.YtclhniadffljdaaDoorCards
import Derived.Test.YtclhniadffljdaaDoorSe24
import Derived.Test.YtclhniadffljdaaDoorFL
import Derived.OpenShut
import Derived.WalkKit
import Derived.ProofKit
import Derived.ChangeOld
import Derived.Below
import Derived.LaidMore
import Derived.LaidHandle
import Derived.SevenTiedAt
import Derived.ChangeMaps5
namespace Go.Proofs.YtclhniadffljdaaDoor
open Go Go.ChangeShapes Go.WideShapes Go.ChangeAt Go.RowKit Go.SE
set_option linter.unusedVariables false
theorem j0 : (Rows.punyNumbersRow.wf (OpenSpec.ofChange Rows.punyNumbersSpec)) = true := by kernel_rfl
theorem j1 : (laidOutB Tryd.prog) = true := by kernel_rfl
theorem j2 : (mapsRowed Tryd.prog) = true := by kernel_rfl
theorem j3 : (Tryd.f9.params.all (Tryd.prog.readableRec ·)) = true := by kernel_rfl
theorem j4 : (namedTie Tryd.prog Rows.punyNumbersRow.named Rows.punyNumbersSpec.vars) = true := by kernel_rfl
theorem j5 : ((Rows.punyNumbersRow.stops == [])) = true := by kernel_rfl
theorem j6 : ((Tryd.prog.stops == [])) = true := by kernel_rfl
theorem j7 : ((Rows.punyNumbersRow.knobs == [])) = true := by kernel_rfl
theorem j8 : ((Tryd.prog.stopKnobs == [])) = true := by kernel_rfl
theorem j9 : ((Rows.punyNumbersRow.inPlace == Tryd.prog.inPlace 9)) = true := by kernel_rfl
theorem j10 : ((Rows.punyNumbersRow.unfollowed == Tryd.prog.unfollowed 9)) = true := by kernel_rfl
theorem j11 : ((Rows.punyNumbersRow.recurses == Tryd.prog.recurses 9)) = true := by kernel_rfl
theorem j12 : ((Rows.punyNumbersRow.named == Tryd.prog.varsNamed 9)) = true := by kernel_rfl
theorem j13 : ((Rows.punyNumbersRow.maps == (Tryd.f9.params.toList ++ Rows.punyNumbersSpec.plain.varTypes Tryd.prog).any (Tryd.prog.mapsRec ·))) = true := by kernel_rfl
theorem j14 : ((Rows.punyNumbersRow.ifaces == (Tryd.f9.params.toList ++ Rows.punyNumbersSpec.plain.varTypes Tryd.prog).any (Tryd.prog.ifacesRec ·))) = true := by kernel_rfl
theorem j15 : ((Rows.punyNumbersRow.mapsOut == Tryd.prog.mapsAmong Tryd.f9.resultTypes.toList)) = true := by kernel_rfl
theorem j16 : ((Rows.punyNumbersRow.loops == (Tryd.f9.params.toList ++ Rows.punyNumbersSpec.plain.varTypes Tryd.prog).any (Tryd.prog.loopsFrom ·))) = true := by kernel_rfl
theorem j17 : ((Rows.punyNumbersRow.wideKeys == (Tryd.f9.params.toList ++ Rows.punyNumbersSpec.plain.varTypes Tryd.prog ++ Tryd.f9.resultTypes.toList).any (Tryd.prog.wideKeysFrom ·))) = true := by kernel_rfl
theorem j18 : (Rows.punyNumbersSpec.vars.all (Tryd.prog.varReadable ·)) = true := by kernel_rfl
theorem j19 : (Tryd.f9.resultTypes.all (fun t => Tryd.prog.readableRec t && decide (t < Tryd.prog.types.size))) = true := by kernel_rfl
theorem j20 : ((Rows.punyNumbersRow.ifacesOut == Tryd.f9.resultTypes.toList.any (Tryd.prog.ifacesRec ·))) = true := by kernel_rfl
theorem j21 : ((Rows.punyNumbersRow.loopsOut == Tryd.f9.resultTypes.toList.any (Tryd.prog.loopsFrom ·))) = true := by kernel_rfl
theorem j22 : ((Rows.punyNumbersRow.plainKeys == Tryd.prog.plainKeys)) = true := by kernel_rfl
theorem j23 : (Rows.punyNumbersRow.shortTexts.isNone) = true := by kernel_rfl
theorem j24 : (Tryd.prog.stopsHeard) = true := by kernel_rfl
theorem j25 : (Tryd.prog.mayEnter) = true := by kernel_rfl
theorem j26 : ((Rows.punyNumbersRow.lifted == Tryd.prog.liftsFinal)) = true := by kernel_rfl
theorem j27 : ((Tryd.prog.make == some Rows.punyNumbersRow.make)) = true := by kernel_rfl
theorem j28 : ((Rows.punyNumbersRow.kinds == (if Rows.punyNumbersRow.domain.isEmpty then [] else Tryd.f9.params.toList.map fun t => match Tryd.prog.underlying t with | some (.int k) => some k | _ => none))) = true := by kernel_rfl
theorem j29 : ((Rows.punyNumbersRow.pinned == Rows.punyNumbersRow.pinnedBy)) = true := by kernel_rfl
theorem j30 : ((Rows.punyNumbersRow.veiled == (Tryd.f9.params.toList ++ Rows.punyNumbersSpec.plain.varTypes Tryd.prog ++ Tryd.f9.resultTypes.toList).any (Tryd.prog.veiledRec ·))) = true := by kernel_rfl
theorem j31 : (Rows.punyNumbersRow.veiledFits Tryd.prog Tryd.f9.params.toList (Tryd.f9.params.toList ++ Rows.punyNumbersSpec.plain.varTypes Tryd.prog ++ Tryd.f9.resultTypes.toList)) = true := by kernel_rfl
end Go.Proofs.YtclhniadffljdaaDoor
