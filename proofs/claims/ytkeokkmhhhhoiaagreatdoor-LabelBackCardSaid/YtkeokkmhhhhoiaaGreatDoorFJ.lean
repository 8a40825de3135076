import Derived.Test.YtkeokkmhhhhoiaaGreatDoorRows
import Derived.Test.YtkeokkmhhhhoiaaGreatDoorTie
import Derived.Test.YtkeokkmhhhhoiaaGreatDoorCards
import Derived.Test.YtkeokkmhhhhoiaaGreatDoorSe24
import Derived.Test.YtkeokkmhhhhoiaaGreatDoorFL
import Derived.OpenShut
import Derived.WalkKit
import Derived.ProofKit
import Derived.ChangeOld
import Derived.Below
import Derived.LaidMore
import Derived.LaidHandle
import Derived.SevenTiedAt
import Derived.ChangeMaps5
namespace Go.Proofs.YtkeokkmhhhhoiaaGreatDoor
open Go Go.ChangeShapes Go.WideShapes Go.ChangeAt Go.RowKit Go.SE
set_option linter.unusedVariables false
theorem j0:(Rows.labelBackRow.wf (OpenSpec.ofChange Rows.labelBackSpec))=true:=by kernel_rfl
theorem j1:(laidOutB Tryz.prog)=true:=by kernel_rfl
theorem j2:(mapsRowed Tryz.prog)=true:=by kernel_rfl
theorem j3:(Tryz.f7.params.all (Tryz.prog.readableRec ·))=true:=by kernel_rfl
theorem j4:(namedTie Tryz.prog Rows.labelBackRow.named Rows.labelBackSpec.vars)=true:=by kernel_rfl
theorem j5:((Rows.labelBackRow.stops== []))=true:=by kernel_rfl
theorem j6:((Tryz.prog.stops== []))=true:=by kernel_rfl
theorem j7:((Rows.labelBackRow.knobs== []))=true:=by kernel_rfl
theorem j8:((Tryz.prog.stopKnobs== []))=true:=by kernel_rfl
theorem j9:((Rows.labelBackRow.inPlace==Tryz.prog.inPlace 7))=true:=by kernel_rfl
theorem j10:((Rows.labelBackRow.unfollowed==Tryz.prog.unfollowed 7))=true:=by kernel_rfl
theorem j11:((Rows.labelBackRow.recurses==Tryz.prog.recurses 7))=true:=by kernel_rfl
theorem j12:((Rows.labelBackRow.named==Tryz.prog.varsNamed 7))=true:=by kernel_rfl
theorem j13:((Rows.labelBackRow.maps==(Tryz.f7.params.toList++Rows.labelBackSpec.plain.varTypes Tryz.prog).any (Tryz.prog.mapsRec ·)))=true:=by kernel_rfl
theorem j14:((Rows.labelBackRow.ifaces==(Tryz.f7.params.toList++Rows.labelBackSpec.plain.varTypes Tryz.prog).any (Tryz.prog.ifacesRec ·)))=true:=by kernel_rfl
theorem j15:((Rows.labelBackRow.mapsOut==Tryz.prog.mapsAmong Tryz.f7.resultTypes.toList))=true:=by kernel_rfl
theorem j16:((Rows.labelBackRow.loops==(Tryz.f7.params.toList++Rows.labelBackSpec.plain.varTypes Tryz.prog).any (Tryz.prog.loopsFrom ·)))=true:=by kernel_rfl
theorem j17:((Rows.labelBackRow.wideKeys==(Tryz.f7.params.toList++Rows.labelBackSpec.plain.varTypes Tryz.prog++Tryz.f7.resultTypes.toList).any (Tryz.prog.wideKeysFrom ·)))=true:=by kernel_rfl
theorem j18:(Rows.labelBackSpec.vars.all (Tryz.prog.varReadable ·))=true:=by kernel_rfl
theorem j19:(Tryz.f7.resultTypes.all (fun t=>Tryz.prog.readableRec t&&decide (t<Tryz.prog.types.size)))=true:=by kernel_rfl
theorem j20:((Rows.labelBackRow.ifacesOut==Tryz.f7.resultTypes.toList.any (Tryz.prog.ifacesRec ·)))=true:=by kernel_rfl
theorem j21:((Rows.labelBackRow.loopsOut==Tryz.f7.resultTypes.toList.any (Tryz.prog.loopsFrom ·)))=true:=by kernel_rfl
theorem j22:((Rows.labelBackRow.plainKeys==Tryz.prog.plainKeys))=true:=by kernel_rfl
theorem j23:(Rows.labelBackRow.shortTexts.isNone)=true:=by kernel_rfl
theorem j24:(Tryz.prog.stopsHeard)=true:=by kernel_rfl
theorem j25:(Tryz.prog.mayEnter)=true:=by kernel_rfl
theorem j26:((Rows.labelBackRow.lifted==Tryz.prog.liftsFinal))=true:=by kernel_rfl
theorem j27:((Tryz.prog.make==some Rows.labelBackRow.make))=true:=by kernel_rfl
theorem j28:((Rows.labelBackRow.kinds==(if Rows.labelBackRow.domain.isEmpty then []else Tryz.f7.params.toList.map fun t=>match Tryz.prog.underlying t with|some (.int k)=>some k|_=>none)))=true:=by kernel_rfl
theorem j29:((Rows.labelBackRow.pinned==Rows.labelBackRow.pinnedBy))=true:=by kernel_rfl
theorem j30:((Rows.labelBackRow.veiled==(Tryz.f7.params.toList++Rows.labelBackSpec.plain.varTypes Tryz.prog++Tryz.f7.resultTypes.toList).any (Tryz.prog.veiledRec ·)))=true:=by kernel_rfl
theorem j31:(Rows.labelBackRow.veiledFits Tryz.prog Tryz.f7.params.toList (Tryz.f7.params.toList++Rows.labelBackSpec.plain.varTypes Tryz.prog++Tryz.f7.resultTypes.toList))=true:=by kernel_rfl
end Go.Proofs.YtkeokkmhhhhoiaaGreatDoor
