import Derived.Test.YtkeokkmhhhhoiaaGreatDoorRows
import Derived.Test.YtkeokkmhhhhoiaaGreatDoorTie
import Derived.Test.YtkeokkmhhhhoiaaGreatDoorCards
import Derived.Test.YtkeokkmhhhhoiaaGreatDoorSe24
import Derived.Test.YtkeokkmhhhhoiaaGreatDoorK2
import Derived.Test.YtkeokkmhhhhoiaaGreatDoorPLd
import Derived.Test.YtkeokkmhhhhoiaaGreatDoorFO
import Derived.OpenShut
import Derived.WalkKit
import Derived.ProofKit
import Derived.ChangeOld
import Derived.Below
import Derived.LaidMore
import Derived.LaidHandle
import Derived.SevenTiedAt
import Derived.ChangeMaps5
namespace Go.Proofs.YtkeokkmhhhhoiaaGreatDoor
open Go Go.ChangeShapes Go.WideShapes Go.ChangeAt Go.RowKit Go.SE
set_option linter.unusedVariables false
theorem AnV:ownKnob Tryz.prog.godebug=none:=by kernel_rfl
theorem AiZ:laidOutB Tryz.prog=true:=by kernel_rfl
def ZJ:List M5:= [("eponym/api.ErrByte",7,[97,32,98,121,116,101,44,32,111,114,32,97,32,114,117,110,101,44,32,116,104,97,116,32,99,97,110,39,116,32,115,116,97,110,100,32,116,104,101,114,101]),("eponym/api.ErrEnd",11,[105,116,32,101,110,100,115,32,116,111,111,32,101,97,114,108,121]),("eponym/api.ErrLong",6,[105,116,32,105,115,32,116,111,111,32,108,111,110,103]),("eponym/api.ErrRange",12,[97,32,110,117,109,98,101,114,32,105,115,32,111,117,116,115,105,100,101,32,105,116,115,32,98,111,117,110,100,115]),("eponym/api.ErrForm",13,[105,116,32,105,115,110,39,116,32,111,102,32,116,104,101,32,102,111,114,109]),("eponym/api.ErrOrder",14,[105,116,32,105,115,110,39,116,32,105,110,32,111,114,100,101,114]),("eponym/api.ErrThere",15,[105,116,32,105,115,32,116,104,101,114,101,32,97,108,114,101,97,100,121]),("eponym/api.ErrNone",16,[116,104,101,114,101,32,105,115,32,110,111,110,101]),("eponym/api.ErrDeep",17,[105,116,32,105,115,32,116,111,111,32,100,101,101,112]),("eponym/api.ErrClass",3,[97,32,114,117,110,101,32,116,104,97,116,32,110,97,109,101,115,32,100,111,110,39,116,32,104,97,118,101]),("eponym/api.ErrContext",4,[97,32,114,117,110,101,32,116,104,97,116,32,100,111,101,115,110,39,116,32,103,111,32,119,105,116,104,32,105,116,115,32,110,101,105,103,104,98,111,117,114,115]),("eponym/api.ErrBidi",5,[105,116,32,99,97,110,39,116,32,98,101,32,114,101,97,100,32,102,114,111,109,32,111,110,101,32,115,105,100,101]),("eponym/api.ErrHyphen",2,[97,32,104,121,112,104,101,110,32,116,104,97,116,32,99,97,110,39,116,32,115,116,97,110,100,32,116,104,101,114,101]),("eponym/api.ErrNorm",1,[105,116,32,105,115,110,39,116,32,99,111,109,112,111,115,101,100]),("eponym/api.ErrPuny",8,[105,116,32,105,115,110,39,116,32,97,110,32,101,110,99,111,100,101,100,32,108,97,98,101,108]),("eponym/api.ErrEmpty",0,[105,116,32,105,115,32,101,109,112,116,121]),("eponym/api.ErrKind",9,[116,104,101,114,101,32,105,115,32,110,111,32,115,117,99,104,32,107,105,110,100]),("eponym/api.ErrFull",18,[116,104,101,114,101,32,97,114,101,32,116,111,111,32,109,97,110,121])]
theorem AhI:Tryz.prog.cellsOf 288=1:=by kernel_rfl
theorem AiF:Tryz.prog.cellsOf 9=1:=by kernel_rfl
theorem Afq: "*" ++ "errors.errorString" = "*errors.errorString" :=by decide
theorem Ald (u:TypeId) (h:Tryz.prog.typeName? 3 u=some "*errors.errorString"):u=270:=
 typeName_ptr_named (nm:= "errors.errorString") (by rw[Afq];kernel_rfl) (by kernel_rfl) (by decide) u (by rw[Afq];exact h)
theorem Aek:(ZJ.all fun x=>decide (Tryz.prog.globalNamed x.1=some x.2.1)&&decide ((Tryz.prog.globals[x.2.1]?).map (·.type)=some 37))=true:=by kernel_rfl
theorem AbN:(Rows.labelBackRow.laid.filter fun x=>x.2.handleName?.isNone)=kM ZJ:=by kernel_rfl
theorem Abc:(Rows.labelBackRow.laid.filter fun x=>x.2.handleName?.isSome)= [("errors.errorType",Rows.laid_errors_errorType)]:=by kernel_rfl
theorem AhJ:Tryz.prog.globalNamed "errors.errorType" =some 10:=by kernel_rfl
theorem Am7:(Tryz.prog.cutTypes.find? (·.1== "internal/reflectlite.rtype")).map (·.2)=some 177:=by kernel_rfl
theorem Ale:((List.range 300).filter fun t=>Tryz.prog.rowNamed t [101,114,114,111,114])= [37]:=by kernel_rfl
theorem Ajz:Tryz.prog.types.size=300:=by kernel_rfl
theorem kK {W:World} (h:laidMetH Tryz.prog Rows.labelBackRow.laid W):Glob pl.laid W A0:=by
 unfold laidMetH at h
 rw[Abc]at h
 rw[AbN]at h
 obtain⟨h1,h2⟩:=h
 have hn: ∀x:M5,x∈ZJ->Tryz.prog.globalNamed x.1=some x.2.1/\(Tryz.prog.globals[x.2.1]?).map (·.type)=some 37:=fun x hx=>by
  have:=List.all_eq_true.1 Aek x hx
  simpa using this
 have AhY:W.cell? ⟨10,0,none⟩=some (.iface 177 (.agg #[.pointer (some ⟨20,37,none⟩)])):=by
  have h2:=h2 _ (List.mem_singleton.2 rfl)
  obtain⟨name,u,ty,e1,e2,e3,e4,e5⟩:=h2
  have en:name= [101,114,114,111,114]:=(Option.some.inj e1).symm
  subst en
  obtain rfl:=Option.some.inj (Am7.symm.trans e2)
  have hm:ty∈(List.range 300).filter fun t=>Tryz.prog.rowNamed t [101,114,114,111,114]:=List.mem_filter.2 ⟨List.mem_range.2 (by rw[<- Ajz];exact e3),e4⟩
  rw[Ale]at hm
  obtain rfl:=List.mem_singleton.1 hm
  have hh:typeHandle Tryz.prog 37=.pointer (some ⟨20,37,none⟩):=by kernel_rfl
  rw[hh]at e5
  simpa using World.var?_cell AhJ e5 0
 have hlt:10<W.heap.size:=by
  rcases Nat.lt_or_ge 10 W.heap.size with h|h
  ·exact h
  ·simp[World.cell?,Array.getElem?_eq_none h]at AhY
 exact uD Tryz.underlying37 Ald Tryz.underlying270 Tryz.underlying288 rfl rfl Tryz.underlying9 AhI AiF ZJ h1 hn _ (fun x hx=>by
  have hx:=List.mem_singleton.1 hx
  subst hx
  exact⟨hlt,AhY⟩)
theorem kJ (os:Os) (args:Array Value):laidMetH Tryz.prog Rows.labelBackRow.laid ((World.doorLaid Tryz.prog 358 os).forCall (fun _ _=>0) ⟨#[],args,[]⟩).memory:=
 laidMetH_of_parts3 (fuel:=8) (laidMet_of_run' 8 (by kernel_rfl) (by kernel_rfl)) (by kernel_rfl) (by kernel_rfl)
end Go.Proofs.YtkeokkmhhhhoiaaGreatDoor
