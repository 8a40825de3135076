import Derived.Test.YtkeokkmhhhhoiaaGreatDoorRows
import Derived.Test.YtkeokkmhhhhoiaaGreatDoorTie
import Derived.Test.YtkeokkmhhhhoiaaGreatDoorCards
import Derived.Test.YtkeokkmhhhhoiaaGreatDoorSe24
import Derived.Test.YtkeokkmhhhhoiaaGreatDoorK2
import Derived.Test.YtkeokkmhhhhoiaaGreatDoorPLd
import Derived.Test.YtkeokkmhhhhoiaaGreatDoorFG
import Derived.OpenShut
import Derived.WalkKit
import Derived.ProofKit
import Derived.ChangeOld
import Derived.Below
import Derived.LaidMore
import Derived.LaidHandle
import Derived.SevenTiedAt
import Derived.ChangeMaps5
namespace Go.Proofs.YtkeokkmhhhhoiaaGreatDoor
open Go Go.ChangeShapes Go.WideShapes Go.ChangeAt Go.RowKit Go.SE
set_option linter.unusedVariables false
set_option maxRecDepth 100000 in
theorem aV (os:Os) (started:os.Started) (H:Type) (enc:TypeId×Value->H):
  ReturnsInHanded {} Tryz.checked os 7 .any (fun w args=>(Rows.labelBackSpec.pre enc Tryz.prog Tryz.f7 [] false w args/\laidMetH Tryz.prog Rows.labelBackRow.laid w)/\sizedMet enc Tryz.prog Tryz.f7 (OpenSpec.ofChange Rows.labelBackSpec) false w args)
   (Rows.labelBackSpec.post enc Tryz.prog Tryz.f7 false true false false):=by
 refine returnsInHanded_of_change_and (C:=Tryz.checked) (X:=fun w _=>laidMetH Tryz.prog Rows.labelBackRow.laid w) (fun _ _ _ hh h=>h.of_heap hh) AnV started (by kernel_rfl) Tryz.func7
  (ChangeSpec.witness_shaped (enc:=enc) (C:=Tryz.checked) (os:=os) (X:=fun w _=>laidMetH Tryz.prog Rows.labelBackRow.laid w) false (World.doorLaid Tryz.prog 358 os) #[.agg #[.slice none 0 0, .slice none 0 0, .slice none 0 0, .slice none 0 0, .slice none 0 0, .slice none 0 0, .slice none 0 0, .slice none 0 0, .slice none 0 0, .slice none 0 0, .slice none 0 0, .slice none 0 0, .slice none 0 0, .slice none 0 0, .slice none 0 0], .slice none 0 0, .string (ByteArray.mk #[])] 8 rfl (World.shaped_of_RefB (by kernel_rfl) (by kernel_rfl)) (by kernel_rfl) (by kernel_rfl) (by kernel_rfl) (kJ os _)) ?_
 intro W base args ds gs before hval0 hW _ _ hL _
 have hval: ∀(j:Nat) t v,Tryz.f7.params[j]? =some t->args[j]? =some v->Value.okWide Tryz.prog W .any base t v:=hval0
 have G:=kK hL
 have hW':=hW
 obtain⟨p,q,hA0,hV,rfl,hfz,hnd⟩:=hW
 have hA:DataW.TrodAll enc Tryz.prog W 0 (fun _=>true) true Tryz.f7.params.toList args.toList ds p:=hA0
 rw[Tryz.params7]at hA hval
 obtain⟨v0,vs0,d0,ds0,p0,q0,hargs,rfl,rfl,h0,r0⟩:=trodAll_cons hA
 obtain⟨v1,vs1,d1,ds1,p1,q1,rfl,rfl,rfl,h1,r1⟩:=trodAll_cons r0
 obtain⟨v2,vs2,d2,ds2,p2,q2,rfl,rfl,rfl,h2,r2⟩:=trodAll_cons r1
 obtain⟨rfl,rfl,rfl⟩:=trodAll_nil r2
 obtain rfl:args= #[v0,v1,v2]:=by cases args;simp_all
 obtain⟨rfl,rfl⟩:=trodVars_none hV
 have k0:=h0
 have lt0: ∀x∈p0,x.block<W.heap.size:=by obtain⟨m,hm⟩:=k0;exact DataW.trod_lt m _ _ _ hm
 have k1:=h1
 have lt1: ∀x∈p1,x.block<W.heap.size:=by obtain⟨m,hm⟩:=k1;exact DataW.trod_lt m _ _ _ hm
 obtain⟨c0,rfl,hc0⟩:=okWide_struct Tryz.underlying31 (hval 0 31 v0 rfl rfl)
 obtain⟨b1,n1,Am2,rfl⟩:=okWide_slice Tryz.underlying24 (hval 1 24 v1 rfl rfl)
 obtain⟨a0,ok0,R0⟩:=o31.Ajj (fun p=>⟨_,rfl⟩) h0
 obtain⟨a1,ok1,R1⟩:=o24.arg (fun _=>rfl) rfl h1
 obtain⟨a2,rfl,rfl,rfl,ok2⟩:=Go.ChangeMaps.open_string Tryz.underlying9 (hval 2 9 v2 rfl rfl) h2
 clear hA0 hval0
 refine((Ux a0 a1 a2 true ((fun(a:Ag) (b:List Int) (c:ByteArray) (_:Ya a) (h:Zm b) (_:c.size<=maxLen)=>oU a b c (wfZ2 h.2)) a0 a1 a2 ok0 ok1 ok2)).top (w:=W) G (vs:= [.agg c0, .slice b1 n1 Am2, .string a2]) rfl (fun i x v hx hv=>?_)).mono fun e W' ⟨he,bel⟩=>?_
 ·match i,hx,hv with
  |0,hx,hv=>cases hx;cases hv;exact R0
  |1,hx,hv=>cases hx;cases hv;exact R1
  |2,hx,hv=>cases hx;cases hv;exact .str a2
  |i+3,hx,hv=>simp at hx
 subst he
 exact⟨_,rfl,_,_,_,[],_,[],hW',trodAll_mk1 (shut_bool Tryz.underlying4 _),(trodAll_cons_mk (Below.trod AiZ (by kernel_rfl) (of_decide_eq_true (by kernel_rfl)) k0 bel lt0) (trodAll_cons_mk (Below.trod AiZ (by kernel_rfl) (of_decide_eq_true (by kernel_rfl)) k1 bel lt1) (trodAll_cons_mk (Go.ChangeMaps.shut_string Tryz.underlying9 ok2) trodAll_mk0))),rfl,bel.frame _,fun h=>by cases h⟩
end Go.Proofs.YtkeokkmhhhhoiaaGreatDoor
