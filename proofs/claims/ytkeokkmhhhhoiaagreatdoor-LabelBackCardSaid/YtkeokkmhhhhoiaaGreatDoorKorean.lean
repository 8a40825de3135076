import Derived.Test.YtkeokkmhhhhoiaaGreatDoorRCheck
import Derived.Shelf.Abstract
import Derived.WalkKit
import Derived.OwnWalkIn
import Derived.TacticsInMore
import Derived.LoopNIn
import Derived.LoopIn
namespace Go.Proofs.YtkeokkmhhhhoiaaGreatDoor
open Go Go.SE Go.RowKit Go.Shelf
set_option linter.unusedVariables false
theorem Ab4 {w:World} {cx:Cx} {A:Nat->Prop} {cs:List AV} {v:Value} (h:Rel w cx A (.agg cs) v): ∃vs:List Value,cs.length=vs.length/\(∀u∈vs,u.oneCell'=true)/\v=.agg vs.toArray/\ ∀(c:Nat) (x:AV) (u:Value),cs[c]? =some x->vs[c]? =some u->Rel w cx A x u:=by
 cases h with
 |agg _ vs hl h1 hrel=>exact⟨vs,hl,h1,rfl,hrel⟩
def koV (x:Ap):Value:=.agg #[.int .i32 x.GQ, .int .i32 x.GD, .int .i64 x.CP]
abbrev koA:Value:=.agg #[.int .i32 4352, .int .i32 4370, .int .i32 4449, .int .i32 4469, .int .i32 4520, .int .i32 4546, .int .i32 44032, .int .i32 55203]
theorem ko0 (w:World):(Instr.index 236 koA (.int .i64 0)).run Tryz.prog w=.ok (.agg #[.int .i32 4352, .int .i32 4370]) w:=by kernel_rfl
theorem ko1 (w:World):(Instr.index 236 koA (.int .i64 1)).run Tryz.prog w=.ok (.agg #[.int .i32 4449, .int .i32 4469]) w:=by kernel_rfl
theorem ko2 (w:World):(Instr.index 236 koA (.int .i64 2)).run Tryz.prog w=.ok (.agg #[.int .i32 4520, .int .i32 4546]) w:=by kernel_rfl
theorem ko3 (w:World):(Instr.index 236 koA (.int .i64 3)).run Tryz.prog w=.ok (.agg #[.int .i32 44032, .int .i32 55203]) w:=by kernel_rfl
set_option maxRecDepth 100000 in
set_option maxHeartbeats 4000000 in
theorem uZ (x:Ap) (w:World):Calls Tryz.prog 181 #[koV x] w fun e w'=>e=.returned (.bool (Zd x))/\Below w.heap.size w w':=by
 unfold koV Zd
 have i0:=ko0
 have i1:=ko1
 have i2:=ko2
 have i3:=ko3
 go_enter Tryz.func181,Tryz.ntmps181
 go_wp2
 refine wp_loop_rounds 5 ?_
 iterate 5 (all_goals (try (rw[rounds_succ];go_wp2)))
 all_goals go_ret
 all_goals refine⟨?_,?_⟩
 all_goals first
  |(show Ending.returned (Value.bool _)=_
    simp only[Ending.returned.injEq,Value.bool.injEq]
    rw[Bool.eq_iff_iff]
    simp only[Bool.or_eq_true,Bool.and_eq_true,decide_eq_true_eq,true_iff,Bool.false_eq_true,false_iff]
    omega)
  |(repeat (first|exact Below.refl _ _|refine Below.alloc ?_ (by simp<;>omega) _))
theorem fD (KA:Ap) (r:Bool) (h:Q0 KA=some r):Contract pl 181 [(Lg KA)] [] (.bool r) []:=by
 cases h
 refine⟨⟨_,Tryz.func181,by kernel_rfl,by kernel_rfl⟩,fun V w cx vs S hlen R=>?_⟩
 match vs,hlen with
 | [v0],_=>
   have r0:=R 0 _ v0 rfl rfl
   obtain⟨vs,hl,h1,rfl,hrel⟩:=Ab4 r0
   match vs,hl with
   | [u0,u1,u2],_=>
     have q0:=hrel 0 _ _ rfl rfl
     have q1:=hrel 1 _ _ rfl rfl
     have q2:=hrel 2 _ _ rfl rfl
     cases q0;cases q1;cases q2
     refine(uZ KA w).mono ?_
     rintro e w' ⟨rfl,hB⟩
     exact⟨_,cx,rfl,Ext.grown hB.os hB.tape hB.output hB.size hB.block,S.grown hB.size hB.block, .bool _⟩
end Go.Proofs.YtkeokkmhhhhoiaaGreatDoor
