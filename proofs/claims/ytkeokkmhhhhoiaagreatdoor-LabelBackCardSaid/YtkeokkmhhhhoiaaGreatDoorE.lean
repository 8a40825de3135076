import Derived.Test.YtkeokkmhhhhoiaaGreatDoorSe24
import Derived.Test.YtkeokkmhhhhoiaaGreatDoorM
import Derived.Test.YtkeokkmhhhhoiaaGreatDoorProg
import Derived.WalkKit
import Derived.LaidEql
import Derived.Stop.Asserts
import Derived.RowKitTokens
namespace Go.Proofs.YtkeokkmhhhhoiaaGreatDoor
open Go Go.SE Go.RowKit Go.Extern.Stop Go.Stop Go.Extern
set_option linter.unusedVariables false
theorem Aa1 (t:Addr) (w:World):(ReflectliteValue.unpack (.iface 72 (.pointer (some t)))).run Tryz.prog w
 =.ok (.agg #[.pointer (some ⟨20,72,none⟩), .pointer (some ⟨w.heap.size,0,none⟩), .int .u64 150]) (w.alloc (.cells #[.pointer (some t)] 72)):=by kernel_rfl
theorem AhF (a:Addr) (w:World):(ReflectliteValue.methodAny (ReflectliteValue.valueError "reflectlite.Value.Type" 0) (fun t _ _ _=>ReflectliteType.toType t) #[.agg #[.pointer (some ⟨20,72,none⟩), .pointer (some a), .int .u64 150]]).run Tryz.prog w
 =.ok (.iface 177 (.agg #[.pointer (some ⟨20,72,none⟩)])) w:=by kernel_rfl
theorem oO (h:Value) (w:World):(Go.method 400 177 (.agg #[h]) "Kind").run Tryz.prog w=.ok (268,h) w:=by kernel_rfl
theorem Ado (w:World):((ReflectliteType.abiMethod fun t=>(fun a:Nat=>Value.int IntKind.u8 (a:Int))<$>Rtype.kind t) #[.pointer (some ⟨20,72,none⟩)]).run Tryz.prog w=.ok (.int .u8 22) w:=by kernel_rfl
theorem Afo (w:World):((ReflectliteType.abiMethod fun t=>(fun a:Nat=>Value.int IntKind.u8 (a:Int))<$>Rtype.kind t) #[.pointer (some ⟨20,70,none⟩)]).run Tryz.prog w=.ok (.int .u8 22) w:=by kernel_rfl
theorem Afp (z:Sem Value) (f:TypeId->Addr->Nat->Nat->Sem Value) (v:Value):
 ReflectliteValue.method z f #[v]=(do match <- ReflectliteValue.parts v with|none=>z|some (t,a,fl)=>f t a fl (fl%32)):=rfl
theorem jM (a:Addr) (w:World):(ReflectliteValue.parts (.agg #[.pointer (some ⟨20,72,none⟩), .pointer (some a), .int .u64 150])).run Tryz.prog w=.ok (some (72,a,150)) w:=by kernel_rfl
theorem Afn (a p:Addr) (W:World) (ha:W.cell? a=some (.pointer (some p))):
  (ReflectliteValue.method (ReflectliteValue.valueError "reflectlite.Value.IsNil" 0) ReflectliteValue.isNil #[.agg #[.pointer (some ⟨20,72,none⟩), .pointer (some a), .int .u64 150]]).run Tryz.prog W=.ok (.bool false) W:=by
 rw[Afp]
 simp only[Sem.run_bind,jM,Result.andThen]
 simp[ReflectliteValue.isNil,loadVar,isAgg,underlying,Tryz.underlying72,ha,Result.andThen]
theorem oN (h:Value) (w:World):(Go.method 400 177 (.agg #[h]) "Elem").run Tryz.prog w=.ok (280, .agg #[h]) w:=by kernel_rfl
theorem XC (h:Value) (w:World):(Go.method 400 177 (.agg #[h]) "Implements").run Tryz.prog w=.ok (281, .agg #[h]) w:=by kernel_rfl
theorem VX (h:Value) (w:World):(Go.method 400 177 (.agg #[h]) "AssignableTo").run Tryz.prog w=.ok (278, .agg #[h]) w:=by kernel_rfl
theorem AhE (w:World):(ReflectliteType.method ReflectliteType.elem #[.agg #[.pointer (some ⟨20,72,none⟩)]]).run Tryz.prog w=.ok (.iface 177 (.agg #[.pointer (some ⟨20,70,none⟩)])) w:=by kernel_rfl
theorem oM (w:World):(ReflectliteType.relation "Implements" ReflectliteType.implements_ #[.agg #[.pointer (some ⟨20,70,none⟩)], .iface 177 (.agg #[.pointer (some ⟨20,37,none⟩)])]).run Tryz.prog w=.ok (.bool true) w:=by kernel_rfl
theorem Adq (v:Value) (w:World):(ReflectliteType.typeOf #[.iface 70 v]).run Tryz.prog w=.ok (.iface 177 (.agg #[.pointer (some ⟨20,70,none⟩)])) w:=by kernel_rfl
theorem oL (w:World):(ReflectliteType.relation "AssignableTo" ReflectliteType.assignableTo #[.agg #[.pointer (some ⟨20,70,none⟩)], .iface 177 (.agg #[.pointer (some ⟨20,70,none⟩)])]).run Tryz.prog w=.ok (.bool true) w:=by kernel_rfl
theorem xX (e:Addr) (w:World):(ReflectliteValue.unpack (.iface 70 (.pointer (some e)))).run Tryz.prog w
 =.ok (.agg #[.pointer (some ⟨20,70,none⟩), .pointer (some ⟨w.heap.size,0,none⟩), .int .u64 150]) (w.alloc (.cells #[.pointer (some e)] 70)):=by kernel_rfl
theorem Adn (w:World):(Rtype.elem? 72).run Tryz.prog w=.ok (some 70) w:=by kernel_rfl
theorem Alc (p:Addr) (w:World):(ReflectliteValue.mk 70 p ReflectliteValue.flagAddr).run Tryz.prog w=.ok (.agg #[.pointer (some ⟨20,70,none⟩), .pointer (some p), .int .u64 406]) w:=by kernel_rfl
theorem Afm (a p:Addr) (W:World) (ha:W.cell? a=some (.pointer (some p))):
  (ReflectliteValue.method (ReflectliteValue.valueError "reflectlite.Value.Elem" 0) ReflectliteValue.elem #[.agg #[.pointer (some ⟨20,72,none⟩), .pointer (some a), .int .u64 150]]).run Tryz.prog W
    =.ok (.agg #[.pointer (some ⟨20,70,none⟩), .pointer (some p), .int .u64 406]) W:=by
 rw[Afp]
 simp only[Sem.run_bind,jM,Result.andThen]
 simp[ReflectliteValue.elem,loadVar,isAgg,underlying,Tryz.underlying72,ha,Result.andThen,Adn,Alc]
theorem Ajw (v x:Value):ReflectliteValue.set #[v,x]=(do
 let (some (dst,a,fl),some (src,b,_)):=(<- ReflectliteValue.parts v,<- ReflectliteValue.parts x)
  |unsupported (.noEntry "extern/(internal/reflectlite.Value).Set.zeroValue")
 if fl/ReflectliteValue.flagAddr%2==0 then unsupported (.noEntry "extern/(internal/reflectlite.Value).Set.unaddressable")
 let val <- loadVar src b
 if <- Rtype.directlyAssignable dst src then storeVar dst a val
 else if <- Rtype.implements dst src then
  if(<- Rtype.kind src)==20 then
   match val with
   | .nilIface=>unsupported (.noEntry "extern/reflectlite: a nil value of one interface type handed on as a value of another")
   |_=>storeVar dst a val
  else storeVar dst a (.iface src val)
 else panicString ("reflectlite.Set: value of type " ++(<- Rtype.spelt src)++ " is not assignable to type " ++(<- Rtype.spelt dst))
 pure (.tuple #[])):=rfl
theorem Aa0 (a:Addr) (w:World):(ReflectliteValue.parts (.agg #[.pointer (some ⟨20,70,none⟩), .pointer (some a), .int .u64 406])).run Tryz.prog w=.ok (some (70,a,406)) w:=by kernel_rfl
theorem Adp (a:Addr) (w:World):(ReflectliteValue.parts (.agg #[.pointer (some ⟨20,70,none⟩), .pointer (some a), .int .u64 150])).run Tryz.prog w=.ok (some (70,a,150)) w:=by kernel_rfl
theorem Adm (w:World):(Rtype.directlyAssignable 70 70).run Tryz.prog w=.ok true w:=by kernel_rfl
theorem Ajx (ta b e:Addr) (old:Value) (W:World) (hb:W.cell? b=some (.pointer (some e))) (ht:W.cell? ta=some old) (hf:W.frozen? ta=false):
  (ReflectliteValue.set #[.agg #[.pointer (some ⟨20,70,none⟩), .pointer (some ta), .int .u64 406], .agg #[.pointer (some ⟨20,70,none⟩), .pointer (some b), .int .u64 150]]).run Tryz.prog W
    =.ok (.tuple #[]) (W.setCell ta (.pointer (some e))):=by
 rw[Ajw]
 simp only[Sem.run_bind,Aa0,Adp,Result.andThen]
 simp[ReflectliteValue.flagAddr,loadVar,isAgg,underlying,Tryz.underlying70,hb,Result.andThen,Adm,storeVar,Value.cells,storeCells,Addr.add]
 rw[run_store Tryz.prog W ta _ _ (by rfl)]
 simp[ht,hf]
set_option maxHeartbeats 4000000 in
theorem Ajk (e t:Addr) (old:Value) (w:World) (hg:w.cell? ⟨10,0,none⟩=some (.iface 177 (.agg #[.pointer (some ⟨20,37,none⟩)]))) (ht0:w.cell? t=some old) (hf0:w.frozen? t=false):
  Calls Tryz.prog 39 #[.iface 70 (.pointer (some e)), .iface 72 (.pointer (some t))] w fun ev w'=>ev=.returned (.bool true)/\w'=((((w.alloc (.cells #[.pointer (some t)] 72)).alloc (.cells #[.pointer (some ⟨20,72,none⟩), .pointer (some ⟨w.heap.size,0,none⟩), .int .u64 150] 113)).alloc (.cells #[.pointer (some ⟨20,72,none⟩), .pointer (some ⟨w.heap.size,0,none⟩), .int .u64 150] 113)).alloc (.cells #[.pointer (some e)] 70)).setCell t (.pointer (some e)):=by
 have h6:= @run_callFunc_extern Tryz.prog 85 _ (fun args=>ReflectliteValue.unpack (args.getD 0 (.tuple #[]))) Tryz.func85 (by kernel_rfl) (by kernel_rfl) (by kernel_rfl) (by kernel_rfl)
 have h7:= @run_callFunc_extern Tryz.prog 86 _ (ReflectliteValue.methodAny (ReflectliteValue.valueError "reflectlite.Value.Type" 0) (fun t _ _ _=>ReflectliteType.toType t)) Tryz.func86 (by kernel_rfl) (by kernel_rfl) (by kernel_rfl) (by kernel_rfl)
 have h8:= @run_callFunc_extern Tryz.prog 87 _ (ReflectliteValue.method (ReflectliteValue.valueError "reflectlite.Value.IsNil" 0) ReflectliteValue.isNil) Tryz.func87 (by kernel_rfl) (by kernel_rfl) (by kernel_rfl) (by kernel_rfl)
 have h27:= @run_callFunc_extern Tryz.prog 268 _ (ReflectliteType.abiMethod fun t=>do pure (.int .u8 (<- Rtype.kind t))) Tryz.func268 (by kernel_rfl) (by kernel_rfl) (by kernel_rfl) (by kernel_rfl)
 have h37:= @run_callFunc_extern Tryz.prog 280 _ (ReflectliteType.method ReflectliteType.elem) Tryz.func280 (by kernel_rfl) (by kernel_rfl) (by kernel_rfl) (by kernel_rfl)
 have h38:= @run_callFunc_extern Tryz.prog 281 _ (ReflectliteType.relation "Implements" ReflectliteType.implements_) Tryz.func281 (by kernel_rfl) (by kernel_rfl) (by kernel_rfl) (by kernel_rfl)
 have h10:= @run_callFunc_extern Tryz.prog 89 _ ReflectliteType.typeOf Tryz.func89 (by kernel_rfl) (by kernel_rfl) (by kernel_rfl) (by kernel_rfl)
 have h35:= @run_callFunc_extern Tryz.prog 278 _ (ReflectliteType.relation "AssignableTo" ReflectliteType.assignableTo) Tryz.func278 (by kernel_rfl) (by kernel_rfl) (by kernel_rfl) (by kernel_rfl)
 have h11:= @run_callFunc_extern Tryz.prog 142 _ (ReflectliteValue.method (ReflectliteValue.valueError "reflectlite.Value.Elem" 0) ReflectliteValue.elem) Tryz.func142 (by kernel_rfl) (by kernel_rfl) (by kernel_rfl) (by kernel_rfl)
 have h12:= @run_callFunc_extern Tryz.prog 143 _ ReflectliteValue.set Tryz.func143 (by kernel_rfl) (by kernel_rfl) (by kernel_rfl) (by kernel_rfl)
 have tO:=Adq
 have mA:=VX
 have a25:=oL
 have v25:=xX
 have f6:=Aa1
 have f7:=AhF
 have mK:=oO
 have mE:=oN
 have mI:=XC
 have k27:=Ado
 have k25:=Afo
 have e27:=AhE
 have i25:=oM
 have n8:=Afn ⟨w.heap.size,0,none⟩ t ((w.alloc (.cells #[.pointer (some t)] 72)).alloc (.cells #[.pointer (some ⟨20,72,none⟩), .pointer (some ⟨w.heap.size,0,none⟩), .int .u64 150] 113)) (by simp)
 have hlt:10<w.heap.size:=by
  rcases Nat.lt_or_ge 10 w.heap.size with h|h
  ·exact h
  ·simp[World.cell?,Array.getElem?_eq_none h]at hg
 have hg2:((w.alloc (.cells #[.pointer (some t)] 72)).alloc (.cells #[.pointer (some ⟨20,72,none⟩), .pointer (some ⟨w.heap.size,0,none⟩), .int .u64 150] 113)).cell? ⟨10,0,none⟩=some (.iface 177 (.agg #[.pointer (some ⟨20,37,none⟩)])):=by
  rw[World.cell?_alloc_lt _ _ ⟨10,0,none⟩ (by simp;omega),World.cell?_alloc_lt _ _ ⟨10,0,none⟩ hlt];exact hg
 have htl:t.block<w.heap.size:=by
  rcases Nat.lt_or_ge t.block w.heap.size with h|h
  ·exact h
  ·simp[World.cell?,Array.getElem?_eq_none h]at ht0
 have el:=Afm ⟨w.heap.size,0,none⟩ t (((w.alloc (.cells #[.pointer (some t)] 72)).alloc (.cells #[.pointer (some ⟨20,72,none⟩), .pointer (some ⟨w.heap.size,0,none⟩), .int .u64 150] 113)).alloc (.cells #[.pointer (some ⟨20,72,none⟩), .pointer (some ⟨w.heap.size,0,none⟩), .int .u64 150] 113)) (by rw[World.cell?_alloc_lt _ _ ⟨w.heap.size,0,none⟩ (by simp;omega)];simp)
 have st:=Ajx t ⟨w.heap.size+1+1+1,0,none⟩ e old ((((w.alloc (.cells #[.pointer (some t)] 72)).alloc (.cells #[.pointer (some ⟨20,72,none⟩), .pointer (some ⟨w.heap.size,0,none⟩), .int .u64 150] 113)).alloc (.cells #[.pointer (some ⟨20,72,none⟩), .pointer (some ⟨w.heap.size,0,none⟩), .int .u64 150] 113)).alloc (.cells #[.pointer (some e)] 70))
  (by rw[World.cell?_alloc_at _ _ _ _ (by simp)];rfl)
  (by rw[World.cell?_alloc_lt _ _ t (by simp;omega),World.cell?_alloc_lt _ _ t (by simp;omega),World.cell?_alloc_lt _ _ t (by simp;omega),World.cell?_alloc_lt _ _ t htl];exact ht0)
  (by rw[World.frozen?_alloc_old _ _ t (by simp;omega),World.frozen?_alloc_old _ _ t (by simp;omega),World.frozen?_alloc_old _ _ t (by simp;omega),World.frozen?_alloc_old _ _ t (Nat.ne_of_lt htl)];exact hf0)
 go_enter Tryz.func39,Tryz.ntmps39
 go_wp2
 refine wp_loop_rounds 1 ?_
 rw[rounds_succ]
 go_wp2
 go_ret
 exact⟨rfl,rfl⟩
theorem qU (v:Value) (w:World):(Extern.ReflectliteType.typeOf #[.iface 270 v]).run Tryz.prog w=.ok (.iface 177 (.agg #[.pointer (some ⟨20,270,none⟩)])) w:=by kernel_rfl
theorem X3 (w:World):((Extern.ReflectliteType.method fun t=>do Rtype.noPackHeld "Comparable" t;(fun a=>Value.bool a.comparable)<$>typeInfo t) #[.agg #[.pointer (some ⟨20,270,none⟩)]]).run Tryz.prog w=.ok (.bool true) w:=by kernel_rfl
theorem Rm (v:Value) (w:World):(Go.method 400 177 v "Comparable").run Tryz.prog w=.ok (279,v) w:=by kernel_rfl
theorem Acx:(Tryz.prog.info? 270).map (·.comparable)=some true:=by kernel_rfl
theorem Acy:(Tryz.prog.info? 288).map (·.size)=some 1:=by kernel_rfl
theorem yU (v:Value) (xT:TypeId) (w:World):(Instr.typeAssert (.iface 270 v) xT 188 true).run Tryz.prog w=.ok (.tuple #[.nilIface, .bool false]) w:=run_typeAssert_lacksB Tryz.underlying188 (by kernel_rfl) (by kernel_rfl) v xT w
theorem Zb (v:Value) (xT:TypeId) (w:World):(Instr.typeAssert (.iface 270 v) xT 184 true).run Tryz.prog w=.ok (.tuple #[.nilIface, .bool false]) w:=run_typeAssert_lacksB Tryz.underlying184 (by kernel_rfl) (by kernel_rfl) v xT w
theorem X5 (v:Value) (xT:TypeId) (w:World):(Instr.typeAssert (.iface 270 v) xT 185 true).run Tryz.prog w=.ok (.tuple #[.nilIface, .bool false]) w:=run_typeAssert_lacksB Tryz.underlying185 (by kernel_rfl) (by kernel_rfl) v xT w
theorem yV (v:Value) (xT:TypeId) (w:World):(Instr.typeAssert (.iface 70 v) xT 188 true).run Tryz.prog w=.ok (.tuple #[.nilIface, .bool false]) w:=run_typeAssert_lacksB Tryz.underlying188 (by kernel_rfl) (by kernel_rfl) v xT w
theorem X4 (v:Value) (xT:TypeId) (w:World):(Instr.typeAssert (.iface 70 v) xT 184 true).run Tryz.prog w=.ok (.tuple #[.iface 70 v, .bool true]) w:=run_typeAssert_hasB Tryz.underlying184 (by kernel_rfl) v xT w
theorem VI (v:Value) (w:World):(Go.method 400 70 v "Unwrap").run Tryz.prog w=.ok (272,v) w:=by kernel_rfl
theorem Aic (pb po:Nat) (b:Addr) (w:World) (h1:w.cell? ⟨pb,po+1,none⟩=some (.iface 270 (.pointer (some b)))):
  Calls Tryz.prog 40 #[.iface 70 (.pointer (some ⟨pb,po,none⟩)), .iface 270 (.pointer (some b))] w fun e w'=>e=.returned (.bool true)/\w'=w:=by
 obtain⟨i,hi,hcmp⟩:=Option.map_eq_some_iff.1 Acx
 obtain⟨j,hj,hjs⟩:=Option.map_eq_some_iff.1 Acy
 have h8:= @run_callFunc_extern Tryz.prog 89 _ Extern.ReflectliteType.typeOf Tryz.func89 (by kernel_rfl) (by kernel_rfl) (by kernel_rfl) (by kernel_rfl)
 have h32:= @run_callFunc_extern Tryz.prog 279 _ (Extern.ReflectliteType.method fun t=>do Rtype.noPackHeld "Comparable" t;pure (.bool (<- typeInfo t).comparable)) Tryz.func279 (by kernel_rfl) (by kernel_rfl) (by kernel_rfl) (by kernel_rfl)
 have tT:=qU
 have cT:=X3
 have mR:=Rm
 have nE:=yU
 have uE:=Zb
 have vE:=X5
 have nW:=yV
 have uW:=X4
 have mU:=VI
 have heq:=run_eql_iface_ptr_same (P:=Tryz.prog) w b Tryz.underlying37 Tryz.underlying270 hi hcmp hj
 have hty:=run_eql_iface_types (P:=Tryz.prog) 70 270 (.pointer (some ⟨pb,po,none⟩)) (.pointer (some b)) Tryz.underlying37 (by decide) w
 go_enter Tryz.func40,Tryz.ntmps40
 go_wp2
 refine wp_loop_rounds 2 ?_
 rw[rounds_succ]
 go_wp2
 rw[rounds_succ]
 go_wp2
 go_ret
 exact⟨rfl,rfl⟩
theorem Aib (b:Addr) (w:World):Calls Tryz.prog 40 #[.nilIface, .iface 270 (.pointer (some b))] w fun e w'=>e=.returned (.bool false)/\w'=w:=by
 have hnl:=run_eql_iface_nil_left (P:=Tryz.prog) w 270 (.pointer (some b)) Tryz.underlying37
 go_enter Tryz.func40,Tryz.ntmps40
 go_wp2
 go_ret
 exact⟨rfl,rfl⟩
theorem Agc (pb po:Nat) (b a:Addr) (ca cb:Array Value) (ta tb:TypeId) (w:World) (h1:w.cell? ⟨pb,po+1,none⟩=some (.iface 270 (.pointer (some a)))) (hne:a≠b) (ha:w.heap[a.block]? =some (.cells ca ta (0,0))) (hb:w.heap[b.block]? =some (.cells cb tb (0,0))):
  Calls Tryz.prog 40 #[.iface 70 (.pointer (some ⟨pb,po,none⟩)), .iface 270 (.pointer (some b))] w fun e w'=>e=.returned (.bool false)/\w'=w:=by
 obtain⟨i,hi,hcmp⟩:=Option.map_eq_some_iff.1 Acx
 obtain⟨j,hj,hjs⟩:=Option.map_eq_some_iff.1 Acy
 have h8:= @run_callFunc_extern Tryz.prog 89 _ Extern.ReflectliteType.typeOf Tryz.func89 (by kernel_rfl) (by kernel_rfl) (by kernel_rfl) (by kernel_rfl)
 have h32:= @run_callFunc_extern Tryz.prog 279 _ (Extern.ReflectliteType.method fun t=>do Rtype.noPackHeld "Comparable" t;pure (.bool (<- typeInfo t).comparable)) Tryz.func279 (by kernel_rfl) (by kernel_rfl) (by kernel_rfl) (by kernel_rfl)
 have tT:=qU
 have cT:=X3
 have mR:=Rm
 have nE:=yU
 have uE:=Zb
 have vE:=X5
 have nW:=yV
 have uW:=X4
 have mU:=VI
 have heq:=run_eql_iface_ptr_other (P:=Tryz.prog) w Tryz.underlying37 Tryz.underlying270 hi hcmp hj (by rw[hjs];decide) hne ha hb
 have hty:=run_eql_iface_types (P:=Tryz.prog) 70 270 (.pointer (some ⟨pb,po,none⟩)) (.pointer (some b)) Tryz.underlying37 (by decide) w
 go_enter Tryz.func40,Tryz.ntmps40
 go_wp2
 refine wp_loop_rounds 2 ?_
 rw[rounds_succ]
 go_wp2
 rw[rounds_succ]
 go_wp2
 go_ret
 exact⟨rfl,rfl⟩
theorem cK (x:Er) (y:Int×Er) (h:TR x=some y):Bc 1 pl 39 [.err x, .iface 72 (.mp 0 0 0)] [some ⟨1,70, .vals [.Lf],false,false⟩] (.bool true) [some ⟨1,70, .vals [.ip (.agg [.int .i64 y.1, .err y.2]) 0],false,false⟩]:=by
 obtain⟨yn,ye⟩:=y
 have hx:x=.box 70 yn ye:=by
  unfold TR at h
  cases x with
  |nil=>cases h
  |sent g=>cases h
  |box t n e=>
   simp only at h
   split at h
   ·rename_i ht;cases h;rw[ht]
   ·cases h
 subst hx
 refine⟨⟨_,Tryz.func39,by kernel_rfl,by kernel_rfl⟩,fun V w cx vs S hlen R=>?_⟩
 match vs,hlen with
 | [v0,v1],_=>
   have r0:=R 0 _ v0 rfl rfl
   have r1:=R 1 _ v1 rfl rfl
   cases r1 with
   |iface _ _ v1 r1=>
   obtain⟨e,cur,he,hnn,hi,rfl,RO⟩:=r1.WG S rfl
   cases r0 with
   |Ve _ _ _ b o u hA hb h0 h1 hrel=>
    have hz:(0:Nat)*e.BU+0=0:=by simp
    rw[hz]
    have hcur:0<cur.size:=by
       have e1:e.BU=1:=RO.BU
       have e2:e.len=1:=RO.len
       have e3:=RO.fits
       have e4:=RO.tot
       rw[e1,e2]at e3
       omega
    have hcell:w.cell? ⟨e.b,0,none⟩=some cur[0]:=by simp[World.cell?,RO.heap,hcur]
    have hfz:w.frozen? ⟨e.b,0,none⟩=false:=by simp[World.frozen?,RO.heap]
    have hg:=(S.glob.cst (10, .iface 177 (.agg #[.pointer (some ⟨20,37,none⟩)])) (by simp[pl])).2.2
    refine(Ajk ⟨b,o,none⟩ ⟨e.b,0,none⟩ _ w hg hcell hfz).mono ?_
    rintro ev w' ⟨rfl,rfl⟩
    have R2:Rel w cx (Av V cx [some ⟨1,70, .vals [.Lf],false,false⟩]) (.ip (.agg [.int .i64 yn, .err ye]) 0) (.pointer (some ⟨b,o,none⟩)):=by
       refine .ip _ 0 b o (fun c=>if c=0 then .int .i64 yn else u) rfl hA (UZ.of_cell h0) (fun c z hz=>?_) fun c z hz=>?_
       ·match c,hz with
        |0,hz=>exact⟨h0,rfl⟩
        |1,hz=>exact⟨h1,by cases hrel<;>rfl⟩
        |c+2,hz=>simp[AV.cells]at hz
       ·match c,hz with
        |0,hz=>simp[AV.cells]at hz;subst hz;exact .int _ _
        |1,hz=>simp[AV.cells]at hz;subst hz;exact hrel
        |c+2,hz=>simp[AV.cells]at hz
    obtain⟨E,S'⟩:=Ait (x:=.ip (.agg [.int .i64 yn, .err ye]) 0) S he hnn rfl rfl rfl (w4:=(((w.alloc (.cells #[.pointer (some ⟨e.b,0,none⟩)] 72)).alloc (.cells #[.pointer (some ⟨20,72,none⟩), .pointer (some ⟨w.heap.size,0,none⟩), .int .u64 150] 113)).alloc (.cells #[.pointer (some ⟨20,72,none⟩), .pointer (some ⟨w.heap.size,0,none⟩), .int .u64 150] 113)).alloc (.cells #[.pointer (some ⟨b,o,none⟩)] 70)) (by simp;omega) (fun k hk=>by
         rw[Below.heap_alloc _ _ _ (by simp;omega),Below.heap_alloc _ _ _ (by simp;omega),Below.heap_alloc _ _ _ (by simp;omega),Below.heap_alloc _ _ _ hk]) rfl rfl R2
    exact⟨_,cx,rfl,E,S', .bool true⟩
set_option maxRecDepth 10000 in
theorem VA (x:Er) (hx:x.isNil=true):Bc 1 pl 39 [.err x, .iface 72 (.mp 0 0 0)] [some ⟨1,70, .vals [.Lf],false,false⟩] (.bool false) [some ⟨1,70, .vals [.Lf],false,false⟩]:=by
 cases x with
 |sent g=>cases hx
 |box t n e=>cases hx
 |nil=>
  refine A8 1 .z rfl Tryz.func39 rfl (by kernel_rfl) ?_
  ((conv=>whnf);repeat((first|apply TT (by kernel_rfl)|apply sE rfl|apply dG (by kernel_rfl)|fail);(conv=>whnf)))
  exact Or.inr (Or.inr (WX [0] rfl rfl (sK rfl (Qp (Lc.cons (Ll rfl) Lc.nil)) FD.nil) (Kt.cons (cR rfl rfl) Kt.nil)))
theorem cO (x z:Er) (r:Bool) (h:QL x z=some r):Contract pl 40 [.err x, .err z] [] (.bool r) []:=by
 have hh:(∃g',x=.nil/\z=.sent g'/\g'∈pl.laid.gs/\r=false)∨ ∃n g g',x=.box 70 n (.sent g)/\z=.sent g'/\g∈pl.laid.gs/\g'∈pl.laid.gs/\r=(g==g'):=by
  unfold QL at h
  split at h
  ·rename_i g'
   split at h
   ·rename_i hc
    exact .inl ⟨g',rfl,rfl,hc,(Option.some.inj h).symm⟩
   ·cases h
  ·rename_i t n g g'
   split at h
   ·rename_i hc
    obtain⟨h1,h2,h3⟩:=hc
    subst h1
    exact .inr ⟨n,g,g',rfl,rfl,h2,h3,(Option.some.inj h).symm⟩
   ·cases h
  ·cases h
 rcases hh with ⟨g',hx,hz,hg',hr⟩|⟨n,g,g',hx,hz,hg,hg',hr⟩
 ·subst hx;subst hz;subst hr
  refine⟨⟨_,Tryz.func40,by kernel_rfl,by kernel_rfl⟩,fun V w cx vs S hlen R=>?_⟩
  match vs,hlen with
  | [v0,v1],_=>
    have r0:=R 0 _ v0 rfl rfl
    have r1:=R 1 _ v1 rfl rfl
    cases r0 with
    |Wp=>
    cases r1 with
    |UE _ t' a' hA2 hb2 hm2=>
     obtain⟨_,_,a2,p1,_,c2,k2,p2⟩:=S.glob.sent g' hg'
     rw[hm2]at p1
     cases p1
     refine(Aib a' w).mono ?_
     rintro ev w' ⟨rfl,rfl⟩
     exact⟨_,cx,rfl,Ext.refl,S, .bool false⟩
 subst hx;subst hz;subst hr
 refine⟨⟨_,Tryz.func40,by kernel_rfl,by kernel_rfl⟩,fun V w cx vs S hlen R=>?_⟩
 match vs,hlen with
 | [v0,v1],_=>
   have r0:=R 0 _ v0 rfl rfl
   have r1:=R 1 _ v1 rfl rfl
   cases r0 with
   |Ve _ _ _ b o u hA hb h0 h1 hrel=>
   cases hrel with
   |UE _ t a hA1 hb1 hm1=>
   cases r1 with
   |UE _ t' a' hA2 hb2 hm2=>
    obtain⟨_,_,a1,q1,_,c1,k1,q2⟩:=S.glob.sent g hg
    obtain⟨_,_,a2,p1,_,c2,k2,p2⟩:=S.glob.sent g' hg'
    rw[hm1]at q1
    rw[hm2]at p1
    cases q1;cases p1
    by_cases hgg:g=g'
    ·subst hgg
     rw[hm1]at hm2
     cases hm2
     refine(Aic b o _ w h1).mono ?_
     rintro ev w' ⟨rfl,rfl⟩
     exact⟨_,cx,rfl,Ext.refl,S,by rw[beq_self_eq_true];exact .bool true⟩
    ·have hne:a≠a':=fun e=>by subst e;exact hgg (S.glob.apart g g' a hg hg' hm1 hm2)
     refine(Agc b o a' a c1 c2 k1 k2 w h1 hne q2 p2).mono ?_
     rintro ev w' ⟨rfl,rfl⟩
     exact⟨_,cx,rfl,Ext.refl,S,by rw[beq_false_of_ne hgg];exact .bool false⟩
end Go.Proofs.YtkeokkmhhhhoiaaGreatDoor
