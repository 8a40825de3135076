import Derived.Test.YtkeokkmhhhhoiaaGreatDoorSe1
import Derived.ChangeKeysEq
namespace Go.SE
open Go
set_option linter.unusedVariables false
variable {L:Laid}
set_option linter.unusedSimpArgs false
section
variable {w:World} {cx:Cx} {A:Nat->Prop} {v:Value}
theorem Rel.OM {b:Bool} (h:Rel w cx A (.bool b) v):v=.bool b:=by cases h;rfl
theorem Rel.Dx {k:IntKind} {n:Int} (h:Rel w cx A (.int k n) v):v=.int k n:=by cases h;rfl
theorem Rel.QB {s:ByteArray} (h:Rel w cx A (.str s) v):v=.string s:=by cases h;rfl
theorem Rel.Zj (h:Rel w cx A .Lf v):v=.pointer none:=by cases h;rfl
theorem Rel.lF (h:Rel w cx A .PO v):v=.nilFunc:=by cases h;rfl
theorem Rel.Zi (h:Rel w cx A .Ox v):v=.nilIface:=by cases h;rfl
theorem Rel.ofConst (c:Value):Rel w cx A (ofConst c) c:=by
 unfold SE.ofConst
 split
 ·exact .bool _
 ·exact .int _ _
 ·exact .str _
 ·exact .Lf
 ·exact .Ye _
 ·exact .sl (some true) 0 _ none 0 0 (fun _ _=>undef) (fun b hb=>by cases hb;rfl) (Nat.le_refl _) (Nat.zero_le _) (fun _=>rfl) (fun h=>absurd h (Nat.lt_irrefl _)) (fun j hj=>absurd hj (Nat.not_lt_zero _)) (fun j c x hj=>absurd hj (Nat.not_lt_zero _))
 ·exact .PO
 ·exact .Ox
 ·exact .unk _
theorem Rel.one {x:AV} (h:Rel w cx A x v) (h1:v.oneCell'=true):x.A9=1:=by
 cases h<;>first|rfl|cases h1
end
def Gives (P:PL) (o:Oper) (ρ:Operand->Value) (w:World) (R:Value->World->Prop):Prop:=
 match (execOp ρ o).run P w with
 | .ok (.value u) w'=>R u w'
 | .ok .skip w'=>R undef w'
 | .ok (.enter f args) w'=>Calls P f args w' fun e w''=> ∃u,e=.returned u/\R u w''
 |_=>False
def EY (P:PL) (o:Oper) (s:Store) (ev:Operand->AV) (v:AV) (s':Store):Prop:=
 ∀V w cx ρ,Bj P.laid V w cx s->(∀x∈o.op.operands.toList,Rel w cx (Av V cx s) (ev x) (ρ x))->
  Gives P o ρ w fun u w'=> ∃BX,Ext s.length V w w' cx BX s s'/\Bj P.laid V w' BX s'/\Rel w' BX (Av V BX s') v u
section
variable {P:PL} {o:Oper} {s:Store} {ev:Operand->AV}
theorem EY.value {v:AV} {sem:(Operand->Value)->Sem Value} (he: ∀ρ,execOp ρ o=do pure (.value (<- sem ρ)))
  (h: ∀V w cx ρ,Bj P.laid V w cx s->(∀x∈o.op.operands.toList,Rel w cx (Av V cx s) (ev x) (ρ x))-> ∃u,(sem ρ).run P w=.ok u w/\Rel w cx (Av V cx s) v u):EY P o s ev v s:=by
 intro V w cx ρ S R
 obtain⟨u,hu,hr⟩:=h V w cx ρ S R
 unfold Gives
 rw[he]
 simp only[Sem.run_bind,hu,Result.andThen_ok,Sem.run_pure]
 exact⟨cx,Ext.refl,S,hr⟩
theorem EY.made {v:AV} {s':Store} {sem:(Operand->Value)->Sem Value} (he: ∀ρ,execOp ρ o=do pure (.value (<- sem ρ)))
  (h: ∀V w cx ρ,Bj P.laid V w cx s->(∀x∈o.op.operands.toList,Rel w cx (Av V cx s) (ev x) (ρ x))-> ∃u w',(sem ρ).run P w=.ok u w'/\ ∃BX,Ext s.length V w w' cx BX s s'/\Bj P.laid V w' BX s'/\Rel w' BX (Av V BX s') v u):EY P o s ev v s':=by
 intro V w cx ρ S R
 obtain⟨u,w',hu,hr⟩:=h V w cx ρ S R
 unfold Gives
 rw[he]
 simp only[Sem.run_bind,hu,Result.andThen_ok,Sem.run_pure]
 exact hr
theorem EY.skip {s':Store} {sem:(Operand->Value)->Sem Unit} (he: ∀ρ,execOp ρ o=do sem ρ;pure .skip)
  (h: ∀V w cx ρ,Bj P.laid V w cx s->(∀x∈o.op.operands.toList,Rel w cx (Av V cx s) (ev x) (ρ x))-> ∃w',(sem ρ).run P w=.ok () w'/\ ∃BX,Ext s.length V w w' cx BX s s'/\Bj P.laid V w' BX s'):EY P o s ev .unk s':=by
 intro V w cx ρ S R
 obtain⟨w',hu,BX,h1,h2⟩:=h V w cx ρ S R
 unfold Gives
 rw[he]
 simp only[Sem.run_bind,hu,Result.andThen_ok,Sem.run_pure]
 exact⟨BX,h1,h2, .unk _⟩
theorem Bn {c:Bool} {A:Prop} (h:need c A):c=true/\A:=by cases c<;>simp_all[need]
theorem mX {x:Operand} (ho:o.op=.move x∨o.op=.assign x):EY P o s ev (ev x) s:=by
 refine EY.value (sem:=fun ρ=>pure (ρ x)) (fun ρ=>?_) fun V w cx ρ S R=>⟨ρ x,rfl,R x ?_⟩
 ·rcases ho with ho|ho<;>simp[execOp,ho]
 ·rcases ho with ho|ho<;>simp[ho,Op.operands]
theorem AbS {c a b:Operand} {K:AV->Store->Prop} (ho:o.op=.pick c a b) (h:match ev c with| .bool c=>brP c (K (ev a) s) (K (ev b) s)|_=>False): ∃v s',K v s'/\EY P o s ev v s':=by
 have key: ∀t,ev c=.bool t->EY P o s ev (if t then ev a else ev b) s:=fun t ht=>
  EY.value (sem:=fun ρ=>do pure (if <- asBool (ρ c)then ρ a else ρ b)) (fun ρ=>by simp[execOp,ho]) fun V w cx ρ S R=>by
    have hc:=R c (by simp[ho,Op.operands])
    rw[ht]at hc
    rw[hc.OM]
    cases t
    ·exact⟨ρ b,by simp[asBool],by simpa using R b (by simp[ho,Op.operands])⟩
    ·exact⟨ρ a,by simp[asBool],by simpa using R a (by simp[ho,Op.operands])⟩
 split at h
 ·rename_i t ht
  cases t
  ·exact⟨_,_,h,by simpa using key false ht⟩
  ·exact⟨_,_,h,by simpa using key true ht⟩
 ·exact h.elim
theorem XO {t:TypeId} {x:Operand} {d:TypeDesc} (ho:o.op=.makeInterface t x) (hd:P.underlying t=some d) (hi: ∀ms,d≠.interface ms):EY P o s ev (.iface t (ev x)) s:=
 EY.value (sem:=fun ρ=>Instr.makeInterface t (ρ x)) (fun ρ=>by simp[execOp,ho]) fun V w cx ρ S R=>
   ⟨.iface t (ρ x),by unfold Instr.makeInterface;simp only[Sem.run_bind,run_underlying hd,Result.andThen_ok];cases d<;>first|exact absurd rfl (hi _)|rfl, .iface _ _ _ (R x (by simp[ho,Op.operands]))⟩
theorem mW {f:Fn} {first cap:Array Operand} (ho:o.op=.makeFunc f first cap):EY P o s ev (.fn f (first.toList.map ev) (cap.toList.map ev)) s:=
 EY.value (sem:=fun ρ=>Instr.makeFunc f (first.map ρ) (cap.map ρ)) (fun ρ=>by simp[execOp,ho]) fun V w cx ρ S R=>by
   refine⟨_,rfl,?_⟩
   have e: ∀xs:Array Operand,xs.map ρ=(xs.toList.map ρ).toArray:=fun xs=>by apply Array.ext';simp
   rw[e first,e cap]
   refine .fn f _ _ _ _ (by simp) (by simp) (fun c x v hx hv=>?_) (fun c x v hx hv=>?_)
   ·rw[List.getElem?_map]at hx hv
    cases hc:first.toList[c]? with
    |none=>rw[hc]at hx;cases hx
    |some y=>
     rw[hc]at hx hv
     cases hx;cases hv
     exact R y (by simp[ho,Op.operands];left;simpa using List.mem_of_getElem? hc)
   ·rw[List.getElem?_map]at hx hv
    cases hc:cap.toList[c]? with
    |none=>rw[hc]at hx;cases hx
    |some y=>
     rw[hc]at hx hv
     cases hx;cases hv
     exact R y (by simp[ho,Op.operands];right;simpa using List.mem_of_getElem? hc)
theorem pJ {x:Operand} {i:Nat} {vs:List AV} (ho:o.op=.extract x i) (hv:ev x=.GU vs) (hi:i<vs.length):EY P o s ev (vs.getD i .unk) s:=
 EY.value (sem:=fun ρ=>Instr.extract (ρ x) i) (fun ρ=>by simp[execOp,ho]) fun V w cx ρ S R=>by
   have hc:=R x (by simp[ho,Op.operands])
   rw[hv]at hc
   generalize ρ x=u at hc
   cases hc with
   |GU cs us hl hrel=>
    have hlt:i<us.length:=by omega
    exact⟨us[i],by simp[Instr.extract,hlt],hrel i _ _ (by simp[List.getD,hi]) (by simp[hlt])⟩
theorem Ti {x:Operand} (ho:o.op=.nilCheck x) (hx:(∃a,ev x=.Ye a)∨(∃e off,ev x=.ip e off)∨ ∃id i off,ev x=.mp id i off):EY P o s ev (ev x) s:=by
 intro V w cx ρ S R
 have hc:=R x (by simp[ho,Op.operands])
 have: ∃a,ρ x=.pointer (some a):=by
  rcases hx with ⟨a,h⟩|⟨e,off,h⟩|⟨id,i,off,h⟩<;>(rw[h]at hc;generalize ρ x=u at hc;cases hc;exact⟨_,rfl⟩)
 obtain⟨a,ha⟩:=this
 unfold Gives
 simp only[execOp,ho,ha,Sem.run_pure]
 rw[ha]at hc
 exact⟨cx,Ext.refl,S,hc⟩
theorem TG {op:BinOp} {t t':TypeId} {x y:Operand} {r:AV} (ho:o.op=.binOp op t x y t')
  (h: ∀(V:Nat->Prop) (w:World) (cx:Cx) (ρ:Operand->Value),Bj P.laid V w cx s->Rel w cx (Av V cx s) (ev x) (ρ x)->Rel w cx (Av V cx s) (ev y) (ρ y)->(eqGuard op t x y (ρ x) (ρ y)).run P w=.ok () w/\ ∃u,(binOp op t (ρ x) (ρ y)).run P w=.ok u w/\Rel w cx (Av V cx s) r u):EY P o s ev r s:=
 EY.value (sem:=fun ρ=>do eqGuard op t x y (ρ x) (ρ y);binOp op t (ρ x) (ρ y)) (fun ρ=>by simp[execOp,ho]) fun V w cx ρ S R=>by
   obtain⟨h1,u,h2,h3⟩:=h V w cx ρ S (R x (by simp[ho,Op.operands])) (R y (by simp[ho,Op.operands]))
   exact⟨u,by simp[h1,h2],h3⟩
theorem Ul {op:BinOp} {t:TypeId} {x y:Operand} {a b:Value} (w:World) (h:(match a,b with| .nilIface, .nilIface=>false| .agg _, .agg _=>false|_,_=>true)=true):(eqGuard op t x y a b).run P w=.ok () w:=by
 unfold eqGuard
 cases op<;>first|rfl|(cases a<;>first|rfl|(cases b<;>first|rfl|(simp at h;done)))
def I9:AV->Value
 | .int k n=>.int k n
 | .bool b=>.bool b
 | .str s=>.string s
 |_=>undef
theorem Rel.Kg {w:World} {cx:Cx} {A:Nat->Prop} (k:IntKind) (n:Int):Rel w cx A (.int k n) (I9 (.int k n)):=.int k n
theorem Rel.KU {w:World} {cx:Cx} {A:Nat->Prop} (b:Bool):Rel w cx A (.bool b) (I9 (.bool b)):=.bool b
theorem Rel.YP {w:World} {cx:Cx} {A:Nat->Prop} (b:ByteArray):Rel w cx A (.str b) (I9 (.str b)):=.str b
theorem vZ {op:BinOp} {k:IntKind} {t:TypeId} {a b:Int} {K:AV->Prop} (hns:uV op=false) (h:Abq op k a b K):
  ∃r,K r/\ ∀w,∃u,(binOp op t (.int k a) (.int k b)).run P w=.ok u w/\ ∀cx A,Rel w cx A r u:=by
 cases op<;>(try (simp only[uV,Bool.true_eq_false]at hns;done))<;>simp only[Abq]at h<;>
  first
   |exact⟨_,h,fun w=>⟨I9 _,by cases k<;>rfl,fun cx A=>.Kg _ _⟩⟩
   |exact⟨_,h,fun w=>⟨I9 _,by cases k<;>rfl,fun cx A=>.KU _⟩⟩
   |(obtain⟨h1,h2⟩:=h
     refine⟨_,h2,fun w=>⟨I9 _,?_,fun cx A=>.Kg _ _⟩⟩
     have e: ∀(x y:Sem Value),(if b=0 then x else y)=y:=fun x y=>if_neg h1
     cases k<;>(simp only[binOp,Op.intDiv,e];rfl))
theorem mY {op:BinOp} {k k':IntKind} {t:TypeId} {a b:Int} {K:AV->Prop} (h:mM op k a b K):
  ∃r,K r/\ ∀w,∃u,(binOp op t (.int k a) (.int k' b)).run P w=.ok u w/\ ∀cx A,Rel w cx A r u:=by
 cases op<;>simp only[mM]at h<;>
  first
   |exact h.elim
   |(obtain⟨h1,h2⟩:=h
     refine⟨_,h2,fun w=>⟨I9 _,?_,fun cx A=>.Kg _ _⟩⟩
     have e: ∀(x y:Sem Value),(if b<0 then x else y)=y:=fun x y=>if_neg (Int.not_lt.2 h1)
     simp only[binOp,Op.shift,e];rfl)
theorem wD {op:BinOp} {t:TypeId} {a b:ByteArray} {K:AV->Prop} (h:AbY op a b K):
  ∃r,K r/\ ∀w,∃u,(binOp op t (.string a) (.string b)).run P w=.ok u w/\ ∀cx A,Rel w cx A r u:=by
 cases op<;>simp only[AbY]at h<;>
  first
   |exact h.elim
   |exact⟨_,h,fun w=>⟨I9 _,rfl,fun cx A=>.KU _⟩⟩
   |(obtain⟨h1,h2⟩:=h
     refine⟨_,h2,fun w=>⟨I9 _,?_,fun cx A=>.YP _⟩⟩
     have e: ∀(x y:Sem Value),(if((a.size+b.size:Nat):Int)>IntKind.i64.max then x else y)=y:=fun x y=>if_neg (by rw[IntKind.max_i64];omega)
     simp only[binOp,Op.stringOp,e];rfl)
theorem OD {op:BinOp} {t:TypeId} {x y:Value} {b:Bool} {K:AV->Prop} (h:LV op b K) (hx: ∀w,(Op.equal t x y).run P w=.ok b w)
  (hk:(match x,y with| .int _ _, .int _ _=>false| .float _ _, .float _ _=>false| .complex _ _ _, .complex _ _ _=>false| .string _, .string _=>false|_,_=>true)=true):
  ∃r,K r/\ ∀w,∃u,(binOp op t x y).run P w=.ok u w/\ ∀cx A,Rel w cx A r u:=by
 cases op<;>simp only[LV]at h<;>try exact h.elim
 ·refine⟨_,h,fun w=>⟨.bool b,?_,fun cx A=>.bool _⟩⟩
  unfold binOp
  split<;>simp_all
 ·refine⟨_,h,fun w=>⟨.bool !b,?_,fun cx A=>.bool _⟩⟩
  unfold binOp
  split<;>simp_all
theorem run_equal_bool {t:TypeId} {a b:Bool} (ht:P.underlying t=some .bool) (w:World):(Op.equal t (.bool a) (.bool b)).run P w=.ok (a==b) w:=by
 have key: ∀d,(Op.equalIn (d+1) t (.bool a) (.bool b)).run P w=.ok (a==b) w:=fun d=>by simp[Op.equalIn,run_underlying ht]
 exact key 9999
theorem Q9 {t e:TypeId} {a:Option Addr} {n c n' c':Nat} (ht:P.underlying t=some (.slice e)) (w:World):(Op.equal t (.slice a n c) (.slice none n' c')).run P w=.ok a.isNone w:=by
 have key: ∀d,(Op.equalIn (d+1) t (.slice a n c) (.slice none n' c')).run P w=.ok a.isNone w:=fun d=>by cases a<;>simp[Op.equalIn,run_underlying ht]
 exact key 9999
theorem Q8 {t:TypeId} {ms:Array (String×TypeId)} (ht:P.underlying t=some (.interface ms)) (tx:TypeId) (x:Value) (w:World):(Op.equal t (.iface tx x) .nilIface).run P w=.ok false w:=by
 have key: ∀d,(Op.equalIn (d+1) t (.iface tx x) .nilIface).run P w=.ok false w:=fun d=>by simp[Op.equalIn,run_underlying ht]
 exact key 9999
theorem WQ {t:TypeId} {ms:Array (String×TypeId)} (ht:P.underlying t=some (.interface ms)) (w:World):(Op.equal t .nilIface .nilIface).run P w=.ok true w:=by
 have key: ∀d,(Op.equalIn (d+1) t .nilIface .nilIface).run P w=.ok true w:=fun d=>by simp[Op.equalIn,run_underlying ht]
 exact key 9999
theorem mF {t:TypeId} {a b:Array TypeId} {c:Bool} (ht:P.underlying t=some (.func a b c)) (w:World):(Op.equal t .nilFunc .nilFunc).run P w=.ok true w:=by
 have key: ∀d,(Op.equalIn (d+1) t .nilFunc .nilFunc).run P w=.ok true w:=fun d=>by simp[Op.equalIn,run_underlying ht]
 exact key 9999
theorem vS {t:TypeId} {a b:Array TypeId} {c:Bool} (ht:P.underlying t=some (.func a b c)) (f:Fn) (x y:Array Value) (w:World):(Op.equal t (.func f x y) .nilFunc).run P w=.ok false w:=by
 have key: ∀d,(Op.equalIn (d+1) t (.func f x y) .nilFunc).run P w=.ok false w:=fun d=>by simp[Op.equalIn,run_underlying ht]
 exact key 9999
theorem Uu {t e:TypeId} (ht:P.underlying t=some (.pointer e)) (a:Option Addr) (w:World):(Op.equal t (.pointer a) (.pointer none)).run P w=.ok a.isNone w:=by
 have key: ∀d,(Op.equalIn (d+1) t (.pointer a) (.pointer none)).run P w=.ok a.isNone w:=fun d=>by cases a<;>simp[Op.equalIn,run_underlying ht]
 exact key 9999
theorem mG {t e:TypeId} (ht:P.underlying t=some (.pointer e)) (a:Addr) (w:World):(Op.equal t (.pointer none) (.pointer (some a))).run P w=.ok false w:=by
 have key: ∀d,(Op.equalIn (d+1) t (.pointer none) (.pointer (some a))).run P w=.ok false w:=fun d=>by simp[Op.equalIn,run_underlying ht]
 exact key 9999
theorem WR {t e:TypeId} (ht:P.underlying t=some (.pointer e)) (hi:(P.info? e).isSome=true) (a:Addr) (w:World):(Op.equal t (.pointer (some a)) (.pointer (some a))).run P w=.ok true w:=by
 obtain⟨j,hj⟩:=Option.isSome_iff_exists.1 hi
 have key: ∀d,(Op.equalIn (d+1) t (.pointer (some a)) (.pointer (some a))).run P w=.ok true w:=fun d=>by simp[Op.equalIn,run_underlying ht,sizeOf,typeInfo,hj,run_sameAddr_same]
 exact key 9999
theorem UR {e:TypeId} {k ke:IntKind} {l l':List Int} (he:P.underlying e=some (.int ke)) (d:Nat): ∀(is:List Nat),(∀j∈is,j<l.length/\j<l'.length)-> ∀w:World,
  (Op.eqItems (d+1) e 1 (l.map (Value.int k)).toArray (l'.map (Value.int k)).toArray is).run P w=.ok (is.all fun j=>l.getD j 0==l'.getD j 0) w
 | [],_,w=>by simp[Op.eqItems]
 |j::is,h,w=>by
  obtain⟨h1,h2⟩:=h j (by simp)
  have p1:(part e (l.map (Value.int k)).toArray (j*1)).run P w=.ok (.int k (l.getD j 0)) w:=by
   simp[part,isAgg,run_underlying he,h1]
  have p2:(part e (l'.map (Value.int k)).toArray (j*1)).run P w=.ok (.int k (l'.getD j 0)) w:=by
   simp[part,isAgg,run_underlying he,h2]
  have p3:(Op.equalIn (d+1) e (.int k (l.getD j 0)) (.int k (l'.getD j 0))).run P w=.ok (l.getD j 0==l'.getD j 0) w:=by
   simp[Op.equalIn,run_underlying he]
  simp only[Op.eqItems,Sem.run_bind,p1,p2,p3,Result.andThen_ok]
  cases hq:(l.getD j 0==l'.getD j 0)with
  |false=>simp only[Bool.not_false,if_true,List.all_cons,hq,Bool.false_and,Sem.run_pure]
  |true=>
   simp only[Bool.not_true,Bool.false_eq_true,if_false,List.all_cons,hq,Bool.true_and]
   exact UR he d is (fun i hi=>h i (by simp[hi])) w
theorem wS {l l':List Int} {n:Nat} (h:l.length=n) (h':l'.length=n):((List.range n).all fun j=>l.getD j 0==l'.getD j 0)=(l==l'):=by
 rw[Bool.eq_iff_iff,List.all_eq_true,beq_iff_eq]
 refine⟨fun hx=>List.ext_getElem (h.trans h'.symm) fun i h1 h2=>?_,fun e j _=>by rw[e];simp⟩
 have:=hx i (List.mem_range.2 (by omega))
 simpa[h1,h2]using this
theorem mD {t e:TypeId} {n:Nat} {k ke:IntKind} {l l':List Int} (ht:P.underlying t=some (.array n e)) (he:P.underlying e=some (.int ke)) (hc:P.cellsOf e=1) (h:l.length=n) (h':l'.length=n) (w:World):
  (Op.equal t (.agg (l.map (Value.int k)).toArray) (.agg (l'.map (Value.int k)).toArray)).run P w=.ok (l==l') w:=by
 have hi: ∃i,P.info? e=some i:=by
  unfold Program.underlying at he
  cases hq:P.info? e with
  |none=>simp[hq]at he
  |some i=>exact⟨i,rfl⟩
 obtain⟨i,hi⟩:=hi
 have key: ∀d,(Op.equalIn (d+2) t (.agg (l.map (Value.int k)).toArray) (.agg (l'.map (Value.int k)).toArray)).run P w=.ok (l==l') w:=fun d=>by
  rw[run_equalIn_array (d:=d+1) (hu:=ht) (hi:=hi),hc,UR he d _ (fun j hj=>by have:=List.mem_range.1 hj;omega),wS h h']
 exact key 9998
theorem XV {op:BinOp} {t:TypeId} {x y:Operand} {a b:Value} (w:World) (h:(Nh x||Nh y)=true) (hab:a=.nilIface/\b=.nilIface):(eqGuard op t x y a b).run P w=.ok () w:=by
 obtain⟨rfl,rfl⟩:=hab
 unfold eqGuard
 cases op<;>first|rfl|(cases x<;>cases y<;>first|rfl|(simp[Nh]at h;done))
theorem AbQ {op:BinOp} {t t':TypeId} {x y:Operand} {K:AV->Prop} (ho:o.op=.binOp op t x y t') (h:Ahq P op t (Nh x||Nh y) (ev x) (ev y) K): ∃r,K r/\EY P o s ev r s:=by
 have simple: ∀ {r:AV} {g:Value->Value->Prop},(∀(V:Nat->Prop) (w:World) (cx:Cx) (ρ:Operand->Value),Bj P.laid V w cx s->Rel w cx (Av V cx s) (ev x) (ρ x)->Rel w cx (Av V cx s) (ev y) (ρ y)->g (ρ x) (ρ y))->
   (∀a b,g a b->((match a,b with| .nilIface, .nilIface=>false| .agg _, .agg _=>false|_,_=>true)=true)/\ ∀w,∃u,(binOp op t a b).run P w=.ok u w/\ ∀cx A,Rel w cx A r u)->EY P o s ev r s:=by
  intro r g h1 h2
  refine TG ho fun V w cx ρ S rx ry=>?_
  obtain⟨e1,e2⟩:=h2 _ _ (h1 V w cx ρ S rx ry)
  obtain⟨u,e3,e4⟩:=e2 w
  exact⟨Ul w e1,u,e3,e4 _ _⟩
 unfold Ahq at h
 split at h
 ·rename_i k a k' b hx hy
  split at h
  ·obtain⟨r,hr,hu⟩:=mY (P:=P) (k':=k') (t:=t) h
   refine⟨r,hr,simple (g:=fun p q=>p=.int k a/\q=.int k' b) (fun V w cx ρ S rx ry=>⟨(hx▸rx).Dx,(hy▸ry).Dx⟩) ?_⟩
   rintro _ _ ⟨rfl,rfl⟩
   exact⟨rfl,hu⟩
  ·rename_i hns
   replace h:=Bn h
   obtain⟨hkk,h⟩:=h
   obtain rfl:=of_decide_eq_true hkk
   obtain⟨r,hr,hu⟩:=vZ (P:=P) (t:=t) hns h
   refine⟨r,hr,simple (g:=fun p q=>p=.int k a/\q=.int k b) (fun V w cx ρ S rx ry=>⟨(hx▸rx).Dx,(hy▸ry).Dx⟩) ?_⟩
   rintro _ _ ⟨rfl,rfl⟩
   exact⟨rfl,hu⟩
 ·rename_i a b hx hy
  obtain⟨r,hr,hu⟩:=wD (P:=P) (t:=t) h
  refine⟨r,hr,simple (g:=fun p q=>p=.string a/\q=.string b) (fun V w cx ρ S rx ry=>⟨(hx▸rx).QB,(hy▸ry).QB⟩) ?_⟩
  rintro _ _ ⟨rfl,rfl⟩
  exact⟨rfl,hu⟩
 ·rename_i a b hx hy
  split at h
  ·rename_i ht
   obtain⟨r,hr,hu⟩:=OD (P:=P) (t:=t) (x:=.bool a) (y:=.bool b) h (run_equal_bool ht) rfl
   refine⟨r,hr,simple (g:=fun p q=>p=.bool a/\q=.bool b) (fun V w cx ρ S rx ry=>⟨(hx▸rx).OM,(hy▸ry).OM⟩) ?_⟩
   rintro _ _ ⟨rfl,rfl⟩
   exact⟨rfl,hu⟩
  ·exact h.elim
 ·rename_i nl n get get' hx hy
  split at h
  ·rename_i e ht
   have hk: ∀(a:Option Addr) (n c n' c':Nat),a.isNone=nl-> ∃r,K r/\ ∀w,∃u,(binOp op t (.slice a n c) (.slice none n' c')).run P w=.ok u w/\ ∀cx A,Rel w cx A r u:=fun a n c n' c' ha=>
    OD (P:=P) (t:=t) (x:=.slice a n c) (y:=.slice none n' c') h (fun w=>by rw[Q9 ht,ha]) rfl
   cases op<;>simp only[LV]at h<;>try exact h.elim
   ·refine⟨_,h,simple (g:=fun p q=>(∃a n c,p=.slice a n c/\a.isNone=nl)/\ ∃n c,q=.slice none n c) (fun V w cx ρ S rx ry=>?_) ?_⟩
    ·rw[hx]at rx;rw[hy]at ry
     generalize ρ x=p at rx;generalize ρ y=q at ry
     cases rx with|sl _ _ _ a cap BU vals hnil=>cases ry with|sl _ _ _ a' cap' Ajy vals' hnil'=>
         have:=hnil' true rfl
         simp only[Option.isNone_iff_eq_none]at this
         subst this
         exact⟨⟨_,_,_,rfl,hnil nl rfl⟩,_,_,rfl⟩
    ·rintro _ _ ⟨⟨a,n,c,rfl,ha⟩,n',c',rfl⟩
     exact⟨rfl,fun w=>⟨.bool nl,by simp[binOp,Q9 ht,ha],fun cx A=>.bool _⟩⟩
   ·refine⟨_,h,simple (g:=fun p q=>(∃a n c,p=.slice a n c/\a.isNone=nl)/\ ∃n c,q=.slice none n c) (fun V w cx ρ S rx ry=>?_) ?_⟩
    ·rw[hx]at rx;rw[hy]at ry
     generalize ρ x=p at rx;generalize ρ y=q at ry
     cases rx with|sl _ _ _ a cap BU vals hnil=>cases ry with|sl _ _ _ a' cap' Ajy vals' hnil'=>
         have:=hnil' true rfl
         simp only[Option.isNone_iff_eq_none]at this
         subst this
         exact⟨⟨_,_,_,rfl,hnil nl rfl⟩,_,_,rfl⟩
    ·rintro _ _ ⟨⟨a,n,c,rfl,ha⟩,n',c',rfl⟩
     exact⟨rfl,fun w=>⟨.bool !nl,by simp[binOp,Q9 ht,ha],fun cx A=>.bool _⟩⟩
  ·exact h.elim
 ·rename_i k l k' l' hx hy
  split at h
  ·rename_i n e ht
   replace h:=Bn h
   obtain⟨hq,h⟩:=h
   simp only[Bool.and_eq_true,decide_eq_true_eq,beq_iff_eq,Bool.not_eq_true']at hq
   obtain⟨⟨⟨hk,hc,he⟩,hl,hl'⟩,hgt⟩:=hq
   subst hk
   obtain⟨ke,he⟩: ∃ke,P.underlying e=some (.int ke):=by
    split at he
    ·rename_i ke hke
     exact⟨ke,hke⟩
    ·cases he
   obtain⟨r,hr,hu⟩:=OD (P:=P) (t:=t) (x:=.agg (l.map (Value.int k)).toArray) (y:=.agg (l'.map (Value.int k)).toArray) h (mD ht he hc hl hl') rfl
   refine⟨r,hr,TG ho fun V w cx ρ S rx ry=>?_⟩
   rw[hx]at rx
   rw[hy]at ry
   have e1:ρ x=.agg (l.map (Value.int k)).toArray:=by generalize ρ x=p at rx;cases rx;rfl
   have e2:ρ y=.agg (l'.map (Value.int k)).toArray:=by generalize ρ y=p at ry;cases ry;rfl
   obtain⟨u,hu1,hu2⟩:=hu w
   rw[e1,e2]
   refine⟨?_,u,hu1,hu2 _ _⟩
   unfold eqGuard
   cases op<;>simp[hgt]
  ·exact h.elim
 ·rename_i hx hy
  obtain⟨AjO,h⟩:=Bn h
  split at h
  ·rename_i ms ht
   obtain⟨r,hr,hu⟩:=OD (P:=P) (t:=t) (x:=.nilIface) (y:=.nilIface) h (WQ ht) rfl
   refine⟨r,hr,TG ho fun V w cx ρ S rx ry=>?_⟩
   have e1:=(hx▸rx).Zi
   have e2:=(hy▸ry).Zi
   obtain⟨u,e3,e4⟩:=hu w
   exact⟨XV w AjO ⟨e1,e2⟩,u,by rw[e1,e2];exact e3,e4 _ _⟩
  ·exact h.elim
 ·rename_i tx vx hx hy
  split at h
  ·rename_i ms ht
   cases op<;>simp only[LV]at h<;>try exact h.elim
   all_goals
    refine⟨_,h,simple (g:=fun p q=>(∃t v,p=.iface t v)/\q=.nilIface) (fun V w cx ρ S rx ry=>⟨?_,(hy▸ry).Zi⟩) ?_⟩
    ·rw[hx]at rx
     generalize ρ x=p at rx
     cases rx
     exact⟨_,_,rfl⟩
    ·rintro _ _ ⟨⟨t,v,rfl⟩,rfl⟩
     exact⟨rfl,fun w=>⟨I9 _,by simp[binOp,Q8 ht,I9],fun cx A=>.KU _⟩⟩
  ·exact h.elim
 ·rename_i e hx hy
  obtain⟨AjO,h⟩:=Bn h
  split at h
  ·rename_i ms ht
   cases op<;>simp only[LV]at h<;>try exact h.elim
   all_goals
    refine⟨_,h,TG ho fun V w cx ρ S rx ry=>?_⟩
    have e2:=(hy▸ry).Zi
    rw[hx]at rx
    rw[e2]
    generalize ρ x=p at rx ⊢
    cases rx with
    |Wp=>exact⟨XV w AjO ⟨rfl,rfl⟩,I9 (.bool _),by simp[binOp,WQ ht,I9,Er.isNil], .KU _⟩
    |UE=>exact⟨Ul w rfl,I9 (.bool _),by simp[binOp,Q8 ht,I9,Er.isNil], .KU _⟩
    |Ve=>exact⟨Ul w rfl,I9 (.bool _),by simp[binOp,Q8 ht,I9,Er.isNil], .KU _⟩
  ·exact h.elim
 ·rename_i hx hy
  split at h
  ·rename_i ht
   obtain⟨r,hr,hu⟩:=OD (P:=P) (t:=t) (x:=.nilFunc) (y:=.nilFunc) h (mF ht) rfl
   refine⟨r,hr,simple (g:=fun p q=>p=.nilFunc/\q=.nilFunc) (fun V w cx ρ S rx ry=>⟨(hx▸rx).lF,(hy▸ry).lF⟩) ?_⟩
   rintro _ _ ⟨rfl,rfl⟩
   exact⟨rfl,hu⟩
  ·exact h.elim
 ·rename_i f a b hx hy
  split at h
  ·rename_i ht
   cases op<;>simp only[LV]at h<;>try exact h.elim
   all_goals
    refine⟨_,h,simple (g:=fun p q=>(∃f a b,p=.func f a b)/\q=.nilFunc) (fun V w cx ρ S rx ry=>⟨?_,(hy▸ry).lF⟩) ?_⟩
    ·rw[hx]at rx
     generalize ρ x=p at rx
     cases rx
     exact⟨_,_,_,rfl⟩
    ·rintro _ _ ⟨⟨f,a,b,rfl⟩,rfl⟩
     exact⟨rfl,fun w=>⟨I9 _,by simp[binOp,vS ht,I9],fun cx A=>.KU _⟩⟩
  ·exact h.elim
 ·rename_i hx hy
  split at h
  ·rename_i ht
   obtain⟨r,hr,hu⟩:=OD (P:=P) (t:=t) (x:=.pointer none) (y:=.pointer none) h (Uu ht none) rfl
   refine⟨r,hr,simple (g:=fun p q=>p=.pointer none/\q=.pointer none) (fun V w cx ρ S rx ry=>⟨(hx▸rx).Zj,(hy▸ry).Zj⟩) ?_⟩
   rintro _ _ ⟨rfl,rfl⟩
   exact⟨rfl,hu⟩
  ·exact h.elim
 all_goals first|exact h.elim|skip
 iterate 3
  ·rename_i hx hy
   split at h
   ·rename_i ht
    cases op<;>simp only[LV]at h<;>try exact h.elim
    all_goals
         refine⟨_,h,simple (g:=fun p q=>(∃a,p=.pointer (some a))/\q=.pointer none) (fun V w cx ρ S rx ry=>⟨?_,(hy▸ry).Zj⟩) ?_⟩
         ·rw[hx]at rx
          generalize ρ x=p at rx
          cases rx<;>exact⟨_,rfl⟩
         ·rintro _ _ ⟨⟨a,rfl⟩,rfl⟩
          exact⟨rfl,fun w=>⟨I9 _,by simp[binOp,Uu ht,I9],fun cx A=>.KU _⟩⟩
   ·exact h.elim
 ·rename_i id i off b hx hy
  split at h
  ·rename_i ht
   cases op<;>simp only[LV]at h<;>try exact h.elim
   all_goals
    refine⟨_,h,simple (g:=fun p q=>(∃a,p=.pointer a/\a.isNone= !b)/\q=.pointer none) (fun V w cx ρ S rx ry=>⟨?_,(hy▸ry).Zj⟩) ?_⟩
    ·rw[hx]at rx
     generalize ρ x=p at rx
     cases rx<;>exact⟨_,rfl,rfl⟩
    ·rintro _ _ ⟨⟨a,rfl,ha⟩,rfl⟩
     exact⟨rfl,fun w=>⟨I9 _,by simp[binOp,Uu ht,I9,ha],fun cx A=>.KU _⟩⟩
  ·exact h.elim
 ·rename_i id i off b id' i' off' hx hy
  replace h:=Bn h
  obtain⟨hq,h⟩:=h
  simp only[Bool.and_eq_true]at hq
  obtain rfl:=Nat.eq_of_beq_eq_true hq.1
  obtain rfl:=Nat.eq_of_beq_eq_true hq.2.1
  obtain rfl:=Nat.eq_of_beq_eq_true hq.2.2
  split at h
  ·rename_i te ht
   obtain⟨hi,h3⟩:=Bn h
   clear h
   cases op<;>simp only[LV]at h3<;>try exact h3.elim
   all_goals
    refine⟨_,h3,simple (g:=fun p q=> ∃a:Addr,q=.pointer (some a)/\p=.pointer (bif b then some a else none)) (fun V w cx ρ S rx ry=>?_) ?_⟩
    ·rw[hx]at rx
     rw[hy]at ry
     generalize ρ x=p at rx
     generalize ρ y=q at ry
     cases ry with
     |mp _ _ _ e he hnn hi'=>
      cases rx with
      |gH=>exact⟨_,rfl,rfl⟩
      |gI _ _ _ e2 he2 AnG hi2=>
       rw[he]at he2
       cases he2
       exact⟨_,rfl,rfl⟩
    ·rintro _ _ ⟨a,rfl,rfl⟩
     cases b<;>exact⟨rfl,fun w=>⟨I9 _,by simp[binOp,mG ht,WR ht hi,I9],fun cx A=>.KU _⟩⟩
  ·exact h.elim
 ·rename_i id i off id' i' off' hx hy
  replace h:=Bn h
  obtain⟨hq,h⟩:=h
  simp only[Bool.and_eq_true]at hq
  obtain rfl:=Nat.eq_of_beq_eq_true hq.1
  obtain rfl:=Nat.eq_of_beq_eq_true hq.2.1
  obtain rfl:=Nat.eq_of_beq_eq_true hq.2.2
  split at h
  ·rename_i te ht
   obtain⟨hi,h3⟩:=Bn h
   clear h
   cases op<;>simp only[LV]at h3<;>try exact h3.elim
   all_goals
    refine⟨_,h3,simple (g:=fun p q=> ∃a:Addr,q=.pointer (some a)/\p=.pointer (some a)) (fun V w cx ρ S rx ry=>?_) ?_⟩
    ·rw[hx]at rx
     rw[hy]at ry
     generalize ρ x=p at rx
     generalize ρ y=q at ry
     cases ry with
     |mp _ _ _ e he hnn hi'=>
      cases rx with
      |mp _ _ _ e2 he2 AnG hi2=>
       rw[he]at he2
       cases he2
       exact⟨_,rfl,rfl⟩
    ·rintro _ _ ⟨a,rfl,rfl⟩
     exact⟨rfl,fun w=>⟨I9 _,by simp[binOp,WR ht hi,I9],fun cx A=>.KU _⟩⟩
  ·exact h.elim
theorem Aeq {op:UnOp} {t:TypeId} {x:Operand} {K:AV->Prop} (ho:o.op=.unOp op t x) (h:unQ op (ev x) K): ∃r,K r/\EY P o s ev r s:=by
 have hx:x∈o.op.operands.toList:=by simp[ho,Op.operands]
 unfold unQ at h
 split at h
 ·rename_i b he
  refine⟨_,h,EY.value (sem:=fun ρ=>Op.unary .not (ρ x)) (fun ρ=>by simp[execOp,ho]) fun V w cx ρ S R=>⟨.bool !b,?_, .bool _⟩⟩
  have e:=R x hx;rw[he]at e;rw[e.OM];rfl
 ·rename_i k n he
  refine⟨_,h,EY.value (sem:=fun ρ=>Op.unary .neg (ρ x)) (fun ρ=>by simp[execOp,ho]) fun V w cx ρ S R=>⟨I9 _,?_, .Kg _ _⟩⟩
  have e:=R x hx;rw[he]at e;rw[e.Dx];rfl
 ·rename_i k n he
  refine⟨_,h,EY.value (sem:=fun ρ=>Op.unary .xor (ρ x)) (fun ρ=>by simp[execOp,ho]) fun V w cx ρ S R=>⟨I9 _,?_, .Kg _ _⟩⟩
  have e:=R x hx;rw[he]at e;rw[e.Dx];rfl
 ·exact h.elim
end
end Go.SE
