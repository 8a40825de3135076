import Derived.Test.YtkeokkmhhhhoiaaGreatDoorSe16
namespace Go.SE
open Go
set_option linter.unusedVariables false
def AV.Le (x y:AV):Prop:= ∀(w:World) (cx:Cx) (A:Nat->Prop) (v:Value),Rel w cx A x v->Rel w cx A y v
theorem AV.Le.refl (x:AV):x.Le x:=fun _ _ _ _ h=>h
theorem AV.Le.of_eq {x y:AV} (h:x=y):x.Le y:=h▸AV.Le.refl x
theorem AV.Le.sl {nl:Option Bool} {n:Nat} {get get':Nat->AV} (h: ∀j,j<n->get j=get' j):(AV.sl nl n get).Le (.sl nl n get'):=by
 intro w cx A v R
 cases R with
 |sl _ _ _ a cap BU vals h1 h2 h3 h4 h5 h6 h7=>
  refine .sl nl n get' a cap BU vals h1 h2 h3 h4 (fun hn=>?_) (fun j hj=>(by rw[<- h j hj];exact h6 j hj)) fun j c x hj hx=>(by rw[<- h j hj]at hx;exact h7 j c x hj hx)
  obtain⟨b,off,e1,e2,e3,e4⟩:=h5 hn
  exact⟨b,off,e1,e2,e3,fun j c x hj hx=>(by rw[<- h j hj]at hx;exact e4 j c x hj hx)⟩
theorem AV.Le.mP {nl:Option Bool} {n:Nat} {get:Nat->AV} :(AV.sl nl n get).Le (.sl none n get):=by
 intro w cx A v R
 cases R with
 |sl _ _ _ a cap BU vals h1 h2 h3 h4 h5 h6 h7=>exact .sl none n get a cap BU vals (fun b hb=>by cases hb) h2 h3 h4 h5 h6 h7
def AP:List AV->List AV->Prop
 | [],[]=>True
 |x::xs,y::ys=>x.Le y/\AP xs ys
 |_,_=>False
theorem Li: ∀ {xs ys:List AV},AP xs ys->xs.length=ys.length/\ ∀(i:Nat) (y:AV),ys[i]? =some y-> ∃x,xs[i]? =some x/\x.Le y
 | [],[],_=>⟨rfl,fun i y h=>by simp at h⟩
 |x::xs,y::ys,h=>by
  obtain⟨h1,h2⟩:=Li h.2
  refine⟨by simp[h1],fun i z hz=>?_⟩
  cases i with
  |zero=>simp at hz;subst hz;exact⟨x,by simp,h.1⟩
  |succ i=>exact h2 i z (by simpa using hz)
 | [],_::_,h=>h.elim
 |_::_,[],h=>h.elim
theorem AV.Le.agg {xs ys:List AV} (h:AP xs ys):(AV.agg xs).Le (.agg ys):=by
 intro w cx A v R
 obtain⟨h1,h2⟩:=Li h
 cases R with
 |agg _ vs hl hone hrel=>
  refine .agg ys vs (by rw[<- h1];exact hl) hone fun c y u hy hu=>?_
  obtain⟨x,hx,hle⟩:=h2 c y hy
  exact hle w cx A u (hrel c x u hx hu)
theorem AV.Le.Aij {id i off:Nat} :AV.Lf.Le (.PN id i off false):=by
 intro w cx A v h
 cases h
 exact .gH _ _ _
theorem AV.Le.Agm {id i off:Nat} :(AV.mp id i off).Le (.PN id i off true):=by
 intro w cx A v h
 cases h with
 |mp _ _ _ e he hnn hi=>exact .gI _ _ _ e he hnn hi
theorem AV.Le.AhH:AV.Ox.Le (.err .nil):=by
 intro w cx A v R
 cases R
 exact .Wp
theorem AV.Le.AhG {t:TypeId} {n:Int} {x:AV} {e:Er} (h:x.Le (.err e)):(AV.iface t (.ip (.agg [.int .i64 n,x]) 0)).Le (.err (.box t n e)):=by
 intro w cx A v R
 cases R with
 |iface _ _ v R=>
  cases R with
  |ip _ _ b o vals Gr hA hb hmem hrel=>
   have h0:=hmem 0 (.int .i64 n) rfl
   have h1:=hmem 1 x rfl
   have r0:=(hrel 0 (.int .i64 n) rfl).Dx
   exact .Ve t n e b o (vals 1) hA hb.lt (by rw[<- r0];exact h0.1) h1.1 (h _ _ _ _ (hrel 1 x rfl))
theorem GI {P:PL} {g:FuncId} {args args':List AV} {objs Dz:Store} {r:AV} (h:Contract P g args' objs r Dz) (hle:AP args args'):Contract P g args objs r Dz:=by
 obtain⟨h1,h2⟩:=h
 obtain⟨l1,l2⟩:=Li hle
 refine⟨h1,fun V w cx vs S hl R=>h2 V w cx vs S (by rw[<- l1];exact hl) fun i y v hy hv=>?_⟩
 obtain⟨x,hx,hxy⟩:=l2 i y hy
 exact hxy _ _ _ _ (R i x v hx hv)
end Go.SE
