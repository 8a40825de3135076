import Derived.Test.YtkeokkmhhhhoiaaGreatDoorSe15
namespace Go.SE
open Go
set_option linter.unusedVariables false
def look:List (Nat×AV)->Nat->AV
 | [],_=>.unk
 |(i,v)::r,j=>match Nat.beq i j with|true=>v|false=>look r j
def mkT (kv:List (Nat×AV)):Nat->Nat->List AV
 |_,0=> []
 |i,n+1=>look kv i::mkT kv (i+1) n
def BS (n:Nat) (kv:List (Nat×AV)) (s:Store):Fr:=⟨mkT kv 0 n,s⟩
theorem AcG (kv:List (Nat×AV)): ∀i n,(mkT kv i n).length=n
 |_,0=>rfl
 |i,n+1=>by simp only[mkT,List.length_cons,AcG kv (i+1) n]
theorem AcF (kv:List (Nat×AV)): ∀(n i j:Nat) (x:AV),(mkT kv i n)[j]? =some x->x=look kv (i+j)/\j<n
 |0,_,_,_,h=>by simp[mkT]at h
 |n+1,i,0,x,h=>by simp[mkT]at h;exact⟨h.symm,by omega⟩
 |n+1,i,j+1,x,h=>by
  simp only[mkT,List.getElem?_cons_succ]at h
  obtain⟨h1,h2⟩:=AcF kv n (i+1) j x h
  exact⟨by rw[h1];congr 1;omega,by omega⟩
theorem sE {a b:Store} {p:Prop} (h:a=b) (hp:p):a=b/\p:=⟨h,hp⟩
theorem dG {ops:List Oper} {n:Nat} {p:Prop} (h:(Uc ops&&WV ops n&&Nat.ble n ops.length&&V6 (ops.take n))=true) (hp:p):tH ops n/\p:=⟨by rw[tH];exact h,hp⟩
theorem Ai0 {a b:Nat} {p:Prop} (h:a=b) (hp:p):a=b/\p:=⟨h,hp⟩
theorem JK {m:Nat} {a b c:Fr} (h:Weak m a b) (h':Weak m b c):Weak m a c:=by
 intro L V w cx x R
 obtain⟨PU,E1,R1⟩:=h L V w cx x R
 obtain⟨UY,E2,R2⟩:=h' L V w PU x R1
 exact⟨UY,E1.trans E2,R2⟩
theorem rV {m:Nat} {a:Fr} :Weak m a a:=fun L V w cx x R=>⟨cx,Ext.refl,R⟩
theorem least {p:Nat->Prop} (h: ∃n,p n): ∃n,p n/\ ∀k,p k->n<=k:=by
 obtain⟨n,hn⟩:=h
 induction n using Nat.strongRecOn with
 |_ n ih=>
  by_cases hk: ∃k,p k/\k<n
  ·obtain⟨k,h1,h2⟩:=hk
   exact ih k h2 h1
  ·exact⟨n,hn,fun k h1=>Nat.le_of_not_lt fun h2=>hk ⟨k,h1,h2⟩⟩
def LI {α:Type} (F:α->Fr) (inv:α->Prop) (f:Fr):Prop:= ∃a,inv a/\f=F a
theorem Agl {α:Type} {F:α->Fr} {inv:α->Prop} (μ:α->Nat) {f:Fr} (h:LI F inv f): ∃n,(∃a,inv a/\f=F a/\μ a=n)/\ ∀k,(∃a,inv a/\f=F a/\μ a=k)->n<=k:=
 let ⟨a,h1,h2⟩:=h
 least ⟨μ a,a,h1,h2,rfl⟩
open Classical in
noncomputable def LM {α:Type} (F:α->Fr) (inv:α->Prop) (μ:α->Nat) (f:Fr):Nat:=if h:LI F inv f then Classical.choose (Agl μ h)else 0
theorem AlY {α:Type} {F:α->Fr} {inv:α->Prop} {μ:α->Nat} {a:α} (h:inv a):LM F inv μ (F a)<=μ a:=by
 have h2:LI F inv (F a):=⟨a,h,rfl⟩
 rw[LM,dif_pos h2]
 exact(Classical.choose_spec (Agl μ h2)).2 _ ⟨a,h,rfl,rfl⟩
theorem kU {m:Nat} {α:Type} {body:Fr->(Ex->Fr->Prop)->Prop} {fr:Fr} {K:Ex->Fr->Prop} (F:α->Fr) (inv:α->Prop) (μ:α->Nat) (a0:α) (h0:inv a0) (hw:Weak m fr (F a0))
  (step: ∀a,inv a->LM F inv μ (F a)=μ a->body (F a) (gK (fun XZ _=> ∃jP,Weak m XZ jP/\LI F inv jP/\LM F inv μ jP<LM F inv μ (F a)) K)):X7 m body fr K:=by
 rw[X7]
 refine⟨LI F inv,LM F inv μ,⟨F a0,hw,a0,h0,rfl⟩,?_⟩
 intro Rl h1
 obtain⟨⟨a,ha,he,hm⟩,_⟩:=Classical.choose_spec (Agl μ h1)
 subst he
 exact step a ha (by rw[LM,dif_pos h1];exact hm.symm)
theorem next {m:Nat} {α:Type} {F:α->Fr} {inv:α->Prop} {μ:α->Nat} {a:α} {XZ:Fr} (hM:LM F inv μ (F a)=μ a) (a':α) (hw:Weak m XZ (F a')) (hi:inv a') (hlt:μ a'<μ a):
  ∃jP,Weak m XZ jP/\LI F inv jP/\LM F inv μ jP<LM F inv μ (F a):=
 ⟨F a',hw,⟨a',hi,rfl⟩,by rw[hM];exact Nat.lt_of_le_of_lt (AlY hi) hlt⟩
end Go.SE
