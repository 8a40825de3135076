import Derived.Test.YtkeokkmhhhhoiaaGreatDoorSe19
namespace Go.SE
open Go
set_option linter.unusedVariables false
variable {L:Laid}
set_option linter.unusedSimpArgs false
inductive MT where
 |z
 |t (cut:Bool) (l r:MT)
 |w (l:MT)
 |m (l:MT)
@[irreducible] def Adc (m:Nat) (A:(Ex->Fr->Prop)->Prop) (B:Fr->(Ex->Fr->Prop)->Prop) (K:Ex->Fr->Prop):Prop:=
  ∃G:Fr->Prop,(A (gK (fun fr' _=> ∃F,Weak m fr' F/\G F) K))/\ ∀F,G F->B F K
structure W (P:PL) (m:Nat) (c:Code) (mt:MT) (fr:Fr) (K:Ex->Fr->Prop):Prop where
 out: ∀V w cx a,EU P.laid V w cx fr a->m<=fr.s.length->Tp P.toProgram c (Left P.laid m V w cx fr K) a w
section
variable {P:PL} {m:Nat} {fr:Fr} {K:Ex->Fr->Prop}
theorem Xe {V:Nat->Prop} {cx BX:Cx} {s s':Store} {w w':World} (h1:m<=s.length) (h2:Bj L V w cx s) (h3:Ext m V w w' cx BX s s') (h4:Bj L V w' BX s'):m<=s'.length:=by
 by_cases h0:m=0
 ·omega
 ·have hlt:m-1<cx.length:=by rw[h2.len];omega
  have:=h3.cx (m-1) cx[m-1] (by omega) (by simp[hlt])
  have:=(List.getElem?_eq_some_iff.1 this).1
  rw[h4.len]at this
  omega
theorem Tz {c:Code} (Abj:P.follows .mixedOrders=true) (h:awp P m c fr K):W P m c .z fr K:=⟨fun V w cx a R hm=>(AcY Abj c fr K h V w cx a R hm).x⟩
theorem Ta {a b:Code} {l r:MT} (h:W P m a l fr (gK (fun fr K=>W P m b r fr K) K)):W P m (.seq a b) (.t false l r) fr K:=by
 refine⟨fun V w cx ac R hm=>xM (Qa (h.out V w cx ac R hm) fun e a1 w1 hl=>?_)⟩
 obtain⟨ex,Rl,PU,rfl,h2,h3,h4,h5⟩:=hl
 cases ex with
 |normal=>exact Qa (h2.out V w1 PU a1 h5 h3) fun e a2 w2 hl=>hl.step h4
 |exit id=>exact⟨.exit id,Rl,PU,rfl,h2,h3,h4,h5⟩
 |ret=>exact⟨.ret,Rl,PU,rfl,h2,h3,h4,h5⟩
theorem Tc {a b:Code} {l r:MT} (h:Adc m (fun K'=>W P m a l fr K') (fun fr' K'=>W P m b r fr' K') K):W P m (.seq a b) (.t true l r) fr K:=by
 rw[Adc]at h
 obtain⟨G,hA,hB⟩:=h
 refine⟨fun V w cx ac R hm=>xM (Qa (hA.out V w cx ac R hm) fun e a1 w1 hl=>?_)⟩
 obtain⟨ex,Rl,PU,rfl,h2,h3,h4,h5⟩:=hl
 cases ex with
 |normal=>
  obtain⟨F,hW,hG⟩:=h2
  obtain⟨UY,E2,R2⟩:=hW P.laid V w1 PU a1 h5
  exact Qa ((hB F hG).out V w1 UY a1 R2 (Xe h3 h5.st E2 R2.st)) fun e a2 w2 hl=>hl.step (h4.trans E2)
 |exit id=>exact⟨.exit id,Rl,PU,rfl,h2,h3,h4,h5⟩
 |ret=>exact⟨.ret,Rl,PU,rfl,h2,h3,h4,h5⟩
theorem Td {c:Operand} {x y:Code} {l r:MT} {cut b:Bool} (hc:Kh fr.t c=.bool b) (h:brP b (W P m x l fr K) (W P m y r fr K)):W P m (.cond c x y) (.t cut l r) fr K:=by
 refine⟨fun V w cx a R hm=>?_⟩
 have he:=R.eval c
 rw[hc]at he
 refine Adf he.OM ?_
 cases b with
 |true=>exact h.out V w cx a R hm
 |false=>exact h.out V w cx a R hm
theorem Tb {id:Nat} {c:Code} {l r:MT} {cut:Bool} (h:W P m c l fr (iM id K)):W P m (.block id c) (.t cut l r) fr K:=by
 refine⟨fun V w cx a R hm=>AaV (Qa (h.out V w cx a R hm) fun e a1 w1 hl=>?_)⟩
 obtain⟨ex,Rl,PU,rfl,h2,h3,h4,h5⟩:=hl
 simp only[iM]at h2
 cases ex with
 |normal=>exact⟨.normal,Rl,PU,rfl,h2,h3,h4,h5⟩
 |exit j=>
  simp only[Ex.to,Exit.inBlock]
  by_cases hj:j=id
  ·subst hj
   rw[if_pos rfl]
   simp only[beq_self_eq_true]at h2
   exact⟨.normal,Rl,PU,rfl,h2,h3,h4,h5⟩
  ·rw[if_neg hj]
   have:(j==id)=false:=by simpa using hj
   simp only[this]at h2
   exact⟨.exit j,Rl,PU,rfl,h2,h3,h4,h5⟩
 |ret=>exact⟨.ret,Rl,PU,rfl,h2,h3,h4,h5⟩
theorem Tl {c:Code} {l r:MT} {cut:Bool} (h:X7 m (fun fr K=>W P m c l fr K) fr K):W P m (.loop c) (.t cut l r) fr K:=by
 rw[X7]at h
 obtain⟨I,μ,⟨VG,hw0,hI0⟩,kG⟩:=h
 refine⟨fun V w cx a R hm=>?_⟩
 obtain⟨XU,E0,R0⟩:=hw0 P.laid V w cx a R
 refine fU (fun n a1 w1=> ∃Rl PU,I Rl/\μ Rl=n/\m<=Rl.s.length/\Ext m V w w1 cx PU fr.s Rl.s/\EU P.laid V w1 PU Rl a1) (μ VG) ⟨VG,XU,hI0,rfl,Xe hm R.st E0 R0.st,E0,R0⟩ ?_
 rintro n a1 w1 ⟨Rl,PU,hI1,rfl,hm1,E1,R1⟩
 refine Qa ((kG Rl hI1).out V w1 PU a1 R1 hm1) fun e a2 w2 hl=>?_
 obtain⟨ex,XZ,UY,rfl,h2,h3,h4,h5⟩:=hl
 cases ex with
 |normal=>
  obtain⟨jP,hw3,hI3,hlt⟩:=h2
  obtain⟨cx3,E3,R3⟩:=hw3 P.laid V w2 UY a2 h5
  exact⟨μ jP,hlt,jP,cx3,hI3,rfl,Xe h3 h5.st E3 R3.st,(E1.trans h4).trans E3,R3⟩
 |exit j=>exact⟨.exit j,XZ,UY,rfl,h2,h3,E1.trans h4,h5⟩
 |ret=>exact⟨.ret,XZ,UY,rfl,h2,h3,E1.trans h4,h5⟩
end
inductive Stp (S X:Type) where
 |next (s:S)
 |done (x:X)
section
variable {S X:Type}
def Lh (body:S->Option (Stp S X)):Nat->S->Option X
 |0,_=>none
 |k+1,s=>
  match body s with
  |some (.next s')=>Lh body k s'
  |some (.done x)=>some x
  |none=>none
theorem Yw {body:S->Option (Stp S X)} {x:X} : ∀ {k k':Nat} {s:S},Lh body k s=some x->k<=k'->Lh body k' s=some x
 |0,_,_,h,_=>by cases h
 |k+1,0,_,_,h=>by omega
 |k+1,k'+1,s,h,hk=>by
  rw[Lh]at h
  rw[Lh]
  cases hb:body s with
  |none=>rw[hb]at h;cases h
  |some st=>
   rw[hb]at h
   cases st with
   |next s'=>exact Yw (k:=k) (k':=k') h (by omega)
   |done y=>exact h
open Classical in
noncomputable def Agd (body:S->Option (Stp S X)) (s:S):Option X:=if h: ∃k x,Lh body k s=some x then some (Classical.choose (Classical.choose_spec h))else none
noncomputable def iter (body:S->Option (Stp S X)) (s:S):Option X:=
 match Lh body 4000 s with
 |some x=>some x
 |none=>Agd body s
theorem Wu {body:S->Option (Stp S X)} {s:S} {x:X} (h:iter body s=some x): ∃k,Lh body k s=some x:=by
 unfold iter at h
 split at h
 ·rename_i y hy
  exact⟨_,hy.trans h⟩
 ·unfold Agd at h
  split at h
  ·rename_i hk
   refine⟨Classical.choose hk,?_⟩
   cases h
   exact Classical.choose_spec (Classical.choose_spec hk)
  ·cases h
theorem uX {body:S->Option (Stp S X)} {s:S} {x:X} {k:Nat} (h:Lh body k s=some x):iter body s=some x:=by
 have key: ∀ {k':Nat} {y:X},Lh body k' s=some y->y=x:=fun {k' y} h'=>by
  have e1:=Yw h (Nat.le_max_left k k')
  have e2:=Yw h' (Nat.le_max_right k k')
  rw[e1]at e2
  exact(Option.some.inj e2).symm
 unfold iter
 split
 ·rename_i y hy
  rw[key hy]
 ·have hk: ∃k x,Lh body k s=some x:=⟨k,x,h⟩
  obtain⟨k',h'⟩: ∃k',Lh body k' s=some (Classical.choose (Classical.choose_spec hk)):=⟨_,Classical.choose_spec (Classical.choose_spec hk)⟩
  unfold Agd
  rw[dif_pos hk,key h']
theorem Bh {body:S->Option (Stp S X)} {s s':S} (h:body s=some (.next s')):iter body s=iter body s':=by
 cases hi:iter body s' with
 |some x=>
  obtain⟨k,hk⟩:=Wu hi
  exact uX (k:=k+1) (by rw[Lh,h];exact hk)
 |none=>
  cases hj:iter body s with
  |none=>rfl
  |some x=>
   obtain⟨k,hk⟩:=Wu hj
   cases k with
   |zero=>cases hk
   |succ k=>
    rw[Lh,h]at hk
    rw[uX hk]at hi
    cases hi
theorem Ay {body:S->Option (Stp S X)} {s:S} {x:X} (h:body s=some (.done x)):iter body s=some x:=uX (k:=1) (by rw[Lh,h])
theorem Zc {body:S->Option (Stp S X)} (I:S->Prop) (μ:S->Nat) (Q:X->Prop) (step: ∀s,I s->(∃s',body s=some (.next s')/\I s'/\μ s'<μ s)∨ ∃x,body s=some (.done x)/\Q x) (s:S) (h:I s): ∃x,iter body s=some x/\Q x:=by
 generalize hn:μ s=n
 induction n using Nat.strongRecOn generalizing s with
 |_ n ih=>
  subst hn
  rcases step s h with ⟨s',h1,h2,h3⟩|⟨x,h1,h2⟩
  ·obtain⟨x,hx,hq⟩:=ih _ h3 s' h2 rfl
   exact⟨x,by rw[Bh h1];exact hx,hq⟩
  ·exact⟨x,Ay h1,h2⟩
def AgW (body:S->Option (Stp S X)) (k:Nat) (x:X):Stp S X->Prop
 | .next s'=>Lh body k s'=some x
 | .done y=>y=x
theorem AO {m:Nat} {dS:Fr->(Ex->Fr->Prop)->Prop} {fr:Fr} {K:Ex->Fr->Prop} (F:S->Fr) {body:S->Option (Stp S X)} {s0:S} {x:X} (h:iter body s0=some x) (hw:Weak m fr (F s0))
  (step: ∀(k:Nat) (s:S) (st:Stp S X) (Kn:Fr->Prop),(∀XZ s',Lh body k s'=some x->Weak m XZ (F s')->Kn XZ)->body s=some st->AgW body k x st->dS (F s) (gK (fun XZ _=>Kn XZ) K)):X7 m dS fr K:=by
 obtain⟨k,hk⟩:=Wu h
 refine kU (fun a:Nat×S=>F a.2) (fun a=>Lh body a.1 a.2=some x) (fun a=>a.1) (k,s0) hk hw ?_
 rintro⟨k,s⟩ hk hM
 cases k with
 |zero=>cases hk
 |succ k=>
  have hk:Lh body (k+1) s=some x:=hk
  rw[Lh]at hk
  refine step k s (match body s with|some st=>st|none=>.done x) (fun XZ=> ∃jP,Weak m XZ jP/\LI (fun a:Nat×S=>F a.2) (fun a=>Lh body a.1 a.2=some x) jP/\LM (fun a:Nat×S=>F a.2) (fun a=>Lh body a.1 a.2=some x) (fun a=>a.1) jP<LM (fun a:Nat×S=>F a.2) (fun a=>Lh body a.1 a.2=some x) (fun a=>a.1) (F s)) (fun XZ s' hs' hw=>next (F:=fun a:Nat×S=>F a.2) (a:=(k+1,s)) hM (k,s') hw hs' (Nat.lt_succ_self k)) ?_ ?_
  ·split at hk
   ·rename_i hb;rw[hb]
   ·rename_i hb;rw[hb]
   ·cases hk
  ·split at hk
   ·rename_i hb;rw[hb];exact hk
   ·rename_i hb;rw[hb];exact(Option.some.inj hk)
   ·cases hk
end
section
variable {α β:Type} {r:α} {A B:Prop}
theorem Ahs {c c':Bool} {X Y:Option α} (hc:c=c') (h:(bif c' then X else Y)=some r) (h1:c=true->X=some r->A) (h2:c=false->Y=some r->B):brP c A B:=by
 subst hc;cases c
 ·exact h2 rfl h
 ·exact h1 rfl h
theorem Ak1 {c:Bool} {X Y:Option α} {G:Prop} (h:(bif c then X else Y)=some r) (h1:c=true->X=some r->G) (h2:c=false->Y=some r->G):G:=by
 cases c
 ·exact h2 rfl h
 ·exact h1 rfl h
theorem AhO {p p':Prop} [Decidable p] {X:Option α} (hp:p=p') (h:(if p then X else none)=some r) (k:X=some r->A):p'/\A:=by
 subst hp
 split at h
 ·exact⟨‹_›,k h⟩
 ·cases h
theorem AhP {p q p' q':Prop} [Decidable (p/\q)] {X:Option α} (hp:p=p') (hq:q=q') (h:(if p/\q then X else none)=some r) (k:X=some r->A):p'/\q'/\A:=by
 subst hp;subst hq
 split at h
 ·rename_i hh;exact⟨hh.1,hh.2,k h⟩
 ·cases h
theorem AhQ {p q s p' q' s':Prop} [Decidable (p/\q/\s)] {X:Option α} (hp:p=p') (hq:q=q') (hs:s=s') (h:(if p/\q/\s then X else none)=some r) (k:X=some r->A):p'/\q'/\s'/\A:=by
 subst hp;subst hq;subst hs
 split at h
 ·rename_i hh;exact⟨hh.1,hh.2.1,hh.2.2,k h⟩
 ·cases h
def XI (k:IntKind) (a b:Int):Int:=k.wrap (BitVec.ofInt k.bits a&&& BitVec.ofInt k.bits b).toNat
def ior (k:IntKind) (a b:Int):Int:=k.wrap (BitVec.ofInt k.bits a|||BitVec.ofInt k.bits b).toNat
def Wv (k:IntKind) (a b:Int):Int:=k.wrap (BitVec.ofInt k.bits a ^^^ BitVec.ofInt k.bits b).toNat
theorem Jq {p:Prop} [Decidable p] {X:Option α} (h:(if p then X else none)=some r):p/\X=some r:=by
 split at h
 ·exact⟨‹_›,h⟩
 ·cases h
theorem bnd {x:Option β} {f:β->Option α} (h:x.bind f=some r) (k: ∀y,x=some y->f y=some r->A):A:=by
 cases x with
 |none=>cases h
 |some y=>exact k y rfl h
theorem DT {S:Type} {m:Nat} {AA:(Ex->Fr->Prop)->Prop} {BB:Fr->(Ex->Fr->Prop)->Prop} {K:Ex->Fr->Prop} (F:S->Fr) (J:S->Prop)
  (h1: ∀Kn:Fr->Prop,(∀fr' s,J s->Weak m fr' (F s)->Kn fr')->AA (gK (fun fr' _=>Kn fr') K)) (h2: ∀s,J s->BB (F s) K):Adc m AA BB K:=by
 rw[Adc]
 exact⟨fun G=> ∃s,J s/\G=F s,h1 _ (fun fr' s hj hw=>⟨F s,hw,s,hj,rfl⟩),fun G ⟨s,hj,he⟩=>he▸h2 s hj⟩
end
theorem AV.Le.trans {x y z:AV} (h:x.Le y) (h':y.Le z):x.Le z:=fun w cx A v R=>h' w cx A v (h w cx A v R)
theorem AV.Le.GU {xs ys:List AV} (h:AP xs ys):(AV.GU xs).Le (.GU ys):=by
 intro w cx A v R
 obtain⟨h1,h2⟩:=Li h
 cases R with
 |GU _ vs hl hrel=>
  refine .GU ys vs (by rw[<- h1];exact hl) fun c y u hy hu=>?_
  obtain⟨x,hx,hle⟩:=h2 c y hy
  exact hle w cx A u (hrel c x u hx hu)
theorem AV.Le.list {nl:Option Bool} {n:Nat} {get get':Nat->AV} {n':Nat} (hn:n=n') (h: ∀j,j<n->get j=get' j):(AV.sl nl n get).Le (.sl none n' get'):=by
 subst hn
 exact(AV.Le.sl h).trans AV.Le.mP
theorem AV.Le.rows {nl:Option Bool} {n:Nat} {get get':Nat->AV} {n':Nat} (hn:n=n') (h1: ∀j,j<n->(get j).cells= [get j]/\(get' j).cells= [get' j]/\(get' j).Lm=true) (h: ∀j,j<n->(get j).Le (get' j)):(AV.sl nl n get).Le (.sl none n' get'):=by
 subst hn
 intro w cx A v R
 cases R with
 |sl _ _ _ a cap BU vals g1 g2 g3 g4 g5 g6 g7=>
  have Am6: ∀j,j<n->BU=1:=fun j hj=>by rw[<- (g6 j hj).2,<- AV.Db,(h1 j hj).1];rfl
  refine .sl none n get' a cap BU vals (fun b hb=>by cases hb) g2 g3 g4 (fun hn=>?_) (fun j hj=>⟨(h1 j hj).2.2,by rw[<- AV.Db,(h1 j hj).2.1,Am6 j hj];rfl⟩) fun j c x hj hx=>?_
  ·obtain⟨b,off,e1,e2,e3,e4⟩:=g5 hn
   refine⟨b,off,e1,e2,e3,fun j c x hj hx=>?_⟩
   rw[(h1 j hj).2.1]at hx
   cases c with
   |zero=>exact e4 j 0 (get j) hj (by rw[(h1 j hj).1];rfl)
   |succ c=>simp at hx
  ·rw[(h1 j hj).2.1]at hx
   cases c with
   |zero=>simp at hx;subst hx;exact h j hj _ _ _ _ (g7 j 0 (get j) hj (by rw[(h1 j hj).1];rfl))
   |succ c=>simp at hx
theorem UW {m:Nat} {t:List AV} {s:Store} (i:Nat) (BU:Nat) (ety:TypeId) (row:Row) (get:Nat->AV) (ht:t.getD i .unk=.sl (some true) 0 get) (hlen:row.len=0) (hok:row.ok) (hm:m<=s.length):Weak m ⟨t,s⟩ ⟨t.set i (.ms s.length 0),s++ [some ⟨BU,ety,row,false,true⟩]⟩:=by
 intro L V w cx a R
 have S:Bj L V w cx s:=R.st
 obtain⟨S',E⟩:=S.r9 ⟨BU,ety,row,false,true⟩ hlen hok rfl
 refine⟨_,E m hm,S',by rw[R.size];simp,R.defers,fun j x hx=>?_⟩
 simp only[List.getElem?_set]at hx
 by_cases hj:i=j
 ·subst hj
  rw[if_pos rfl]at hx
  split at hx
  ·rename_i hlt
   cases hx
   have hr:=R.tmps i (t.getD i .unk) (by simp[List.getD_eq_getElem?_getD,hlt])
   rw[ht]at hr
   generalize a.tmps.getD i undef=v at hr
   cases hr with
   |sl _ _ _ ad cap sz vals hnil hcap hmax hzz=>
    have hnone:ad=none:=by have:=hnil true rfl;simpa using this
    subst hnone
    have:=hzz rfl
    subst this
    exact .ms0 _ ⟨0,BU,0,0,true⟩ (by rw[List.getElem?_append_right (by rw[S.len];exact Nat.le_refl _),S.len];simp) rfl
  ·cases hx
 ·rw[if_neg hj]at hx
  exact(R.tmps j x hx).ext (E _ (Nat.le_refl _)) S.len
theorem Bj.Al4 {V:Nat->Prop} {w:World} {cx:Cx} {s:Store} (S:Bj L V w cx s) {i:Nat} {o o':E8} (ho:s[i]? =some (some o)) (he:o'.BU=o.BU) (hr:o'.ro=o.ro) (hm:o'.mb=o.mb) (hl:o'.row.len=o.row.len) (hok:o'.row.ok)
  (Uo: ∀e cur,cx[i]? =some e->e.Fg=false->Jy w cx (Av V cx s) e o cur->Jy w cx (Av V cx s) e o' cur):Bj L V w cx (s.set i (some o'))/\ ∀m,Ext m V w w cx cx s (s.set i (some o')):=by
 have hi:i<s.length:=(List.getElem?_eq_some_iff.1 ho).1
 have look: ∀(j:Nat) (q:E8),(s.set i (some o'))[j]? =some (some q)->(j=i/\q=o')∨(j≠i/\s[j]? =some (some q)):=fun j q h=>by
  by_cases hj:j=i
  ·subst hj
   rw[List.getElem?_set_self hi]at h
   cases h
   exact .inl ⟨rfl,rfl⟩
  ·rw[List.getElem?_set_ne (Ne.symm hj)]at h
   exact .inr ⟨hj,h⟩
 have back: ∀(j:Nat) (q:E8),(s.set i (some o'))[j]? =some (some q)-> ∃q0,s[j]? =some (some q0)/\q0.ro=q.ro/\q0.mb=q.mb:=fun j q h=>by
  rcases look j q h with ⟨rfl,rfl⟩|⟨_,h⟩
  ·exact⟨o,ho,hr.symm,hm.symm⟩
  ·exact⟨q,h,rfl,rfl⟩
 have wr: ∀b,Wr cx (s.set i (some o')) b↔Wr cx s b:=fun b=>by
  constructor
  ·rintro⟨j,e,q,h1,h2,h3,h4,h5⟩
   obtain⟨q0,g1,g2,_⟩:=back j q h2
   exact⟨j,e,q0,h1,g1,g2.trans h3,h4,h5⟩
  ·rintro⟨j,e,q,h1,h2,h3,h4,h5⟩
   by_cases hj:j=i
   ·subst hj
    rw[ho]at h2
    cases h2
    exact⟨j,e,o',h1,List.getElem?_set_self hi,hr.trans h3,h4,h5⟩
   ·exact⟨j,e,q,h1,by rw[List.getElem?_set_ne (Ne.symm hj)];exact h2,h3,h4,h5⟩
 have hAv:Av V cx (s.set i (some o'))=Av V cx s:=funext fun b=>propext ⟨fun h=>h.imp (fun h=>h) (wr b).1,fun h=>h.imp (fun h=>h) (wr b).2⟩
 refine⟨⟨S.low,by rw[List.length_set];exact S.len,fun j e q h1 h2 h3=>?_,fun j e q h1 h2 h3=>?_,fun j e q h1 h2 h3=>?_,fun j e q h1 h2 h3=>?_,fun j k ej ek oj ok h1 h2 h3 h4 h5 h6 h7 h8=>?_,by rw[hAv];exact S.glob⟩,
  fun m=>⟨rfl,rfl,rfl,Nat.le_refl _,fun _ _ _=>rfl,fun b _ h=>by rw[hAv];exact h,fun b _ h hw=>h ((wr b).1 hw),fun _ _ _ h=>h⟩⟩
 ·rw[hAv]
  rcases look j q h2 with ⟨rfl,rfl⟩|⟨_,h2⟩
  ·obtain⟨cur,R⟩:=S.obj j e o h1 ho h3
   exact⟨cur,Uo e cur h1 h3 R⟩
  ·exact S.obj j e q h1 h2 h3
 ·rcases look j q h2 with ⟨rfl,rfl⟩|⟨_,h2⟩
  ·obtain⟨a,b,c,d⟩:=S.gM j e o h1 ho h3
   exact⟨hl.trans a,hok,hm.trans c,he.trans d⟩
  ·exact S.gM j e q h1 h2 h3
 ·obtain⟨q0,g1,g2,g3⟩:=back j q h2
  exact S.may j e q0 h1 g1 (g3.trans h3)
 ·obtain⟨q0,g1,_⟩:=back j q h2
  exact S.apart j e q0 h1 g1 h3
 ·obtain⟨q0,g1,g2,_⟩:=back j oj h3
  obtain⟨q1,g1',g2',_⟩:=back k ok h4
  exact S.inj j k ej ek q0 q1 h1 h2 g1 g1' h5 h6 h7 (h8.imp (fun h=>g2.trans h) fun h=>g2'.trans h)
theorem Xp {m:Nat} {t:List AV} {s:Store} (i k c:Nat) (o:E8) (l cs:List AV) (BU:Nat) (ety:TypeId) (row:Row) (get:Nat->AV) (ho:s[i]? =some (some o)) (hrow:o.row=.vals l) (hk:l[k]? =some (.agg cs)) (hc:cs[c]? =some (.sl (some true) 0 get)) (hlen:row.len=0) (hok:row.ok) (hm:m<=s.length):
  Weak m ⟨t,s⟩ ⟨t,(s++ [some (⟨BU,ety,row,false,true⟩:E8)]).set i (some { o with row:=.vals (l.set k (.agg (cs.set c (.ms s.length 0)))) })⟩:=by
 intro L V w cx a R
 have S:Bj L V w cx s:=R.st
 obtain⟨S1,E1⟩:=S.r9 ⟨BU,ety,row,false,true⟩ hlen hok rfl
 have hkl:k<l.length:=(List.getElem?_eq_some_iff.1 hk).1
 have hcl:c<cs.length:=(List.getElem?_eq_some_iff.1 hc).1
 have ho1:(s++ [some (⟨BU,ety,row,false,true⟩:E8)])[i]? =some (some o):=by
  rw[List.getElem?_append_left (List.getElem?_eq_some_iff.1 ho).1]
  exact ho
 have hlen':cx.length=s.length:=R.st.len
 obtain⟨S2,E2⟩:=S1.Al4 (o':= { o with row:=.vals (l.set k (.agg (cs.set c (.ms s.length 0)))) }) ho1 rfl rfl rfl (by simp[hrow,Row.len]) (show Row.ok (.vals _) from trivial) (fun e cur he hn RO=>by
  have gk:o.row.get k=.agg cs:=by rw[hrow];simp[Row.get,List.getD_eq_getElem?_getD,hk]
  have gk':(Row.vals (l.set k (.agg (cs.set c (.ms s.length 0))))).get k=.agg (cs.set c (.ms s.length 0)):=by simp[Row.get,List.getD_eq_getElem?_getD,hkl]
  have gj: ∀j,j≠k->(Row.vals (l.set k (.agg (cs.set c (.ms s.length 0))))).get j=o.row.get j:=fun j hj=>by rw[hrow];simp[Row.get,List.getD_eq_getElem?_getD,Ne.symm hj]
  refine⟨RO.hp,RO.tot,RO.BU,by rw[RO.len,hrow];simp[Row.len],trivial,RO.fits,fun j hj=>?_,fun j d x hj hx=>?_⟩
  ·by_cases e1:j=k
   ·subst e1
    rw[gk',<- RO.size j hj,gk]
    simp[AV.A9]
   ·rw[gj j e1]
    exact RO.size j hj
  ·by_cases e1:j=k
   ·subst e1
    rw[gk']at hx
    simp only[AV.cells,List.getElem?_set]at hx
    by_cases e2:c=d
    ·subst e2
     rw[if_pos rfl,if_pos hcl]at hx
     cases hx
     obtain⟨v,g1,g2,g3⟩:=RO.cells j c (.sl (some true) 0 get) hj (by rw[gk];exact hc)
     refine⟨v,g1,g2,?_⟩
     cases g3 with
     |sl _ _ _ ad cap sz vals hnil hcap hmax hzz=>
      have hnone:ad=none:=by have:=hnil true rfl;simpa using this
      subst hnone
      have:=hzz rfl
      subst this
      exact Rel.ms0 _ (⟨0,BU,0,0,true⟩:Qr) (by rw[List.getElem?_append_right (by omega),hlen'];simp) rfl
    ·rw[if_neg e2]at hx
     exact RO.cells j d x hj (by rw[gk];exact hx)
   ·rw[gj j e1]at hx
    exact RO.cells j d x hj hx)
 refine⟨_,(E1 m hm).trans (E2 m),S2,R.size,R.defers,fun j x hx=>?_⟩
 exact(((R.tmps j x hx).ext (E1 _ (Nat.le_refl _)) R.st.len).ext (E2 _) S1.len)
theorem Aeu {m:Nat} {t:List AV} {s:Store} (d:Nat) (x':AV) (hx:snap 6 s (t.getD d .unk)=some x'):Weak m ⟨t,s⟩ ⟨t.set d x',Ib s (Ch 6 s (t.getD d .unk))⟩:=by
 intro L V w cx a R
 have S:Bj L V w cx s:=R.st
 have F:=H7.Ib (Ch 6 s (t.getD d .unk)) s
 have S1:=S.fewer F
 have E1: ∀m,Ext m V w w cx cx s (Ib s (Ch 6 s (t.getD d .unk))):=fun m=>Ext.fewer F
 refine⟨cx,E1 m,S1,by rw[R.size];simp,R.defers,fun j x hj=>?_⟩
 simp only[List.getElem?_set]at hj
 by_cases e:d=j
 ·subst e
  rw[if_pos rfl]at hj
  split at hj
  ·rename_i hlt
   cases hj
   have hr:=R.tmps d (t.getD d .unk) (by simp[List.getD_eq_getElem?_getD,hlt])
   have q:=hr.Uf S (A':=Av V cx (Ib s (Ch 6 s (t.getD d .unk)))) (fun b hb=>hb.imp id F.back) 6 _ x' _ hx (fun id hid e q he hq hn hb=>by
    obtain⟨o',h1,h2⟩:=UQ (Ch 6 s (t.getD d .unk)) s id q hid hq
    exact WO S1 he h1 hn h2 hb)
   exact q.1.KY (Nat.le_refl _) (fun _ _ _=>rfl) (fun b _ hA=>hA) q.2
  ·cases hj
 ·rw[if_neg e]at hj
  exact(R.tmps j x hj).ext (E1 _) S.len
end Go.SE
