import Derived.Test.YtkeokkmhhhhoiaaGreatDoorSe12
namespace Go.SE
open Go
set_option linter.unusedVariables false
variable {L:Laid}
set_option linter.unusedSimpArgs false
section
variable {P:PL}
theorem EU.eval {V:Nat->Prop} {w:World} {cx:Cx} {fr:Fr} {a:Act} (R:EU L V w cx fr a) (x:Operand):Rel w cx (Av V cx fr.s) (Kh fr.t x) (a.eval x):=by
 cases x with
 |tmp i=>
  simp only[Kh,Act.eval]
  cases h:fr.t[i]? with
  |none=>rw[List.getD,h];exact .unk _
  |some x=>rw[List.getD,h];exact R.tmps i x h
 |const v=>exact .ofConst v
 |global g=>exact .Ye _
 |func f=>
  simp only[Kh,Act.eval]
  exact .fn (.func f) [] [] [] [] rfl rfl (fun c x v hx=>by simp at hx) (fun c x v hx=>by simp at hx)
theorem Ext.length {V:Nat->Prop} {w w':World} {cx BX:Cx} {s s':Store} (E:Ext s.length V w w' cx BX s s') (h:cx.length=s.length) (h':BX.length=s'.length):s.length<=s'.length:=by
 by_cases h0:s.length=0
 ·omega
 ·have hlt:s.length-1<cx.length:=by omega
  have:=E.cx (s.length-1) cx[s.length-1] (by omega) (by simp[hlt])
  have:=(List.getElem?_eq_some_iff.1 this).1
  omega
theorem EU.put {V:Nat->Prop} {w w':World} {cx BX:Cx} {fr:Fr} {a:Act} (R:EU L V w cx fr a) {s':Store} (E:Ext fr.s.length V w w' cx BX fr.s s') (S':Bj L V w' BX s') {dst:Option Tmp} {v:AV} {u:Value} (hv:Rel w' BX (Av V BX s') v u):
  EU L V w' BX ⟨Ut fr.t dst v,s'⟩ (a.put dst u):=by
 cases dst with
 |none=>exact⟨S',R.size,R.defers.ext R.st E,fun i x hx=>(R.tmps i x hx).ext E R.st.len⟩
 |some d=>
  refine⟨S',by simp[Act.put,Ut,R.size],by simp only[Act.put];exact R.defers.ext R.st E,fun i x hx=>?_⟩
  simp only[Ut,List.getElem?_set]at hx
  simp only[Act.put]
  by_cases hd:d=i
  ·subst hd
   rw[if_pos rfl]at hx
   split at hx
   ·rename_i hlt
    cases hx
    have:(a.tmps.setIfInBounds d u).getD d undef=u:=by
         have hlt':d<a.tmps.size:=by rw[R.size];exact hlt
         simp[Array.getD,hlt']
    rw[this]
    exact hv
   ·cases hx
  ·rw[if_neg hd]at hx
   have:(a.tmps.setIfInBounds d u).getD i undef=a.tmps.getD i undef:=by
    simp only[Array.getD_eq_getD_getElem?,Array.getElem?_setIfInBounds,if_neg hd]
   rw[this]
   exact(R.tmps i x hx).ext E R.st.len
theorem EU.lit {V:Nat->Prop} {w:World} {cx:Cx} {fr:Fr} {a:Act} (R:EU L V w cx fr a) {d:Tmp} {c:Bool} (h:fr.t.getD d .unk=.bool c):fr.t.set d (.bool c)=fr.t:=by
 apply List.ext_getElem?
 intro i
 rw[List.getElem?_set]
 by_cases hd:d=i
 ·subst hd
  rw[if_pos rfl]
  cases hg:fr.t[d]? with
  |none=>rw[List.getD,hg]at h;cases h
  |some x=>
   rw[List.getD,hg]at h
   rw[if_pos (List.getElem?_eq_some_iff.1 hg).1,<- h]
   rfl
 ·rw[if_neg hd]
theorem EU.yielded {V:Nat->Prop} {w:World} {cx:Cx} {fr:Fr} {a:Act} (R:EU L V w cx fr a) {ops:Array Oper} {j d:Nat} {c:Bool} (hd:TB ops.toList j=some d) (h:fr.t.getD d .unk=.bool c):yielded ops a.tmps j=some c:=by
 unfold Go.yielded
 simp only[TB,Array.getElem?_toList]at hd
 rw[hd]
 cases hg:fr.t[d]? with
 |none=>rw[List.getD,hg]at h;cases h
 |some x=>
  rw[List.getD,hg]at h
  have hx:=R.tmps d x hg
  rw[show x=.bool c from h]at hx
  have hb:=hx.OM
  have hlt:d<a.tmps.size:=by rw[R.size];exact(List.getElem?_eq_some_iff.1 hg).1
  simp only[Option.bind_some,getElem?_pos a.tmps d hlt]
  simp only[Array.getD,hlt,dif_pos,Array.getInternal_eq_getElem]at hb
  rw[hb]
theorem Rel.undef {w:World} {cx:Cx} {A:Nat->Prop} :Rel w cx A (.GU []) Go.undef:=.GU [] [] rfl fun c x v h=>by simp at h
theorem Rel.rU {w:World} {cx:Cx} {A:Nat->Prop} {v:Value} (h:Rel w cx A (.GU []) v):v=Go.undef:=by
 cases h with
 |GU cs vs hl hrel=>
  have:vs= []:=List.eq_nil_of_length_eq_zero (by simpa using hl.symm)
  rw[this];rfl
theorem EU.eY {V:Nat->Prop} {w:World} {cx:Cx} {fr:Fr} {a:Act} (R:EU L V w cx fr a) {ops:Array Oper} {j d:Nat} (hd:TB ops.toList j=some d) (h:fr.t.getD d .unk=.GU []):Go.yielded ops a.tmps j=none:=by
 unfold Go.yielded
 simp only[TB,Array.getElem?_toList]at hd
 rw[hd]
 cases hg:fr.t[d]? with
 |none=>rw[List.getD,hg]at h;cases h
 |some x=>
  rw[List.getD,hg]at h
  have hx:=R.tmps d x hg
  rw[show x=.GU [] from h]at hx
  have hb:=hx.rU
  have hlt:d<a.tmps.size:=by rw[R.size];exact(List.getElem?_eq_some_iff.1 hg).1
  simp only[Option.bind_some,getElem?_pos a.tmps d hlt]
  simp only[Array.getD,hlt,dif_pos,Array.getInternal_eq_getElem]at hb
  rw[hb]
  rfl
theorem gX {o:Oper} {a:Act} {w:World} {next:Act->World->Prop} {Q:Exit->Act->World->Prop} {R:Value->World->Prop} (h:Gives P o a.eval w R) (hR: ∀u w',R u w'->next (a.put o.dst u) w'):o.wp P a w next Q:=by
 unfold Gives at h
 unfold Oper.wp
 cases hr:(execOp a.eval o).run P w with
 |halt x w'=>rw[hr]at h;exact h.elim
 |ok n w'=>
  rw[hr]at h
  cases n with
  |value u=>exact hR _ _ h
  |skip=>exact hR _ _ h
  |enter f args=>
   refine h.mono ?_
   rintro e w'' ⟨u,rfl,hu⟩
   exact hR _ _ hu
  |_=>exact h.elim
theorem U2 {ops:Array Oper} {Q:Exit->Act->World->Prop} {m:Nat} : ∀(l:List Oper) (k:Nat) (fr:Fr) (K:Fr->Prop),(∀j,l[j]? =ops[k+j]?)->Ku P ops.toList l fr K->
  ∀V w cx a,EU P.laid V w cx fr a->m<=fr.s.length->(∀fr' w' BX a',K fr'->m<=fr'.s.length->Ext m V w w' cx BX fr.s fr'.s->EU P.laid V w' BX fr' a'->Q .normal a' w')->
  wpOps P ops Q ((List.range l.length).map (k+ ·)) a w
 | [],k,fr,K,hl,h,V,w,cx,a,R,hm,hK=>hK fr w cx a h hm Ext.refl R
 |o::l,k,fr,K,hl,h,V,w,cx,a,R,hm,hK=>by
  have ho:ops[k]? =some o:=by have:=hl 0;simpa using this.symm
  have hl': ∀j,l[j]? =ops[k+1+j]? :=fun j=>by have:=hl (j+1);simpa[Nat.add_assoc,Nat.add_comm 1]using this
  have hlist:(List.range (o::l).length).map (k+ ·)=k::(List.range l.length).map (k+1+ ·):=by
   rw[List.length_cons,List.range_succ_eq_map,List.map_cons,List.map_map,Nat.add_zero]
   congr 1
   apply List.map_congr_left
   intro j _
   simp;omega
  rw[hlist]
  have run: ∀(t':List AV),t'=fr.t->Region.wanted o (yielded ops a.tmps)=true->aop P fr.s (Kh t') o (fun v s'=>Ku P ops.toList l { fr with t:=Ut t' o.dst v,s:=s' } K)->wpOps P ops Q (k::(List.range l.length).map (k+1+ ·)) a w:=fun t' ht hw h=>by
   subst ht
   obtain⟨v,s',hK',hE⟩:=ZY h
   simp only[wpOps,ho,hw,if_true]
   refine .inl (gX (hE V w cx a.eval R.st fun x _=>R.eval x) fun u w' ⟨BX,E,S',hv⟩=>?_)
   have hlen:fr.s.length<=s'.length:=E.length R.st.len S'.len
   exact U2 l (k+1) _ K hl' hK' V w' BX _ (R.put E S' hv) (by show m<=s'.length;omega) fun fr' w2 UY a2 h1 h2 h3 h4=>hK fr' w2 UY a2 h1 h2 ((E.less hm).trans h3) h4
  have skip: ∀(t':List AV),t'=fr.t->Region.wanted o (yielded ops a.tmps)=false->Ku P ops.toList l { fr with t:=Ut t' o.dst (.GU []) } K->wpOps P ops Q (k::(List.range l.length).map (k+1+ ·)) a w:=fun t' ht hw h=>by
   subst ht
   simp only[wpOps,ho,hw,Bool.false_eq_true,if_false]
   exact U2 l (k+1) _ K hl' h V w cx _ (R.put Ext.refl R.st .undef) hm fun fr' w2 UY a2 h1 h2 h3 h4=>hK fr' w2 UY a2 h1 h2 h3 h4
  unfold Ku at h
  simp only[iF,Xm,gZ]at h
  split at h
  ·rename_i hg
   exact run fr.t rfl (by simp[Region.wanted,hg]) h
  ·rename_i j want hg
   split at h
   ·exact h.elim
   ·rename_i d hd
    split at h
    ·rename_i c hc
     have hy:=R.yielded hd hc
     have hlit:=R.lit hc
     cases c with
     |true=>
      simp only[brP]at h
      cases want with
      |true=>exact run _ hlit (by simp[Region.wanted,hg,hy]) h
      |false=>exact skip _ hlit (by simp[Region.wanted,hg,hy]) h
     |false=>
      simp only[brP]at h
      cases want with
      |true=>exact skip _ hlit (by simp[Region.wanted,hg,hy]) h
      |false=>exact run _ hlit (by simp[Region.wanted,hg,hy]) h
    ·rename_i hc
     exact skip _ rfl (by simp[Region.wanted,hg,R.eY hd hc]) h
    ·exact h.elim
structure Plain (P:PL) (ev:Operand->AV) (o:Oper):Prop where
 sum: ∀op ty x y t',o.op=.binOp op ty x y t'->(op=.add∨op=.sub)->(∃k a b,ev x=.int k a/\ev y=.int k b)∨ ∃a b,ev x=.str a/\ev y=.str b
 ptr: ∀x,o.op=.nilCheck x->(∃a,ev x=.Ye a)∨(∃e off,ev x=.ip e off)∨ ∃id i off,ev x=.mp id i off
 fld: ∀t x f,o.op=.fieldAddr t x f-> ∃fs fd,P.underlying t=some (.struct fs)/\fs[f]? =some fd/\0<P.cellsOf fd.type/\((∃e off,ev x=.ip e off)∨ ∃id i off,ev x=.mp id i off)
theorem AcX {s:Store} {t:List AV} {o:Oper} {K:AV->Store->Prop} (h:aop P s (Kh t) o K):Plain P (Kh t) o:=by
 obtain⟨dst,op',type,pos,aft,guard⟩:=o
 constructor
 ·intro op ty x y t' ho hop
  simp only at ho
  subst ho
  unfold aop at h
  simp only at h
  generalize (Nh x||Nh y)=c at h
  generalize Kh t x=X at h
  generalize Kh t y=Y at h
  unfold Ahq at h
  split at h
  ·rename_i k a k' b
   rcases hop with rfl|rfl
   ·obtain⟨hk,_⟩:=Bn (show need (decide (k=k')) _ from h)
    exact .inl ⟨k,a,b,rfl,by rw[of_decide_eq_true hk]⟩
   ·obtain⟨hk,_⟩:=Bn (show need (decide (k=k')) _ from h)
    exact .inl ⟨k,a,b,rfl,by rw[of_decide_eq_true hk]⟩
  ·exact .inr ⟨_,_,rfl,rfl⟩
  all_goals (exfalso;rcases hop with rfl|rfl<;>(try split at h)<;>first|exact(show False from h)|exact(show False from(Bn h).2)|exact(show False from(Bn (show need _ _ from(Bn h).2)).2)|(have h2:=(Bn h).2;split at h2<;>first|exact(show False from h2)|exact(show False from(Bn h2).2)))
 ·intro x ho
  simp only at ho
  subst ho
  unfold aop at h
  simp only at h
  split at h
  ·rename_i a he;exact .inl ⟨a,he⟩
  ·rename_i e off he;exact .inr (.inl ⟨e,off,he⟩)
  ·rename_i id i off he;exact .inr (.inr ⟨id,i,off,he⟩)
  ·exact h.elim
 ·intro ty x f ho
  simp only at ho
  subst ho
  unfold aop at h
  simp only at h
  unfold Vg at h
  split at h
  ·rename_i fs ht
   split at h
   ·rename_i fd hfd
    obtain⟨hp,h⟩:=Bn h
    refine⟨fs,fd,ht,hfd,by simpa using hp,?_⟩
    split at h
    ·rename_i e off he;exact .inl ⟨e,off,he⟩
    ·rename_i id i off he;exact .inr ⟨id,i,off,he⟩
    ·exact h.elim
   ·exact h.elim
  ·exact h.elim
def Step (P:PL) (ops:List Oper) (s:Store) (o:Oper) (t t':List AV):Prop:=
 (∃v,EY P o s (Kh t) v s/\t'=Ut t o.dst v/\Plain P (Kh t) o/\((o.guard=none/\Ij o=false)∨ ∃j want d,o.guard=some (j,want)/\TB ops j=some d/\t.getD d .unk=.bool want))∨
 (t'=Ut t o.dst (.GU [])/\ ∃j want d,o.guard=some (j,want)/\TB ops j=some d/\(t.getD d .unk=.bool (!want)∨t.getD d .unk=.GU []))∨
 (t'=Ut t o.dst .unk/\Ij o=true/\o.guard=none)
theorem zZ {t:List AV} {d:Nat} {c:Bool} (h:t.getD d .unk=.bool c):t.set d (.bool c)=t:=by
 apply List.ext_getElem?
 intro i
 rw[List.getElem?_set]
 by_cases hd:d=i
 ·subst hd
  rw[if_pos rfl]
  cases hg:t[d]? with
  |none=>rw[List.getD,hg]at h;cases h
  |some x=>
   rw[List.getD,hg]at h
   rw[if_pos (List.getElem?_eq_some_iff.1 hg).1,<- h]
   rfl
 ·rw[if_neg hd]
theorem Yf {s:Store} {t:List AV} {o:Oper} {K:AV->Store->Prop} (h:AaF P s (Kh t) o K):Plain P (Kh t) o:=by
 unfold AaF at h
 split at h
 ·rename_i t len parts ho
  exact⟨fun op ty x y t' ho' hop=>(by rw[ho]at ho';cases ho'),fun x ho'=>(by rw[ho]at ho';cases ho'),fun ty x f ho'=>(by rw[ho]at ho';cases ho')⟩
 ·exact AcX h
theorem eH {ops:List Oper} {s:Store} {K:List AV->Prop} : ∀(l:List Oper) (t:List AV),MF P ops s l t K-> ∃ts:Nat->List AV,ts 0=t/\K (ts l.length)/\ ∀i o,l[i]? =some o->Step P ops s o (ts i) (ts (i+1))
 | [],t,h=>⟨fun _=>t,rfl,h,fun i o ho=>by simp at ho⟩
 |o::l,t,h=>by
  have cons: ∀t1,Step P ops s o t t1->MF P ops s l t1 K-> ∃ts:Nat->List AV,ts 0=t/\K (ts (o::l).length)/\ ∀i o',(o::l)[i]? =some o'->Step P ops s o' (ts i) (ts (i+1)):=fun t1 hs h1=>by
   obtain⟨ts,e0,e1,e2⟩:=eH l t1 h1
   refine⟨fun i=>match i with|0=>t|i+1=>ts i,rfl,e1,fun i o' ho=>?_⟩
   cases i with
   |zero=>simp at ho;subst ho;show Step P ops s o t (ts 0);rw[e0];exact hs
   |succ i=>exact e2 i o' (by simpa using ho)
  unfold MF at h
  simp only[iF,Xm,gZ]at h
  split at h
  ·rename_i hg
   split at h
   ·rename_i ha
    exact cons _ (.inr (.inr ⟨rfl,ha,hg⟩)) h
   ·rename_i ha
    have hpl:=Yf h
    obtain⟨v,s',⟨rfl,h1⟩,hE⟩:=Yg h
    exact cons _ (.inl ⟨v,hE,rfl,hpl, .inl ⟨hg,ha⟩⟩) h1
  ·rename_i j want hg
   split at h
   ·exact h.elim
   ·rename_i d hd
    split at h
    ·rename_i c hc
     cases c with
     |true=>
      simp only[brP]at h
      rw[zZ hc]at h
      cases want with
      |true=>
       have hpl:=Yf h
       obtain⟨v,s',⟨rfl,h1⟩,hE⟩:=Yg h
       exact cons _ (.inl ⟨v,hE,rfl,hpl, .inr ⟨j,true,d,hg,hd,hc⟩⟩) h1
      |false=>exact cons _ (.inr (.inl ⟨rfl,j,false,d,hg,hd, .inl hc⟩)) h
     |false=>
      simp only[brP]at h
      rw[zZ hc]at h
      cases want with
      |true=>exact cons _ (.inr (.inl ⟨rfl,j,true,d,hg,hd, .inl hc⟩)) h
      |false=>
       have hpl:=Yf h
       obtain⟨v,s',⟨rfl,h1⟩,hE⟩:=Yg h
       exact cons _ (.inl ⟨v,hE,rfl,hpl, .inr ⟨j,false,d,hg,hd,hc⟩⟩) h1
    ·rename_i hc
     exact cons _ (.inr (.inl ⟨rfl,j,want,d,hg,hd, .inr hc⟩)) h
    ·exact h.elim
end
end Go.SE
