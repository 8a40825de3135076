import Derived.Test.YtkeokkmhhhhoiaaGreatDoorSe13
namespace Go.SE
open Go
set_option linter.unusedVariables false
variable {L:Laid}
set_option linter.unusedSimpArgs false
section
variable {P:PL} {ops:Array Oper}
theorem J7 (h:Uc ops.toList=true) {i:Nat} {o:Oper} (ho:ops[i]? =some o):(∀j∈FK o,j<i)/\
  ∀(k:Nat) (o':Oper) (d:Nat),ops[k]? =some o'->k≠i->o'.dst=some d->o.dst≠some d/\(d∈readsOf ops.toList o->k∈FK o∨i∈FK o'):=by
 unfold Uc at h
 rw[List.all_eq_true]at h
 have hi:=h (o,i) (List.mem_zipIdx_iff_getElem?.2 (by simpa using ho))
 simp only[Bool.and_eq_true,List.all_eq_true]at hi
 obtain⟨⟨h1,_⟩,h3⟩:=hi
 refine⟨fun j hj=>by simpa using h1 j hj,fun k o' d ho' hk hd=>?_⟩
 have:=h3 (o',k) (List.mem_zipIdx_iff_getElem?.2 (by simpa using ho'))
 simp only[Bool.or_eq_true,beq_iff_eq,hd,Bool.and_eq_true,bne_iff_ne,Bool.not_eq_true',List.contains_iff_mem]at this
 rcases this with h|⟨h4,h5⟩
 ·exact absurd h hk
 ·refine⟨h4,fun hr=>?_⟩
  rcases h5 with (h5|h5)|h5
  ·rw[<- Bool.not_eq_true,List.contains_iff_mem]at h5;exact absurd hr h5
  ·exact .inl h5
  ·exact .inr h5
theorem nI {n:Nat} (h:WV ops.toList n=true) {j:Nat} {o:Oper} (ho:ops[j]? =some o) (hj:n<=j): ∀i,i<j->(i∈FK o∨lT ops.toList 8 (FK o) i=true)∨i∈KZ ops.toList n:=by
 unfold WV at h
 rw[List.all_eq_true]at h
 have:=h (o,j) (List.mem_zipIdx_iff_getElem?.2 (by simpa using ho))
 simp only[Bool.or_eq_true,Nat.blt_eq,List.all_eq_true,List.mem_range,List.contains_iff_mem]at this
 intro i hi
 rcases this with h|h
 ·omega
 ·rcases h i hi with h|h|h
  ·exact .inl (.inl h)
  ·exact .inr h
  ·exact .inl (.inr h)
theorem Vu {L:Nat->Prop} (hc: ∀p q,ops[p]? =some q->L p-> ∀j∈FK q,L j): ∀(d:Nat) (ps:List Nat) (i:Nat),lT ops.toList d ps i=true->(∀p∈ps,L p)->L i
 |0,_,_,h,_=>by cases h
 |d+1,ps,i,h,hp=>by
  simp only[lT,Bool.or_eq_true,List.contains_iff_mem,List.any_eq_true]at h
  rcases h with h|⟨p,hpm,h⟩
  ·exact hp i h
  ·split at h
   ·rename_i q hq
    have hq':ops[p]? =some q:=by simpa using hq
    exact Vu hc d (FK q) i h (hc p q hq' (hp p hpm))
   ·cases h
theorem AdT {n i:Nat} (h:i∈UJ ops.toList n):i<n/\ ∃o,ops[i]? =some o/\Vo o=true:=by
 unfold UJ at h
 rw[List.mem_filter,Bool.and_eq_true]at h
 obtain⟨h1,h2,_⟩:=h
 refine⟨List.mem_range.1 h1,?_⟩
 split at h2
 ·rename_i o ho
  exact⟨o,by simpa using ho,h2⟩
 ·cases h2
theorem Ww (n:Nat): ∀(k i:Nat),i∈O1 ops.toList n k->i<k/\(i∈UJ ops.toList n∨ ∃o,ops[i]? =some o/\Vn o=true/\ ∀j∈FK o,j∈O1 ops.toList n k)
 |0,i,h=>by cases h
 |k+1,i,h=>by
  have up: ∀j,j∈O1 ops.toList n k->j∈O1 ops.toList n (k+1):=fun j hj=>by
   unfold O1 u6
   split
   ·exact List.mem_cons_of_mem _ hj
   ·exact hj
  have old:i∈O1 ops.toList n k->i<k+1/\(i∈UJ ops.toList n∨ ∃o,ops[i]? =some o/\Vn o=true/\ ∀j∈FK o,j∈O1 ops.toList n (k+1)):=fun h=>by
   obtain⟨h1,h2⟩:=Ww n k i h
   refine⟨by omega,h2.imp (fun h=>h) fun⟨o,q1,q2,q3⟩=>⟨o,q1,q2,fun j hj=>up j (q3 j hj)⟩⟩
  have h0:=h
  unfold O1 u6 at h0
  split at h0
  ·rename_i hc
   rcases List.mem_cons.1 h0 with rfl|h0
   ·refine⟨by omega,?_⟩
    rw[Bool.or_eq_true]at hc
    rcases hc with hc|hc
    ·exact .inl (List.contains_iff_mem.1 hc)
    ·split at hc
     ·rename_i o ho
      simp only[Bool.and_eq_true,List.all_eq_true]at hc
      exact .inr ⟨o,by simpa using ho,hc.1,fun j hj=>up j (List.contains_iff_mem.1 (hc.2 j hj))⟩
     ·cases hc
   ·exact old h0
  ·exact old h0
theorem kQ {n i:Nat} (h:i∈KZ ops.toList n):i<n/\ ∃o,ops[i]? =some o/\(Vo o=true∨Vn o=true)/\ ∀j∈FK o,j∈KZ ops.toList n:=by
 have mem: ∀j,j∈O1 ops.toList n n->j∈KZ ops.toList n:=fun j hj=>List.mem_filter.2 ⟨List.mem_range.2 (Ww n n j hj).1,List.contains_iff_mem.2 hj⟩
 have h0:=List.contains_iff_mem.1 (List.mem_filter.1 h).2
 obtain⟨h1,h2⟩:=Ww n n i h0
 refine⟨h1,?_⟩
 rcases h2 with h2|⟨o,q1,q2,q3⟩
 ·obtain⟨_,o,ho,hm⟩:=AdT h2
  refine⟨o,ho, .inl hm,fun j hj=>?_⟩
  unfold Vo at hm
  split at hm
  ·simp only[Bool.and_eq_true,List.isEmpty_iff]at hm
   rw[hm.2]at hj;cases hj
  ·cases hm
 ·exact⟨o,q1, .inr q2,fun j hj=>mem j (q3 j hj)⟩
theorem WK {listed:Array Bool} {i:Nat} (h:i∈Region.ready .any ops listed):listed.getD i true=false/\ ∃o,ops[i]? =some o/\ ∀j∈FK o,listed.getD j false=true:=by
 obtain⟨h0,o,ho,hall⟩:=mem_ready.1 h
 refine⟨h0,o,ho,fun j hj=>?_⟩
 obtain⟨e,he,rfl⟩:=List.mem_map.1 hj
 rw[List.mem_filter]at he
 exact hall e (by simpa using he.1) he.2
theorem lU {listed:Array Bool} {i:Nat} {o:Oper} (h0:listed.getD i true=false) (ho:ops[i]? =some o) (h: ∀j∈FK o,listed.getD j false=true):i∈Region.ready .any ops listed:=
 mem_ready.2 ⟨h0,o,ho,fun e he hb=>h e.on (List.mem_map.2 ⟨e,List.mem_filter.2 ⟨by simpa using he,hb⟩,rfl⟩)⟩
theorem ZR {listed:Array Bool} {i:Nat} (h:listed.getD i true=false):listed.getD i false=false:=by
 have hlt:i<listed.size:=by
  rcases Nat.lt_or_ge i listed.size with h'|h'
  ·exact h'
  ·simp[Array.getD,Nat.not_lt.2 h']at h
 simp[Array.getD,hlt]at h ⊢
 exact h
theorem bW {listed:Array Bool} {i:Nat} (hlt:i<listed.size) (h:listed.getD i false=false):listed.getD i true=false:=by
 simp[Array.getD,hlt]at h ⊢
 exact h
theorem Mg {listed:Array Bool} {i:Nat} (hlt:i<listed.size) (d:Bool):(listed.setIfInBounds i true).getD i d=true:=by simp[Array.getD,hlt]
theorem ZP {Q:Exit->Act->World->Prop} {m n:Nat} (MN:Uc ops.toList=true) (htail:WV ops.toList n=true): ∀(l:List Oper) (k fuel:Nat) (listed:Array Bool) (fr:Fr) (K:Fr->Prop),n<=k->(∀j,l[j]? =ops[k+j]?)->k<=ops.size->listed.size=ops.size->
  (∀i,listed.getD i false=true↔i<k)->l.length<=fuel->Ku P ops.toList l fr K->
  ∀V w cx a,EU P.laid V w cx fr a->m<=fr.s.length->(∀fr' w' BX a',K fr'->m<=fr'.s.length->Ext m V w w' cx BX fr.s fr'.s->EU P.laid V w' BX fr' a'->Q .normal a' w')->
  wpAny P .any ops Q fuel listed a w
 | [],k,fuel,listed,fr,K,hnk,hl,hk,hsz,TI,hf,h,V,w,cx,a,R,hm,hK=>by
   have hend:k=ops.size:=by
     have:=hl 0
     rw[Nat.add_zero,List.getElem?_nil]at this
     have:=Array.getElem?_eq_none_iff.1 this.symm
     omega
   have hr:Region.ready .any ops listed= []:=by
     rw[List.eq_nil_iff_forall_not_mem]
     intro i hi
     obtain⟨h0,o,ho,_⟩:=WK hi
     have hlt:=(Array.getElem?_eq_some_iff.1 ho).1
     have:=(TI i).2 (by omega)
     rw[ZR h0]at this
     cases this
   have hQ:=hK fr w cx a h hm Ext.refl R
   cases fuel with
   |zero=>exact⟨hr,hQ⟩
   |succ fuel=>exact⟨fun _=>hQ,fun i hi=>by rw[hr]at hi;cases hi⟩
 |o::l,k,fuel,listed,fr,K,hnk,hl,hk,hsz,TI,hf,h,V,w,cx,a,R,hm,hK=>by
  have ho:ops[k]? =some o:=by have:=hl 0;simpa using this.symm
  have hl': ∀j,l[j]? =ops[k+1+j]? :=fun j=>by have:=hl (j+1);simpa[Nat.add_assoc,Nat.add_comm 1]using this
  have ApD:=(Array.getElem?_eq_some_iff.1 ho).1
  obtain⟨fuel,rfl⟩: ∃f,fuel=f+1:=⟨fuel-1,by simp at hf;omega⟩
  have AjP:listed.getD k false=false:=by
   cases hq:listed.getD k false with
   |false=>rfl
   |true=>have:=(TI k).1 hq;omega
  have uT:k∈Region.ready .any ops listed:=lU (bW (by omega) AjP) ho fun j hj=>(TI j).2 ((J7 MN ho).1 j hj)
  have only: ∀i,i∈Region.ready .any ops listed->i=k:=fun i hi=>by
   obtain⟨h0,o',ho',hp⟩:=WK hi
   have hge: ¬i<k:=fun h=>by have:=(TI i).2 h;rw[ZR h0]at this;cases this
   rcases Nat.lt_or_ge k i with h|h
   ·rcases(nI htail ho' (by omega) k h).resolve_right (fun h=>by have:=(kQ h).1;omega)with h1|h1
    ·have:=hp k h1
     rw[AjP]at this
     cases this
    ·have:=Vu (L:=fun p=>listed.getD p false=true) (fun p q hq hL j hj=>(TI j).2 (by
         have:=(TI p).1 hL
         have:=(J7 MN hq).1 j hj
         omega)) _ _ _ h1 hp
     rw[AjP]at this
     cases this
   ·omega
  have yJ: ∀i,(listed.setIfInBounds k true).getD i false=true↔i<k+1:=fun i=>by
   by_cases hik:k=i
   ·subst hik
    rw[Mg (by omega)]
    simp
   ·rw[getD_set_ne false hik,TI i]
    omega
  refine⟨fun hnil=>(by rw[hnil]at uT;cases uT),fun i hi=>?_⟩
  obtain rfl:=only i hi
  have run: ∀(t':List AV),t'=fr.t->Region.wanted o (yielded ops a.tmps)=true->aop P fr.s (Kh t') o (fun v s'=>Ku P ops.toList l { fr with t:=Ut t' o.dst v,s:=s' } K)->wpOp P ops Q i (wpAny P .any ops Q fuel (listed.setIfInBounds i true)) a w:=fun t' ht hw h=>by
   subst ht
   obtain⟨v,s',hK',hE⟩:=ZY h
   simp only[wpOp,ho,hw,if_true]
   refine .inl (gX (hE V w cx a.eval R.st fun x _=>R.eval x) fun u w' ⟨BX,E,S',hv⟩=>?_)
   have hlen:fr.s.length<=s'.length:=E.length R.st.len S'.len
   exact ZP MN htail l (i+1) fuel _ _ K (by omega) hl' (by omega) (by simpa using hsz) yJ (by simp at hf;omega) hK' V w' BX _ (R.put E S' hv) (by show m<=s'.length;omega)
    fun fr' w2 UY a2 h1 h2 h3 h4=>hK fr' w2 UY a2 h1 h2 ((E.less hm).trans h3) h4
  have skip: ∀(t':List AV),t'=fr.t->Region.wanted o (yielded ops a.tmps)=false->Ku P ops.toList l { fr with t:=Ut t' o.dst (.GU []) } K->wpOp P ops Q i (wpAny P .any ops Q fuel (listed.setIfInBounds i true)) a w:=fun t' ht hw h=>by
   subst ht
   simp only[wpOp,ho,hw,Bool.false_eq_true,if_false]
   exact ZP MN htail l (i+1) fuel _ _ K (by omega) hl' (by omega) (by simpa using hsz) yJ (by simp at hf;omega) h V w cx _ (R.put Ext.refl R.st .undef) hm fun fr' w2 UY a2 h1 h2 h3 h4=>hK fr' w2 UY a2 h1 h2 h3 h4
  unfold Ku at h
  simp only[iF,Xm,gZ]at h
  split at h
  ·rename_i hg
   exact run fr.t rfl (by simp[Region.wanted,hg]) h
  ·rename_i j want hg
   split at h
   ·exact h.elim
   ·rename_i d hd
    split at h
    ·rename_i c hc
     have hy:=R.yielded hd hc
     have hlit:=R.lit hc
     cases c with
     |true=>
      simp only[brP]at h
      cases want with
      |true=>exact run _ hlit (by simp[Region.wanted,hg,hy]) h
      |false=>exact skip _ hlit (by simp[Region.wanted,hg,hy]) h
     |false=>
      simp only[brP]at h
      cases want with
      |true=>exact skip _ hlit (by simp[Region.wanted,hg,hy]) h
      |false=>exact run _ hlit (by simp[Region.wanted,hg,hy]) h
    ·rename_i hc
     exact skip _ rfl (by simp[Region.wanted,hg,R.eY hd hc]) h
    ·exact h.elim
structure Inv (P:PL) (ops:Array Oper) (V:Nat->Prop) (w0:World) (cx:Cx) (s:Store) (n:Nat) (t0 tn:List AV) (listed:Array Bool) (a:Act) (w:World):Prop where
 size:listed.size=ops.size
 quiet: ∀i,listed.getD i false=true->i<n
 closed: ∀(i:Nat) (o:Oper),ops[i]? =some o->listed.getD i false=true-> ∀j∈FK o,listed.getD j false=true
 ext:Ext s.length V w0 w cx cx s s
 st:Bj P.laid V w cx s
 rT:a.tmps.size=t0.length
 defers:Marks V w a.defers
 old: ∀(u:Nat) (x:AV),(∀(k:Nat) (o:Oper),k<n->ops[k]? =some o->o.dst≠some u)->t0[u]? =some x->Rel w cx (Av V cx s) x (a.tmps.getD u undef)
 fresh: ∀(k:Nat) (o:Oper) (u:Nat) (x:AV),k<n->ops[k]? =some o->o.dst=some u->listed.getD k false=true->tn[u]? =some x->Rel w cx (Av V cx s) x (a.tmps.getD u undef)
 stale: ∀(k:Nat) (o:Oper) (u:Nat) (x:AV),k<n->ops[k]? =some o->o.dst=some u->listed.getD k false=false->t0[u]? =some x->Rel w cx (Av V cx s) x (a.tmps.getD u undef)
theorem q8 {t:List AV} {dst:Option Tmp} {v:AV} {u:Nat} (h:dst≠some u):(Ut t dst v)[u]? =t[u]? :=by
 cases dst with
 |none=>rfl
 |some d=>
  have:d≠u:=fun e=>h (by rw[e])
  simp[Ut,List.getElem?_set,this]
theorem Ais {t:List AV} {dst:Option Tmp} {v:AV} :(Ut t dst v).length=t.length:=by cases dst<;>simp[Ut]
theorem Qs {a:Act} {dst:Option Tmp} {v:Value} {u:Nat} (h:dst≠some u):(a.put dst v).tmps.getD u undef=a.tmps.getD u undef:=by
 cases dst with
 |none=>rfl
 |some d=>
  have:d≠u:=fun e=>h (by rw[e])
  simp only[Act.put,Array.getD_eq_getD_getElem?,Array.getElem?_setIfInBounds,if_neg this]
section
variable {ts:Nat->List AV} {s:Store} {n:Nat}
theorem once {L:List Oper} (hstep: ∀i o,i<n->ops[i]? =some o->Step P L s o (ts i) (ts (i+1))) (hn:n<=ops.size):
  (∀i,i<=n->(ts i).length=(ts 0).length)/\(∀(i u:Nat),i<=n->(∀(k:Nat) (o:Oper),k<i->ops[k]? =some o->o.dst≠some u)->(ts i)[u]? =(ts 0)[u]?)/\
  ∀(d i u:Nat),i+d=n->(∀(k:Nat) (o:Oper),i<=k->k<n->ops[k]? =some o->o.dst≠some u)->(ts i)[u]? =(ts n)[u]? :=by
 have one: ∀i,i<n-> ∃o v,ops[i]? =some o/\ts (i+1)=Ut (ts i) o.dst v:=fun i hi=>by
  have hlt:i<ops.size:=by omega
  refine⟨ops[i],?_⟩
  rcases hstep i ops[i] hi (by simp[hlt])with ⟨v,_,h,_⟩|⟨h,_⟩|⟨h,_⟩
  ·exact⟨v,by simp[hlt],h⟩
  ·exact⟨.GU [],by simp[hlt],h⟩
  ·exact⟨.unk,by simp[hlt],h⟩
 refine⟨fun i=>?_,fun i=>?_,fun d=>?_⟩
 ·induction i with
  |zero=>exact fun _=>rfl
  |succ i ih=>
   intro hi
   obtain⟨o,v,_,h⟩:=one i hi
   rw[h,Ais]
   exact ih (by omega)
 ·induction i with
  |zero=>exact fun _ _ _=>rfl
  |succ i ih=>
   intro u hi h
   obtain⟨o,v,ho,he⟩:=one i hi
   rw[he,q8 (h i o (by omega) ho)]
   exact ih u (by omega) fun k o hk ho=>h k o (by omega) ho
 ·induction d with
  |zero=>intro i u hi _;rw[show i=n by omega]
  |succ d ih=>
   intro i u hi h
   obtain⟨o,v,ho,he⟩:=one i (by omega)
   rw[<- ih (i+1) u (by omega) fun k o hk hk' ho=>h k o (by omega) hk' ho,he,q8 (h i o (Nat.le_refl _) (by omega) ho)]
variable {V:Nat->Prop} {w0 w:World} {cx:Cx} {listed:Array Bool} {a:Act}
theorem Inv.reads (I:Inv P ops V w0 cx s n (ts 0) (ts n) listed a w) (MN:Uc ops.toList=true) (hstep: ∀i o,i<n->ops[i]? =some o->Step P ops.toList s o (ts i) (ts (i+1))) (hn:n<=ops.size)
  {i:Nat} {o:Oper} (hi:i<n) (ho:ops[i]? =some o) (hun:listed.getD i false=false) (hp: ∀j∈FK o,listed.getD j false=true) {u:Nat} (hu:u∈readsOf ops.toList o) {x:AV} (hx:(ts i)[u]? =some x):
  Rel w cx (Av V cx s) x (a.tmps.getD u undef):=by
 obtain⟨_,w1,w2⟩:=once hstep hn
 by_cases hw: ∃k o',k<n/\ops[k]? =some o'/\o'.dst=some u/\k≠i
 ·obtain⟨k,o',hk,ho',hd,hne⟩:=hw
  have uniq: ∀(k':Nat) (o2:Oper),ops[k']? =some o2->o2.dst=some u->k'=k:=fun k' o2 ho2 hd2=>by
   by_cases h:k'=k
   ·exact h
   ·exact absurd hd ((J7 MN ho').2 k' o2 u ho2 h hd2).1
  rcases(J7 MN ho).2 k o' u ho' hne hd |>.2 hu with h|h
  ·have hki:=(J7 MN ho).1 k h
   rw[w2 (n-i) i u (by omega) fun k' o2 h1 h2 ho2 hd2=>by have:=uniq k' o2 ho2 hd2;omega]at hx
   exact I.fresh k o' u x hk ho' hd (hp k h) hx
  ·have hik:=(J7 MN ho').1 i h
   rw[w1 i u (by omega) fun k' o2 h1 ho2 hd2=>by have:=uniq k' o2 ho2 hd2;omega]at hx
   refine I.stale k o' u x hk ho' hd ?_ hx
   cases hq:listed.getD k false with
   |false=>rfl
   |true=>have:=I.closed k o' ho' hq i h;rw[hun]at this;cases this
 ·rw[w1 i u (by omega) fun k' o2 h1 ho2 hd2=>hw ⟨k',o2,by omega,ho2,hd2,by omega⟩]at hx
  by_cases hd:o.dst=some u
  ·exact I.stale i o u x hi ho hd hun hx
  ·refine I.old u x (fun k o2 hk ho2 hd2=>?_) hx
   by_cases hki:k=i
   ·subst hki
    rw[ho]at ho2
    cases ho2
    exact hd hd2
   ·exact hw ⟨k,o2,hk,ho2,hd2,hki⟩
theorem Inv.next {w':World} (I:Inv P ops V w0 cx s n (ts 0) (ts n) listed a w) (MN:Uc ops.toList=true) (hstep: ∀i o,i<n->ops[i]? =some o->Step P ops.toList s o (ts i) (ts (i+1))) (hn:n<=ops.size)
  {i:Nat} {o:Oper} (hi:i<n) (ho:ops[i]? =some o) (hp: ∀j∈FK o,listed.getD j false=true) (E:Ext s.length V w w' cx cx s s) (S':Bj P.laid V w' cx s) {v:AV} {u:Value} (ht:ts (i+1)=Ut (ts i) o.dst v) (hv:Rel w' cx (Av V cx s) v u):
  Inv P ops V w0 cx s n (ts 0) (ts n) (listed.setIfInBounds i true) (a.put o.dst u) w':=by
 obtain⟨wl,w1,w2⟩:=once hstep hn
 have hlt:i<listed.size:=by rw[I.size];omega
 have mv: ∀ {x:AV} {z:Value},Rel w cx (Av V cx s) x z->Rel w' cx (Av V cx s) x z:=fun r=>r.ext E I.st.len
 have uniq: ∀(k:Nat) (o2:Oper) (d:Nat),ops[k]? =some o2->o2.dst=some d->k≠i->o.dst≠some d:=fun k o2 d ho2 hd2 hne=>((J7 MN ho).2 k o2 d ho2 hne hd2).1
 refine⟨by simpa using I.size,fun j hj=>?_,fun j oj hoj hj k hk=>?_,I.ext.trans E,S',?_,?_,fun d x hd hx=>?_,fun k ok d x hk hok hd hl hx=>?_,fun k ok d x hk hok hd hl hx=>?_⟩
 ·by_cases hij:i=j
  ·omega
  ·rw[getD_set_ne false hij]at hj;exact I.quiet j hj
 ·by_cases hij:i=j
  ·subst hij
   rw[ho]at hoj
   cases hoj
   exact getD_set_true (hp k hk)
  ·rw[getD_set_ne false hij]at hj
   exact getD_set_true (I.closed j oj hoj hj k hk)
 ·cases o.dst<;>simp[Act.put,I.rT]
 ·cases o.dst<;>(simp only[Act.put];exact I.defers.ext I.st E)
 ·rw[Qs (hd i o hi ho)]
  exact mv (I.old d x hd hx)
 ·by_cases hik:i=k
  ·subst hik
   rw[ho]at hok
   cases hok
   have e1:(ts (i+1))[d]? =(ts n)[d]? :=w2 (n-(i+1)) (i+1) d (by omega) fun k' o2 h1 h2 ho2 hd2=>uniq k' o2 d ho2 hd2 (by omega) hd
   rw[<- e1,ht,hd]at hx
   simp only[Ut,List.getElem?_set,if_true]at hx
   split at hx
   ·rename_i hlt'
    cases hx
    have hsz:d<a.tmps.size:=by rw[I.rT,<- wl i (by omega)];exact hlt'
    have:(a.put o.dst u).tmps.getD d undef=u:=by
         rw[hd]
         simp[Act.put,Array.getD,hsz]
    rw[this]
    exact hv
   ·cases hx
  ·rw[getD_set_ne false hik]at hl
   rw[Qs (uniq k ok d hok hd (fun h=>hik h.symm))]
   exact mv (I.fresh k ok d x hk hok hd hl hx)
 ·by_cases hik:i=k
  ·subst hik
   rw[Mg hlt]at hl
   cases hl
  ·rw[getD_set_ne false hik]at hl
   rw[Qs (uniq k ok d hok hd (fun h=>hik h.symm))]
   exact mv (I.stale k ok d x hk hok hd hl hx)
end
theorem jG: ∀(l:List Nat) (p q:Nat->Bool),(∀i,q i=true->p i=true)->(∃i∈l,p i=true/\q i=false)->(l.filter q).length<(l.filter p).length
 | [],p,q,_,h=>by obtain⟨i,hi,_⟩:=h;cases hi
 |x::l,p,q,hpq,h=>by
  have hle: ∀l:List Nat,(l.filter q).length<=(l.filter p).length:=by
   intro l
   induction l with
   |nil=>exact Nat.le_refl _
   |cons y l ih=>
    by_cases hq:q y=true
    ·rw[List.filter_cons_of_pos hq,List.filter_cons_of_pos (hpq y hq)]
     simpa using ih
    ·rw[List.filter_cons_of_neg hq]
     by_cases hp:p y=true
     ·rw[List.filter_cons_of_pos hp];simp;omega
     ·rw[List.filter_cons_of_neg hp];exact ih
  obtain⟨i,hi,h1,h2⟩:=h
  by_cases hx:p x=true/\q x=false
  ·rw[List.filter_cons_of_pos hx.1,List.filter_cons_of_neg (by simp[hx.2])]
   have:=hle l
   simp;omega
  ·have hi':i∈l:=by
    rcases List.mem_cons.1 hi with rfl|h
    ·exact absurd ⟨h1,h2⟩ hx
    ·exact h
   have ih:=jG l p q hpq ⟨i,hi',h1,h2⟩
   by_cases hq:q x=true
   ·rw[List.filter_cons_of_pos hq,List.filter_cons_of_pos (hpq x hq)]
    simpa using ih
   ·rw[List.filter_cons_of_neg hq]
    by_cases hp:p x=true
    ·rw[List.filter_cons_of_pos hp];simp;omega
    ·rw[List.filter_cons_of_neg hp];exact ih
structure Al where
 i:Nat
 d:Tmp
 ob:E8
 cur:Array Value
def Gh (al:Option Al) (V V':Nat->Prop) (w0:World) (listed:Array Bool) (a:Act) (w:World):Prop:=
 match al with
 |none=>V'=V
 |some l=>(listed.getD l.i false=false/\V'=V)∨(listed.getD l.i false=true/\ ∃b,w0.heap.size<=b/\b<w.heap.size/\V'=(fun x=>V x∨x=b)/\w.heap[b]? =some (.cells l.cur l.ob.ety (0,0))/\(l.d<a.tmps.size->a.tmps.getD l.d undef=.pointer (some ⟨b,0,none⟩)))
theorem Av.wide {V:Nat->Prop} {cx:Cx} {s:Store} {b x:Nat} (h:Av (fun x=>V x∨x=b) cx s x):Av V cx s x∨x=b:=by
 rcases h with (h|h)|h
 ·exact .inl (.inl h)
 ·exact .inr h
 ·exact .inl (.inr h)
theorem Rel.widen {V:Nat->Prop} {w w':World} {cx:Cx} {s:Store} {b:Nat} (hb:w.heap.size<=b) (hs:w.heap.size<=w'.heap.size) (hk: ∀k,k<w.heap.size->w'.heap[k]? =w.heap[k]?) {x:AV} {v:Value} (h:Rel w cx (Av V cx s) x v):Rel w' cx (Av (fun x=>V x∨x=b) cx s) x v:=
 h.move hs (fun k hk' _=>hk k hk') (fun k hk' hA hA'=>by rcases Av.wide hA' with h|h;exact hA h;omega) fun _ _ h=>h
theorem Bj.widen {V:Nat->Prop} {w w':World} {cx:Cx} {s:Store} {b:Nat} (S:Bj L V w cx s) (hb:w.heap.size<=b) (hb':b<w'.heap.size) (hs:w.heap.size<=w'.heap.size) (hk: ∀k,k<w.heap.size->w'.heap[k]? =w.heap[k]?):Bj L (fun x=>V x∨x=b) w' cx s where
 low k h:=by rcases h with h|h;exact Nat.lt_of_lt_of_le (S.low k h) hs;omega
 len:=S.len
 obj i e o he ho hn:=by
  obtain⟨cur,R⟩:=S.obj i e o he ho hn
  refine⟨cur,?_,R.tot,R.BU,R.len,R.ok,R.fits,R.size,fun j c x hj hx=>?_⟩
  ·rw[hk _ R.lt];exact R.hp
  ·obtain⟨v,h1,h2,h3⟩:=R.cells j c x hj hx
   exact⟨v,h1,h2,h3.widen hb hs hk⟩
 gM:=S.gM
 may:=S.may
 apart i e o he ho hn h:=by
  rcases h with h|h
  ·exact S.apart i e o he ho hn h
  ·obtain⟨cur,R⟩:=S.obj i e o he ho hn
   have:=R.lt
   omega
 inj:=S.inj
 glob:=S.glob.move hs (fun k hk' _=>hk k hk') fun k hk' hA hA'=>by rcases Av.wide hA' with h|h;exact hA h;omega
theorem Bj.adopt {V:Nat->Prop} {w:World} {cx:Cx} {s:Store} {b:Nat} (S:Bj L (fun x=>V x∨x=b) w cx s) (hV: ¬V b) (ob:E8) (cur:Array Value) (hheap:w.heap[b]? =some (.cells cur ob.ety (0,0))) (hok:ob.row.ok) (hfits:ob.row.len*ob.BU<=cur.size)
  (hsize: ∀i,i<ob.row.len->(ob.row.get i).A9=ob.BU)
  (hcells: ∀(cx:Cx) (A:Nat->Prop) (i c:Nat) (x:AV),i<ob.row.len->(ob.row.get i).cells[c]? =some x-> ∃v,cur[i*ob.BU+c]? =some v/\v.oneCell'=true/\Rel w cx A x v):
  Bj L V w (cx++ [⟨b,ob.BU,ob.row.len,cur.size,false⟩]) (s++ [some ob])/\
  (∀k,¬Av (fun x=>V x∨x=b) cx s k-> ¬Av V (cx++ [⟨b,ob.BU,ob.row.len,cur.size,false⟩]) (s++ [some ob]) k)/\
  ∀ {x:AV} {v:Value},Rel w cx (Av (fun x=>V x∨x=b) cx s) x v->Rel w (cx++ [⟨b,ob.BU,ob.row.len,cur.size,false⟩]) (Av V (cx++ [⟨b,ob.BU,ob.row.len,cur.size,false⟩]) (s++ [some ob])) x v:=by
 have kD: ∀k,¬Av (fun x=>V x∨x=b) cx s k-> ¬Av V (cx++ [⟨b,ob.BU,ob.row.len,cur.size,false⟩]) (s++ [some ob]) k:=fun k hA hA'=>by
  rcases Av.push (s:=s) S.len (fun _ _ h=>h) hA' with h|h
  ·exact hA (h.elim (fun h=>.inl (.inl h)) .inr)
  ·exact hA (.inl (.inr h))
 have Sc: ∀ {x:AV} {v:Value},Rel w cx (Av (fun x=>V x∨x=b) cx s) x v->Rel w (cx++ [⟨b,ob.BU,ob.row.len,cur.size,false⟩]) (Av V (cx++ [⟨b,ob.BU,ob.row.len,cur.size,false⟩]) (s++ [some ob])) x v:=fun r=>
  r.move (Nat.le_refl _) (fun _ _ _=>rfl) (fun k _ h=>kD k h) fun i e' he=>by rw[List.getElem?_append_left (List.getElem?_eq_some_iff.1 he).1];exact he
 refine⟨⟨fun k hk=>S.low k (.inl hk),by simp[S.len],fun i e' o' he ho hn=>?_,fun i e' o' he ho hn=>?_,fun i e' o' he ho hm=>?_,fun i e' o' he ho hn=>?_,fun i j ei ej oi oj hei uO hoi hoj hni dO hne nQ=>?_,S.glob.move (Nat.le_refl _) (fun _ _ _=>rfl) fun k _ h=>kD k h⟩,kD,Sc⟩
 ·rcases CZ he with he|⟨hi,rfl⟩
  ·rcases CZ ho with ho|⟨hi,_⟩
   ·obtain⟨cur',R⟩:=S.obj i e' o' he ho hn
    refine⟨cur',R.hp,R.tot,R.BU,R.len,R.ok,R.fits,R.size,fun j c x hj hx=>?_⟩
    obtain⟨v,h1,h2,h3⟩:=R.cells j c x hj hx
    exact⟨v,h1,h2,Sc h3⟩
   ·have:=(List.getElem?_eq_some_iff.1 he).1;rw[S.len]at this;omega
  ·rcases CZ ho with ho|⟨_,ho⟩
   ·have:=(List.getElem?_eq_some_iff.1 ho).1;rw[S.len]at hi;omega
   ·cases ho
    exact⟨cur,⟨_,hheap,fun _=>rfl⟩,rfl,rfl,rfl,hok,hfits,hsize,fun j c x hj hx=>hcells _ _ j c x hj hx⟩
 ·rcases CZ he with he|⟨hi,rfl⟩
  ·rcases CZ ho with ho|⟨hi,_⟩
   ·exact S.gM i e' o' he ho hn
   ·have:=(List.getElem?_eq_some_iff.1 he).1;rw[S.len]at this;omega
  ·cases hn
 ·rcases CZ he with he|⟨hi,rfl⟩
  ·rcases CZ ho with ho|⟨hi,_⟩
   ·exact S.may i e' o' he ho hm
   ·have:=(List.getElem?_eq_some_iff.1 he).1;rw[S.len]at this;omega
  ·rfl
 ·rcases CZ he with he|⟨hi,rfl⟩
  ·rcases CZ ho with ho|⟨hi,_⟩
   ·exact fun h=>S.apart i e' o' he ho hn (.inl h)
   ·have:=(List.getElem?_eq_some_iff.1 he).1;rw[S.len]at this;omega
  ·exact hV
 ·rcases CZ hei with uN|⟨hi1,rfl⟩<;>rcases CZ uO with uP|⟨hj1,rfl⟩
  ·rcases CZ hoi with Abl|⟨hi,_⟩
   ·rcases CZ hoj with Abm|⟨hj,_⟩
    ·exact S.inj i j ei ej oi oj uN uP Abl Abm hni dO hne nQ
    ·have:=(List.getElem?_eq_some_iff.1 uP).1;rw[S.len]at this;omega
   ·have:=(List.getElem?_eq_some_iff.1 uN).1;rw[S.len]at this;omega
  ·rcases CZ hoi with Abl|⟨hi,_⟩
   ·exact fun h=>S.apart i ei oi uN Abl hni (.inr h)
   ·have:=(List.getElem?_eq_some_iff.1 uN).1;rw[S.len]at this;omega
  ·rcases CZ hoj with Abm|⟨hj,_⟩
   ·exact fun h=>S.apart j ej oj uP Abm dO (.inr h.symm)
   ·have:=(List.getElem?_eq_some_iff.1 uP).1;rw[S.len]at this;omega
  ·omega
theorem Inv.widen {P:PL} {ops:Array Oper} {V:Nat->Prop} {w0 w w':World} {cx:Cx} {s:Store} {n:Nat} {t0 tn:List AV} {listed:Array Bool} {a:Act} {b:Nat} (I:Inv P ops V w0 cx s n t0 tn listed a w)
  (os:w'.os=w.os) (tape:w'.tape=w.tape) (output:w'.output=w.output) (hb:w.heap.size<=b) (hb':b<w'.heap.size) (hs:w.heap.size<=w'.heap.size) (hk: ∀k,k<w.heap.size->w'.heap[k]? =w.heap[k]?):Inv P ops (fun x=>V x∨x=b) w0 cx s n t0 tn listed a w':=by
 refine⟨I.size,I.quiet,I.closed,⟨os.trans I.ext.os,tape.trans I.ext.tape,output.trans I.ext.output,Nat.le_trans I.ext.size hs,fun k h1 h2=>?_,fun _ _ h=>h,fun _ _ h=>h,fun _ _ _ h=>h⟩,I.st.widen hb hb' hs hk,I.rT,I.defers.keep (fun k h _ _=>hk k h) (fun k hk1 h h'=>h'.elim h fun e=>by omega),fun u x h1 h2=>(I.old u x h1 h2).widen hb hs hk,fun k o u x h1 h2 h3 h4 h5=>(I.fresh k o u x h1 h2 h3 h4 h5).widen hb hs hk,fun k o u x h1 h2 h3 h4 h5=>(I.stale k o u x h1 h2 h3 h4 h5).widen hb hs hk⟩
 rw[hk k (Nat.lt_of_lt_of_le h1 I.ext.size)]
 exact I.ext.keep k h1 h2
structure Ahd (P:PL) (l:Al):Prop where
 ok:l.ob.row.ok
 pos:0<l.ob.row.len
 fits:l.ob.row.len*l.ob.BU<=l.cur.size
 size: ∀i,i<l.ob.row.len->(l.ob.row.get i).A9=l.ob.BU
 cells: ∀(w:World) (cx:Cx) (A:Nat->Prop) (i c:Nat) (x:AV),i<l.ob.row.len->(l.ob.row.get i).cells[c]? =some x-> ∃v,l.cur[i*l.ob.BU+c]? =some v/\v.oneCell'=true/\Rel w cx A x v
def Afl (al:Option Al) (t:List AV) (s:Store):Fr:=
 match al with
 |none=>⟨t,s⟩
 |some l=>⟨t.set l.d (.mp s.length 0 0),s++ [some l.ob]⟩
theorem q9 {Q:Exit->Act->World->Prop} {m n:Nat} {ts:Nat->List AV} {s:Store} {K:Fr->Prop} {V V':Nat->Prop} {w0:World} {cx:Cx} {al:Option Al} (MN:Uc ops.toList=true) (htail:WV ops.toList n=true)
  (hstep: ∀i o,i<n->ops[i]? =some o->Step P ops.toList s o (ts i) (ts (i+1))) (hn:n<=ops.size) (hal: ∀l,al=some l->l.i<n/\Ahd P l) (hV: ∀x,V x->x<w0.heap.size) (hrest:Ku P ops.toList (ops.toList.drop n) (Afl al (ts n) s) K) (hm:m<=s.length)
  (hK: ∀fr' w' BX a',K fr'->m<=fr'.s.length->Ext m V w0 w' cx BX s fr'.s->EU P.laid V w' BX fr' a'->Q .normal a' w')
  {fuel:Nat} {listed:Array Bool} {a:Act} {w:World} (I:Inv P ops V' w0 cx s n (ts 0) (ts n) listed a w) (G:Gh al V V' w0 listed a w) (hf:ops.size-n<=fuel) (hall: ∀i,i<n->listed.getD i false=true):wpAny P .any ops Q fuel listed a w:=by
 have hR:EU P.laid V' w cx ⟨ts n,s⟩ a:=by
  obtain⟨wl,w1,w2⟩:=once hstep hn
  refine⟨I.st,by rw[I.rT,wl n (Nat.le_refl _)],I.defers,fun u x hx=>?_⟩
  by_cases hw: ∃k o',k<n/\ops[k]? =some o'/\o'.dst=some u
  ·obtain⟨k,o',hk,ho',hd⟩:=hw
   exact I.fresh k o' u x hk ho' hd (hall k hk) hx
  ·rw[w1 n u (Nat.le_refl _) fun k o2 hk ho2 hd2=>hw ⟨k,o2,hk,ho2,hd2⟩]at hx
   exact I.old u x (fun k o2 hk ho2 hd2=>hw ⟨k,o2,hk,ho2,hd2⟩) hx
 cases al with
 |none=>
  have hV':V'=V:=G
  subst hV'
  exact ZP MN htail (ops.toList.drop n) n fuel listed ⟨ts n,s⟩ K (Nat.le_refl _) (fun j=>by rw[List.getElem?_drop];simp) hn I.size (fun i=>⟨I.quiet i,hall i⟩) (by simp;omega) hrest V' w cx a hR hm
   fun fr' w2 UY a2 h1 h2 h3 h4=>hK fr' w2 UY a2 h1 h2 ((I.ext.less hm).trans h3) h4
 |some l=>
  obtain⟨hli,A⟩:=hal l rfl
  rcases G with ⟨h,_⟩|⟨_,b,hb0,hb,rfl,hheap,AlK⟩
  ·rw[hall l.i hli]at h;cases h
  obtain⟨S',kD,Sc⟩:=I.st.adopt (fun h=>by have:=hV _ h;omega) l.ob l.cur hheap A.ok A.fits A.size (A.cells w)
  have E:Ext s.length V w0 w cx (cx++ [⟨b,l.ob.BU,l.ob.row.len,l.cur.size,false⟩]) s (s++ [some l.ob]):=by
   refine⟨I.ext.os,I.ext.tape,I.ext.output,I.ext.size,I.ext.keep,fun k hk hA=>kD k fun h=>?_,fun k hk hw hw'=>?_,fun i e hi he=>by rw[List.getElem?_append_left (List.getElem?_eq_some_iff.1 he).1];exact he⟩
   ·rcases Av.wide h with h|h
    ·exact hA h
    ·omega
   ·rcases Wr.push (s:=s) I.st.len (fun _ _ h=>h) hw' with h|h
    ·exact hw h
    ·have:k=b:=h
     omega
  have hR':EU P.laid V w (cx++ [⟨b,l.ob.BU,l.ob.row.len,l.cur.size,false⟩]) ⟨(ts n).set l.d (.mp s.length 0 0),s++ [some l.ob]⟩ a:=by
   refine⟨S',by rw[hR.size];simp,hR.defers.keep (fun _ _ _ _=>rfl) (fun k _ h h'=>h (.inl h')),fun u x hx=>?_⟩
   rw[List.getElem?_set]at hx
   by_cases hd:l.d=u
   ·subst hd
    rw[if_pos rfl]at hx
    split at hx
    ·rename_i hlt
     cases hx
     rw[AlK (by rw[hR.size];simpa using hlt)]
     exact Abv (e:=⟨b,l.ob.BU,l.ob.row.len,l.cur.size,false⟩) I.st.len rfl A.pos
    ·cases hx
   ·rw[if_neg hd]at hx
    exact Sc (hR.tmps u x hx)
  exact ZP MN htail (ops.toList.drop n) n fuel listed _ K (Nat.le_refl _) (fun j=>by rw[List.getElem?_drop];simp) hn I.size (fun i=>⟨I.quiet i,hall i⟩) (by simp;omega) hrest V w _ a hR' (by show m<=(s++ [some l.ob]).length;rw[List.length_append];omega)
   fun fr' w2 UY a2 h1 h2 h3 h4=>hK fr' w2 UY a2 h1 h2 ((E.less hm).trans h3) h4
theorem Ad2 {Q:Exit->Act->World->Prop} {m n:Nat} {ts:Nat->List AV} {s:Store} {K:Fr->Prop} {V:Nat->Prop} {w0:World} {cx:Cx} {al:Option Al} (MN:Uc ops.toList=true) (htail:WV ops.toList n=true)
  (hstep: ∀i o,i<n->ops[i]? =some o->Step P ops.toList s o (ts i) (ts (i+1))) (hn:n<=ops.size) (hal: ∀l,al=some l->l.i<n/\Ahd P l) (hmk: ∀i o,i<n->ops[i]? =some o->Ij o=true-> ∃l,al=some l/\l.i=i/\o.dst=some l.d/\ ∀w ρ,Gives P o ρ w fun u w'=>u=.pointer (some ⟨w.heap.size,0,none⟩)/\w'=w.alloc (.cells l.cur l.ob.ety)) (hli: ∀l o,al=some l->ops[l.i]? =some o->o.dst=some l.d/\Ij o=true/\o.guard=none) (S0:Bj P.laid V w0 cx s) (hrest:Ku P ops.toList (ops.toList.drop n) (Afl al (ts n) s) K) (hm:m<=s.length)
  (hK: ∀fr' w' BX a',K fr'->m<=fr'.s.length->Ext m V w0 w' cx BX s fr'.s->EU P.laid V w' BX fr' a'->Q .normal a' w'):
  ∀(fuel:Nat) (listed:Array Bool) (a:Act) (w:World) (V':Nat->Prop),(∀i∈KZ ops.toList n,listed.getD i false=true)->Inv P ops V' w0 cx s n (ts 0) (ts n) listed a w->Gh al V V' w0 listed a w->((List.range n).filter fun i=> !listed.getD i false).length+(ops.size-n)<=fuel->wpAny P .any ops Q fuel listed a w:=by
 intro fuel
 induction fuel with
 |zero=>
  intro listed a w V' yI I G hf
  by_cases hall: ∀i,i<n->listed.getD i false=true
  ·exact q9 MN htail hstep hn hal S0.low hrest hm hK I G (by omega) hall
  ·exfalso
   obtain⟨i,hi⟩:=Classical.not_forall.1 hall
   obtain⟨hlt,hi⟩:=Classical.not_imp.1 hi
   have:0<((List.range n).filter fun i=> !listed.getD i false).length:=List.length_pos_of_mem (List.mem_filter.2 ⟨List.mem_range.2 hlt,by simpa using hi⟩)
   omega
 |succ fuel ih=>
  intro listed a w V' yI I G hf
  by_cases hall: ∀i,i<n->listed.getD i false=true
  ·exact q9 MN htail hstep hn hal S0.low hrest hm hK I G (by omega) hall
  ·
   have hex: ∃i,i<n/\listed.getD i false=false:=by
    obtain⟨i,hi⟩:=Classical.not_forall.1 hall
    obtain⟨hlt,hi⟩:=Classical.not_imp.1 hi
    exact⟨i,hlt,by simpa using hi⟩
   have least: ∃i,i<n/\listed.getD i false=false/\ ∀j,j<i->listed.getD j false=true:=by
    have key: ∀k,(∃i,i<=k/\i<n/\listed.getD i false=false)-> ∃i,i<n/\listed.getD i false=false/\ ∀j,j<i->listed.getD j false=true:=by
         intro k
         induction k with
         |zero=>
          rintro⟨i,h1,h2,h3⟩
          exact⟨i,h2,h3,fun j hj=>by omega⟩
         |succ k ihk=>
          rintro⟨i,h1,h2,h3⟩
          by_cases hlow: ∃j,j<=k/\j<n/\listed.getD j false=false
          ·exact ihk hlow
          ·refine⟨i,h2,h3,fun j hj=>?_⟩
           cases hq:listed.getD j false with
           |true=>rfl
           |false=>exact absurd ⟨j,by omega,by omega,hq⟩ hlow
    obtain⟨i,h1,h2⟩:=hex
    exact key i ⟨i,Nat.le_refl _,h1,h2⟩
   obtain⟨i0,hi0,Af1,Alr⟩:=least
   have ho0:ops[i0]? =some ops[i0]:=by simp[show i0<ops.size by omega]
   have Acn:i0∈Region.ready .any ops listed:=lU (bW (by rw[I.size];omega) Af1) ho0 fun j hj=>Alr j ((J7 MN ho0).1 j hj)
   refine⟨fun hnil=>(by rw[hnil]at Acn;cases Acn),fun i hi=>?_⟩
   obtain⟨h0,o,ho,hp⟩:=WK hi
   have hun:=ZR h0
   have hin:i<n:=by
    rcases Nat.lt_or_ge i n with h|h
    ·exact h
    ·rcases(nI htail ho h i0 (by omega)).resolve_right (fun h=>by rw[yI i0 h]at Af1;cases Af1)with h1|h1
     ·have:=hp i0 h1
      rw[Af1]at this
      cases this
     ·have:=Vu (L:=fun p=>listed.getD p false=true) (fun p q hq hL j hj=>I.closed p q hq hL j hj) _ _ _ h1 hp
      rw[Af1]at this
      cases this
   have hcount:((List.range n).filter fun j=> !(listed.setIfInBounds i true).getD j false).length+(ops.size-n)<=fuel:=by
    have:=jG (List.range n) (fun j=> !listed.getD j false) (fun j=> !(listed.setIfInBounds i true).getD j false) (fun j hj=>by
         by_cases hij:i=j
         ·subst hij
          rw[hun];rfl
         ·rw[getD_set_ne false hij]at hj;exact hj) ⟨i,List.mem_range.2 hin,by simp[hun],by rw[Mg (by rw[I.size];omega)];rfl⟩
    omega
   have reads:=fun(u:Nat) (hu:u∈readsOf ops.toList o) (x:AV) (hx:(ts i)[u]? =some x)=>I.reads MN hstep hn hin ho hun hp hu hx
   have Afz: ∀(j d:Nat) (want c:Bool),o.guard=some (j,want)->TB ops.toList j=some d->(ts i).getD d .unk=.bool c->yielded ops a.tmps j=some c:=fun j d want c hg hd hc=>by
    cases hx:(ts i)[d]? with
    |none=>rw[List.getD,hx]at hc;cases hc
    |some x=>
     rw[List.getD,hx]at hc
     have hxc:x=.bool c:=hc
     have hr:=reads d (by simp[readsOf,hg,hd]) x hx
     rw[hxc]at hr
     have hb:=hr.OM
     have hlt:d<a.tmps.size:=by rw[I.rT,<- (once hstep hn).1 i (by omega)];exact(List.getElem?_eq_some_iff.1 hx).1
     unfold Go.yielded
     simp only[TB,Array.getElem?_toList]at hd
     rw[hd]
     simp only[Option.bind_some,getElem?_pos a.tmps d hlt]
     simp only[Array.getD,hlt,dif_pos,Array.getInternal_eq_getElem]at hb
     rw[hb]
   have AjD: ∀(j d:Nat) (want:Bool),o.guard=some (j,want)->TB ops.toList j=some d->(ts i).getD d .unk=.GU []->yielded ops a.tmps j=none:=fun j d want hg hd hc=>by
    cases hx:(ts i)[d]? with
    |none=>rw[List.getD,hx]at hc;cases hc
    |some x=>
     rw[List.getD,hx]at hc
     have hxc:x=.GU []:=hc
     have hr:=reads d (by simp[readsOf,hg,hd]) x hx
     rw[hxc]at hr
     have hb:=hr.rU
     have hlt:d<a.tmps.size:=by rw[I.rT,<- (once hstep hn).1 i (by omega)];exact(List.getElem?_eq_some_iff.1 hx).1
     unfold Go.yielded
     simp only[TB,Array.getElem?_toList]at hd
     rw[hd]
     simp only[Option.bind_some,getElem?_pos a.tmps d hlt]
     simp only[Array.getD,hlt,dif_pos,Array.getInternal_eq_getElem]at hb
     rw[hb]
     rfl
   have gh: ∀(u:Value) (w':World),(Ij o=true->o.guard=none->False)->Ext s.length V' w w' cx cx s s->Gh al V V' w0 (listed.setIfInBounds i true) (a.put o.dst u) w':=fun u w' hna E=>by
    cases al with
    |none=>exact G
    |some l=>
     have hne:l.i≠i:=fun h=>by
         have:=hli l o rfl (by rw[h];exact ho)
         exact hna this.2.1 this.2.2
     have hl':(listed.setIfInBounds i true).getD l.i false=listed.getD l.i false:=getD_set_ne false (fun h=>hne h.symm)
     rcases G with ⟨h1,h2⟩|⟨h1,b,h2,h3,h4,h5,h6⟩
     ·exact .inl ⟨by rw[hl'];exact h1,h2⟩
     ·refine .inr ⟨by rw[hl'];exact h1,b,h2,Nat.lt_of_lt_of_le h3 E.size,h4,?_,?_⟩
      ·rw[E.keep b h3 fun hw=>by have:=hw.lt S0;omega]
       exact h5
      ·have hlo:l.i<ops.size:=Nat.lt_of_lt_of_le (hal l rfl).1 hn
       have ho':ops[l.i]? =some ops[l.i]:=by simp[hlo]
       have hd:=(hli l _ rfl ho').1
       intro hsz
       rw[Qs (((J7 MN ho).2 l.i _ l.d ho' hne hd).1)]
       exact h6 (by cases hq:o.dst<;>rw[hq]at hsz<;>simpa[Act.put]using hsz)
   rcases hstep i o hin ho with ⟨v,hE,ht,_,hg⟩|⟨ht,j,want,d,hg,hd,hc⟩|⟨ht,ha,hg⟩
   ·have hw:Region.wanted o (yielded ops a.tmps)=true:=by
         rcases hg with ⟨hg,_⟩|⟨j,want,d,hg,hd,hc⟩
         ·simp[Region.wanted,hg]
         ·simp[Region.wanted,hg,Afz j d want want hg hd hc]
    simp only[wpOp,ho,hw,if_true]
    have hops: ∀x∈o.op.operands.toList,Rel w cx (Av V' cx s) (Kh (ts i) x) (a.eval x):=fun x hx=>by
         cases x with
         |tmp u=>
          simp only[Kh,Act.eval]
          cases hu:(ts i)[u]? with
          |none=>rw[List.getD,hu];exact .unk _
          |some y=>
           rw[List.getD,hu]
           exact reads u (by simp only[readsOf];exact List.mem_append.2 (.inl (List.mem_filterMap.2 ⟨.tmp u,hx,rfl⟩))) y hu
         |const c=>exact .ofConst c
         |global g=>exact .Ye _
         |func f=>exact .fn (.func f) [] [] [] [] rfl rfl (fun c x v hx=>by simp at hx) (fun c x v hx=>by simp at hx)
    refine .inl (gX (hE V' w cx a.eval I.st hops) fun u w' ⟨BX,E,S',hv⟩=>?_)
    have hcx:BX=cx:=by
         apply List.ext_getElem?
         intro k
         by_cases hk:k<cx.length
         ·rw[E.cx k cx[k] (by rw[<- I.st.len];exact hk) (by simp[hk])]
          simp[hk]
         ·rw[List.getElem?_eq_none (by rw[S'.len,<- I.st.len];omega),List.getElem?_eq_none (by omega)]
    subst hcx
    exact ih _ _ _ _ (fun k hk=>getD_set_true (yI k hk)) (I.next MN hstep hn hin ho hp E S' ht hv) (gh _ _ (fun h1 h2=>by rcases hg with ⟨_,h⟩|⟨j,want,d,h,_⟩;rw[h1]at h;cases h;rw[h2]at h;cases h) E) hcount
   ·have hw:Region.wanted o (yielded ops a.tmps)=false:=by
         rcases hc with hc|hc
         ·simp[Region.wanted,hg,Afz j d want _ hg hd hc]
         ·simp[Region.wanted,hg,AjD j d want hg hd hc]
    simp only[wpOp,ho,hw,Bool.false_eq_true,if_false]
    exact ih _ _ _ _ (fun k hk=>getD_set_true (yI k hk)) (I.next MN hstep hn hin ho hp Ext.refl I.st ht .undef) (gh _ _ (fun _ h2=>by rw[h2]at hg;cases hg) Ext.refl) hcount
   ·have hw:Region.wanted o (yielded ops a.tmps)=true:=by simp[Region.wanted,hg]
    obtain⟨l,hl,rfl,hdst,Alo⟩:=hmk i o hin ho ha
    subst hl
    have hVV:V'=V:=by
         rcases G with ⟨_,h⟩|⟨h,_⟩
         ·exact h
         ·rw[hun]at h;cases h
    subst hVV
    simp only[wpOp,ho,hw,if_true]
    refine .inl (gX (Alo w a.eval) fun u w' ⟨hu,hw'⟩=>?_)
    have hsz:w'.heap.size=w.heap.size+1:=by rw[hw'];simp
    have hk: ∀k,k<w.heap.size->w'.heap[k]? =w.heap[k]? :=fun k hk=>by rw[hw'];exact heap_alloc_old w _ k hk
    have I1:=I.widen (b:=w.heap.size) (by rw[hw'];rfl) (by rw[hw'];rfl) (by rw[hw'];rfl) (Nat.le_refl _) (by omega) (by omega) hk
    have hlt:l.i<listed.size:=by rw[I.size];omega
    refine ih _ _ _ _ (fun k hk=>getD_set_true (yI k hk)) (I1.next MN hstep hn hin ho hp Ext.refl I1.st ht (.unk u)) (.inr ⟨Mg hlt false,w.heap.size,I.ext.size,by omega,rfl,by rw[hw'];exact heap_alloc_new w _,?_⟩) hcount
    intro hsz'
    rw[hdst]at hsz' ⊢
    have AlM:l.d<a.tmps.size:=by simpa[Act.put]using hsz'
    rw[hu]
    simp[Act.put,Array.getD,AlM]
theorem dU (o:Oper):o.looksAt ops=readsOf ops.toList o:=by
 unfold Oper.looksAt readsOf TB
 simp only[Array.getElem?_toList]
 rfl
theorem Ad3 (h:Uc ops.toList=true) (j:Nat) (o:Oper) (cs:Array SelectCase) (b:Bool) (ho:ops[j]? =some o):o.op≠.select cs b:=by
 intro e
 unfold Uc at h
 rw[List.all_eq_true]at h
 have hi:=h (o,j) (List.mem_zipIdx_iff_getElem?.2 (by simpa using ho))
 simp only[Bool.and_eq_true,e]at hi
 obtain⟨⟨_,h2⟩,_⟩:=hi
 cases h2
theorem AgD (h:Uc ops.toList=true) (j:Nat) (o:Oper) (c:Call) (ho:ops[j]? =some o):o.op≠.defer c:=by
 intro e
 unfold Uc at h
 rw[List.all_eq_true]at h
 have hi:=h (o,j) (List.mem_zipIdx_iff_getElem?.2 (by simpa using ho))
 simp only[Bool.and_eq_true,e]at hi
 obtain⟨⟨_,h2⟩,_⟩:=hi
 cases h2
theorem yZ {Q:Exit->Act->World->Prop} {n:Nat} {ts:Nat->List AV} {s:Store} {V:Nat->Prop} {w0:World} {cx:Cx} (MN:Uc ops.toList=true)
  (hstep: ∀i o,i<n->ops[i]? =some o->Step P ops.toList s o (ts i) (ts (i+1))) (hn:n<=ops.size) (hsel: ∀(j:Nat) (o:Oper) cs b,ops[j]? =some o->o.op≠.select cs b) (hQ: ∀c a w,¬Q (.panic c) a w):
  ∀(ls:List Nat) (fuel:Nat) (listed:Array Bool) (a:Act) (w:World),(∀i∈ls,i<n/\ ∃o,ops[i]? =some o/\(Vo o=true∨Vn o=true)/\ ∀j∈FK o,listed.getD j false=true∨j∈ls)->ls.Pairwise (·< ·)->(∀i∈ls,listed.getD i false=false)->Inv P ops V w0 cx s n (ts 0) (ts n) listed a w->
   (∀listed' a',Inv P ops V w0 cx s n (ts 0) (ts n) listed' a' w->(∀i,listed'.getD i false=true↔(listed.getD i false=true∨i∈ls))->wpAny P .any ops Q fuel listed' a' w)->wpAny P .any ops Q (fuel+ls.length) listed a w
 | [],fuel,listed,a,w,_,_,_,I,h=>h listed a I fun i=>by simp
 |i::ls,fuel,listed,a,w,hall,hnd,hun,I,h=>by
  obtain⟨hin,o,ho,hmv,hpre⟩:=hall i (by simp)
  rw[List.pairwise_cons]at hnd
  have hp: ∀j∈FK o,listed.getD j false=true:=fun j hj=>by
   have hji:=(J7 MN ho).1 j hj
   rcases hpre j hj with h|h
   ·exact h
   ·rcases List.mem_cons.1 h with h|h
    ·omega
    ·have:=hnd.1 j h;omega
  have hui:=hun i (by simp)
  have hlt:i<listed.size:=by rw[I.size];omega
  have AnF:i∉ls:=fun h=>by have:=hnd.1 i h;omega
  have hg:o.guard=none:=by
   rcases hmv with hmv|hmv
   ·unfold Vo at hmv;split at hmv
    ·simp only[Bool.and_eq_true,Option.isNone_iff_eq_none]at hmv;exact hmv.1
    ·cases hmv
   ·unfold Vn at hmv;split at hmv
    ·simp only[Bool.and_eq_true,Option.isNone_iff_eq_none]at hmv;exact hmv.1
    ·exact Option.isNone_iff_eq_none.1 hmv
    ·exact Option.isNone_iff_eq_none.1 hmv
    ·cases hmv
  have AnE:Ij o=false:=by
   rcases hmv with hmv|hmv
   ·unfold Vo at hmv;split at hmv
    ·rename_i x hop;unfold Ij;rw[hop]
    ·cases hmv
   ·unfold Vn at hmv;split at hmv
    ·rename_i hop;unfold Ij;rw[hop]
    ·rename_i hop;unfold Ij;rw[hop]
    ·rename_i hop;unfold Ij;rw[hop]
    ·cases hmv
  have hops: ∀y∈o.op.operands.toList,Rel w cx (Av V cx s) (Kh (ts i) y) (a.eval y):=fun y hy=>by
   cases y with
   |tmp u=>
    simp only[Kh,Act.eval]
    cases hu:(ts i)[u]? with
    |none=>rw[List.getD,hu];exact .unk _
    |some z=>
     rw[List.getD,hu]
     exact I.reads MN hstep hn hin ho hui hp (by simp only[readsOf];exact List.mem_append.2 (.inl (List.mem_filterMap.2 ⟨.tmp u,hy,rfl⟩))) hu
   |const c=>exact .ofConst c
   |global g=>exact .Ye _
   |func f=>exact .fn (.func f) [] [] [] [] rfl rfl (fun c x v hx=>by simp at hx) (fun c x v hx=>by simp at hx)
  obtain⟨v,z,ht,hrun,hv⟩: ∃v z,ts (i+1)=Ut (ts i) o.dst v/\(∀w,(execOp a.eval o).run P w=.ok (.value z) w)/\Rel w cx (Av V cx s) v z:=by
   rcases hstep i o hin ho with ⟨v,hE,ht,hpl,_⟩|⟨_,j,want,d,hg2,_⟩|⟨_,ha,_⟩
   ·have hrun: ∃z,∀w,(execOp a.eval o).run P w=.ok (.value z) w:=by
         rcases hmv with hmv|hmv
         ·unfold Vo at hmv
          split at hmv
          ·rename_i x hop
           exact⟨a.eval x,fun w=>by simp[execOp,hop]⟩
          ·cases hmv
         ·unfold Vn at hmv
          split at hmv
          ·rename_i op ty x y t' hop
           simp only[Bool.and_eq_true]at hmv
           have hop2:op=.add∨op=.sub:=by
            cases op<;>first|exact .inl rfl|exact .inr rfl|(exact absurd hmv.2 (by decide))
           have hx:=hops x (by simp[hop,Op.operands])
           have hy:=hops y (by simp[hop,Op.operands])
           rcases hpl.sum op ty x y t' hop hop2 with ⟨k,p,q,hp1,hq1⟩|⟨p,q,hp1,hq1⟩
           ·rw[hp1]at hx;rw[hq1]at hy
            have hxe:=hx.Dx
            have hye:=hy.Dx
            rcases hop2 with rfl|rfl
            ·exact⟨_,fun w=>by simp[execOp,hop,hxe,hye,eqGuard,binOp,Op.intArith];rfl⟩
            ·exact⟨_,fun w=>by simp[execOp,hop,hxe,hye,eqGuard,binOp,Op.intArith];rfl⟩
           ·rw[hp1]at hx;rw[hq1]at hy
            have hxe:=hx.QB
            have hye:=hy.QB
            have hG:=hE V w cx a.eval I.st hops
            unfold Gives at hG
            rcases hop2 with rfl|rfl
            ·simp only[execOp,hop,hxe,hye,eqGuard,binOp,Op.stringOp]at hG
             by_cases hs:((p.size+q.size:Nat):Int)>IntKind.i64.max
             ·simp only[hs,if_true]at hG
              exact(show False from hG).elim
             ·exact⟨.string (p++q),fun w=>by simp only[execOp,hop,hxe,hye,eqGuard,binOp,Op.stringOp,hs,if_false];rfl⟩
            ·simp[execOp,hop,hxe,hye,eqGuard,binOp,Op.stringOp]at hG
          ·rename_i x hop
           have hx:=hops x (by simp[hop,Op.operands])
           have hp: ∃p,a.eval x=.pointer (some p):=by
            rcases hpl.ptr x hop with ⟨p,hp⟩|⟨e,off,hp⟩|⟨id,j,off,hp⟩<;>(rw[hp]at hx;generalize a.eval x=y at hx;cases hx;exact⟨_,rfl⟩)
           obtain⟨p,hp⟩:=hp
           exact⟨.pointer (some p),fun w=>by simp[execOp,hop,hp]⟩
          ·rename_i ty x f hop
           have hx:=hops x (by simp[hop,Op.operands])
           obtain⟨fs,fd,h1,h2,h3,h4⟩:=hpl.fld ty x f hop
           have hp: ∃p,a.eval x=.pointer (some p):=by
            rcases h4 with ⟨e,off,hp⟩|⟨id,j,off,hp⟩<;>(rw[hp]at hx;generalize a.eval x=y at hx;cases hx;exact⟨_,rfl⟩)
           obtain⟨p,hp⟩:=hp
           have hne: ¬P.cellsOf fd.type=0:=by omega
           exact⟨.pointer (some (p.add fd.offset)),fun w=>by simp[execOp,hop,hp,Instr.fieldAt,run_underlying h1,h2,Instr.sureAddr,fieldPlace,Cq h3,hne]⟩
          ·cases hmv
    obtain⟨z,hrun⟩:=hrun
    refine⟨v,z,ht,hrun,?_⟩
    have hG:=hE V w cx a.eval I.st hops
    unfold Gives at hG
    rw[hrun]at hG
    obtain⟨BX,E,S',hv⟩:=hG
    have hcx:BX=cx:=by
         apply List.ext_getElem?
         intro k
         by_cases hk:k<cx.length
         ·rw[E.cx k cx[k] (by rw[<- I.st.len];exact hk) (by simp[hk])]
          simp[hk]
         ·rw[List.getElem?_eq_none (by rw[S'.len,<- I.st.len];omega),List.getElem?_eq_none (by omega)]
    rw[hcx]at hv
    exact hv
   ·rw[hg]at hg2;cases hg2
   ·rw[AnE]at ha;cases ha
  have I1:=I.next MN hstep hn hin ho hp Ext.refl I.st ht hv
  have hy:Yields P ops o z a:=.inl ⟨by simp[Region.wanted,hg],hrun⟩
  have uT:i∈Region.ready .any ops listed:=lU (bW hlt hui) ho hp
  have rest:=yZ MN hstep hn hsel hQ ls fuel (listed.setIfInBounds i true) (a.put o.dst z) w (fun j hj=>by
    obtain⟨q1,oj,q2,q3,q4⟩:=hall j (by simp[hj])
    refine⟨q1,oj,q2,q3,fun k hk=>?_⟩
    rcases q4 k hk with h|h
    ·exact .inl (getD_set_true h)
    ·rcases List.mem_cons.1 h with h|h
     ·subst h;exact .inl (Mg hlt _)
     ·exact .inr h) hnd.2
   (fun j hj=>by rw[getD_set_ne false (fun e=>AnF (by rw[e];exact hj))];exact hun j (by simp[hj])) I1
   (fun listed' a' I' hl=>h listed' a' I' fun j=>by
     rw[hl j]
     by_cases hij:i=j
     ·subst hij
      rw[Mg hlt]
      simp
     ·rw[getD_set_ne false hij]
      have:j≠i:=fun e=>hij e.symm
      simp[this])
  refine wpAny_first ho hsel (fun c a w hq=>absurd hq (hQ c _ _)) _ listed a w (fun j oj hoj hne AnJ hnot=>?_) uT hy rest
  have hni:i∉FK oj:=fun hi=>by
   obtain⟨e,he,heq⟩:=List.mem_map.1 hi
   rw[List.mem_filter]at he
   exact hnot e (by simpa using he.1) he.2 heq
  have dO:j∉FK o:=fun hj=>by
   have:=hp j hj
   rw[ZR AnJ]at this
   cases this
  unfold Oper.apart
  simp only[Bool.and_eq_true]
  refine⟨?_,?_⟩
  ·split
   ·rename_i d hd
    obtain⟨g1,g2⟩:=(J7 MN hoj).2 i o d ho (fun e=>hne e.symm) hd
    simp only[Bool.and_eq_true,Bool.not_eq_true',bne_iff_ne,ne_eq]
    refine⟨?_,g1⟩
    cases hb:(oj.looksAt ops).contains d with
    |false=>rfl
    |true=>
     have hm:d∈readsOf ops.toList oj:=by
         rw[<- dU];exact List.contains_iff_mem.1 hb
     rcases g2 hm with h|h
     ·exact absurd h hni
     ·exact absurd h dO
   ·rfl
  ·split
   ·rename_i d hd
    obtain⟨g1,g2⟩:=(J7 MN ho).2 j oj d hoj hne hd
    cases hb:(o.looksAt ops).contains d with
    |false=>rfl
    |true=>
     have hm:d∈readsOf ops.toList o:=by
         rw[<- dU];exact List.contains_iff_mem.1 hb
     rcases g2 hm with h|h
     ·exact absurd h dO
     ·exact absurd h hni
   ·rfl
end
end Go.SE
