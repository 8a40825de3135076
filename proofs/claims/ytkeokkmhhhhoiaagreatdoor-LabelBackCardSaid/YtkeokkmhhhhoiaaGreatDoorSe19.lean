import Derived.Test.YtkeokkmhhhhoiaaGreatDoorSe17
namespace Go.SE
open Go
set_option linter.unusedVariables false
variable {L:Laid}
set_option linter.unusedSimpArgs false
def idx:List Nat->Nat->Nat
 | [],_=>0
 |x::xs,i=>bif Nat.beq x i then 0 else idx xs i+1
def yQ:List Nat->Nat->Bool
 | [],_=>false
 |x::xs,i=>Nat.beq x i||yQ xs i
def Rq:List Nat->Bool
 | []=>true
 |x::xs=> !yQ xs x&&Rq xs
theorem TJ: ∀ {l:List Nat} {i:Nat},yQ l i=true↔i∈l
 | [],i=>by simp[yQ]
 |x::xs,i=>by
  have hb:Nat.beq x i=true↔i=x:=by simp;exact eq_comm
  simp only[yQ,Bool.or_eq_true,List.mem_cons,TJ (l:=xs),hb]
theorem uU: ∀ {l:List Nat} {i:Nat},i∈l->l[idx l i]? =some i
 | [],i,h=>by cases h
 |x::xs,i,h=>by
  unfold idx
  cases hb:Nat.beq x i with
  |true=>
   have:x=i:=by simpa using hb
   simp[this]
  |false=>
   have hne:x≠i:=fun h=>by simp[h]at hb
   simp only[cond_false,List.getElem?_cons_succ]
   exact uU ((List.mem_cons.1 h).resolve_left fun h=>hne h.symm)
theorem Xc: ∀ {l:List Nat} {j i:Nat},Rq l=true->l[j]? =some i->idx l i=j
 | [],j,i,_,h=>by simp at h
 |x::xs,j,i,ho,h=>by
  simp only[Rq,Bool.and_eq_true,Bool.not_eq_true']at ho
  unfold idx
  cases j with
  |zero=>simp at h;subst h;simp
  |succ j=>
   simp at h
   have hmem:i∈xs:=List.mem_of_getElem? h
   have hne:x≠i:=fun e=>by subst e;have:=TJ.2 hmem;rw[ho.1]at this;cases this
   have hb:Nat.beq x i=false:=by
    cases hb:Nat.beq x i with
    |true=>exact absurd (by simpa using hb) hne
    |false=>rfl
   rw[hb,cond_false,Xc ho.2 h]
mutual
theorem Xi (f:Nat->Nat): ∀(x:AV),x.Lm=true->x.ren f=x
 | .ms _ _,h=>by cases h
 | .LP _ _ _,h=>by cases h
 | .mp _ _ _,h=>by cases h
 | .PN _ _ _ _,h=>by cases h
 | .sd _ _,h=>by cases h
 | .agg cs,h=>by simp only[AV.Lm]at h;simp only[AV.ren,WL f cs h]
 | .GU vs,h=>by simp only[AV.Lm]at h;simp only[AV.ren,WL f vs h]
 | .fn g a b,h=>by simp only[AV.Lm,Bool.and_eq_true]at h;simp only[AV.ren,WL f a h.1,WL f b h.2]
 | .iface t v,h=>by simp only[AV.Lm]at h;simp only[AV.ren,Xi f v h]
 | .unk,_=>rfl
 | .bool _,_=>rfl
 | .int _ _,_=>rfl
 | .str _,_=>rfl
 | .Lf,_=>rfl
 | .PO,_=>rfl
 | .Ox,_=>rfl
 | .Tv _,_=>rfl
 | .Ye _,_=>rfl
 | .sl _ _ _,_=>rfl
 | .ip _ _,_=>rfl
 | .H8 _ _,_=>rfl
 | .err _,_=>rfl
theorem WL (f:Nat->Nat): ∀(l:List AV),RH l=true->ZC f l=l
 | [],_=>rfl
 |v::vs,h=>by simp only[RH,Bool.and_eq_true]at h;simp only[ZC,Xi f v h.1,WL f vs h.2]
end
theorem SY (f:Nat->Nat): ∀(l:List AV) (c:Nat),(ZC f l)[c]? =(l[c]?).map (AV.ren f)
 | [],c=>by simp[ZC]
 |v::vs,0=>by simp[ZC]
 |v::vs,c+1=>by simp only[ZC,List.getElem?_cons_succ];exact SY f vs c
theorem S9 (f:Nat->Nat): ∀(l:List AV),(ZC f l).length=l.length
 | []=>rfl
 |v::vs=>by simp[ZC,S9 f vs]
theorem Rel.rename {w:World} {cx BX:Cx} {A A':Nat->Prop} {f:Nat->Nat} {p:Nat->Bool} (hn: ∀b,b<w.heap.size-> ¬A b-> ¬A' b) (hmap: ∀(i:Nat) (e:Qr),p i=true->cx[i]? =some e->BX[f i]? =some e) {x:AV} {v:Value} (h:Rel w cx A x v) (hr:x.refs p=true):Rel w BX A' (x.ren f) v:=by
 induction h with
 |ms id n cap e he hnn hn' hcap htot hmax=>exact .ms _ n cap e (hmap _ _ hr he) hnn hn' hcap htot hmax
 |ms0 id e he hnn=>exact .ms0 _ e (hmap _ _ hr he) hnn
 |LP id off n cap o e he hnn hn' hcap hoff hmax=>exact .LP _ off n cap o e (hmap _ _ hr he) hnn hn' hcap hoff hmax
 |XK id e he hnn=>exact .XK _ e (hmap _ _ hr he) hnn
 |mp id i off e he hnn hi'=>exact .mp _ i off e (hmap _ _ hr he) hnn hi'
 |gH id i off=>exact .gH _ i off
 |gI id i off e he hnn hi'=>exact .gI _ i off e (hmap _ _ hr he) hnn hi'
 |sd id n a h=>exact .sd _ n a fun h0=>(h h0).imp fun e h=>⟨hmap _ _ hr h.1,h.2⟩
 |sl Fg n get a cap BU vals hnil hcap hmax hz hmem Gr hrel ih=>
  exact(Rel.sl Fg n get a cap BU vals hnil hcap hmax hz hmem Gr hrel).KY (Nat.le_refl _) (fun _ _ _=>rfl) hn rfl
 |ip e off b o vals Gr hA hb hmem hrel ih=>
  exact(Rel.ip e off b o vals Gr hA hb hmem hrel).KY (Nat.le_refl _) (fun _ _ _=>rfl) hn rfl
 |agg cs vs hl h1 hrel ih=>
  refine .agg _ vs (by rw[S9];exact hl) h1 fun c x v hx hv=>?_
  rw[SY]at hx
  obtain⟨y,hy,rfl⟩:=Option.map_eq_some_iff.1 hx
  exact ih c y v hy hv (Jw (by simpa[AV.refs]using hr) y (List.mem_of_getElem? hy))
 |GU cs vs hl hrel ih=>
  refine .GU _ vs (by rw[S9];exact hl) fun c x v hx hv=>?_
  rw[SY]at hx
  obtain⟨y,hy,rfl⟩:=Option.map_eq_some_iff.1 hx
  exact ih c y v hy hv (Jw (by simpa[AV.refs]using hr) y (List.mem_of_getElem? hy))
 |fn g a b a' b' hl hl' hrel hrel' ih ih'=>
  simp only[AV.refs,Bool.and_eq_true]at hr
  refine .fn g _ _ a' b' (by rw[S9];exact hl) (by rw[S9];exact hl') (fun c x v hx hv=>?_) fun c x v hx hv=>?_
  ·rw[SY]at hx
   obtain⟨y,hy,rfl⟩:=Option.map_eq_some_iff.1 hx
   exact ih c y v hy hv (Jw hr.1 y (List.mem_of_getElem? hy))
  ·rw[SY]at hx
   obtain⟨y,hy,rfl⟩:=Option.map_eq_some_iff.1 hx
   exact ih' c y v hy hv (Jw hr.2 y (List.mem_of_getElem? hy))
 |iface t x v hrel ih=>exact .iface t _ v (ih (by simpa[AV.refs]using hr))
 |unk v=>exact .unk v
 |bool b=>exact .bool b
 |int k n=>exact .int k n
 |str s=>exact .str s
 |Lf=>exact .Lf
 |PO=>exact .PO
 |Ox=>exact .Ox
 |Tv b=>exact .Tv b
 |Ye a=>exact .Ye a
 |H8 k l=>exact .H8 k l
 |Wp=>exact .Wp
 |UE g t a hA hb hm=>exact .UE g t a (hn g hb hA) hb hm
 |Ve t n e b o v hA hb h0 h1 hrel ih=>exact .Ve t n e b o v (hn b hb hA) hb h0 h1 (ih rfl)
def Vb (ps:List Nat) (x y:AV):Prop:=x.refs (yQ ps)=true/\(x.ren (idx ps)).Le y
def FZ (ps:List Nat):List AV->List AV->Prop
 | [],[]=>True
 |x::xs,y::ys=>Vb ps x y/\FZ ps xs ys
 |_,_=>False
theorem Wm {ps:List Nat} : ∀ {xs ys:List AV},FZ ps xs ys->xs.length=ys.length/\ ∀(c:Nat) (y:AV),ys[c]? =some y-> ∃x,xs[c]? =some x/\Vb ps x y
 | [],[],_=>⟨rfl,fun c y h=>by simp at h⟩
 |x::xs,y::ys,h=>by
  obtain⟨h1,h2⟩:=Wm h.2
  refine⟨by simp[h1],fun c z hz=>?_⟩
  cases c with
  |zero=>simp at hz;subst hz;exact⟨x,by simp,h.1⟩
  |succ c=>exact h2 c z (by simpa using hz)
 | [],_::_,h=>h.elim
 |_::_,[],h=>h.elim
def VP (ps:List Nat) (r r':Row):Prop:=
 r'.len=r.len/\(r.ok->r'.ok)/\ ∀i,i<r.len->(r'.get i).A9=(r.get i).A9/\ ∀(c:Nat) (y:AV),(r'.get i).cells[c]? =some y-> ∃x,(r.get i).cells[c]? =some x/\(r.ok->Vb ps x y)
theorem Yn {ps:List Nat} {x:AV} (h:x.Lm=true):Vb ps x x:=by
 refine⟨?_,?_⟩
 ·exact go.1 x h
 ·rw[Xi _ x h];exact AV.Le.refl x
where
 go:(∀x:AV,x.Lm=true->x.refs (yQ ps)=true)/\(∀l:List AV,RH l=true->Rt (yQ ps) l=true):=by
  refine⟨fun x=>?_,fun l=>?_⟩
  ·refine AV.rec (motive_1:=fun x=>x.Lm=true->x.refs (yQ ps)=true) (motive_2:=fun l=>RH l=true->Rt (yQ ps) l=true) ?_ ?_ ?_ ?_ ?_ ?_ ?_ ?_ ?_ ?_ ?_ ?_ ?_ ?_ ?_ ?_ ?_ ?_ ?_ ?_ ?_ ?_ ?_ ?_ x<;>intros<;>simp_all[AV.Lm,AV.refs,RH,Rt]
  ·refine AV.rec_1 (motive_1:=fun x=>x.Lm=true->x.refs (yQ ps)=true) (motive_2:=fun l=>RH l=true->Rt (yQ ps) l=true) ?_ ?_ ?_ ?_ ?_ ?_ ?_ ?_ ?_ ?_ ?_ ?_ ?_ ?_ ?_ ?_ ?_ ?_ ?_ ?_ ?_ ?_ ?_ ?_ l<;>intros<;>simp_all[AV.Lm,AV.refs,RH,Rt]
theorem rE {ps:List Nat} {r r':Row} (hl:r'.len=r.len) (hok:r.ok->r'.ok) (Gr:r.ok-> ∀i,i<r.len->(r.get i).Lm=true) (h: ∀i,i<r.len->r'.get i=r.get i):VP ps r r':=by
 refine⟨hl,hok,fun i hi=>⟨by rw[h i hi],fun c y hy=>?_⟩⟩
 rw[h i hi]at hy
 exact⟨y,hy,fun ho=>Yn (AV.J3 (Gr ho i hi) hy)⟩
theorem Tg {ps:List Nat} {r:Row} (Gr:r.ok-> ∀i,i<r.len->(r.get i).Lm=true):VP ps r r:=rE rfl id Gr fun _ _=>rfl
theorem l9 {ps:List Nat} {k:IntKind} {l l':List Int} (h:l=l'):VP ps (.ints k l) (.ints k l'):=by subst h;exact Tg fun _ _ _=>rfl
theorem AbJ {ps:List Nat} {l l':List ByteArray} (h:l=l'):VP ps (.strs l) (.strs l'):=by subst h;exact Tg fun _ _ _=>rfl
theorem zQ {ps:List Nat} {l l':List Bool} (h:l=l'):VP ps (.bools l) (.bools l'):=by subst h;exact Tg fun _ _ _=>rfl
theorem l8 {ps:List Nat} {l:List AV} {n':Nat} {g':Nat->AV} (hn:n'=l.length) (h: ∀i,i<l.length->g' i=l.getD i .unk):VP ps (.Sg l) (.Y6 n' g'):=by
 subst hn
 have hm: ∀i,i<l.length->l.getD i .unk∈l:=fun i hi=>by
  simp only[List.getD,List.getElem?_eq_getElem hi,Option.getD_some]
  exact List.getElem_mem hi
 exact rE rfl (fun ho j hj=>by rw[h j hj];exact ho _ (hm j hj)) (fun ho i hi=>ho _ (hm i hi)) h
def Lc (ps:List Nat):List AV->List AV->Prop
 | [],[]=>True
 |x::xs,y::ys=>FZ ps x.cells y.cells/\Lc ps xs ys
 |_,_=>False
theorem nK {ps:List Nat} : ∀ {xs ys:List AV},Lc ps xs ys->xs.length=ys.length/\ ∀i,i<xs.length->FZ ps (xs.getD i .unk).cells (ys.getD i .unk).cells
 | [],[],_=>⟨rfl,fun i h=>absurd h (Nat.not_lt_zero _)⟩
 |x::xs,y::ys,h=>by
  obtain⟨h1,h2⟩:=nK h.2
  refine⟨by simp[h1],fun i hi=>?_⟩
  cases i with
  |zero=>exact h.1
  |succ i=>exact h2 i (by simpa using hi)
 | [],_::_,h=>h.elim
 |_::_,[],h=>h.elim
theorem Qp {ps:List Nat} {l l':List AV} (h:Lc ps l l'):VP ps (.vals l) (.vals l'):=by
 obtain⟨h1,h2⟩:=nK h
 refine⟨h1.symm,fun _=>trivial,fun i hi=>?_⟩
 obtain⟨g1,g2⟩:=Wm (h2 i hi)
 refine⟨by show(l'.getD i .unk).A9=(l.getD i .unk).A9;rw[<- AV.Db,<- AV.Db,g1],fun c y hy=>?_⟩
 obtain⟨x,hx,hxy⟩:=g2 c y hy
 exact⟨x,hx,fun _=>hxy⟩
def VO (ps:List Nat) (o o':E8):Prop:=o'.BU=o.BU/\o'.ety=o.ety/\(o.ro=true->o'.ro=true)/\(o.mb=true->o'.mb=true)/\VP ps o.row o'.row
def FD (ps:List Nat) (s:Store):List Nat->Store->Prop
 | [],[]=>True
 |_::is,none::os=>FD ps s is os
 |i::is,some o'::os=>(match s[i]? with|some (some o)=>VO ps o o'|_=>False)/\FD ps s is os
 |_,_=>False
theorem Ug {ps:List Nat} {s:Store} : ∀ {is:List Nat} {os:Store},FD ps s is os->is.length=os.length/\ ∀(j:Nat) (o':E8),os[j]? =some (some o')-> ∃i o,is[j]? =some i/\s[i]? =some (some o)/\VO ps o o'
 | [],[],_=>⟨rfl,fun j o' h=>by simp at h⟩
 |i::is,none::os,h=>by
  obtain⟨h1,h2⟩:=Ug (is:=is) (os:=os) h
  refine⟨by simp[h1],fun j o' hj=>?_⟩
  cases j with
  |zero=>simp at hj
  |succ j=>exact h2 j o' (by simpa using hj)
 |i::is,some o1::os,h=>by
  obtain⟨hq,h⟩:=h
  obtain⟨h1,h2⟩:=Ug (is:=is) (os:=os) h
  refine⟨by simp[h1],fun j o' hj=>?_⟩
  cases j with
  |zero=>
   simp at hj
   subst hj
   split at hq
   ·rename_i o ho;exact⟨i,o,rfl,ho,hq⟩
   ·exact hq.elim
  |succ j=>exact h2 j o' (by simpa using hj)
 | [],_::_,h=>by cases ‹Option E8› <;>exact h.elim
 |_::_,[],h=>h.elim
def Kt (ps:List Nat) (t:List AV):List (Nat×AV)->Prop
 | []=>True
 |(i,v)::r=>Vb ps (t.getD i .unk) v/\Kt ps t r
theorem mQ {ps:List Nat} {t:List AV} : ∀(kv:List (Nat×AV)),Kt ps t kv-> ∀j,look kv j=.unk∨Vb ps (t.getD j .unk) (look kv j)
 | [],_,_=>.inl rfl
 |(i,v)::r,h,j=>by
  simp only[look]
  split
  ·rename_i hb
   have:i=j:=Nat.eq_of_beq_eq_true hb
   subst this
   exact .inr h.1
  ·exact mQ r h.2 j
def aK:Nat->List Nat->Bool
 |0,_=>true
 |m+1,ps=>aK m ps&&(match ps[m]? with|some i=>Nat.beq i m|none=>false)
theorem jN: ∀ {m:Nat} {ps:List Nat},aK m ps=true-> ∀i,i<m->ps[i]? =some i
 |0,ps,_,i,hi=>absurd hi (Nat.not_lt_zero _)
 |m+1,ps,h,i,hi=>by
  simp only[aK,Bool.and_eq_true]at h
  by_cases e:i=m
  ·subst e
   have h2:=h.2
   split at h2
   ·rename_i k hk
    have:k=i:=by simpa using h2
    subst this
    exact hk
   ·cases h2
  ·exact jN h.1 i (by omega)
theorem WX {m n:Nat} {t:List AV} {s s':Store} {kv:List (Nat×AV)} (ps:List Nat) (hq:(Rq ps&&ps.all (fun i=>Nat.blt i s.length)&&aK m ps)=true) (hn:t.length=n) (hs:FD ps s ps s') (h:Kt ps t kv):Weak m ⟨t,s⟩ (BS n kv s'):=by
 intro L V w cx a R
 simp only[Bool.and_eq_true,List.all_eq_true]at hq
 obtain⟨⟨kF,hlt⟩,Abi⟩:=hq
 have Abi:=jN Abi
 have hlt: ∀i∈ps,i<s.length:=fun i hi=>by simpa using hlt i hi
 obtain⟨hlen,Uo⟩:=Ug hs
 have S:=R.st
 have S:Bj L V w cx s:=S
 let BX:Cx:=ps.map fun i=>cx.getD i ⟨0,0,0,0,true⟩
 have hcx: ∀(j:Nat) (e:Qr),BX[j]? =some e-> ∃i,ps[j]? =some i/\cx[i]? =some e:=fun j e h=>by
  simp only[BX,List.getElem?_map,Option.map_eq_some_iff]at h
  obtain⟨i,hi,he⟩:=h
  refine⟨i,hi,?_⟩
  have:i<cx.length:=by rw[S.len];exact hlt i (List.mem_of_getElem? hi)
  rw[List.getElem?_eq_getElem this]
  simp only[List.getD,List.getElem?_eq_getElem this,Option.getD_some]at he
  rw[he]
 have hmap: ∀(i:Nat) (e:Qr),yQ ps i=true->cx[i]? =some e->BX[idx ps i]? =some e:=fun i e hp he=>by
  have:=uU (TJ.1 hp)
  simp only[BX,List.getElem?_map,this,Option.map_some,List.getD,he,Option.getD_some]
 have hinj: ∀(j j' i:Nat),ps[j]? =some i->ps[j']? =some i->j=j':=fun j j' i h1 h2=>by rw[<- Xc kF h1,<- Xc kF h2]
 have hwr: ∀b,Wr BX s' b->Wr cx s b:=fun b ⟨j,e,o',he,ho',hr,hnn,hb⟩=>by
  obtain⟨i,hi,he⟩:=hcx j e he
  obtain⟨i',o,hi',ho,l1,l2,l3,l4,l5⟩:=Uo j o' ho'
  rw[hi]at hi'
  cases hi'
  refine⟨i,e,o,he,ho,?_,hnn,hb⟩
  cases hor:o.ro with
  |false=>rfl
  |true=>rw[l3 hor]at hr;cases hr
 have hav: ∀b,b<w.heap.size-> ¬Av V cx s b-> ¬Av V BX s' b:=fun b _ hA hA'=>hA (hA'.imp (fun h=>h) (hwr b))
 refine⟨BX,⟨rfl,rfl,rfl,Nat.le_refl _,fun _ _ _=>rfl,hav,fun b _ hA hA'=>hA (hwr b hA'),fun i e hi he=>?_⟩,⟨S.low,by simp[BX,hlen,BS],fun j e o' he ho' hnn=>?_,fun j e o' he ho' hnn=>?_,fun j e o' he ho' hmb=>?_,fun j e o' he ho' hnn=>?_,fun j j' ej ej' oj oj' uO AjK hoj Aj0 dO AjZ hne nQ=>?_,S.glob.move (Nat.le_refl _) (fun _ _ _=>rfl) hav⟩,by rw[R.size];simp only[BS,AcG,hn],R.defers,fun i x hx=>?_⟩
 ·simp only[BX,List.getElem?_map,Abi i hi,Option.map_some,List.getD,he,Option.getD_some]
 ·obtain⟨i,hi,he⟩:=hcx j e he
  obtain⟨i',o,hi',ho,l1,l2,l3,l4,l5,l6,l7⟩:=Uo j o' ho'
  rw[hi]at hi'
  cases hi'
  obtain⟨cur,RO⟩:=S.obj i e o he ho hnn
  refine⟨cur,by rw[l2];obtain⟨fz,p,q⟩:=RO.hp;exact⟨fz,p,fun h=>q (by cases hr:o.ro with|false=>rfl|true=>(rw[l3 hr]at h;cases h))⟩,RO.tot,by rw[l1];exact RO.BU,by rw[l5];exact RO.len,l6 RO.ok,RO.fits,fun k hk=>?_,fun k c y hk hy=>?_⟩
  ·rw[(l7 k (by rw[<- RO.len];exact hk)).1,l1];exact RO.size k hk
  ·obtain⟨x,hx,hxy⟩:=(l7 k (by rw[<- RO.len];exact hk)).2 c y hy
   obtain⟨u,h1,h2,h3⟩:=RO.cells k c x hk hx
   obtain⟨g1,g2⟩:=hxy RO.ok
   exact⟨u,h1,h2,g2 _ _ _ _ (h3.rename hav hmap g1)⟩
 ·obtain⟨i,hi,he⟩:=hcx j e he
  obtain⟨i',o,hi',ho,l1,l2,l3,l4,l5,l6,l7⟩:=Uo j o' ho'
  rw[hi]at hi'
  cases hi'
  obtain⟨v1,v2,v3,v4⟩:=S.gM i e o he ho hnn
  exact⟨by rw[l5];exact v1,l6 v2,l4 v3,by rw[l1];exact v4⟩
 ·obtain⟨i,hi,he⟩:=hcx j e he
  obtain⟨i',o,hi',ho,l1,l2,l3,l4,l5⟩:=Uo j o' ho'
  rw[hi]at hi'
  cases hi'
  refine S.may i e o he ho ?_
  cases hm:o.mb with
  |false=>rfl
  |true=>rw[l4 hm]at hmb;cases hmb
 ·obtain⟨i,hi,he⟩:=hcx j e he
  obtain⟨i',o,hi',ho,_⟩:=Uo j o' ho'
  rw[hi]at hi'
  cases hi'
  exact S.apart i e o he ho hnn
 ·obtain⟨i,hi,he⟩:=hcx j ej uO
  obtain⟨i1,o1,hi1,ho1,_,_,r1,_⟩:=Uo j oj hoj
  rw[hi]at hi1
  cases hi1
  obtain⟨i',hi',he'⟩:=hcx j' ej' AjK
  obtain⟨i2,o2,hi2,ho2,_,_,r2,_⟩:=Uo j' oj' Aj0
  rw[hi']at hi2
  cases hi2
  refine S.inj i i' ej ej' o1 o2 he he' ho1 ho2 dO AjZ (fun e=>by subst e;exact hne (hinj j j' i hi hi')) (nQ.imp (fun h=>?_) fun h=>?_)
  ·cases hr:o1.ro with
   |false=>rfl
   |true=>rw[r1 hr]at h;cases h
  ·cases hr:o2.ro with
   |false=>rfl
   |true=>rw[r2 hr]at h;cases h
 ·obtain⟨h1,h2⟩:=AcF kv n 0 i x hx
  rw[Nat.zero_add]at h1
  rcases mQ kv h i with h3|h3
  ·rw[h1,h3];exact .unk _
  ·have hi:i<t.length:=by omega
   have hr:=R.tmps i (t.getD i .unk) (by simp[List.getD_eq_getElem?_getD,hi])
   rw[h1]
   exact h3.2 _ _ _ _ (hr.rename hav hmap h3.1)
end Go.SE
