import Derived.Test.YtkeokkmhhhhoiaaGreatDoorSe22
namespace Go.SE
open Go
set_option linter.unusedVariables false
variable {L:Laid}
set_option linter.unusedSimpArgs false
mutual
theorem lV: ∀(x:AV),x.refs (fun _=>true)=true
 | .ms _ _=>rfl
 | .LP _ _ _=>rfl
 | .mp _ _ _=>rfl
 | .PN _ _ _ _=>rfl
 | .sd _ _=>rfl
 | .agg cs=>UO cs
 | .GU cs=>UO cs
 | .fn g a b=>by simp only[AV.refs,UO a,UO b,Bool.and_self]
 | .iface t v=>lV v
 | .unk=>rfl
 | .bool _=>rfl
 | .int _ _=>rfl
 | .str _=>rfl
 | .Lf=>rfl
 | .PO=>rfl
 | .Ox=>rfl
 | .Tv _=>rfl
 | .Ye _=>rfl
 | .sl _ _ _=>rfl
 | .ip _ _=>rfl
 | .H8 _ _=>rfl
 | .err _=>rfl
theorem UO: ∀(l:List AV),Rt (fun _=>true) l=true
 | []=>rfl
 |x::xs=>by simp only[Rt,lV x,UO xs,Bool.and_self]
end
def Abx (ids:List Nat) (n:Nat) (k:Nat):Nat:=bif Nat.blt k ids.length then ids.getD k 0 else n+(k-ids.length)
def Vp (s:Store):List Nat->Store
 | []=>s
 |i::is=>Vp (s.set i none) is
theorem dR: ∀(is:List Nat) (s:Store),(Vp s is).length=s.length
 | [],s=>rfl
 |i::is,s=>by rw[Vp,dR is,List.length_set]
theorem dQ: ∀(is:List Nat) (s:Store) (i:Nat) (o:E8),(Vp s is)[i]? =some (some o)->s[i]? =some (some o)/\i∉is
 | [],s,i,o,h=>⟨h,by simp⟩
 |j::is,s,i,o,h=>by
  obtain⟨h1,h2⟩:=dQ is _ i o h
  rw[List.getElem?_set]at h1
  split at h1
  ·split at h1<;>cases h1
  ·rename_i hne
   exact⟨h1,by simp only[List.mem_cons,not_or];exact⟨fun e=>hne e.symm,h2⟩⟩
def o9 (f:Nat->Nat):Option E8->Option E8
 |some o=>some { o with row:=o.row.ren f }
 |none=>none
def zN (f:Nat->Nat):Store->Store
 | []=> []
 |o::os=>o9 f o::zN f os
def KP (f:Nat->Nat):List Nat->Store->Store->Store
 | [],os,s=>s++zN f os
 |i::is,o::os,s=>KP f is os (s.set i (o9 f o))
 |_::_,[],s=>s
theorem zP (f:Nat->Nat): ∀(os:Store),(zN f os).length=os.length
 | []=>rfl
 |_::os=>by simp only[zN,List.length_cons,zP f os]
theorem zO (f:Nat->Nat): ∀(os:Store) (k:Nat),(zN f os)[k]? =(os[k]?).map (o9 f)
 | [],k=>by simp[zN]
 |o::os,0=>by simp[zN]
 |o::os,k+1=>by simp only[zN,List.getElem?_cons_succ,zO f os k]
theorem dW (f:Nat->Nat): ∀(ids:List Nat) (os s:Store),ids.length<=os.length->(KP f ids os s).length=s.length+(os.length-ids.length)
 | [],os,s,_=>by simp[KP,zP]
 |i::is,o::os,s,h=>by
  simp only[List.length_cons]at h
  rw[KP,dW f is os _ (by omega)]
  simp
 |_::_,[],s,h=>by simp at h
theorem Us (f:Nat->Nat): ∀(ids:List Nat) (os s:Store) (i:Nat),ids.length<=os.length->i<s.length->i∉ids->(KP f ids os s)[i]? =s[i]?
 | [],os,s,i,_,hi,_=>by rw[KP,List.getElem?_append_left hi]
 |j::is,o::os,s,i,h,hi,hm=>by
  simp only[List.length_cons]at h
  have hne:j≠i:=fun e=>hm (by simp[e])
  rw[KP,Us f is os _ i (by omega) (by simpa using hi) (fun e=>hm (by simp[e])),List.getElem?_set,if_neg hne]
 |_::_,[],s,i,h,_,_=>by simp at h
theorem Zh (f:Nat->Nat): ∀(ids:List Nat) (os s:Store) (k i:Nat),Rq ids=true->ids.length<=os.length->(∀i∈ids,i<s.length)->ids[k]? =some i->(KP f ids os s)[i]? =(os[k]?).map (o9 f)
 | [],os,s,k,i,_,_,_,hk=>by simp at hk
 |j::is,o::os,s,k,i,ho,h,hl,hk=>by
  simp only[List.length_cons]at h
  simp only[Rq,Bool.and_eq_true,Bool.not_eq_true']at ho
  cases k with
  |zero=>
   simp at hk
   subst hk
   have hni:j∉is:=fun hm=>by have:=TJ.2 hm;rw[ho.1]at this;cases this
   have hj:j<s.length:=hl j (by simp)
   rw[KP,Us f is os _ j (by omega) (by simpa using hj) hni,List.getElem?_set,if_pos rfl,if_pos hj]
   simp
  |succ k=>
   simp at hk
   rw[KP,Zh f is os _ k i ho.2 (by omega) (fun x hx=>by simpa using hl x (by simp[hx])) hk]
   simp
 |_::_,[],s,k,i,_,h,_,_=>by simp at h
theorem dX (f:Nat->Nat): ∀(ids:List Nat) (os s:Store) (k:Nat),ids.length<=os.length->(KP f ids os s)[s.length+k]? =(os[ids.length+k]?).map (o9 f)
 | [],os,s,k,_=>by
   rw[KP,List.getElem?_append_right (by omega),zO]
   simp
 |j::is,o::os,s,k,h=>by
  simp only[List.length_cons]at h
  have:=dX f is os (s.set j (o9 f o)) k (by omega)
  simp only[List.length_set]at this
  rw[KP,this]
  rw[show(j::is).length+k=(is.length+k)+1 from by simp;omega,List.getElem?_cons_succ]
 |_::_,[],s,k,h=>by simp at h
theorem AcK {f:Nat->Nat} {r:Row} :(r.ren f).len=r.len/\(r.ok->(r.ren f).ok):=by
 cases r with
 |vals l=>exact⟨by simp[Row.ren,Row.len,S9],fun _=>trivial⟩
 |_=>exact⟨rfl,id⟩
theorem eO {f:Nat->Nat} {r:Row} (hok:r.ok) {i:Nat} (hi:i<r.len):(r.ren f).get i=(r.get i).ren f:=by
 cases r with
 |vals l=>
  simp only[Row.len]at hi
  simp only[Row.ren,Row.get,List.getD,SY,List.getElem?_eq_getElem hi,Option.map_some,Option.getD_some]
 |Sg l=>
  simp only[Row.len]at hi
  simp only[Row.ren,Row.get]
  refine(Xi f _ (hok _ ?_)).symm
  simp only[List.getD,List.getElem?_eq_getElem hi,Option.getD_some]
  exact List.getElem_mem hi
 |Y6 n g=>simp only[Row.ren,Row.get];exact(Xi f _ (hok i hi)).symm
 |ints k l=>rfl
 |strs l=>rfl
 |bools l=>rfl
theorem rA (f:Nat->Nat) (x:AV) (c:Nat):(x.ren f).A9=x.A9/\((x.ren f).cells)[c]? =(x.cells[c]?).map (AV.ren f):=by
 cases x with
 |agg cs=>exact⟨by simp[AV.ren,AV.A9,S9],by simp only[AV.ren,AV.cells,SY]⟩
 |GU cs=>exact⟨rfl,by cases c<;>simp[AV.ren,AV.cells]⟩
 |H8 k l=>
  refine⟨rfl,?_⟩
  simp only[AV.ren,AV.cells,List.getElem?_map,Option.map_map]
  rfl
 |_=>exact⟨rfl,by cases c<;>simp[AV.ren,AV.cells]⟩
theorem qY: ∀(l:List Nat) (m:Nat),Rq l=true->Rq (l.take m)=true
 | [],m,_=>by simp[Rq]
 |x::xs,0,_=>rfl
 |x::xs,m+1,h=>by
  simp only[Rq,Bool.and_eq_true,Bool.not_eq_true']at h
  simp only[List.take_succ_cons,Rq,Bool.and_eq_true,Bool.not_eq_true',qY xs m h.2,and_true]
  cases hb:yQ (xs.take m) x with
  |false=>rfl
  |true=>
   have:=List.mem_of_mem_take (TJ.1 hb)
   rw[TJ.2 this]at h
   cases h.1
theorem WH {m:Nat} {P:PL} {g:FuncId} {args args':List AV} {s objs Dz:Store} {r:AV} (ids:List Nat) (hC:Bc m P g args' objs r Dz) (hq:(Rq ids&&ids.all (fun i=>Nat.blt i s.length))=true)
  (hs:FD ids s ids objs) (ha:FZ ids args args') (hle:(Nat.ble m Dz.length&&Nat.ble m ids.length)=true):
  Contract P g args s (r.ren (Abx (ids.take m) s.length)) (KP (Abx (ids.take m) s.length) (ids.take m) Dz (Vp s (ids.drop m))):=by
 obtain⟨hfn,hC⟩:=hC
 refine⟨hfn,fun V w cx vs S hlen R=>?_⟩
 simp only[Bool.and_eq_true,List.all_eq_true]at hq
 obtain⟨kF,hlt⟩:=hq
 have hlt: ∀i∈ids,i<s.length:=fun i hi=>by simpa using hlt i hi
 simp only[Bool.and_eq_true]at hle
 have hmi:m<=ids.length:=by simpa using hle.2
 have hle:m<=Dz.length:=by simpa using hle.1
 have hlm:(ids.take m).length=m:=by rw[List.length_take];omega
 have htd: ∀i,i∈ids->i∈ids.take m∨i∈ids.drop m:=fun i hi=>by rw[<- List.take_append_drop m ids]at hi;exact List.mem_append.1 hi
 have hsub: ∀i,i∈ids.take m->i∈ids:=fun i hi=>List.mem_of_mem_take hi
 obtain⟨hlo,Uo⟩:=Ug hs
 obtain⟨hla,hargs⟩:=Wm ha
 let PU:Cx:=ids.map fun i=>cx.getD i ⟨0,0,0,0,true⟩
 have hcx: ∀(j:Nat) (e:Qr),PU[j]? =some e-> ∃i,ids[j]? =some i/\cx[i]? =some e:=fun j e h=>by
  simp only[PU,List.getElem?_map,Option.map_eq_some_iff]at h
  obtain⟨i,hi,he⟩:=h
  refine⟨i,hi,?_⟩
  have:i<cx.length:=by rw[S.len];exact hlt i (List.mem_of_getElem? hi)
  rw[List.getElem?_eq_getElem this]
  simp only[List.getD,List.getElem?_eq_getElem this,Option.getD_some]at he
  rw[he]
 have hmap: ∀(i:Nat) (e:Qr),yQ ids i=true->cx[i]? =some e->PU[idx ids i]? =some e:=fun i e hp he=>by
  have:=uU (TJ.1 hp)
  simp only[PU,List.getElem?_map,this,Option.map_some,List.getD,he,Option.getD_some]
 have hinj: ∀(j j' i:Nat),ids[j]? =some i->ids[j']? =some i->j=j':=fun j j' i h1 h2=>by rw[<- Xc kF h1,<- Xc kF h2]
 have hl1:PU.length=objs.length:=by simp[PU,hlo]
 let V1:Nat->Prop:=fun b=>V b∨ ∃(i:Nat) (e:Qr) (o:E8),i∉ids/\cx[i]? =some e/\s[i]? =some (some o)/\o.ro=false/\e.Fg=false/\e.b=b
 have iB: ∀ {o o':E8},VO ids o o'->o'.ro=false->o.ro=false:=fun {o o'} h hr=>by
  cases hor:o.ro with
  |false=>rfl
  |true=>rw[h.2.2.1 hor]at hr;cases hr
 have hwr: ∀b,Wr PU objs b->Wr cx s b:=fun b ⟨j,e,o',he,ho',hr,hnn,hb⟩=>by
  obtain⟨i,hi,he⟩:=hcx j e he
  obtain⟨i',o,hi',ho,hL⟩:=Uo j o' ho'
  rw[hi]at hi'
  cases hi'
  exact⟨i,e,o,he,ho,iB hL hr,hnn,hb⟩
 have Anh: ∀b,Av V1 PU objs b->Av V cx s b:=fun b hb=>by
  rcases hb with (hb|⟨i,e,o,_,he,ho,hr,hn,hb⟩)|hb
  ·exact .inl hb
  ·exact .inr ⟨i,e,o,he,ho,hr,hn,hb⟩
  ·exact .inr (hwr b hb)
 have hav: ∀b,b<w.heap.size-> ¬Av V cx s b-> ¬Av V1 PU objs b:=fun b _ hA hA'=>hA (Anh b hA')
 have S1:Bj P.laid V1 w PU objs:=by
  refine⟨fun b hb=>?_,hl1,fun j e o' he ho' hnn=>?_,fun j e o' he ho' hnn=>?_,fun j e o' he ho' hmb=>?_,fun j e o' he ho' hnn=>?_,fun j j' ej ej' oj oj' uO AjK hoj Aj0 dO AjZ hne nQ=>?_,S.glob.move (Nat.le_refl _) (fun _ _ _=>rfl) hav⟩
  ·rcases hb with hb|⟨i,e,o,_,he,ho,hr,hn,hb⟩
   ·exact S.low b hb
   ·exact Wr.lt S ⟨i,e,o,he,ho,hr,hn,hb⟩
  ·obtain⟨i,hi,he⟩:=hcx j e he
   obtain⟨i',o,hi',ho,l1,l2,l3,l4,l5,l6,l7⟩:=Uo j o' ho'
   rw[hi]at hi'
   cases hi'
   obtain⟨cur,RO⟩:=S.obj i e o he ho hnn
   refine⟨cur,by rw[l2];obtain⟨fz,p,q⟩:=RO.hp;exact⟨fz,p,fun h=>q (by cases hr:o.ro with|false=>rfl|true=>(rw[l3 hr]at h;cases h))⟩,RO.tot,by rw[l1];exact RO.BU,by rw[l5];exact RO.len,l6 RO.ok,RO.fits,fun k hk=>?_,fun k c y hk hy=>?_⟩
   ·rw[(l7 k (by rw[<- RO.len];exact hk)).1,l1];exact RO.size k hk
   ·obtain⟨x,hx,hxy⟩:=(l7 k (by rw[<- RO.len];exact hk)).2 c y hy
    obtain⟨u,h1,h2,h3⟩:=RO.cells k c x hk hx
    obtain⟨g1,g2⟩:=hxy RO.ok
    exact⟨u,h1,h2,g2 _ _ _ _ (h3.rename hav hmap g1)⟩
  ·obtain⟨i,hi,he⟩:=hcx j e he
   obtain⟨i',o,hi',ho,l1,l2,l3,l4,l5,l6,l7⟩:=Uo j o' ho'
   rw[hi]at hi'
   cases hi'
   obtain⟨v1,v2,v3,v4⟩:=S.gM i e o he ho hnn
   exact⟨by rw[l5];exact v1,l6 v2,l4 v3,by rw[l1];exact v4⟩
  ·obtain⟨i,hi,he⟩:=hcx j e he
   obtain⟨i',o,hi',ho,l1,l2,l3,l4,l5⟩:=Uo j o' ho'
   rw[hi]at hi'
   cases hi'
   refine S.may i e o he ho ?_
   cases hm:o.mb with
   |false=>rfl
   |true=>rw[l4 hm]at hmb;cases hmb
  ·obtain⟨i,hi,he⟩:=hcx j e he
   obtain⟨i',o,hi',ho,hL⟩:=Uo j o' ho'
   rw[hi]at hi'
   cases hi'
   rintro(hb|⟨i2,e2,o2,hn2,he2,ho2,hr2,Anr,hb⟩)
   ·exact S.apart i e o he ho hnn hb
   ·exact S.inj i2 i e2 e o2 o he2 he ho2 ho Anr hnn (fun h=>hn2 (h▸List.mem_of_getElem? hi)) (.inl hr2) hb
  ·obtain⟨i,hi,he⟩:=hcx j ej uO
   obtain⟨i1,o1,hi1,ho1,L1⟩:=Uo j oj hoj
   rw[hi]at hi1
   cases hi1
   obtain⟨i',hi',he'⟩:=hcx j' ej' AjK
   obtain⟨i2,o2,hi2,ho2,L2⟩:=Uo j' oj' Aj0
   rw[hi']at hi2
   cases hi2
   exact S.inj i i' ej ej' o1 o2 he he' ho1 ho2 dO AjZ (fun e=>by subst e;exact hne (hinj j j' i hi hi')) (nQ.imp (iB L1) (iB L2))
 refine(hC V1 w PU vs S1 (by omega) fun i y v hy hv=>?_).mono ?_
 ·obtain⟨x,hx,g1,g2⟩:=hargs i y hy
  exact g2 _ _ _ _ ((R i x v hx hv).rename hav hmap g1)
 rintro e0 w' ⟨v,oK,he0,E1,S1',R1⟩
 have hl2:oK.length=Dz.length:=S1'.len
 let f:=Abx (ids.take m) s.length
 let s0:=Vp s (ids.drop m)
 have hs0:s0.length=s.length:=dR _ _
 let s':=KP f (ids.take m) Dz s0
 let BX:Cx:=cx++oK.drop m
 have hf1: ∀(k i:Nat),(ids.take m)[k]? =some i->f k=i:=fun k i h=>by
  have hk:k<(ids.take m).length:=(List.getElem?_eq_some_iff.1 h).1
  have hb:Nat.blt k (ids.take m).length=true:=by simpa using hk
  simp only[f,Abx,hb,cond_true,List.getD,h,Option.getD_some]
 have hf2: ∀(k:Nat),m<=k->f k=s.length+(k-m):=fun k h=>by
  have hb:Nat.blt k (ids.take m).length=false:=by
   cases hb:Nat.blt k (ids.take m).length with
   |false=>rfl
   |true=>have:k<(ids.take m).length:=by simpa using hb
          omega
  rw[hlm]at hb
  simp only[f,Abx,hlm,hb,cond_false]
 have hlen':BX.length=s'.length:=by
  simp only[BX,s',List.length_append,List.length_drop,dW f (ids.take m) Dz s0 (by omega),hl2,S.len,hlm,hs0]
 have Acm: ∀(i:Nat) (e:Qr),cx[i]? =some e->BX[i]? =some e:=fun i e h=>by
  have:i<cx.length:=(List.getElem?_eq_some_iff.1 h).1
  simp only[BX,List.getElem?_append_left this,h]
 have yK: ∀(k:Nat) (e:Qr),(fun _=>true) k=true->oK[k]? =some e->BX[f k]? =some e:=fun k e _ he=>by
  by_cases hk:k<m
  ·have hi:ids[k]? =some (ids[k]'(by omega)):=List.getElem?_eq_getElem (by omega)
   rw[hf1 k (ids[k]'(by omega)) (by rw[List.getElem?_take,if_pos hk];exact hi)]
   have hk1:k<PU.length:=by rw[hl1,<- hlo];omega
   obtain⟨i,hi2,he2⟩:=hcx k PU[k] (List.getElem?_eq_getElem hk1)
   rw[hi]at hi2
   cases hi2
   have:=E1.cx k PU[k] hk (List.getElem?_eq_getElem hk1)
   rw[he]at this
   cases this
   exact Acm _ _ he2
  ·rw[hf2 k (by omega)]
   simp only[BX,<- S.len,List.getElem?_append_right (Nat.le_add_right _ _),Nat.add_sub_cancel_left,List.getElem?_drop]
   rw[show m+(k-m)=k from by omega]
   exact he
 have hback: ∀(i:Nat) (e:Qr) (o:E8),BX[i]? =some e->s'[i]? =some (some o)->(i∉ids/\i<s.length/\cx[i]? =some e/\s[i]? =some (some o))∨ ∃k o',i=f k/\oK[k]? =some e/\Dz[k]? =some (some o')/\o= { o' with row:=o'.row.ren f } :=fun i e o he ho=>by
  by_cases hi:i<s.length
  ·have hi0:i<s0.length:=by rw[hs0];exact hi
   have hic:i<cx.length:=by rw[S.len];exact hi
   have he2:cx[i]? =some e:=by simpa only[BX,List.getElem?_append_left hic]using he
   by_cases hm:i∈ids.take m
   ·right
    have hmem:=hsub i hm
    have hk:(ids.take m)[idx ids i]? =some i:=by
         obtain⟨k2,hk2⟩:=List.getElem?_of_mem hm
         have hk3:ids[k2]? =some i:=by
          rw[List.getElem?_take]at hk2
          split at hk2
          ·exact hk2
          ·cases hk2
         rw[Xc kF hk3];exact hk2
    have hot:Rq (ids.take m)=true:=qY ids m kF
    have hm1:=Zh f (ids.take m) Dz s0 (idx ids i) i hot (by omega) (fun x hx=>by rw[hs0];exact hlt x (hsub x hx)) hk
    have ho2:s'[i]? =(Dz[idx ids i]?).map (o9 f):=hm1
    rw[ho]at ho2
    have hkl:idx ids i<m:=by have:=(List.getElem?_eq_some_iff.1 hk).1;omega
    rw[List.getElem?_eq_getElem (by omega)]at ho2
    simp only[Option.map_some,Option.some.injEq]at ho2
    refine⟨idx ids i,?_⟩
    cases hq:Dz[idx ids i]'(by omega)with
    |none=>rw[hq]at ho2;cases ho2
    |some o'=>
     rw[hq]at ho2
     simp only[o9,Option.some.injEq]at ho2
     refine⟨o',(hf1 _ _ hk).symm,?_,by rw[List.getElem?_eq_getElem (by omega),hq],ho2⟩
     have:=hmap i e (TJ.2 hmem) he2
     exact E1.cx _ _ hkl this
   ·left
    have ho3:s0[i]? =some (some o):=by rw[<- ho];exact(Us f (ids.take m) Dz s0 i (by omega) hi0 hm).symm
    obtain⟨ho4,hnd⟩:=dQ _ _ i o ho3
    exact⟨fun h=>(htd i h).elim hm hnd,hi,he2,ho4⟩
  ·right
   have hs2:s'[s.length+(i-s.length)]? =(Dz[m+(i-s.length)]?).map (o9 f):=by
       have:=dX f (ids.take m) Dz s0 (i-s.length) (by omega)
       rw[hs0,hlm]at this
       exact this
   rw[show s.length+(i-s.length)=i from by omega,ho]at hs2
   have he2:oK[m+(i-s.length)]? =some e:=by
       have hic:cx.length<=i:=by rw[S.len];omega
       simp only[BX,List.getElem?_append_right hic,List.getElem?_drop,S.len]at he
       exact he
   have hkl:m+(i-s.length)<Dz.length:=by rw[<- hl2];exact(List.getElem?_eq_some_iff.1 he2).1
   rw[List.getElem?_eq_getElem hkl]at hs2
   simp only[Option.map_some,Option.some.injEq]at hs2
   refine⟨m+(i-s.length),?_⟩
   cases hq:Dz[m+(i-s.length)]with
   |none=>rw[hq]at hs2;cases hs2
   |some o'=>
    rw[hq]at hs2
    simp only[o9,Option.some.injEq]at hs2
    refine⟨o',?_,he2,by rw[List.getElem?_eq_getElem hkl,hq],hs2⟩
    rw[hf2 _ (by omega)]
    omega
 have AlP: ∀b,Wr BX s' b->(∃(i:Nat) (e:Qr) (o:E8),i∉ids/\cx[i]? =some e/\s[i]? =some (some o)/\o.ro=false/\e.Fg=false/\e.b=b)∨Wr oK Dz b:=fun b ⟨i,e,o,he,ho,hr,hn,hb⟩=>by
  rcases hback i e o he ho with ⟨hm,_,he2,ho2⟩|⟨k,o',hk,he2,ho2,rfl⟩
  ·exact .inl ⟨i,e,o,hm,he2,ho2,hr,hn,hb⟩
  ·exact .inr ⟨k,e,o',he2,ho2,hr,hn,hb⟩
 have Ali: ∀b,Av V BX s' b->Av V1 oK Dz b:=fun b hb=>by
  rcases hb with hb|hb
  ·exact .inl (.inl hb)
  ·rcases AlP b hb with hb|hb
   ·exact .inl (.inr hb)
   ·exact .inr hb
 have E:Ext s.length V w w' cx BX s s':=by
  refine⟨E1.os,E1.tape,E1.output,E1.size,fun b hb hA=>E1.keep b hb fun h=>hA (hwr b h),fun b hb hA hA'=>?_,fun b hb hA hA'=>?_,fun i e _ he=>Acm i e he⟩
  ·exact E1.now b hb (hav b hb hA) (Ali b hA')
  ·rcases AlP b hA' with ⟨i,e,o,_,he,ho,hr,hn,hb'⟩|h
   ·exact hA ⟨i,e,o,he,ho,hr,hn,hb'⟩
   ·exact E1.grow b hb (fun h=>hA (hwr b h)) h
 have AlA: ∀ {x:AV} {u:Value},Rel w' oK (Av V1 oK Dz) x u->Rel w' BX (Av V BX s') (x.ren f) u:=fun {x u} h=>
  h.rename (fun b _ hA hA'=>hA (Ali b hA')) yK (lV x)
 have lies: ∀(i:Nat) (e:Qr) (o:E8),i∉ids->cx[i]? =some e->s[i]? =some (some o)->e.Fg=false->e.b<w.heap.size/\ ¬Wr PU objs e.b:=fun i e o hm he ho hn=>by
  obtain⟨cur,RO⟩:=S.obj i e o he ho hn
  refine⟨RO.lt,fun⟨j,e2,o2',he2,Abk,hr2,hn2,hb2⟩=>?_⟩
  obtain⟨i2,hi2,he2⟩:=hcx j e2 he2
  obtain⟨i3,o2,hi3,ho2,L2⟩:=Uo j o2' Abk
  rw[hi2]at hi3
  cases hi3
  exact S.inj i2 i e2 e o2 o he2 he ho2 ho hn2 hn (fun h=>hm (h▸List.mem_of_getElem? hi2)) (.inl (iB L2 hr2)) hb2
 refine⟨v,BX,he0,E,?_,AlA R1⟩
 refine⟨fun b hb=>Nat.lt_of_lt_of_le (S.low b hb) E1.size,hlen',fun i e o he ho hn=>?_,fun i e o he ho hn=>?_,fun i e o he ho hm=>?_,fun i e o he ho hn=>?_,fun i j ei ej oi oj hei uO hoi hoj hni dO hne nQ=>?_,S.glob.move E.size (fun b hb hA=>E.keep b hb fun h=>hA (.inr h)) E.now⟩
 ·rcases hback i e o he ho with ⟨hm,_,he2,ho2⟩|⟨k,o',hk,he2,ho2,rfl⟩
  ·obtain⟨cur,RO⟩:=S.obj i e o he2 ho2 hn
   obtain⟨hb1,hb2⟩:=lies i e o hm he2 ho2 hn
   refine⟨cur,by rw[E1.keep e.b hb1 hb2];exact RO.hp,RO.tot,RO.BU,RO.len,RO.ok,RO.fits,RO.size,fun j c x hj hx=>?_⟩
   obtain⟨u,h1,h2,h3⟩:=RO.cells j c x hj hx
   exact⟨u,h1,h2,h3.ext E S.len⟩
  ·obtain⟨cur,RO⟩:=S1'.obj k e o' he2 ho2 hn
   obtain⟨q1,q2⟩:=AcK (f:=f) (r:=o'.row)
   refine⟨cur,RO.hp,RO.tot,RO.BU,by rw[q1];exact RO.len,q2 RO.ok,RO.fits,fun j hj=>?_,fun j c y hj hy=>?_⟩
   ·show(((o'.row.ren f).get j).A9=_)
    rw[eO RO.ok (by rw[<- RO.len];exact hj),(rA f _ 0).1]
    exact RO.size j hj
   ·replace hy:((o'.row.ren f).get j).cells[c]? =some y:=hy
    rw[eO RO.ok (by rw[<- RO.len];exact hj),(rA f _ c).2]at hy
    cases hx:((o'.row.get j).cells)[c]? with
    |none=>rw[hx]at hy;cases hy
    |some x=>
     rw[hx]at hy
     simp only[Option.map_some,Option.some.injEq]at hy
     obtain⟨u,h1,h2,h3⟩:=RO.cells j c x hj hx
     exact⟨u,h1,h2,hy▸AlA h3⟩
 ·rcases hback i e o he ho with ⟨hm,_,he2,ho2⟩|⟨k,o',hk,he2,ho2,rfl⟩
  ·exact S.gM i e o he2 ho2 hn
  ·obtain⟨v1,v2,v3,v4⟩:=S1'.gM k e o' he2 ho2 hn
   obtain⟨q1,q2⟩:=AcK (f:=f) (r:=o'.row)
   exact⟨by rw[q1];exact v1,q2 v2,v3,v4⟩
 ·rcases hback i e o he ho with ⟨hm',_,he2,ho2⟩|⟨k,o',hk,he2,ho2,rfl⟩
  ·exact S.may i e o he2 ho2 hm
  ·exact S1'.may k e o' he2 ho2 hm
 ·rcases hback i e o he ho with ⟨hm',_,he2,ho2⟩|⟨k,o',hk,he2,ho2,rfl⟩
  ·exact S.apart i e o he2 ho2 hn
  ·exact fun h=>S1'.apart k e o' he2 ho2 hn (.inl h)
 ·have mixed: ∀(i:Nat) (ei:Qr) (oi:E8) (k:Nat) (ek:Qr) (ok:E8),i∉ids->cx[i]? =some ei->s[i]? =some (some oi)->ei.Fg=false->oK[k]? =some ek->Dz[k]? =some (some ok)->ek.Fg=false->(oi.ro=false∨ok.ro=false)->ei.b≠ek.b:=fun i ei oi k ek ok hm he ho hn hek hok hnk nQ hb=>by
   rcases nQ with hr|hr
   ·exact S1'.apart k ek ok hek hok hnk (.inr ⟨i,ei,oi,hm,he,ho,hr,hn,hb⟩)
   ·obtain⟨hb1,hb2⟩:=lies i ei oi hm he ho hn
    exact E1.grow ei.b hb1 hb2 ⟨k,ek,ok,hek,hok,hr,hnk,hb.symm⟩
  rcases hback i ei oi hei hoi with ⟨hm,_,he2,ho2⟩|⟨k,o',hk,he2,ho2,rfl⟩<;>rcases hback j ej oj uO hoj with ⟨hm',_,AfR,Abk⟩|⟨k',o'',hk',AfR,Abk,rfl⟩
  ·exact S.inj i j ei ej oi oj he2 AfR ho2 Abk hni dO hne nQ
  ·exact mixed i ei oi k' ej o'' hm he2 ho2 hni AfR Abk dO nQ
  ·exact fun h=>mixed j ej oj k ei o' hm' AfR Abk dO he2 ho2 hni nQ.symm h.symm
  ·exact S1'.inj k k' ei ej o' o'' he2 AfR ho2 Abk hni dO (fun h=>hne (by rw[hk,hk',h])) nQ
theorem AX {P:PL} {g:FuncId} {args:List AV} {s s':Store} {r:AV} {K:AV->Store->Prop} (h:Contract P g args s r s') (k:K r s'):YN P g args s K:=⟨r,s',h,k⟩
section
variable {P:PL}
theorem A8 {f:FuncId} {fn:Func} {c:Code} (m:Nat) (mt:MT) {args:List AV} {objs Dz:Store} {r:AV} (hle:Nat.ble m objs.length=true) (hf:P.funcs[f]? =some fn) (hb:fn.body=some c) (hname:(fn.name== "runtime.NumGoroutine")=false)
  (h:W P m c mt (ML fn args objs) (Ai6 P fn m fun r' s'=>Weak m ⟨[r'],s'⟩ (BS 1 [(0,r)] Dz))):Bc m P f args objs r Dz:=
 fT _ (by simpa using hle) (fun r' s' hw V w cx v S R=>by
  have R1:EU P.laid V w cx ⟨[r'],s'⟩ { tmps:= #[v],defers:= [] } :=⟨S,rfl,trivial,fun i x hx=>by
   cases i with
   |zero=>simp at hx;subst hx;exact R
   |succ i=>simp at hx⟩
  obtain⟨BX,E,R2⟩:=hw P.laid V w cx _ R1
  exact⟨BX,E,R2.st,R2.tmps 0 r (by rfl)⟩) hf hb hname fun V w cx a R hm=>(h.out V w cx a R hm).wp
end
theorem oJ {m:Nat} {P:PL} {f:FuncId} {rest:List AV} {objs Dz:Store} {r:AV} {n:Nat} {get:Nat->AV} (h1:n=0->Bc m P f (.sl (some true) 0 (fun _=>.unk)::rest) objs r Dz) (h2:Bc m P f (.sl (some false) n get::rest) objs r Dz):
  Bc m P f (.sl none n get::rest) objs r Dz:=by
 refine⟨h2.1,fun V w cx vs S hl R=>?_⟩
 cases vs with
 |nil=>simp at hl
 |cons v vs=>
  have R0:=R 0 _ v rfl rfl
  cases R0 with
  |sl _ _ _ a cap BU vals hnil hcap hmax hz hmem Gr hrel=>
   cases a with
   |none=>
    have hc:=hz rfl
    have hn:n=0:=by omega
    refine(h1 hn).2 V w cx _ S (by simpa using hl) fun i x u hx hu=>?_
    cases i with
    |zero=>
     simp at hx hu
     subst hx;subst hu;subst hn
     exact .sl (some true) 0 _ none cap BU vals (fun b hb=>by cases hb;rfl) hcap hmax hz (fun h=>absurd h (Nat.lt_irrefl _)) (fun j hj=>absurd hj (Nat.not_lt_zero _)) (fun j c x hj=>absurd hj (Nat.not_lt_zero _))
    |succ i=>exact R (i+1) x u (by simpa using hx) (by simpa using hu)
   |some a=>
    refine h2.2 V w cx _ S (by simpa using hl) fun i x u hx hu=>?_
    cases i with
    |zero=>
     simp at hx hu
     subst hx;subst hu
     exact .sl (some false) n get (some a) cap BU vals (fun b hb=>by cases hb;rfl) hcap hmax (fun h=>by cases h) hmem Gr hrel
    |succ i=>exact R (i+1) x u (by simpa using hx) (by simpa using hu)
end Go.SE
