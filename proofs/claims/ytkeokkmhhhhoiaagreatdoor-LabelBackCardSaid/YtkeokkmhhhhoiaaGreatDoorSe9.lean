import Derived.Test.YtkeokkmhhhhoiaaGreatDoorSe8
namespace Go.SE
open Go
set_option linter.unusedVariables false
variable {L:Laid}
set_option linter.unusedSimpArgs false
structure H7 (s s':Store):Prop where
 len:s'.length=s.length
 obj: ∀(i:Nat) (o':E8),s'[i]? =some (some o')-> ∃o,s[i]? =some (some o)/\o'.row=o.row/\o'.BU=o.BU/\o'.ety=o.ety/\o'.mb=o.mb/\(o'.ro=false->o.ro=false)
theorem H7.refl (s:Store):H7 s s:=⟨rfl,fun i o h=>⟨o,h,rfl,rfl,rfl,rfl,id⟩⟩
theorem H7.trans {a b c:Store} (h:H7 a b) (h':H7 b c):H7 a c:=
 ⟨h'.len.trans h.len,fun i o ho=>by
   obtain⟨o1,h1,a1,a2,a3,a4,a5⟩:=h'.obj i o ho
   obtain⟨o2,h2,b1,b2,b3,b4,b5⟩:=h.obj i o1 h1
   exact⟨o2,h2,a1.trans b1,a2.trans b2,a3.trans b3,a4.trans b4,fun h=>b5 (a5 h)⟩⟩
theorem H7.kill (s:Store) (k:Nat):H7 s (s.set k none):=
 ⟨by simp,fun i o ho=>by
   rw[List.getElem?_set]at ho
   split at ho
   ·split at ho<;>cases ho
   ·exact⟨o,ho,rfl,rfl,rfl,rfl,id⟩⟩
theorem H7.ro (s:Store) (k:Nat) (o:E8) (h:s[k]? =some (some o)):H7 s (s.set k (some { o with ro:=true })):=
 ⟨by simp,fun i o' ho=>by
   rw[List.getElem?_set]at ho
   split at ho
   ·rename_i hi
    split at ho
    ·subst hi
     cases ho
     exact⟨o,h,rfl,rfl,rfl,rfl,fun h=>by cases h⟩
    ·cases ho
   ·exact⟨o',ho,rfl,rfl,rfl,rfl,id⟩⟩
theorem H7.Ib: ∀(ids:List Nat) (s:Store),H7 s (Ib s ids)
 | [],s=>H7.refl s
 |i::is,s=>by
  unfold SE.Ib
  refine H7.trans ?_ (H7.Ib is _)
  split
  ·rename_i o ho;exact H7.ro s i o ho
  ·exact H7.refl s
theorem H7.back {s s':Store} (h:H7 s s') {cx:Cx} {b:Nat} (hw:Wr cx s' b):Wr cx s b:=by
 obtain⟨i,e,o,he,ho,hr,hn,hb⟩:=hw
 obtain⟨o1,h1,_,_,_,_,h5⟩:=h.obj i o ho
 exact⟨i,e,o1,he,h1,h5 hr,hn,hb⟩
section
variable {V:Nat->Prop} {w w':World} {cx:Cx} {s s':Store}
theorem Bj.fewer (S:Bj L V w cx s) (h:H7 s s'):Bj L V w cx s' where
 low:=S.low
 len:=S.len.trans h.len.symm
 obj i e o he ho hn:=by
  obtain⟨o1,h1,a1,a2,a3,a4,a5⟩:=h.obj i o ho
  obtain⟨cur,R⟩:=S.obj i e o1 he h1 hn
  refine⟨cur,by rw[a3];obtain⟨fz,p,q⟩:=R.hp;exact⟨fz,p,fun h=>q (a5 h)⟩,R.tot,by rw[a2];exact R.BU,by rw[a1];exact R.len,by rw[a1];exact R.ok,R.fits,by rw[a1,a2];exact R.size,fun j c x hj hx=>?_⟩
  rw[a1]at hx
  obtain⟨v,g1,g2,g3⟩:=R.cells j c x hj hx
  exact⟨v,g1,g2,g3.move (Nat.le_refl _) (fun _ _ _=>rfl) (fun b _ hA hA'=>hA (hA'.imp id h.back)) fun _ _ h=>h⟩
 gM i e o he ho hn:=by
  obtain⟨o1,h1,a1,a2,a3,a4,a5⟩:=h.obj i o ho
  obtain⟨v1,v2,v3,v4⟩:=S.gM i e o1 he h1 hn
  exact⟨by rw[a1];exact v1,by rw[a1];exact v2,by rw[a4];exact v3,by rw[a2];exact v4⟩
 may i e o he ho hm:=by
  obtain⟨o1,h1,a1,a2,a3,a4,a5⟩:=h.obj i o ho
  exact S.may i e o1 he h1 (by rw[<- a4];exact hm)
 apart i e o he ho hn:=by
  obtain⟨o1,h1,_⟩:=h.obj i o ho
  exact S.apart i e o1 he h1 hn
 inj i j ei ej oi oj hei uO hoi hoj hni dO hne nQ:=by
  obtain⟨o1,h1,_,_,_,_,r1⟩:=h.obj i oi hoi
  obtain⟨o2,h2,_,_,_,_,r2⟩:=h.obj j oj hoj
  exact S.inj i j ei ej o1 o2 hei uO h1 h2 hni dO hne (nQ.imp r1 r2)
 glob:=S.glob.move (Nat.le_refl _) (fun _ _ _=>rfl) fun b _ hA hA'=>hA (hA'.imp id h.back)
theorem Ext.fewer {m:Nat} (h:H7 s s'):Ext m V w w cx cx s s':=
 ⟨rfl,rfl,rfl,Nat.le_refl _,fun _ _ _=>rfl,fun b _ hA hA'=>hA (hA'.imp id h.back),fun b _ hA hA'=>hA (h.back hA'),fun _ _ _ h=>h⟩
theorem Bj.update (S:Bj L V w cx s) {id:Nat} {e:Qr} {o:E8} {cur:Array Value} (he:cx[id]? =some e) (ho:s[id]? =some (some o)) (hnn:e.Fg=false) (hro:o.ro=false) (RO:Jy w cx (Av V cx s) e o cur)
  (row':Row) (cur':Array Value) (hlen:row'.len=o.row.len) (hok:row'.ok) (hsz:cur'.size=cur.size) (hsize: ∀i,i<e.len->(row'.get i).A9=o.BU)
  (hcells: ∀(i c:Nat) (x:AV),i<e.len->(row'.get i).cells[c]? =some x-> ∃v,cur'[i*e.BU+c]? =some v/\v.oneCell'=true/\Rel w cx (Av V cx s) x v):
  Bj L V (w.setRow e.b cur') cx (s.set id (some { o with row:=row' }))/\ ∀m,Ext m V w (w.setRow e.b cur') cx cx s (s.set id (some { o with row:=row' })):=by
 have hlt:id<s.length:=(List.getElem?_eq_some_iff.1 ho).1
 have get: ∀(j:Nat) (o':E8),(s.set id (some { o with row:=row' }))[j]? =some (some o')->(j=id/\o'= { o with row:=row' })∨(j≠id/\s[j]? =some (some o')):=fun j o' h=>by
  rw[List.getElem?_set]at h
  by_cases hi:id=j
  ·rw[if_pos hi,if_pos hlt]at h
   cases h
   exact .inl ⟨hi.symm,rfl⟩
  ·rw[if_neg hi]at h
   exact .inr ⟨fun h'=>hi h'.symm,h⟩
 have hwr: ∀b,Wr cx (s.set id (some { o with row:=row' })) b->Wr cx s b:=fun b hw=>by
  obtain⟨i,e',o',he',ho',hr,hn,hb⟩:=hw
  rcases get i o' ho' with ⟨rfl,rfl⟩|⟨hne,ho'⟩
  ·exact⟨i,e',o,he',ho,hro,hn,hb⟩
  ·exact⟨i,e',o',he',ho',hr,hn,hb⟩
 have qP:Wr cx s e.b:=⟨id,e,o,he,ho,hro,hnn,rfl⟩
 have hkeep: ∀b,¬Wr cx s b->(w.setRow e.b cur').heap[b]? =w.heap[b]? :=fun b hb=>setRow_other w e.b b cur' fun h=>hb (h▸qP)
 have Sc: ∀ {x:AV} {v:Value},Rel w cx (Av V cx s) x v->Rel (w.setRow e.b cur') cx (Av V cx (s.set id (some { o with row:=row' }))) x v:=fun r=>
  r.move (by simp) (fun b _ hA=>hkeep b fun h=>hA (.inr h)) (fun b _ hA hA'=>hA (hA'.imp (fun h=>h) (hwr b))) fun _ _ h=>h
 refine⟨⟨fun b hb=>by simpa using S.low b hb,by simp[S.len],fun i e' o' he' ho' hn=>?_,fun i e' o' he' ho' hn=>?_,fun i e' o' he' ho' hm=>?_,fun i e' o' he' ho' hn=>?_,fun i j ei ej oi oj hei uO hoi hoj hni dO hne nQ=>?_,S.glob.move (by simp) (fun b _ hA=>hkeep b fun h=>hA (.inr h)) fun b _ hA hA'=>hA (hA'.imp (fun h=>h) (hwr b))⟩,
  fun m=>⟨rfl,rfl,rfl,by simp,fun b _ hb=>hkeep b hb,fun b _ hA hA'=>hA (hA'.imp (fun h=>h) (hwr b)),fun b _ hA hA'=>hA (hwr b hA'),fun _ _ _ h=>h⟩⟩
 ·rcases get i o' ho' with ⟨rfl,rfl⟩|⟨hne,ho'⟩
  ·rw[he]at he'
   cases he'
   refine⟨cur',⟨_,setRow_heap w e.b cur cur' _ _ (RO.heap hro),fun _=>rfl⟩,hsz.trans RO.tot,RO.BU,RO.len.trans hlen.symm,hok,RO.fits,hsize,fun j c x hj hx=>?_⟩
   obtain⟨v,h1,h2,h3⟩:=hcells j c x hj hx
   exact⟨v,h1,h2,Sc h3⟩
  ·obtain⟨Ajs,R⟩:=S.obj i e' o' he' ho' hn
   have hne':e'.b≠e.b:=S.inj i id e' e o' o he' he ho' ho hn hnn hne (.inr hro)
   refine⟨Ajs,by rw[setRow_other w e.b e'.b cur' hne'];exact R.hp,R.tot,R.BU,R.len,R.ok,R.fits,R.size,fun j c x hj hx=>?_⟩
   obtain⟨v,h1,h2,h3⟩:=R.cells j c x hj hx
   exact⟨v,h1,h2,Sc h3⟩
 ·rcases get i o' ho' with ⟨rfl,rfl⟩|⟨hne,ho'⟩
  ·rw[he]at he';cases he';rw[hnn]at hn;cases hn
  ·exact S.gM i e' o' he' ho' hn
 ·rcases get i o' ho' with ⟨rfl,rfl⟩|⟨hne,ho'⟩
  ·rw[he]at he';cases he';exact hnn
  ·exact S.may i e' o' he' ho' hm
 ·rcases get i o' ho' with ⟨rfl,rfl⟩|⟨hne,ho'⟩
  ·exact S.apart i e' o he' ho hn
  ·exact S.apart i e' o' he' ho' hn
 ·have real: ∀(k:Nat) (ok:E8),(s.set id (some { o with row:=row' }))[k]? =some (some ok)-> ∃o1,s[k]? =some (some o1)/\o1.ro=ok.ro:=fun k ok hk=>by
   rcases get k ok hk with ⟨rfl,rfl⟩|⟨_,h⟩
   ·exact⟨o,ho,rfl⟩
   ·exact⟨ok,h,rfl⟩
  obtain⟨o1,h1,r1⟩:=real i oi hoi
  obtain⟨o2,h2,r2⟩:=real j oj hoj
  exact S.inj i j ei ej o1 o2 hei uO h1 h2 hni dO hne (by rw[r1,r2];exact nQ)
end
theorem Row.AkB {r:Row} {i:Nat} {v:AV} {K:Row->Prop} (h:r.set i v K): ∃r',K r'/\r'.len=r.len/\(r.ok->r'.ok)/\(∀j,j≠i->r'.get j=r.get j)/\(i<r.len->r'.get i=v):=by
 have hget: ∀ {α:Type} (l:List α) (x d:α) (j:Nat),(l.set i x).getD j d=if j=i/\i<l.length then x else l.getD j d:=fun l x d j=>by
  simp only[List.getD,List.getElem?_set]
  by_cases hj:i=j
  ·subst hj
   by_cases hl:i<l.length
   ·simp[hl]
   ·simp[hl]
  ·have hj': ¬j=i:=fun h=>hj h.symm
   simp[hj,hj']
 unfold Row.set at h
 split at h
 ·replace h:=Bn h
  obtain⟨hkk,h⟩:=h
  obtain rfl:=of_decide_eq_true hkk
  exact⟨_,h,by simp[Row.len],fun _=>trivial,fun j hj=>by simp only[Row.get,hget];rw[if_neg (fun h=>hj h.1)],fun hi=>by simp only[Row.get];rw[hget,if_pos ⟨rfl,hi⟩]⟩
 ·exact⟨_,h,by simp[Row.len],fun _=>trivial,fun j hj=>by simp only[Row.get,hget];rw[if_neg (fun h=>hj h.1)],fun hi=>by simp only[Row.get];rw[hget,if_pos ⟨rfl,hi⟩]⟩
 ·exact⟨_,h,by simp[Row.len],fun _=>trivial,fun j hj=>by simp only[Row.get,hget];rw[if_neg (fun h=>hj h.1)],fun hi=>by simp only[Row.get];rw[hget,if_pos ⟨rfl,hi⟩]⟩
 ·obtain⟨hi,h⟩:=Bn h
  exact⟨_,h,by simp[Row.len],fun hok x hx=>(List.mem_or_eq_of_mem_set hx).elim (hok x) (fun e=>e▸hi),fun j hj=>by simp only[Row.get,hget];rw[if_neg (fun h=>hj h.1)],fun hi=>by simp only[Row.get];rw[hget,if_pos ⟨rfl,hi⟩]⟩
 ·exact⟨_,h,by simp[Row.len],fun _=>trivial,fun j hj=>by simp only[Row.get,hget];rw[if_neg (fun h=>hj h.1)],fun hi=>by simp only[Row.get];rw[hget,if_pos ⟨rfl,hi⟩]⟩
 ·obtain⟨hi,h⟩:=Bn h
  have hb: ∀j,Nat.beq j i=decide (j=i):=fun j=>by rw[Bool.eq_iff_iff];simp
  refine⟨_,h,rfl,fun hok j hj=>?_,fun j hj=>?_,fun _=>?_⟩
  ·show AV.Lm (bif Nat.beq j i then v else _)=true
   rw[hb]
   by_cases e:j=i
   ·simp[e,hi]
   ·simp only[e,decide_false,cond_false];exact hok j hj
  ·show(bif Nat.beq j i then v else _)=_
   rw[hb];simp[hj,Row.get]
  ·show(bif Nat.beq i i then v else _)=v
   rw[hb];simp
 ·exact h.elim
theorem wH {e v:AV} {off:Nat} (h:off+v.A9<=e.A9):(bU e off v).A9=e.A9/\
  ∀(c:Nat) (x:AV),(bU e off v).cells[c]? =some x->(off<=c/\c<off+v.A9/\v.cells[c-off]? =some x)∨((c<off∨off+v.A9<=c)/\e.cells[c]? =some x):=by
 unfold bU
 cases hq:(off==0&&e.A9==v.A9)with
 |true=>
  simp only[Bool.and_eq_true,beq_iff_eq]at hq
  obtain⟨rfl,hq⟩:=hq
  exact⟨hq.symm,fun c x hx=>.inl ⟨Nat.zero_le _,by have:=AV.NS hx;simp only[cond_true]at this;omega,by simpa using hx⟩⟩
 |false=>
  simp only[cond_false]
  have hl:=e.Db
  have hv:=v.Db
  refine⟨?_,fun c x hx=>?_⟩
  ·show(e.cells.take off++v.cells++e.cells.drop (off+v.A9)).length=e.A9
   simp only[List.length_append,List.length_take,List.length_drop,hl,hv]
   omega
  change (e.cells.take off++v.cells++e.cells.drop (off+v.A9))[c]? =some x at hx
  rw[List.append_assoc,List.getElem?_append]at hx
  split at hx
  ·rename_i hc
   rw[List.length_take]at hc
   rw[List.getElem?_take]at hx
   rw[if_pos (by omega)]at hx
   exact .inr ⟨.inl (by omega),hx⟩
  ·rename_i hc
   rw[List.length_take]at hc
   rw[List.getElem?_append,List.length_take,show min off e.cells.length=off by omega]at hx
   split at hx
   ·rename_i hc2
    exact .inl ⟨by omega,by omega,hx⟩
   ·rename_i hc2
    rw[List.getElem?_drop]at hx
    exact .inr ⟨.inr (by omega),by rw[<- hx];congr 1;omega⟩
section
variable {P:PL} {o:Oper} {s:Store} {ev:Operand->AV}
theorem AaE {e:TypeId} {x:AV} {row:Row} (hr:iG P e x=some row):P.cellsOf e=1/\row.ok/\row.len=x.A9/\ ∀i,i<row.len->row.get i=x.cellAt i:=by
 unfold iG at hr
 split at hr
 ·rename_i k l
  cases hq:(P.cellsOf e==1)<;>rw[hq]at hr<;>cases hr
  exact⟨by simpa using hq,trivial,rfl,fun i hi=>rfl⟩
 ·rename_i cs
  cases hq:(P.cellsOf e==1)<;>rw[hq]at hr
  ·cases hr
  ·obtain⟨h1,h2,h3⟩:=Xf hr
   exact⟨by simpa using hq,h2,h1,fun i hi=>h3 i (by omega)⟩
 ·cases hr
theorem Rel.Ae0 {w:World} {cx:Cx} {A:Nat->Prop} {y z:AV} {u:Value} {c:Nat} (h:Rel w cx A y u) (h1:u.oneCell'=true) (hz:y.cells[c]? =some z):c=0/\z=y:=by
 have hc:=AV.NS hz
 rw[h.one h1]at hc
 have hc0:c=0:=by omega
 subst hc0
 refine⟨rfl,?_⟩
 cases h<;>first|(cases h1;done)|(simp[AV.cells]at hz;exact hz.symm)
theorem nA {cur vs:List Value} {o k:Nat} (h:o+vs.length<=cur.length):(cur.take o++vs++cur.drop (o+vs.length))[k]? =if o<=k/\k<o+vs.length then vs[k-o]? else cur[k]? :=by
 rw[List.append_assoc,List.getElem?_append,List.length_take,show min o cur.length=o by omega]
 by_cases h1:k<o
 ·rw[if_pos h1,if_neg (by omega),List.getElem?_take,if_pos h1]
 ·rw[if_neg h1,List.getElem?_append]
  by_cases h2:k-o<vs.length
  ·rw[if_pos h2,if_pos (by omega)]
  ·rw[if_neg h2,if_neg (by omega),List.getElem?_drop]
   congr 1
   omega
theorem ZL {t:TypeId} {a x:Operand} {K:Store->Prop} (ho:o.op=.store t a x) (h:wI P s t (ev a) (ev x) K): ∃s',K s'/\EY P o s ev .unk s':=by
 have ha:a∈o.op.operands.toList:=by simp[ho,Op.operands]
 have hx:x∈o.op.operands.toList:=by simp[ho,Op.operands]
 unfold wI at h
 replace h:=Bn h
 obtain⟨hq,h⟩:=h
 simp only[Bool.and_eq_true,beq_iff_eq]at hq
 obtain⟨hst,hnc⟩:=hq
 have he: ∀ρ,execOp ρ o=(do Instr.storeAt t (ρ a) (ρ x);pure .skip):=fun ρ=>by simp[execOp,ho]
 split at h
 ·rename_i id i off hev
  split at h
  ·rename_i ob Sd
   replace h:=Bn h
   obtain⟨hro,h⟩:=h
   have hro:ob.ro=false:=by simpa using hro
   have run: ∀(w:World) (b off:Nat) (cur:Array Value) (ety:TypeId) (v:Value),w.heap[b]? =some (.cells cur ety (0,0))->v.cells.size=P.cellsOf t->off+v.cells.size<=cur.size->(∀u∈v.cells.toList,u.oneCell'=true)->(∃d,P.underlying t=some d)->
         (Instr.storeAt t (.pointer (some ⟨b,off,none⟩)) v).run P w=.ok () (w.setRow b (cur.toList.take off++v.cells.toList++cur.toList.drop (off+v.cells.toList.length)).toArray):=fun w b off cur ety v hh hs hf h1 hd=>by
    obtain⟨d,hd⟩:=hd
    have:=run_storeCells_at (P:=P) b off ety v.cells.toList 0 cur w hh (by simpa using hf) h1
    rw[Nat.add_zero]at this
    simp[Instr.storeAt,Instr.sureAddr,storeVar,run_sizeOf hd,hs,this]
   split at h
   ·rename_i n e ht
    split at h
    ·rename_i row hq hrow
     simp only[Bool.and_eq_true,beq_iff_eq]at hq
     obtain⟨⟨⟨⟨hi0,Alx⟩,hsz⟩,hn⟩,hct⟩:=hq
     subst hi0
     subst Alx
     obtain⟨hlen,h⟩:=h
     obtain⟨k1,k2,k3,k4⟩:=AaE hrow
     refine⟨_,h,EY.skip he fun V w cx ρ S R=>?_⟩
     have hra:=R a ha
     rw[hev]at hra
     obtain⟨en,cur,hen,hnn,hi,hv,RO⟩:=hra.WG S Sd
     rw[hv]
     obtain⟨c1,c2,c3⟩:=(R x hx).cells hst
     have hes:en.BU=1:=by rw[RO.BU,hsz,k1]
     have hfit:0*en.BU+0+(ρ x).cells.size<=cur.size:=by
         have:=RO.fits
         rw[RO.len,hes]at this
         rw[RO.tot,c1,hnc,hct,hn,hsz,k1]
         omega
     obtain⟨S',E⟩:=S.update hen Sd hnn hro RO row (cur.toList.take (0*en.BU+0)++(ρ x).cells.toList++cur.toList.drop (0*en.BU+0+(ρ x).cells.toList.length)).toArray hlen k2
         (by simp;omega)
         (fun j hj=>by
            have hj':j<row.len:=by rw[hlen,<- RO.len];exact hj
            obtain⟨u,hu,hr⟩:=c3 j _ ((ev x).LU j (by omega))
            rw[k4 j hj',hr.one (c2 u (by rw[Array.mem_toList_iff];exact Array.mem_of_getElem? hu)),hsz,k1])
         (fun j c y hj hy=>by
            have hj':j<row.len:=by rw[hlen,<- RO.len];exact hj
            obtain⟨u,hu,hr⟩:=c3 j _ ((ev x).LU j (by omega))
            have hone:=c2 u (by rw[Array.mem_toList_iff];exact Array.mem_of_getElem? hu)
            rw[k4 j hj']at hy
            obtain⟨rfl,rfl⟩:=hr.Ae0 hone hy
            refine⟨u,?_,hone,hr⟩
            rw[List.getElem?_toArray,nA (by simpa using hfit),hes]
            have hsize:(ρ x).cells.toList.length=(ev x).A9:=by simpa using c1
            rw[if_pos (by omega)]
            simpa using hu)
     exact⟨_,run w en.b _ cur ob.ety (ρ x) (RO.heap (by simpa using hro)) (by rw[c1,hnc]) hfit c2 ⟨_,ht⟩,cx,E _,S'⟩
    ·exact h.elim
   ·rename_i d hd0
    replace h:=Bn h
    obtain⟨Ady,h⟩:=h
    have Ady:off+(ev x).A9<=(ob.row.get i).A9:=by simpa using Ady
    obtain⟨row',hK,r1,r2,r3,r4⟩:=Row.AkB h
    obtain⟨g1,g2⟩:=wH Ady
    have hd: ∃d,P.underlying t=some d:=⟨_,hd0⟩
    refine⟨_,hK,EY.skip he fun V w cx ρ S R=>?_⟩
    have hra:=R a ha
    rw[hev]at hra
    obtain⟨en,cur,hen,hnn,hi,hv,RO⟩:=hra.WG S Sd
    rw[hv]
    obtain⟨c1,c2,c3⟩:=(R x hx).cells hst
    have hsi:=RO.size i hi
    have hup:(i+1)*en.BU<=en.len*en.BU:=Nat.mul_le_mul_right _ hi
    rw[Nat.add_mul,Nat.one_mul]at hup
    have hfit:i*en.BU+off+(ρ x).cells.size<=cur.size:=by
         have:=RO.fits
         have h2:=RO.tot
         have h3:=RO.BU
         omega
    have hlist:(ρ x).cells.toList.length=(ev x).A9:=by simpa using c1
    have Ld:=RO.BU
    have hi':i<ob.row.len:=by rw[<- RO.len];exact hi
    obtain⟨S',E⟩:=S.update hen Sd hnn hro RO row' (cur.toList.take (i*en.BU+off)++(ρ x).cells.toList++cur.toList.drop (i*en.BU+off+(ρ x).cells.toList.length)).toArray r1 (r2 RO.ok)
         (by simp;omega)
         (fun j hj=>by
           by_cases hji:j=i
           ·subst hji;rw[r4 hi',g1,hsi]
           ·rw[r3 j hji];exact RO.size j hj)
         (fun j c y hj hy=>by
           rw[List.getElem?_toArray,nA (by simpa using hfit)]
           by_cases hji:j=i
           ·subst hji
            rw[r4 hi']at hy
            have hc:c<en.BU:=by have:=AV.NS hy;omega
            rcases g2 c y hy with ⟨q1,q2,q3⟩|⟨q1,q2⟩
            ·rw[if_pos (by omega)]
             obtain⟨u,hu,hr⟩:=c3 _ y q3
             exact⟨u,by rw[show j*en.BU+c-(j*en.BU+off)=c-off by omega];simpa using hu,c2 u (by rw[Array.mem_toList_iff];exact Array.mem_of_getElem? hu),hr⟩
            ·rw[if_neg (by omega)]
             obtain⟨u,h1,h2,h3⟩:=RO.cells j c y hj q2
             exact⟨u,by simpa using h1,h2,h3⟩
           ·rw[r3 j hji]at hy
            have hc:c<en.BU:=by have:=AV.NS hy;have:=RO.size j hj;omega
            have hout: ¬(i*en.BU+off<=j*en.BU+c/\j*en.BU+c<i*en.BU+off+(ρ x).cells.toList.length):=by
               rcases Nat.lt_or_gt_of_ne hji with hlt|hgt
               ·have:=Nat.mul_le_mul_right en.BU (show j+1<=i from hlt)
                rw[Nat.add_mul,Nat.one_mul]at this
                omega
               ·have:=Nat.mul_le_mul_right en.BU (show i+1<=j from hgt)
                rw[Nat.add_mul,Nat.one_mul]at this
                omega
            rw[if_neg hout]
            obtain⟨u,h1,h2,h3⟩:=RO.cells j c y hj hy
            exact⟨u,by simpa using h1,h2,h3⟩)
    exact⟨_,run w en.b _ cur ob.ety (ρ x) (RO.heap (by simpa using hro)) (by rw[c1,hnc]) hfit c2 hd,cx,E _,S'⟩
   ·exact h.elim
  ·exact h.elim
 ·exact h.elim
end
end Go.SE
