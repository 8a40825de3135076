import Derived.Test.YtkeokkmhhhhoiaaGreatDoorSe10
import Derived.Lib.AppendStr
namespace Go.SE
open Go
set_option linter.unusedVariables false
variable {L:Laid}
set_option linter.unusedSimpArgs false
section
variable {P:PL} {V:Nat->Prop} {w w':World} {cx:Cx} {s s1 s2:Store}
theorem run_append_nothing {t ty e:TypeId} {base:Option Addr} {n cap c:Nat} (ht:P.underlying t=some (.slice e)) (hp:0<P.cellsOf e) (h:n<=cap) (w:World):
  (Builtin.append_ #[t,t] ty #[.slice base n cap, .slice none 0 c]).run P w=.ok (.slice base n cap) w:=by
 cases base<;>simp[Builtin.append_,run_underlying ht,Cq hp,Builtin.lenOf,h,Builtin.firstCells,storeCells]
theorem Rel.fewer {x:AV} {v:Value} (h:H7 s s1) (r:Rel w cx (Av V cx s) x v):Rel w cx (Av V cx s1) x v:=
 r.move (Nat.le_refl _) (fun _ _ _=>rfl) (fun b _ hA hA'=>hA (hA'.imp (fun h=>h) h.back)) fun _ _ h=>h
theorem ZQ {cur:Array Value} {xs:List Value} {m k:Nat} (h:cur.toList.take m=xs) (hk:k<m):cur[k]? =xs[k]? :=by
 rw[<- h,List.getElem?_take,if_pos hk]
 simp
theorem QV (S:Bj P.laid V w cx s1) (hf:H7 s1 s2) {t ty e:TypeId} {x:AV} {v:Value} {n:Nat} {ob:E8} (ht:P.underlying t=some (.slice e)) (hp:0<P.cellsOf e)
  {i:TypeInfo} {z:Value} (hi:P.info? e=some i) (hz:i.zero=some z) (hzs:z.cells.size=P.cellsOf e)
  (hsrc:Src w cx (Av V cx s1) v n (P.cellsOf e) ob.row) (Ld:ob.BU=P.cellsOf e) (Tt:ob.ety=e) (hmb:ob.mb=true) (hlen:ob.row.len=n) (hok:ob.row.ok) (hsz: ∀j,j<n->(ob.row.get j).A9=P.cellsOf e)
  (hb:n*P.bytesOf e<=140737488355328) (h63:n<=9223372036854775807):
  ∃v' w',(Builtin.append_ #[t,t] ty #[.slice none 0 0,v]).run P w=.ok v' w'/\ ∃BX,Ext s1.length V w w' cx BX s1 (s2++ [some ob])/\Bj P.laid V w' BX (s2++ [some ob])/\Rel w' BX (Av V BX (s2++ [some ob])) (.ms s1.length n) v':=by
 obtain⟨a,c,news,rfl,ha,hnl,hnc,hone,hcell⟩:=hsrc
 have S2:=S.fewer hf
 have Xg:n=0-> ∀w',w.grownBy w' none-> ∃BX,Ext s1.length V w w' cx BX s1 (s2++ [some ob])/\Bj P.laid V w' BX (s2++ [some ob])/\Rel w' BX (Av V BX (s2++ [some ob])) (.ms s1.length n) (.slice none 0 0):=fun hn w' hg=>by
  have hk: ∀b,b<w.heap.size->w'.heap[b]? =w.heap[b]? :=fun b hb=>hg.block b hb (by simp)
  obtain⟨S3,E3⟩:=(S2.grown hg.size hk).r9 ob (hlen.trans hn) hok hmb
  refine⟨_,((Ext.fewer (w:=w) (cx:=cx) hf).trans (Ext.grown hg.os hg.tape hg.output hg.size hk)).trans (E3 s1.length (by rw[hf.len];exact Nat.le_refl _)),S3,?_⟩
  subst hn
  exact .ms0 _ ⟨0,ob.BU,0,0,true⟩ (by rw[<- S.len];simp) rfl
 cases a with
 |none=>
  have hn:=ha rfl
  subst hn
  exact⟨_,_,run_append_nothing ht hp (Nat.le_refl _) w,Xg rfl w ⟨rfl,rfl,rfl,Nat.le_refl _,fun _ _ _=>rfl⟩⟩
 |some ad=>
  obtain⟨_,hi',hsize,hby⟩:=OA (P:=P) hi
  obtain⟨v',w',hr,hown,hg,hiff,hat⟩:=run_append_own_at (P:=P) w w.heap.size t ty e i z (P.cellsOf e) (P.bytesOf e) ht hi hz hsize hby hzs hp (.slice none 0 0) 0 [] (World.ownsRow_nil w _ e _) ad n c news hnl (hnc ad rfl) hone
   (by simp only[maxLen];omega) (by rw[Nat.zero_add];exact hb) (Nat.le_refl _)
  refine⟨v',w',hr,?_⟩
  have hg':w.grownBy w' none:=hg
  rcases hown.2 with ⟨rfl,hn⟩|⟨g,cap,cur,rfl,hbg,hh,hnc',hcm,hcs,htake⟩
  ·exact Xg (by omega) w' hg'
  ·have hk: ∀b,b<w.heap.size->w'.heap[b]? =w.heap[b]? :=fun b hb=>hg'.block b hb (by simp)
   simp only[Nat.zero_add,List.nil_append]at hnc' htake ⊢
   have hcur:n*P.cellsOf e<=cur.size:=by rw[hcs];exact Nat.mul_le_mul_right _ hnc'
   obtain⟨S3,E3⟩:=S2.add rfl (fun i o ho=>ho) ⟨g,P.cellsOf e,n,cur.size,false⟩ ob cur hg'.os hg'.tape hg'.output hg'.size (fun b hb _=>hk b hb)
    (fun i e' o' he' ho' hn'=>by
         obtain⟨cur',R⟩:=S2.obj i e' o' he' ho' hn'
         have hlt:=R.lt
         exact⟨fun h=>by simp at h;omega,hk _ hlt⟩)
    (.inl hbg) rfl (by rw[Tt];exact hh) rfl Ld.symm hlen.symm hok hcur (fun j hj=>by rw[Ld];exact hsz j hj)
    (fun j c x' hj hx=>by
         obtain⟨u,h1,h2,h3⟩:=hcell j c x' hj hx
         refine⟨u,?_,h2,h3.fewer hf⟩
         rw[ZQ htake]
         ·exact h1
         ·have:=(List.getElem?_eq_some_iff.1 h1).1
          rwa[hnl]at this)
   refine⟨_,(Ext.fewer (w:=w) (cx:=cx) hf).trans (E3.less (by rw[hf.len];exact Nat.le_refl _)),S3,?_⟩
   exact .ms _ n cap ⟨g,P.cellsOf e,n,cur.size,false⟩ (by rw[<- S.len];simp) rfl (Nat.le_refl _) hnc' hcs.symm hcm
theorem vF (S:Bj P.laid V w cx s1) {id:Nat} {o:E8} {en:Qr} {Na:Array Value} (ho:s1[id]? =some (some o)) (hen:cx[id]? =some en) (hnn:en.Fg=false) (hro:o.ro=false) (RO:Jy w cx (Av V cx s1) en o Na)
  {e:TypeId} {n n0:Nat} {row r2:Row} {news:List Value} (hn0:n0<=en.len) (Ld:o.BU=P.cellsOf e) (Tt:o.ety=e) (hr2:r2.len=n) (hsz: ∀j,j<n->(r2.get j).A9=P.cellsOf e)
  (hlen:row.len=n0+r2.len) (hok:row.ok) (hlow: ∀j,j<n0->row.get j=o.row.get j) (hhigh: ∀j,row.get (n0+j)=r2.get j) (hnl:news.length=n*P.cellsOf e)
  (hcell: ∀(j c:Nat) (x':AV),j<n->(r2.get j).cells[c]? =some x'-> ∃u,news[j*P.cellsOf e+c]? =some u/\u.oneCell'=true/\Rel w cx (Av V cx s1) x' u):
  ∀(w':World) (g cap:Nat) (cur:Array Value),w.grownBy w' (some en.b)->w'.heap[g]? =some (.cells cur e (0,0))->n0+n<=cap->cap<=maxLen->cur.size=cap*P.cellsOf e->
   (∀k,k<n0*P.cellsOf e->cur[k]? =Na[k]?)->(∀k,k<n*P.cellsOf e->cur[n0*P.cellsOf e+k]? =news[k]?)->(g=en.b∨w.heap.size<=g)->
   ∃BX,Ext s1.length V w w' cx BX s1 (s1.set id none++ [some { o with row:=row }])/\Bj P.laid V w' BX (s1.set id none++ [some { o with row:=row }])/\
    Rel w' BX (Av V BX (s1.set id none++ [some { o with row:=row }])) (.ms s1.length (n0+n)) (.slice (some ⟨g,0,none⟩) (n0+n) cap):=by
 have hlt:=RO.lt
 have hes:en.BU=P.cellsOf e:=RO.BU.trans Ld
 have hset: ∀(j:Nat) (o':E8),(s1.set id none)[j]? =some (some o')->j≠id/\s1[j]? =some (some o'):=fun j o' h=>by
  rw[List.getElem?_set]at h
  by_cases hj:id=j
  ·rw[if_pos hj]at h
   split at h<;>cases h
  ·rw[if_neg hj]at h
   exact⟨fun h'=>hj h'.symm,h⟩
 have qP:Wr cx s1 en.b:=⟨id,en,o,hen,ho,hro,hnn,rfl⟩
 exact fun w' g cap cur hg hh hnc' hcm hcs hold hnew hat=>by
  have hcur:(n0+n)*P.cellsOf e<=cur.size:=by rw[hcs];exact Nat.mul_le_mul_right _ hnc'
  obtain⟨S3,E3⟩:=S.add (s1:=s1.set id none) (by simp) (fun j o' h=>(hset j o' h).2) ⟨g,P.cellsOf e,n0+n,cur.size,false⟩ { o with row:=row } cur hg.os hg.tape hg.output hg.size
   (fun b hb hw=>hg.block b hb fun h=>hw (by rw[Option.some.inj h];exact qP))
   (fun j e' o' he' ho' hn'=>by
     obtain⟨hj,ho1⟩:=hset j o' ho'
     obtain⟨cur',R⟩:=S.obj j e' o' he' ho1 hn'
     have hlt':=R.lt
     have hne:e'.b≠en.b:=S.inj j id e' en o' o he' hen ho1 ho hn' hnn hj (.inr hro)
     refine⟨?_,hg.block _ hlt' fun h=>hne (Option.some.inj h)⟩
     show e'.b≠g
     rcases hat with rfl|h
     ·exact hne
     ·omega)
   (by rcases hat with rfl|h
       ·exact .inr qP
       ·exact .inl h) rfl (by show w'.heap[g]? =some (.cells cur o.ety (0,0));rw[Tt];exact hh) rfl Ld.symm (by show n0+n=row.len;omega) hok hcur
   (fun j hj=>by
     show(row.get j).A9=o.BU
     by_cases hjl:j<n0
     ·rw[hlow j hjl];exact RO.size j (by omega)
     ·obtain⟨k,rfl⟩: ∃k,j=n0+k:=⟨j-n0,by omega⟩
      rw[hhigh k,Ld]
      exact hsz k (by have:n0+k<n0+n:=hj;omega))
   (fun j c' x' hj hx=>by
     have hx:(row.get j).cells[c']? =some x':=hx
     have hj:j<n0+n:=hj
     show ∃u,cur[j*P.cellsOf e+c']? =some u/\u.oneCell'=true/\Rel w cx (Av V cx s1) x' u
     by_cases hjl:j<n0
     ·rw[hlow j hjl]at hx
      obtain⟨u,h1,h2,h3⟩:=RO.cells j c' x' (by omega) hx
      refine⟨u,?_,h2,h3⟩
      have hc:c'<P.cellsOf e:=by have:=AV.NS hx;rw[RO.size j (by omega),Ld]at this;exact this
      have hm:=Nat.mul_le_mul_right (P.cellsOf e) (show j+1<=n0 from hjl)
      rw[Nat.add_mul,Nat.one_mul]at hm
      rw[hold _ (by omega),<- hes]
      exact h1
     ·obtain⟨k,rfl⟩: ∃k,j=n0+k:=⟨j-n0,by omega⟩
      rw[hhigh k]at hx
      obtain⟨u,h1,h2,h3⟩:=hcell k c' x' (by omega) hx
      refine⟨u,?_,h2,h3⟩
      have hk:k*P.cellsOf e+c'<n*P.cellsOf e:=by rw[<- hnl];exact(List.getElem?_eq_some_iff.1 h1).1
      rw[Nat.add_mul,Nat.add_assoc,hnew _ hk]
      exact h1)
  exact⟨_,E3,S3, .ms _ (n0+n) cap ⟨g,P.cellsOf e,n0+n,cur.size,false⟩ (by rw[<- S.len];simp) rfl (Nat.le_refl _) hnc' hcs.symm hcm⟩
theorem Vx (S:Bj P.laid V w cx s1) {id:Nat} {o:E8} {en:Qr} {Na:Array Value} (ho:s1[id]? =some (some o)) (hen:cx[id]? =some en) (hnn:en.Fg=false) (hro:o.ro=false) (RO:Jy w cx (Av V cx s1) en o Na)
  {t ty e:TypeId} {v:Value} {n n0 cap0:Nat} {row r2:Row} (ht:P.underlying t=some (.slice e)) (hp:0<P.cellsOf e)
  {i:TypeInfo} {z:Value} (hi:P.info? e=some i) (hz:i.zero=some z) (hzs:z.cells.size=P.cellsOf e)
  (hn0:n0<=en.len) (hcap0:n0<=cap0) (htot:cap0*en.BU=en.tot) (hmax:cap0<=maxLen)
  (hsrc:Src w cx (Av V cx s1) v n (P.cellsOf e) r2) (Ld:o.BU=P.cellsOf e) (Tt:o.ety=e) (hr2:r2.len=n) (hsz: ∀j,j<n->(r2.get j).A9=P.cellsOf e)
  (hlen:row.len=n0+r2.len) (hok:row.ok) (hlow: ∀j,j<n0->row.get j=o.row.get j) (hhigh: ∀j,row.get (n0+j)=r2.get j)
  (hb:(n0+n)*P.bytesOf e<=140737488355328) (h63:n0+n<=9223372036854775807):
  ∃v' w',(Builtin.append_ #[t,t] ty #[.slice (some ⟨en.b,0,none⟩) n0 cap0,v]).run P w=.ok v' w'/\ ∃BX,Ext s1.length V w w' cx BX s1 (s1.set id none++ [some { o with row:=row }])/\Bj P.laid V w' BX (s1.set id none++ [some { o with row:=row }])/\
   Rel w' BX (Av V BX (s1.set id none++ [some { o with row:=row }])) (.ms s1.length (n0+n)) v':=by
 obtain⟨a,c,news,rfl,ha,hnl,hnc,hone,hcell⟩:=hsrc
 have hes:en.BU=P.cellsOf e:=RO.BU.trans Ld
 have fin:=vF (P:=P) S ho hen hnn hro RO hn0 Ld Tt hr2 hsz hlen hok hlow hhigh hnl hcell
 have yG:Na.size=cap0*P.cellsOf e:=by rw[RO.tot,<- htot,hes]
 cases a with
 |none=>
  have hn:=ha rfl
  subst hn
  refine⟨_,_,run_append_nothing ht hp hcap0 w,?_⟩
  have:=fin w en.b cap0 Na ⟨rfl,rfl,rfl,Nat.le_refl _,fun _ _ _=>rfl⟩ (by rw[<- Tt];exact RO.heap hro) hcap0 hmax yG (fun _ _=>rfl) (fun k hk=>by simp at hk) (.inl rfl)
  exact this
 |some ad=>
  obtain⟨_,hi',hsize,hby⟩:=OA (P:=P) hi
  have htk:n0*P.cellsOf e<=Na.size:=by rw[yG];exact Nat.mul_le_mul_right _ hcap0
  have hown0:w.ownsRow 0 e (P.cellsOf e) (.slice (some ⟨en.b,0,none⟩) n0 cap0) n0 (Na.toList.take (n0*P.cellsOf e)):=
   ⟨by rw[List.length_take,Array.length_toList];omega, .inr ⟨en.b,cap0,Na,rfl,Nat.zero_le _,by rw[<- Tt];exact RO.heap hro,hcap0,hmax,yG,rfl⟩⟩
  obtain⟨v',w',hr,hown,hg,hiff,hat⟩:=run_append_own_at (P:=P) w 0 t ty e i z (P.cellsOf e) (P.bytesOf e) ht hi hz hsize hby hzs hp _ n0 _ hown0 ad n c news hnl (hnc ad rfl) hone (by simp only[maxLen];omega) hb (Nat.zero_le _)
  refine⟨v',w',hr,?_⟩
  rcases hown.2 with ⟨rfl,hn⟩|⟨g,cap,cur,rfl,_,hh,hnc',hcm,hcs,htake⟩
  ·exact absurd (hiff.1 rfl).1 (by simp)
  ·have hl1:(Na.toList.take (n0*P.cellsOf e)).length=n0*P.cellsOf e:=by rw[List.length_take,Array.length_toList];omega
   have hsum:(n0+n)*P.cellsOf e=n0*P.cellsOf e+n*P.cellsOf e:=Nat.add_mul _ _ _
   refine fin w' g cap cur hg hh hnc' hcm hcs (fun k hk=>?_) (fun k hk=>?_) ?_
   ·rw[ZQ htake (by omega),List.getElem?_append_left (by omega),List.getElem?_take,if_pos hk]
    simp
   ·rw[ZQ htake (by omega),List.getElem?_append_right (by omega),hl1,show n0*P.cellsOf e+k-n0*P.cellsOf e=k by omega]
   ·simp only[Value.ownBlock,Option.some.injEq]at hat
    rcases hat with h|h
    ·exact .inl h
    ·exact .inr (by omega)
@[simp] theorem RU (b:ByteArray):(numsOf b).length=b.size:=by
  rw[numsOf,List.length_map,Array.length_toList];rfl
theorem dY (A:Nat->Prop) (b:ByteArray) (j c:Nat) (x':AV) (hj:j<b.size) (h:((Row.ints .u8 (numsOf b)).get j).cells[c]? =some x'): ∃u,(Lib.strCells b)[j*1+c]? =some u/\u.oneCell'=true/\Rel w cx A x' u:=by
 have hl:j<b.data.toList.length:=by rw[Array.length_toList];exact hj
 have hg:(Row.ints .u8 (numsOf b)).get j=.int .u8 ((b.data.toList[j].toNat:Nat):Int):=by
  show AV.int .u8 ((numsOf b).getD j 0)=_
  rw[numsOf,List.getD_eq_getElem?_getD,List.getElem?_map,List.getElem?_eq_getElem hl]
  rfl
 rw[hg]at h
 match c,h with
 |0,h=>
  cases h
  refine⟨.int .u8 ((b.data.toList[j].toNat:Nat):Int),?_,rfl, .Kg _ _⟩
  rw[Lib.strCells,Nat.mul_one,Nat.add_zero,List.getElem?_map,List.getElem?_eq_getElem hl]
  rfl
 |c+1,h=>cases h
theorem V7 (S:Bj P.laid V w cx s1) (hf:H7 s1 s2) {t u ty e:TypeId} {i:TypeInfo} {ob:E8} (ht:P.underlying t=some (.slice e)) (hu:P.underlying u=some .string) (hc:P.cellsOf e=1) (hby:P.bytesOf e=1)
  (hi:P.info? e=some i) (hz:i.zero=some (.int .u8 0)) (b:ByteArray) (hb:b.size<=140737488355328) (Ld:ob.BU=1) (Tt:ob.ety=e) (hmb:ob.mb=true) (hlen:ob.row.len=b.size) (hok:ob.row.ok) (hget: ∀j,ob.row.get j=(Row.ints .u8 (numsOf b)).get j):
  ∃v' w',(Builtin.append_ #[t,u] ty #[.slice none 0 0, .string b]).run P w=.ok v' w'/\ ∃BX,Ext s1.length V w w' cx BX s1 (s2++ [some ob])/\Bj P.laid V w' BX (s2++ [some ob])/\Rel w' BX (Av V BX (s2++ [some ob])) (.ms s1.length b.size) v':=by
 obtain⟨_,hi',hsize,Ani⟩:=OA (P:=P) hi
 have S2:=S.fewer hf
 obtain⟨v',w',hr,hown,hg,hiff⟩:=Lib.run_append_own_string (P:=P.toProgram) w w.heap.size t u ty e i ht hu hi hz (by omega) (by omega) (.slice none 0 0) 0 [] (World.ownsRow_nil w _ e _) b (by simp only[maxLen];omega) (by omega) (Nat.le_refl _)
 refine⟨v',w',hr,?_⟩
 rw[Nat.zero_add]at hown
 have hg':w.grownBy w' none:=hg
 have hk: ∀b,b<w.heap.size->w'.heap[b]? =w.heap[b]? :=fun b hb=>hg'.block b hb (by simp)
 rcases hown.2 with ⟨rfl,hn⟩|⟨g,cap,cur,rfl,hbg,hh,hnc',hcm,hcs,htake⟩
 ·obtain⟨S3,E3⟩:=(S2.grown hg'.size hk).r9 ob (hlen.trans hn) hok hmb
  refine⟨_,((Ext.fewer (w:=w) (cx:=cx) hf).trans (Ext.grown hg'.os hg'.tape hg'.output hg'.size hk)).trans (E3 s1.length (by rw[hf.len];exact Nat.le_refl _)),S3,?_⟩
  rw[hn]
  exact .ms0 _ ⟨0,ob.BU,0,0,true⟩ (by rw[<- S.len];simp) rfl
 ·simp only[Nat.mul_one,List.nil_append]at hcs htake
  obtain⟨S3,E3⟩:=S2.add rfl (fun i o ho=>ho) ⟨g,1,b.size,cur.size,false⟩ ob cur hg'.os hg'.tape hg'.output hg'.size (fun b hb _=>hk b hb)
   (fun i e' o' he' ho' hn'=>by
     obtain⟨cur',R⟩:=S2.obj i e' o' he' ho' hn'
     have hlt:=R.lt
     exact⟨fun h=>by simp at h;omega,hk _ hlt⟩)
   (.inl hbg) rfl (by rw[Tt];exact hh) rfl Ld.symm hlen.symm hok (by show b.size*1<=cur.size;omega) (fun j hj=>by rw[hget,Ld];rfl)
   (fun j c x' hj hx=>by
     rw[hget]at hx
     obtain⟨u,h1,h2,h3⟩:=dY (w:=w) (cx:=cx) (Av V cx s2) b j c x' hj hx
     refine⟨u,?_,h2,h3⟩
     rw[ZQ htake]
     ·exact h1
     ·have:=(List.getElem?_eq_some_iff.1 h1).1
      rwa[Lib.strCells_length]at this)
  refine⟨_,(Ext.fewer (w:=w) (cx:=cx) hf).trans (E3.less (by rw[hf.len];exact Nat.le_refl _)),S3,?_⟩
  exact .ms _ b.size cap ⟨g,1,b.size,cur.size,false⟩ (by rw[<- S.len];simp) rfl (Nat.le_refl _) hnc' (by show cap*1=cur.size;omega) hcm
theorem iJ (S:Bj P.laid V w cx s1) {id:Nat} {o:E8} {en:Qr} {Na:Array Value} (ho:s1[id]? =some (some o)) (hen:cx[id]? =some en) (hnn:en.Fg=false) (hro:o.ro=false) (RO:Jy w cx (Av V cx s1) en o Na)
  {t u ty e:TypeId} {n0 cap0:Nat} {row:Row} {i:TypeInfo} (ht:P.underlying t=some (.slice e)) (hu:P.underlying u=some .string) (hc:P.cellsOf e=1) (hby:P.bytesOf e=1)
  (hi:P.info? e=some i) (hz:i.zero=some (.int .u8 0)) (b:ByteArray) (hb:n0+b.size<=140737488355328)
  (hn0:n0<=en.len) (hcap0:n0<=cap0) (htot:cap0*en.BU=en.tot) (hmax:cap0<=maxLen) (Ld:o.BU=1) (Tt:o.ety=e)
  (hlen:row.len=n0+b.size) (hok:row.ok) (hlow: ∀j,j<n0->row.get j=o.row.get j) (hhigh: ∀j,row.get (n0+j)=(Row.ints .u8 (numsOf b)).get j):
  ∃v' w',(Builtin.append_ #[t,u] ty #[.slice (some ⟨en.b,0,none⟩) n0 cap0, .string b]).run P w=.ok v' w'/\ ∃BX,Ext s1.length V w w' cx BX s1 (s1.set id none++ [some { o with row:=row }])/\Bj P.laid V w' BX (s1.set id none++ [some { o with row:=row }])/\
   Rel w' BX (Av V BX (s1.set id none++ [some { o with row:=row }])) (.ms s1.length (n0+b.size)) v':=by
 obtain⟨_,hi',hsize,Ani⟩:=OA (P:=P) hi
 have fin:=vF (P:=P) S ho hen hnn hro RO (e:=e) (n:=b.size) (r2:=.ints .u8 (numsOf b)) (news:=Lib.strCells b) hn0 (Ld.trans hc.symm) Tt (RU b) (fun j hj=>hc.symm) (by show row.len=n0+(numsOf b).length;rw[RU];exact hlen) hok hlow hhigh
  (by rw[Lib.strCells_length,hc,Nat.mul_one]) (fun j c x' hj hx=>by rw[hc];exact dY _ b j c x' hj hx)
 simp only[hc,Nat.mul_one]at fin
 have hes:en.BU=1:=RO.BU.trans Ld
 have yG:Na.size=cap0:=by rw[RO.tot,<- htot,hes,Nat.mul_one]
 have hh0:w.heap[en.b]? =some (.cells Na e (0,0)):=by rw[<- Tt];exact RO.heap hro
 by_cases hroom:n0+b.size<=cap0
 ·have hr:=Lib.run_append_room_string (P:=P.toProgram) w t u ty e i ht hu hi (by omega) en.b n0 cap0 Na hh0 b hroom (by omega)
  refine⟨_,_,hr,?_⟩
  have hl:(Na.toList.take n0).length=n0:=by rw[List.length_take,Array.length_toList];omega
  refine fin _ en.b cap0 _ ⟨rfl,rfl,rfl,by simp,fun k _ hk=>setRow_other w en.b k _ (fun e=>hk (by simp[e]))⟩ (setRow_heap w en.b Na _ e _ hh0) hroom hmax ?_ (fun k hk=>?_) (fun k hk=>?_) (.inl rfl)
  ·simp only[List.size_toArray,List.length_append,List.length_take,List.length_drop,Array.length_toList,Lib.strCells_length]
   omega
  ·rw[List.getElem?_toArray,List.append_assoc,List.getElem?_append_left (by omega),List.getElem?_take,if_pos hk,Array.getElem?_toList]
  ·rw[List.getElem?_toArray,List.append_assoc,List.getElem?_append_right (by omega),hl,Nat.add_sub_cancel_left,List.getElem?_append_left (by rw[Lib.strCells_length];exact hk)]
 ·have hl:(Na.toList.take n0).length=n0:=by rw[List.length_take,Array.length_toList];omega
  have holds: ∀j u,(Na.toList.take n0)[j]? =some u->w.cell? ((⟨en.b,0,none⟩:Addr).add j)=some u:=by
   have hown0:w.ownsRow 0 e 1 (.slice (some ⟨en.b,0,none⟩) n0 cap0) n0 (Na.toList.take n0):=
    ⟨by rw[hl,Nat.mul_one], .inr ⟨en.b,cap0,Na,rfl,Nat.zero_le _,hh0,hcap0,hmax,by rw[Nat.mul_one];exact yG,by rw[Nat.mul_one]⟩⟩
   exact hown0.cells (g:=en.b) rfl
  have hr:=Lib.run_append_grow_string (P:=P.toProgram) w t u ty e i (.int .u8 0) ht hu hi hz ⟨en.b,0,none⟩ n0 cap0 (Na.toList.take n0) (by rw[hl,show i.size=1 by omega,Nat.mul_one]) holds b (by omega) (by omega) (by rw[show i.bytes=1 by omega];exact growslice_fits (by omega) (by omega))
  refine⟨_,_,hr,?_⟩
  have hge:=grownCap_ge w (n0+b.size) cap0 e
  refine fin _ w.heap.size _ _ ⟨rfl,rfl,rfl,by simp,fun k hk _=>heap_alloc_old w.drew _ k hk⟩ (heap_alloc_new w.drew _) hge (grownCap_le_maxLen w (n0+b.size) cap0 e (by simp only[maxLen];omega)) ?_ (fun k hk=>?_) (fun k hk=>?_) (.inr (Nat.le_refl _))
  ·have hz1:(Value.int IntKind.u8 0).cells.size=1:=rfl
   simp only[Array.size_append,List.size_toArray,size_zeroCells,hz1,hl,Lib.strCells_length]
   omega
  ·rw[Array.getElem?_append_left (by simp[hl];omega),Array.getElem?_append_left (by simp[hl];omega),List.getElem?_toArray,List.getElem?_take,if_pos hk,Array.getElem?_toList]
  ·rw[Array.getElem?_append_left (by simp[hl,Lib.strCells_length];omega),Array.getElem?_append_right (by simp[hl]),List.getElem?_toArray,List.size_toArray,hl,Nat.add_sub_cancel_left]
section
variable {o:Oper} {ev:Operand->AV}
theorem bO {c:Call} {x0:AV} {bs:ByteArray} {K:AV->Store->Prop} (ho:o.op=.call c) (hc:c.callee=.builtin .append) (hx:c.args.toList.map ev= [x0, .str bs]) (h:Yh P s c.argTypes.toList x0 bs K): ∃r s',K r s'/\EY P o s ev r s':=by
 obtain⟨a,b,hab,rfl,hxb⟩:=AdO hx
 have hma:a∈o.op.operands.toList:=by simp[ho,Op.operands,Call.operands,hc,hab]
 have hmb:b∈o.op.operands.toList:=by simp[ho,Op.operands,Call.operands,hc,hab]
 unfold Yh at h
 split at h
 ·rename_i t t' hts
  have hts:=Ahl hts
  split at h
  ·rename_i e ht hu
   replace h:=Bn h
   obtain⟨hq,h⟩:=h
   simp only[Bool.and_eq_true,beq_iff_eq]at hq
   obtain⟨⟨hc1,hb1⟩,hzq⟩:=hq
   split at hzq
   ·rename_i z hz
    obtain rfl:=of_decide_eq_true hzq
    have he: ∀ρ,execOp ρ o=(do pure (.value (<- Builtin.append_ #[t,t'] o.type #[ρ a,ρ b]))):=fun ρ=>by rw[Jh ho hc,hts,hab];simp[builtin]
    have Al8: ∀ {w:World} {cx:Cx} {A:Nat->Prop} {ρ:Operand->Value},Rel w cx A (ev b) (ρ b)->ρ b=.string bs:=fun R=>by rw[hxb]at R;exact R.QB
    split at h
    ·rename_i get hev
     obtain⟨hb,hK⟩:=h
     refine⟨_,_,hK,EY.made he fun V w cx ρ S R=>?_⟩
     have hra:=R a hma
     rw[hev]at hra
     rw[Al8 (R b hmb)]
     generalize ρ a=va at hra
     obtain⟨i,zv,hi,hzv,wN,hst⟩:=I8 hz w cx (Av V cx s)
     rw[wN.Dx]at hzv
     cases hra with
     |sl _ _ _ ad cap BU vals hnil hcap hmax hzz=>
      have hnone:ad=none:=by have:=hnil true rfl;simpa using this
      subst hnone
      have:=hzz rfl
      subst this
      exact V7 (P:=P) S (H7.refl _) (ob:=⟨1,e, .ints .u8 (numsOf bs),false,true⟩) ht hu hc1 hb1 hi hzv bs hb rfl rfl rfl (RU bs) trivial (fun _=>rfl)
    ·rename_i id n0 hev
     split at h
     ·rename_i ob Sd
      replace h:=Bn h
      obtain⟨hq,hn0,hb,AjJ⟩:=h
      simp only[Bool.and_eq_true,beq_iff_eq]at hq
      obtain⟨⟨hro,Tt⟩,Ld⟩:=hq
      have hro:ob.ro=false:=by simpa using hro
      obtain⟨row,hK,hlen,hok,hlow,hhigh⟩:=lZ AjJ hn0
      have hlen:row.len=n0+bs.size:=by rw[hlen];show n0+(numsOf bs).length=_;rw[RU]
      refine⟨_,_,hK,EY.made he fun V w cx ρ S R=>?_⟩
      have hra:=R a hma
      rw[hev]at hra
      rw[Al8 (R b hmb)]
      generalize ρ a=va at hra
      obtain⟨i,zv,hi,hzv,wN,hst⟩:=I8 hz w cx (Av V cx s)
      rw[wN.Dx]at hzv
      cases hra with
      |ms _ _ cap en hen hnn hn hcap htot hmax=>
       obtain⟨Na,RO⟩:=S.obj id en ob hen Sd hnn
       exact iJ (P:=P) S Sd hen hnn hro RO ht hu hc1 hb1 hi hzv bs hb hn hcap htot hmax Ld Tt hlen (hok RO.ok trivial) hlow hhigh
      |ms0 _ en hen hnn=>
       obtain⟨v1,v2,v3,v4⟩:=S.gM id en ob hen Sd hnn
       rw[Nat.zero_add]
       exact V7 (P:=P) S (H7.kill _ id) (ob:= { ob with row:=row }) ht hu hc1 hb1 hi hzv bs (by omega) Ld Tt v3 (by show row.len=_;rw[hlen];omega) (hok v2 trivial) (fun j=>by have:=hhigh j;rwa[Nat.zero_add]at this)
     ·exact h.elim
    ·exact h.elim
   ·cases hzq
  ·exact h.elim
 ·exact h.elim
end
section
variable {o:Oper} {ev:Operand->AV}
theorem pG {c:Call} {x0 x1:AV} {K:AV->Store->Prop} (ho:o.op=.call c) (hc:c.callee=.builtin .append) (hx:c.args.toList.map ev= [x0,x1]) (h:sF P s c.argTypes.toList x0 x1 K): ∃r s',K r s'/\EY P o s ev r s':=by
 obtain⟨a,b,hab,rfl,rfl⟩:=AdO hx
 have hma:a∈o.op.operands.toList:=by simp[ho,Op.operands,Call.operands,hc,hab]
 have hmb:b∈o.op.operands.toList:=by simp[ho,Op.operands,Call.operands,hc,hab]
 unfold sF at h
 split at h
 ·rename_i t t' hts
  have hts:=Ahl hts
  split at h
  ·rename_i e ht
   replace h:=Bn h
   obtain⟨hq,ids,n,r2,hrow,hok2,hsz,h⟩:=h
   simp only[Bool.and_eq_true,beq_iff_eq]at hq
   obtain⟨⟨htt,hp⟩,hzq⟩:=hq
   subst htt
   have hp:0<P.cellsOf e:=by simpa using hp
   split at hzq
   ·rename_i z hz
    have Akj:z.A9=P.cellsOf e:=by simpa using hzq
    have he: ∀ρ,execOp ρ o=(do pure (.value (<- Builtin.append_ #[t,t] o.type #[ρ a,ρ b]))):=fun ρ=>by rw[Jh ho hc,hts,hab];simp[builtin]
    have F:=H7.Ib ids s
    split at h
    ·rename_i get hev
     obtain⟨hb,h63,hK⟩:=h
     refine⟨_,_,hK,EY.made he fun V w cx ρ S R=>?_⟩
     have hra:=R a hma
     rw[hev]at hra
     generalize ρ a=va at hra
     obtain⟨i,zv,hi,hzv,wN,hst⟩:=I8 hz w cx (Av V cx s)
     cases hra with
     |sl _ _ _ ad cap BU vals hnil hcap hmax hzz=>
      have hnone:ad=none:=by have:=hnil true rfl;simpa using this
      subst hnone
      have:=hzz rfl
      subst this
      have S1:=S.fewer F
      have hsrc:=source S1 hrow ((R b hmb).fewer F) hsz hp
      obtain⟨v',w',h1,BX,h2,h3,h4⟩:=QV (P:=P) (ty:=o.type) (x:=.unk) S1 (H7.refl _) (ob:=⟨P.cellsOf e,e,r2,false,true⟩) ht hp hi hzv (by rw[(wN.cells hst).1,Akj]) hsrc rfl rfl rfl hrow.1 hok2 hsz hb h63
      rw[F.len]at h2 h4
      exact⟨v',w',h1,BX,((Ext.fewer (w:=w) (cx:=cx) F).trans h2),h3,h4⟩
    ·rename_i id n0 hev
     split at h
     ·rename_i ob Sd
      replace h:=Bn h
      obtain⟨hq,hn0,hb,h63,AjJ⟩:=h
      simp only[Bool.and_eq_true,beq_iff_eq]at hq
      obtain⟨⟨hro,Tt⟩,Ld⟩:=hq
      have hro:ob.ro=false:=by simpa using hro
      obtain⟨row,hK,hlen,hok,hlow,hhigh⟩:=lZ AjJ hn0
      refine⟨_,_,hK,EY.made he fun V w cx ρ S R=>?_⟩
      have hra:=R a hma
      rw[hev]at hra
      generalize ρ a=va at hra
      obtain⟨i,zv,hi,hzv,wN,hst⟩:=I8 hz w cx (Av V cx s)
      have S1:=S.fewer F
      have hsrc:=source S1 hrow ((R b hmb).fewer F) hsz hp
      cases hra with
      |ms _ _ cap en hen hnn hn hcap htot hmax=>
       obtain⟨Na,RO⟩:=S1.obj id en ob hen Sd hnn
       obtain⟨v',w',h1,BX,h2,h3,h4⟩:=Vx (P:=P) (ty:=o.type) S1 Sd hen hnn hro RO ht hp hi hzv (by rw[(wN.cells hst).1,Akj]) hn hcap htot hmax hsrc Ld Tt hrow.1 hsz hlen (hok RO.ok hok2) hlow hhigh hb h63
       rw[F.len]at h2 h4
       exact⟨v',w',h1,BX,((Ext.fewer (w:=w) (cx:=cx) F).trans h2),h3,h4⟩
      |ms0 _ en hen hnn=>
       obtain⟨v1,v2,v3,v4⟩:=S1.gM id en ob hen Sd hnn
       have hgr: ∀j,row.get j=r2.get j:=fun j=>by have:=hhigh j;rwa[Nat.zero_add]at this
       have hsrc':Src w cx (Av V cx (Ib s ids)) (ρ b) n (P.cellsOf e) row:=by
              obtain⟨a1,c1,news,q1,q2,q3,q4,q5,q6⟩:=hsrc
              exact⟨a1,c1,news,q1,q2,q3,q4,q5,fun j c x hj hx=>q6 j c x hj (by rw[<- hgr];exact hx)⟩
       obtain⟨v',w',h1,BX,h2,h3,h4⟩:=QV (P:=P) (ty:=o.type) (x:=.unk) S1 (H7.kill _ id) (ob:= { ob with row:=row }) ht hp hi hzv (by rw[(wN.cells hst).1,Akj]) hsrc' Ld Tt v3 (by show row.len=n;rw[hlen,hrow.1];omega) (hok v2 hok2) (fun j hj=>by show(row.get j).A9=_;rw[hgr];exact hsz j hj) (by simpa using hb) (by simpa using h63)
       rw[F.len]at h2 h4
       rw[Nat.zero_add]
       exact⟨v',w',h1,BX,((Ext.fewer (w:=w) (cx:=cx) F).trans h2),h3,h4⟩
     ·exact h.elim
    ·exact h.elim
   ·cases hzq
  ·exact h.elim
 ·exact h.elim
end
end
end Go.SE
