import Derived.Test.YtkeokkmhhhhoiaaGreatDoorSe23
import Derived.LaidLaws
import Derived.Stop.LaidErr
namespace Go.SE
open Go
set_option linter.unusedVariables false
set_option linter.unusedSimpArgs false
abbrev M5:=String×Nat×List UInt8
def Aid (text:List UInt8):DataW Unit:=.iface "*errors.errorString" (.ptr (.agg [.lit (.string text)]))
def kM (l:List M5):List (String×DataW Unit):=l.map fun x=>(x.1,Aid x.2.2)
def dK:List M5->List Addr->List MemPlace
 |x::l,a::as=>.cell x.2.1 0::.cell a.block a.off::dK l as
 |_,_=> []
theorem Vh: ∀(l:List M5) (as:List Addr),as.length=l.length-> ∀a∈as,MemPlace.cell a.block a.off∈dK l as
 | [],[],_,a,ha=>by cases ha
 |x::l,b::as,h,a,ha=>by
  rcases List.mem_cons.1 ha with rfl|ha
  ·simp[dK]
  ·have:=Vh l as (by simpa using h) a ha
   simp[dK,this]
 | [],_::_,h,_,_=>by simp at h
 |_::_,[],h,_,_=>by simp at h
theorem qI: ∀(l:List M5) (as:List Addr),as.length=l.length->(dK l as).Nodup-> ∀(i j:Nat) (a:Addr),as[i]? =some a->as[j]? =some a->i=j
 | [],[],_,_,i,j,a,hi,_=>by simp at hi
 |x::l,b::as,h,hn,i,j,a,hi,hj=>by
  simp only[dK,List.nodup_cons,List.mem_cons,not_or]at hn
  have hl:as.length=l.length:=by simpa using h
  cases i with
  |zero=>
   cases j with
   |zero=>rfl
   |succ j=>
    simp at hi hj
    subst hi
    exact absurd (Vh l as hl _ (List.mem_of_getElem? hj)) hn.2.1
  |succ i=>
   cases j with
   |zero=>
    simp at hi hj
    subst hj
    exact absurd (Vh l as hl _ (List.mem_of_getElem? hi)) hn.2.1
   |succ j=>
    simp at hi hj
    rw[qI l as hl hn.2.2 i j a hi hj]
 | [],_::_,h,_,_,_,_,_,_=>by simp at h
 |_::_,[],h,_,_,_,_,_,_=>by simp at h
theorem qV {P:Program} {W:World} {ti tp te ts:TypeId} {ms:Array (String×TypeId)} {f:Field}
  (hi:P.underlying ti=some (.interface ms)) (hrow: ∀u,P.typeName? 3 u=some "*errors.errorString" ->u=tp) (hp:P.underlying tp=some (.pointer te)) (he:P.underlying te=some (.struct #[f])) (hft:f.type=ts) (hfo:f.offset=0) (hs:P.underlying ts=some .string) (hc:P.cellsOf te=1) (hcs:P.cellsOf ts=1):
  ∀(l:List M5) (ps:List MemPlace),DataW.LaidVars P W (kM l) ps->(∀x∈l,P.globalNamed x.1=some x.2.1/\(P.globals[x.2.1]?).map (·.type)=some ti)->
   (∀b off,MemPlace.cell b off∈ps-> ∀u v,W.cell? ⟨b,off,none⟩=some (.iface u v)->Value.okWide P W .any 0 u v)->
   ∃as:List Addr,as.length=l.length/\ps=dK l as/\ ∀(i:Nat) (x:M5),l[i]? =some x-> ∃a,as[i]? =some a/\W.cell? ⟨x.2.1,0,none⟩=some (.iface tp (.pointer (some a)))/\x.2.1<W.heap.size
 | [],ps,h,_,_=>⟨[],rfl,h,fun i x hx=>by simp at hx⟩
 |x::l,ps,h,hg,hok=>by
  obtain⟨g,t,cs,fuel,p,q,hg0,ht0,hv0,hd0,hq,e0⟩:=h
  obtain⟨g1,g2⟩:=hg x (by simp)
  obtain rfl:=Option.some.inj (g1.symm.trans hg0)
  obtain rfl:=Option.some.inj (g2.symm.trans ht0)
  obtain⟨l0⟩:=cs
  subst e0
  have hlt:x.2.1<W.heap.size:=by
   have hv:=hv0
   simp only[World.var?,hg0,Option.bind_some]at hv
   split at hv
   ·rename_i hq;exact(Array.getElem?_eq_some_iff.1 hq).1
   ·cases hv
  have ok0: ∀u v,l0= [.iface u v]->Value.okWide P W .any 0 u v:=fun u v e=>by
   subst e
   exact hok x.2.1 0 (by simp[MemPlace.row]) u v (by simpa using World.var?_cell hg0 hv0 0)
  obtain⟨a0,s0,rfl,hc0,hs0,hz0,rfl⟩:=errorString_of_trod hi hrow hp he hft hfo hs hc hcs hd0 ok0
  obtain⟨as,h1,h2,h3⟩:=qV hi hrow hp he hft hfo hs hc hcs l q hq (fun y hy=>hg y (by simp[hy])) (fun b off hm=>hok b off (by simp[hm]))
  refine⟨a0::as,by simp[h1],by subst h2;simp[dK,MemPlace.row],fun i y hy=>?_⟩
  cases i with
  |zero=>
   simp at hy
   subst hy
   exact⟨a0,rfl,by simpa using World.var?_cell hg0 hv0 0,hlt⟩
  |succ i=>exact h3 i y (by simpa using hy)
theorem uD {P:Program} {W:World} {ti tp te ts:TypeId} {ms:Array (String×TypeId)} {f:Field}
  (hi:P.underlying ti=some (.interface ms)) (hrow: ∀u,P.typeName? 3 u=some "*errors.errorString" ->u=tp) (hp:P.underlying tp=some (.pointer te)) (he:P.underlying te=some (.struct #[f])) (hft:f.type=ts) (hfo:f.offset=0) (hs:P.underlying ts=some .string) (hc:P.cellsOf te=1) (hcs:P.cellsOf ts=1)
  (l:List M5) (h:laidMet P (kM l) W) (hg: ∀x:M5,x∈l->P.globalNamed x.1=some x.2.1/\(P.globals[x.2.1]?).map (·.type)=some ti)
  (cs:List (Nat×Value)) (AhY: ∀x:Nat×Value,x∈cs->x.1<W.heap.size/\W.cell? ⟨x.1,0,none⟩=some x.2):Glob ⟨tp,(l.map fun x:M5=>x.2.1),cs⟩ W A0:=by
 obtain⟨ps,hv,hnd,hrows⟩:=h
 obtain⟨as,h1,rfl,h3⟩:=qV hi hrow hp he hft hfo hs hc hcs l ps hv hg fun b off hm=>(hrows b off hm).2
 have get: ∀g,g∈(l.map fun x:M5=>x.2.1)-> ∃(i:Nat) (x:M5) (a:Addr),l[i]? =some x/\x.2.1=g/\as[i]? =some a/\W.cell? ⟨g,0,none⟩=some (.iface tp (.pointer (some a)))/\g<W.heap.size:=fun g hg=>by
  obtain⟨x,hx,rfl⟩:=List.mem_map.1 hg
  obtain⟨i,hi⟩:=List.getElem?_of_mem hx
  obtain⟨a,q1,q2,q3⟩:=h3 i x hi
  exact⟨i,x,a,hi,rfl,q1,q2,q3⟩
 refine⟨fun g hg=>?_,fun g g' a hg hg' hc hc'=>?_,fun x hx=>⟨nA0 _,AhY x hx⟩⟩
 ·obtain⟨i,x,a,_,_,q1,q2,q3⟩:=get g hg
  obtain⟨c,t,hb⟩:=(hrows a.block a.off (Vh l as h1 a (List.mem_of_getElem? q1))).1
  exact⟨nA0 _,q3,a,q2,nA0 _,c,t,hb⟩
 ·obtain⟨i,x,b,e1,e2,q1,q2,_⟩:=get g hg
  obtain⟨i',x',b',e1',e2',q1',q2',_⟩:=get g' hg'
  rw[hc]at q2
  rw[hc']at q2'
  cases q2;cases q2'
  obtain rfl:=qI l as h1 hnd i i' _ q1 q1'
  rw[e1]at e1'
  cases e1'
  rw[<- e2,<- e2']
theorem Ait {L:Laid} {V:Nat->Prop} {w w4:World} {cx:Cx} {T:TypeId} {y x:AV} {e:Qr} {v:Value} (S:Bj L V w cx [some ⟨1,T, .vals [y],false,false⟩]) (he:cx[0]? =some e) (hnn:e.Fg=false)
  (os:w4.os=w.os) (tape:w4.tape=w.tape) (output:w4.output=w.output) (hs:w.heap.size<=w4.heap.size) (hk: ∀b,b<w.heap.size->w4.heap[b]? =w.heap[b]?)
  (h1:x.cells= [x]) (hv:v.oneCell'=true) (R:Rel w cx (Av V cx [some ⟨1,T, .vals [y],false,false⟩]) x v):
  Ext 1 V w (w4.setCell ⟨e.b,0,none⟩ v) cx cx [some ⟨1,T, .vals [y],false,false⟩] [some ⟨1,T, .vals [x],false,false⟩]/\Bj L V (w4.setCell ⟨e.b,0,none⟩ v) cx [some ⟨1,T, .vals [x],false,false⟩]:=by
 have S4:=S.grown hs hk
 have E4:Ext 1 V w w4 cx cx [some ⟨1,T, .vals [y],false,false⟩] [some ⟨1,T, .vals [y],false,false⟩]:=Ext.grown os tape output hs hk
 obtain⟨cur,RO⟩:=S4.obj 0 e _ he rfl hnn
 have Ld:e.BU=1:=RO.BU
 have hlen:e.len=1:=RO.len
 have htot:=RO.tot
 have hfits:=RO.fits
 rw[Ld,hlen]at hfits
 have R4:=R.move hs (fun b hb _=>hk b hb) (fun _ _ h=>h) (fun _ _ h=>h)
 have hn:x.A9=1:=by rw[<- AV.Db,h1];rfl
 obtain⟨S',E'⟩:=S4.update he rfl hnn rfl RO (.vals [x]) (cur.setIfInBounds 0 v) rfl trivial (by simp) (fun i hi=>by
   have:i=0:=by omega
   subst this
   exact hn) (fun i c z hi hz=>by
   have:i=0:=by omega
   subst this
   have hz:x.cells[c]? =some z:=hz
   rw[h1]at hz
   cases c with
   |zero=>
    simp at hz
    subst hz
    have h0:0<cur.size:=by omega
    exact⟨v,by simp[Array.getElem?_setIfInBounds,h0],hv,R4⟩
   |succ c=>simp at hz)
 rw[setCell_eq_setRow w4 e.b 0 cur T (0,0) v (RO.heap rfl)]
 exact⟨E4.trans (E' 1),S'⟩
end Go.SE
