import Derived.Test.YtkeokkmhhhhoiaaGreatDoorSe0
import Derived.Laws.AppendOwn
import Derived.Laws.MakeOwn
import Derived.Below
namespace Go.SE
open Go
set_option linter.unusedVariables false
variable {L:Laid}
set_option linter.unusedSimpArgs false
theorem AV.Db (v:AV):v.cells.length=v.A9:=by cases v<;>simp[AV.cells,AV.A9]
theorem AV.LU (v:AV) (c:Nat) (h:c<v.A9):v.cells[c]? =some (v.cellAt c):=by
 cases v<;>simp_all[AV.cells,AV.A9,AV.cellAt,List.getD]
theorem AV.NS {v x:AV} {c:Nat} (h:v.cells[c]? =some x):c<v.A9:=by
 rw[<- v.Db];exact(List.getElem?_eq_some_iff.1 h).1
theorem AV.Ahu {v x:AV} {c:Nat} (h:v.cells[c]? =some x):x=v.cellAt c:=by
 have:=v.LU c (AV.NS h)
 rw[h]at this
 exact Option.some.inj this
theorem OZ: ∀ {l:List AV},RH l=true-> ∀x∈l,x.Lm=true
 | [],_,x,hx=>by cases hx
 |v::vs,h,x,hx=>by
  simp only[RH,Bool.and_eq_true]at h
  rcases List.mem_cons.1 hx with rfl|hx
  ·exact h.1
  ·exact OZ h.2 x hx
theorem Xd: ∀ {l:List AV},(∀x∈l,x.Lm=true)->RH l=true
 | [],_=>rfl
 |v::vs,h=>by
  simp only[RH,Bool.and_eq_true]
  exact⟨h v (by simp),Xd fun x hx=>h x (by simp[hx])⟩
theorem WT: ∀ {l:List AV},ZI l=true-> ∀x∈l,x.scalar=true
 | [],_,x,hx=>by cases hx
 |v::vs,h,x,hx=>by
  simp only[ZI,Bool.and_eq_true]at h
  rcases List.mem_cons.1 hx with rfl|hx
  ·exact h.1
  ·exact WT h.2 x hx
theorem AV.J3 {v x:AV} {c:Nat} (h:v.Lm=true) (hx:v.cells[c]? =some x):x.Lm=true:=by
 cases v with
 |agg cs=>exact OZ (l:=cs) (by simpa[AV.Lm]using h) x (List.mem_of_getElem? hx)
 |H8 k l=>
  simp only[AV.cells,List.getElem?_map,Option.map_eq_some_iff]at hx
  obtain⟨n,_,rfl⟩:=hx
  rfl
 |_=>
  simp only[AV.cells,List.getElem?_singleton]at hx
  split at hx<;>simp_all
section
variable {w w':World} {cx BX:Cx} {A A':Nat->Prop}
theorem IE (hk: ∀b,b<w.heap.size-> ¬A b->w'.heap[b]? =w.heap[b]?) {b o:Nat} (hb:b<w.heap.size) (hA: ¬A b):w'.cell? ⟨b,o,none⟩=w.cell? ⟨b,o,none⟩:=
 World.cell?_of_block (a:=⟨b,o,none⟩) (hk b hb hA)
theorem Rel.move (hs:w.heap.size<=w'.heap.size) (hk: ∀b,b<w.heap.size-> ¬A b->w'.heap[b]? =w.heap[b]?) (hn: ∀b,b<w.heap.size-> ¬A b-> ¬A' b)
  (hc: ∀(i:Nat) (e:Qr),cx[i]? =some e->BX[i]? =some e) {x:AV} {v:Value} (h:Rel w cx A x v):Rel w' BX A' x v:=by
 induction h with
 |unk v=>exact .unk v
 |bool b=>exact .bool b
 |int k n=>exact .int k n
 |str s=>exact .str s
 |Lf=>exact .Lf
 |PO=>exact .PO
 |Ox=>exact .Ox
 |Tv b=>exact .Tv b
 |Ye a=>exact .Ye a
 |sl Fg n get a cap BU vals hnil hcap hmax hz hmem Gr hrel ih=>
  refine .sl Fg n get a cap BU vals hnil hcap hmax hz (fun h0=>?_) Gr ih
  obtain⟨b,off,ha,hA,hb,hm⟩:=hmem h0
  exact⟨b,off,ha,hn b hb.lt hA,hb.keep (hk b hb.lt hA),fun j c x hj hx=>⟨(IE hk hb.lt hA).trans (hm j c x hj hx).1,(hm j c x hj hx).2⟩⟩
 |ip e off b o vals Gr hA hb hmem hrel ih=>
  exact .ip e off b o vals Gr (hn b hb.lt hA) (hb.keep (hk b hb.lt hA)) (fun c x hx=>⟨(IE hk hb.lt hA).trans (hmem c x hx).1,(hmem c x hx).2⟩) ih
 |ms id n cap e he hnn hn' hcap htot hmax=>exact .ms id n cap e (hc _ _ he) hnn hn' hcap htot hmax
 |ms0 id e he hnn=>exact .ms0 id e (hc _ _ he) hnn
 |LP id off n cap o e he hnn hn' hcap hoff hmax=>exact .LP id off n cap o e (hc _ _ he) hnn hn' hcap hoff hmax
 |XK id e he hnn=>exact .XK id e (hc _ _ he) hnn
 |mp id i off e he hnn hi=>exact .mp id i off e (hc _ _ he) hnn hi
 |gH id i off=>exact .gH id i off
 |gI id i off e he hnn hi=>exact .gI id i off e (hc _ _ he) hnn hi
 |sd id n a h=>exact .sd id n a fun h0=>(h h0).imp fun e h=>⟨hc _ _ h.1,h.2⟩
 |agg cs vs hl h1 hrel ih=>exact .agg cs vs hl h1 ih
 |H8 k l=>exact .H8 k l
 |GU cs vs hl hrel ih=>exact .GU cs vs hl ih
 |fn f a b a' b' hl hl' hrel hrel' ih ih'=>exact .fn f a b a' b' hl hl' ih ih'
 |iface t x v hrel ih=>exact .iface t x v ih
 |Wp=>exact .Wp
 |UE g t a hA hb hm=>exact .UE g t a (hn g hb hA) (Nat.lt_of_lt_of_le hb hs) ((IE hk hb hA).trans hm)
 |Ve t n e b o v hA hb h0 h1 hrel ih=>exact .Ve t n e b o v (hn b hb hA) (Nat.lt_of_lt_of_le hb hs) ((IE hk hb hA).trans h0) ((IE hk hb hA).trans h1) ih
theorem Rel.KY (hs:w.heap.size<=w'.heap.size) (hk: ∀b,b<w.heap.size-> ¬A b->w'.heap[b]? =w.heap[b]?) (hn: ∀b,b<w.heap.size-> ¬A b-> ¬A' b)
  {x:AV} {v:Value} (h:Rel w cx A x v) (hi:x.Lm=true):Rel w' BX A' x v:=by
 induction h with
 |unk v=>exact .unk v
 |bool b=>exact .bool b
 |int k n=>exact .int k n
 |str s=>exact .str s
 |Lf=>exact .Lf
 |PO=>exact .PO
 |Ox=>exact .Ox
 |Tv b=>exact .Tv b
 |Ye a=>exact .Ye a
 |sl Fg n get a cap BU vals hnil hcap hmax hz hmem Gr hrel ih=>
  refine .sl Fg n get a cap BU vals hnil hcap hmax hz (fun h0=>?_) Gr (fun j c x hj hx=>ih j c x hj hx (AV.J3 (Gr j hj).1 hx))
  obtain⟨b,off,ha,hA,hb,hm⟩:=hmem h0
  exact⟨b,off,ha,hn b hb.lt hA,hb.keep (hk b hb.lt hA),fun j c x hj hx=>⟨(IE hk hb.lt hA).trans (hm j c x hj hx).1,(hm j c x hj hx).2⟩⟩
 |ip e off b o vals Gr hA hb hmem hrel ih=>
  exact .ip e off b o vals Gr (hn b hb.lt hA) (hb.keep (hk b hb.lt hA)) (fun c x hx=>⟨(IE hk hb.lt hA).trans (hmem c x hx).1,(hmem c x hx).2⟩)
   (fun c x hx=>ih c x hx (AV.J3 Gr hx))
 |ms id n cap e he hnn hn' hcap htot hmax=>cases hi
 |ms0 id e he hnn=>cases hi
 |LP id off n cap o e he hnn hn' hcap hoff hmax=>cases hi
 |XK id e he hnn=>cases hi
 |mp id i off e he hnn hi'=>cases hi
 |gH id i off=>cases hi
 |gI id i off e he hnn hi'=>cases hi
 |sd id n a h=>cases hi
 |agg cs vs hl h1 hrel ih=>exact .agg cs vs hl h1 (fun c x v hx hv=>ih c x v hx hv (OZ (by simpa[AV.Lm]using hi) x (List.mem_of_getElem? hx)))
 |H8 k l=>exact .H8 k l
 |GU cs vs hl hrel ih=>exact .GU cs vs hl (fun c x v hx hv=>ih c x v hx hv (OZ (by simpa[AV.Lm]using hi) x (List.mem_of_getElem? hx)))
 |fn f a b a' b' hl hl' hrel hrel' ih ih'=>
  simp only[AV.Lm,Bool.and_eq_true]at hi
  exact .fn f a b a' b' hl hl' (fun c x v hx hv=>ih c x v hx hv (OZ hi.1 x (List.mem_of_getElem? hx))) (fun c x v hx hv=>ih' c x v hx hv (OZ hi.2 x (List.mem_of_getElem? hx)))
 |iface t x v hrel ih=>exact .iface t x v (ih (by simpa[AV.Lm]using hi))
 |Wp=>exact .Wp
 |UE g t a hA hb hm=>exact .UE g t a (hn g hb hA) (Nat.lt_of_lt_of_le hb hs) ((IE hk hb hA).trans hm)
 |Ve t n e b o v hA hb h0 h1 hrel ih=>exact .Ve t n e b o v (hn b hb hA) (Nat.lt_of_lt_of_le hb hs) ((IE hk hb hA).trans h0) ((IE hk hb hA).trans h1) (ih rfl)
theorem Glob.move (G:Glob L w A) (hs:w.heap.size<=w'.heap.size) (hk: ∀b,b<w.heap.size-> ¬A b->w'.heap[b]? =w.heap[b]?) (hn: ∀b,b<w.heap.size-> ¬A b-> ¬A' b):Glob L w' A' where
 sent g hg:=by
  obtain⟨h1,h2,a,h3,h5,cur,t,h6⟩:=G.sent g hg
  have hb:a.block<w.heap.size:=(Array.getElem?_eq_some_iff.1 h6).1
  exact⟨hn g h2 h1,Nat.lt_of_lt_of_le h2 hs,a,(IE hk h2 h1).trans h3,hn _ hb h5,cur,t,(hk _ hb h5).trans h6⟩
 apart g g' a hg hg' h h':=by
  obtain⟨h1,h2,_⟩:=G.sent g hg
  obtain⟨h1',h2',_⟩:=G.sent g' hg'
  exact G.apart g g' a hg hg' ((IE hk h2 h1).symm.trans h) ((IE hk h2' h1').symm.trans h')
 cst x hx:=by
  obtain⟨h1,h2,h3⟩:=G.cst x hx
  exact⟨hn _ h2 h1,Nat.lt_of_lt_of_le h2 hs,(IE hk h2 h1).trans h3⟩
theorem Rel.Gp (hs:w.heap.size<=w'.heap.size) (hk: ∀b,UZ w b-> ¬A b->w'.heap[b]? =w.heap[b]?) (hn: ∀b,UZ w b-> ¬A b-> ¬A' b) {x:AV} {v:Value} (h:Rel w cx A x v):Rel w' cx A' x v:=by
 have ck: ∀ {b o:Nat},UZ w b-> ¬A b->w'.cell? ⟨b,o,none⟩=w.cell? ⟨b,o,none⟩:=fun hb hA=>World.cell?_of_block (hk _ hb hA)
 induction h with
 |unk v=>exact .unk v
 |bool b=>exact .bool b
 |int k n=>exact .int k n
 |str s=>exact .str s
 |Lf=>exact .Lf
 |PO=>exact .PO
 |Ox=>exact .Ox
 |Tv b=>exact .Tv b
 |Ye a=>exact .Ye a
 |sl Fg n get a cap BU vals hnil hcap hmax hz hmem Gr hrel ih=>
  refine .sl Fg n get a cap BU vals hnil hcap hmax hz (fun h0=>?_) Gr ih
  obtain⟨b,off,ha,hA,hb,hm⟩:=hmem h0
  exact⟨b,off,ha,hn b hb hA,hb.keep (hk b hb hA),fun j c x hj hx=>⟨(ck hb hA).trans (hm j c x hj hx).1,(hm j c x hj hx).2⟩⟩
 |ip e off b o vals Gr hA hb hmem hrel ih=>
  exact .ip e off b o vals Gr (hn b hb hA) (hb.keep (hk b hb hA)) (fun c x hx=>⟨(ck hb hA).trans (hmem c x hx).1,(hmem c x hx).2⟩) ih
 |ms id n cap e he hnn hn' hcap htot hmax=>exact .ms id n cap e he hnn hn' hcap htot hmax
 |ms0 id e he hnn=>exact .ms0 id e he hnn
 |LP id off n cap o e he hnn hn' hcap hoff hmax=>exact .LP id off n cap o e he hnn hn' hcap hoff hmax
 |XK id e he hnn=>exact .XK id e he hnn
 |mp id i off e he hnn hi=>exact .mp id i off e he hnn hi
 |gH id i off=>exact .gH id i off
 |gI id i off e he hnn hi=>exact .gI id i off e he hnn hi
 |sd id n a h=>exact .sd id n a h
 |agg cs vs hl h1 hrel ih=>exact .agg cs vs hl h1 ih
 |H8 k l=>exact .H8 k l
 |GU cs vs hl hrel ih=>exact .GU cs vs hl ih
 |fn f a b a' b' hl hl' hrel hrel' ih ih'=>exact .fn f a b a' b' hl hl' ih ih'
 |iface t x v hrel ih=>exact .iface t x v ih
 |Wp=>exact .Wp
 |UE g t a hA hb hm=>exact .UE g t a (hn g (UZ.of_cell hm) hA) (Nat.lt_of_lt_of_le hb hs) ((ck (UZ.of_cell hm) hA).trans hm)
 |Ve t n e b o v hA hb h0 h1 hrel ih=>exact .Ve t n e b o v (hn b (UZ.of_cell h0) hA) (Nat.lt_of_lt_of_le hb hs) ((ck (UZ.of_cell h0) hA).trans h0) ((ck (UZ.of_cell h0) hA).trans h1) ih
theorem Glob.Gp (G:Glob L w A) (hs:w.heap.size<=w'.heap.size) (hk: ∀b,UZ w b-> ¬A b->w'.heap[b]? =w.heap[b]?) (hn: ∀b,UZ w b-> ¬A b-> ¬A' b):Glob L w' A':=by
 have ck: ∀ {b o:Nat},UZ w b-> ¬A b->w'.cell? ⟨b,o,none⟩=w.cell? ⟨b,o,none⟩:=fun hb hA=>World.cell?_of_block (hk _ hb hA)
 refine⟨fun g hg=>?_,fun g g' a hg hg' h h'=>?_,fun x hx=>?_⟩
 ·obtain⟨h1,h2,a,h3,h5,cur,t,h6⟩:=G.sent g hg
  exact⟨hn g (UZ.of_cell h3) h1,Nat.lt_of_lt_of_le h2 hs,a,(ck (UZ.of_cell h3) h1).trans h3,hn _ ⟨_,_,_,h6⟩ h5,cur,t,(hk _ ⟨_,_,_,h6⟩ h5).trans h6⟩
 ·obtain⟨z,_,b,q,_⟩:=G.sent g hg
  obtain⟨z',_,b',q',_⟩:=G.sent g' hg'
  exact G.apart g g' a hg hg' ((ck (UZ.of_cell q) z).symm.trans h) ((ck (UZ.of_cell q') z').symm.trans h')
 ·obtain⟨h1,h2,h3⟩:=G.cst x hx
  exact⟨hn _ (UZ.of_cell h3) h1,Nat.lt_of_lt_of_le h2 hs,(ck (UZ.of_cell h3) h1).trans h3⟩
theorem Rel.zX {x:AV} {v:Value} (h:Rel w cx A x v) (hi:x.scalar=true):Rel w' BX A' x v:=by
 induction h with
 |unk v=>exact .unk v
 |bool b=>exact .bool b
 |int k n=>exact .int k n
 |str s=>exact .str s
 |Lf=>exact .Lf
 |PO=>exact .PO
 |Ox=>exact .Ox
 |Tv b=>exact .Tv b
 |agg cs vs hl h1 hrel ih=>exact .agg cs vs hl h1 (fun c x v hx hv=>ih c x v hx hv (WT (by simpa[AV.scalar]using hi) x (List.mem_of_getElem? hx)))
 |H8 k l=>exact .H8 k l
 |GU cs vs hl hrel ih=>exact .GU cs vs hl (fun c x v hx hv=>ih c x v hx hv (WT (by simpa[AV.scalar]using hi) x (List.mem_of_getElem? hx)))
 |_=>cases hi
end
section
variable {w:World} {cx:Cx} {A:Nat->Prop}
theorem Rel.cells {x:AV} {v:Value} (h:Rel w cx A x v) (hk:x.storable=true):
  v.cells.size=x.A9/\(∀u∈v.cells.toList,u.oneCell'=true)/\ ∀(c:Nat) (y:AV),x.cells[c]? =some y-> ∃u,v.cells[c]? =some u/\Rel w cx A y u:=by
 cases h with
 |unk v=>cases hk
 |GU=>cases hk
 |agg cs vs hl h1 hrel=>
  refine⟨by simp[Value.cells,AV.A9,hl],fun u hu=>h1 u (by simpa[Value.cells]using hu),fun c y hy=>?_⟩
  simp only[AV.cells]at hy
  have hlt:c<vs.length:=by rw[<- hl];exact(List.getElem?_eq_some_iff.1 hy).1
  exact⟨vs[c],by simp[Value.cells,hlt],hrel c y _ hy (by simp[hlt])⟩
 |H8 k l=>
  refine⟨by simp[Value.cells,AV.A9],fun u hu=>?_,fun c y hy=>?_⟩
  ·simp only[Value.cells]at hu
   obtain⟨n,_,rfl⟩:=List.mem_map.1 hu
   rfl
  ·simp only[AV.cells,List.getElem?_map,Option.map_eq_some_iff]at hy
   obtain⟨n,hn,rfl⟩:=hy
   exact⟨.int k n,by simp[Value.cells,hn], .int k n⟩
 |_=>
  refine⟨by simp[Value.cells,AV.A9],fun u hu=>by simp[Value.cells]at hu;subst hu;rfl,fun c y hy=>?_⟩
  simp only[AV.cells,List.getElem?_singleton]at hy
  split at hy
  ·rename_i hc
   cases hy
   subst hc
   refine⟨_,by simp[Value.cells];rfl,?_⟩
   first
    |exact .bool _
    |exact .int _ _
    |exact .str _
    |exact .Lf
    |exact .PO
    |exact .Ox
    |exact .Tv _
    |exact .Ye _
    |(constructor<;>assumption)
  ·cases hy
theorem Rel.of_cells {cs:List AV} {vs:List Value} (hl:cs.length=vs.length) (h1: ∀v∈vs,v.oneCell'=true) (h: ∀(c:Nat) (x:AV),cs[c]? =some x-> ∃v,vs[c]? =some v/\Rel w cx A x v):Rel w cx A (.agg cs) (.agg vs.toArray):=
 .agg cs vs hl h1 fun c x v hx hv=>by
   obtain⟨u,hu,hr⟩:=h c x hx
   rw[hu]at hv
   exact Option.some.inj hv▸hr
end
theorem Wr.lt {V:Nat->Prop} {w:World} {cx:Cx} {s:Store} (S:Bj L V w cx s) {b:Nat} (h:Wr cx s b):b<w.heap.size:=by
 obtain⟨i,e,o,he,ho,_,hn,rfl⟩:=h
 obtain⟨cur,R⟩:=S.obj i e o he ho hn
 exact R.lt
theorem Av.lt {V:Nat->Prop} {w:World} {cx:Cx} {s:Store} (S:Bj L V w cx s) {b:Nat} (h:Av V cx s b):b<w.heap.size:=h.elim (S.low b) (Wr.lt S)
section
variable {m:Nat} {V:Nat->Prop} {w w' w'':World} {cx BX Ak9:Cx} {s s' s'':Store}
theorem Ext.refl:Ext m V w w cx cx s s:=⟨rfl,rfl,rfl,Nat.le_refl _,fun _ _ _=>rfl,fun _ _ h=>h,fun _ _ h=>h,fun _ _ _ h=>h⟩
theorem Ext.trans (h:Ext m V w w' cx BX s s') (h':Ext m V w' w'' BX Ak9 s' s''):Ext m V w w'' cx Ak9 s s'' where
 os:=h'.os.trans h.os
 tape:=h'.tape.trans h.tape
 output:=h'.output.trans h.output
 size:=Nat.le_trans h.size h'.size
 keep b hb hA:=(h'.keep b (Nat.lt_of_lt_of_le hb h.size) (h.grow b hb hA)).trans (h.keep b hb hA)
 now b hb hA:=h'.now b (Nat.lt_of_lt_of_le hb h.size) (h.now b hb hA)
 grow b hb hA:=h'.grow b (Nat.lt_of_lt_of_le hb h.size) (h.grow b hb hA)
 cx i e hi he:=h'.cx i e hi (h.cx i e hi he)
theorem Ext.less {k:Nat} (h:Ext m V w w' cx BX s s') (hk:k<=m):Ext k V w w' cx BX s s':=
 ⟨h.os,h.tape,h.output,h.size,h.keep,h.now,h.grow,fun i e hi he=>h.cx i e (Nat.lt_of_lt_of_le hi hk) he⟩
theorem Marks.keep {V V':Nat->Prop} {w w':World} (hk: ∀k,k<w.heap.size->w.heap[k]? =some (.deferred (some []))-> ¬V k->w'.heap[k]? =w.heap[k]?) (hV: ∀k,k<w.heap.size-> ¬V k-> ¬V' k): ∀ {ds:List Deferred},Marks V w ds->Marks V' w' ds
 | [],_=>trivial
 |d::ds,h=>by
  obtain⟨⟨k,h1,h2,h5,h3⟩,h4⟩:=h
  have hlt:=(Array.getElem?_eq_some_iff.1 h2).1
  exact⟨⟨k,h1,(hk k hlt h2 h5).trans h2,hV k hlt h5,h3⟩,Marks.keep hk hV h4⟩
theorem Wr.cells {V:Nat->Prop} {w:World} {cx:Cx} {s:Store} (S:Bj L V w cx s) {b:Nat} (h:Wr cx s b): ∃cur t fz,w.heap[b]? =some (.cells cur t fz):=by
 obtain⟨i,e,o,he,ho,_,hn,rfl⟩:=h
 obtain⟨cur,R⟩:=S.obj i e o he ho hn
 obtain⟨fz,h,_⟩:=R.hp
 exact⟨cur,_,fz,h⟩
theorem Marks.ext (S:Bj L V w cx s) (h:Ext m V w w' cx BX s s') {ds:List Deferred} (M:Marks V w ds):Marks V w' ds:=
 M.keep (fun k hk hd _=>h.keep k hk fun hw=>by
   obtain⟨cur,t,fz,hc⟩:=Wr.cells S hw
   rw[hd]at hc
   cases hc) fun _ _ h=>h
theorem Rel.ext (h:Ext s.length V w w' cx BX s s') (hl:cx.length=s.length) {x:AV} {v:Value} (r:Rel w cx (Av V cx s) x v):Rel w' BX (Av V BX s') x v:=
 r.move h.size (fun b hb hA=>h.keep b hb fun hw=>hA (.inr hw)) h.now fun i e he=>h.cx i e (by rw[<- hl];exact(List.getElem?_eq_some_iff.1 he).1) he
theorem Bj.grown (S:Bj L V w cx s) (hs:w.heap.size<=w'.heap.size) (hk: ∀b,b<w.heap.size->w'.heap[b]? =w.heap[b]?):Bj L V w' cx s where
 low b hb:=Nat.lt_of_lt_of_le (S.low b hb) hs
 len:=S.len
 obj i e o he ho hn:=by
  obtain⟨cur,R⟩:=S.obj i e o he ho hn
  refine⟨cur,?_,R.tot,R.BU,R.len,R.ok,R.fits,R.size,fun j c x hj hx=>?_⟩
  ·rw[hk _ R.lt];exact R.hp
  ·obtain⟨v,h1,h2,h3⟩:=R.cells j c x hj hx
   exact⟨v,h1,h2,h3.move hs (fun b hb _=>hk b hb) (fun _ _ h=>h) fun _ _ h=>h⟩
 gM:=S.gM
 may:=S.may
 apart:=S.apart
 inj:=S.inj
 glob:=S.glob.move hs (fun b hb _=>hk b hb) fun _ _ h=>h
theorem Ext.grown (os:w'.os=w.os) (tape:w'.tape=w.tape) (output:w'.output=w.output) (hs:w.heap.size<=w'.heap.size) (hk: ∀b,b<w.heap.size->w'.heap[b]? =w.heap[b]?):Ext m V w w' cx cx s s:=
 ⟨os,tape,output,hs,fun b hb _=>hk b hb,fun _ _ h=>h,fun _ _ h=>h,fun _ _ _ h=>h⟩
end
end Go.SE
