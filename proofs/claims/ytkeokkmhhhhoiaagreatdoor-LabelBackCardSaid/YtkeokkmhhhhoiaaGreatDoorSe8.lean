import Derived.Test.YtkeokkmhhhhoiaaGreatDoorSe7
import Derived.Maps.AppendAt
namespace Go.SE
open Go
set_option linter.unusedVariables false
variable {L:Laid}
set_option linter.unusedSimpArgs false
theorem JI {f:AV->Option AV} : ∀ {l l':List AV},SQ f l=some l'->l'.length=l.length/\ ∀(c:Nat) (x':AV),l'[c]? =some x'-> ∃x,l[c]? =some x/\f x=some x'
 | [],l',h=>by cases h;exact⟨rfl,fun c x' hx=>by simp at hx⟩
 |v::vs,l',h=>by
  unfold SQ at h
  split at h
  ·rename_i v' vs' hv hvs
   cases h
   obtain⟨h1,h2⟩:=JI hvs
   refine⟨by simp[h1],fun c x' hx=>?_⟩
   cases c with
   |zero=>simp at hx;subst hx;exact⟨v,rfl,hv⟩
   |succ c=>simpa using h2 c x' (by simpa using hx)
  ·cases h
theorem eT {mb:Bool} {row:Row} {n:Nat} {x:AV} (h:Xo mb row n=some x) (hok:row.ok):
  ∃get,x=.sl (bif mb then none else some false) n get/\(∀j,get j=row.get j)/\ ∀j,j<row.len->(row.get j).Lm=true:=by
 cases row with
 |ints k l=>cases h;exact⟨_,rfl,fun j=>rfl,fun j _=>rfl⟩
 |strs l=>cases h;exact⟨_,rfl,fun j=>rfl,fun j _=>rfl⟩
 |bools l=>cases h;exact⟨_,rfl,fun j=>rfl,fun j _=>rfl⟩
 |Sg l=>
  cases h
  refine⟨_,rfl,fun j=>rfl,fun j hj=>hok _ ?_⟩
  simp only[Row.len]at hj
  simp only[Row.get,List.getD,List.getElem?_eq_getElem hj,Option.getD_some]
  exact List.getElem_mem hj
 |Y6 n' g=>cases h;exact⟨_,rfl,fun j=>rfl,fun j hj=>hok j hj⟩
 |vals l=>
  simp only[Xo]at h
  cases hq:RH l with
  |false=>rw[hq]at h;cases h
  |true=>
   rw[hq]at h
   cases h
   refine⟨_,rfl,fun j=>rfl,fun j hj=>OZ hq _ ?_⟩
   simp only[Row.len]at hj
   simp only[Row.get,List.getD,List.getElem?_eq_getElem hj,Option.getD_some]
   exact List.getElem_mem hj
theorem vU {d:Nat} {s:Store} {id n:Nat} {x':AV} (h:snap (d+1) s (.ms id n)=some x'): ∃nl get,x'=.sl nl n get:=by
 simp only[snap]at h
 split at h
 ·rename_i o ho
  cases hr:o.row with
  |vals l=>
   rw[hr]at h
   obtain⟨l',_,rfl⟩:=Option.map_eq_some_iff.1 h
   exact⟨_,_,rfl⟩
  |ints k l=>rw[hr]at h;cases h;exact⟨_,_,rfl⟩
  |strs l=>rw[hr]at h;cases h;exact⟨_,_,rfl⟩
  |bools l=>rw[hr]at h;cases h;exact⟨_,_,rfl⟩
  |Sg l=>rw[hr]at h;cases h;exact⟨_,_,rfl⟩
  |Y6 n' g=>rw[hr]at h;cases h;exact⟨_,_,rfl⟩
 ·cases h
theorem WU {d:Nat} {s:Store} {x x':AV} (h:snap (d+1) s x=some x') (hn: ∀cs,x≠.agg cs): ∀cs,x'≠.agg cs:=by
 intro cs hc
 subst hc
 cases x with
 |ms id n=>obtain⟨_,_,h⟩:=vU h;cases h
 |LP id off n=>simp only[snap]at h;cases h
 |PN id i off b=>simp only[snap]at h;cases h
 |sd id n=>simp only[snap]at h;cases h
 |agg cs=>exact hn _ rfl
 |mp id i off=>
  simp only[snap]at h
  split at h
  ·simp at h
  ·cases h
 |GU vs=>simp[snap]at h
 |iface t v=>simp[snap]at h
 |fn f a b=>simp only[snap]at h;split at h<;>cases h
 |_=>simp only[snap]at h;cases h
theorem Aab {d:Nat} {s:Store} {x x':AV} (h:snap (d+1) s x=some x') (h1: ∀cs,x≠.agg cs) (h2: ∀k l,x≠.H8 k l):x'.cells= [x']:=by
 cases x with
 |ms id n=>obtain⟨_,_,rfl⟩:=vU h;rfl
 |LP id off n=>simp only[snap]at h;cases h
 |PN id i off b=>simp only[snap]at h;cases h
 |sd id n=>simp only[snap]at h;cases h
 |agg cs=>exact absurd rfl (h1 _)
 |H8 k l=>exact absurd rfl (h2 _ _)
 |mp id i off=>
  simp only[snap]at h
  split at h
  ·obtain⟨_,_,rfl⟩:=Option.map_eq_some_iff.1 h;rfl
  ·cases h
 |GU vs=>simp only[snap]at h;obtain⟨_,_,rfl⟩:=Option.map_eq_some_iff.1 h;rfl
 |iface t v=>simp only[snap]at h;obtain⟨_,_,rfl⟩:=Option.map_eq_some_iff.1 h;rfl
 |fn f a b=>simp only[snap]at h;split at h<;>cases h;rfl
 |_=>simp only[snap]at h;cases h;rfl
theorem rR {d:Nat} {s:Store} {x:AV} {k:IntKind} {l:List Int} (h:snap (d+1) s x=some (.H8 k l)):x=.H8 k l:=by
 cases x with
 |ms id n=>obtain⟨_,_,h⟩:=vU h;cases h
 |LP id off n=>simp only[snap]at h;cases h
 |PN id i off b=>simp only[snap]at h;cases h
 |sd id n=>simp only[snap]at h;cases h
 |mp id i off=>
  simp only[snap]at h
  split at h
  ·simp at h
  ·cases h
 |agg cs=>simp[snap]at h
 |GU vs=>simp[snap]at h
 |iface t v=>simp[snap]at h
 |fn f a b=>simp only[snap]at h;split at h<;>cases h
 |_=>simp only[snap]at h;cases h<;>rfl
theorem Aaa {d:Nat} {s:Store} {x x':AV} (h:snap d s x=some x'):x'.A9=x.A9:=by
 cases d with
 |zero=>cases h
 |succ d=>
  by_cases hagg: ∃cs,x=.agg cs
  ·obtain⟨cs,rfl⟩:=hagg
   simp only[snap]at h
   obtain⟨cs',hcs,rfl⟩:=Option.map_eq_some_iff.1 h
   exact(JI hcs).1
  ·by_cases hai: ∃k l,x=.H8 k l
   ·obtain⟨k,l,rfl⟩:=hai
    simp only[snap]at h
    cases h
    rfl
   ·have hsc:x.cells= [x]:=by cases x<;>first|rfl|exact absurd ⟨_,rfl⟩ hagg|exact absurd ⟨_,_,rfl⟩ hai
    rw[<- AV.Db,<- AV.Db,hsc,Aab h (fun cs hc=>hagg ⟨cs,hc⟩) fun k l hc=>hai ⟨k,l,hc⟩]
    rfl
theorem Rel.Uf {V:Nat->Prop} {w:World} {cx:Cx} {s:Store} (S:Bj L V w cx s) {A':Nat->Prop} (hA: ∀b,A' b->Av V cx s b): ∀(d:Nat) (x x':AV) (v:Value),snap d s x=some x'->Rel w cx (Av V cx s) x v->
  (∀id∈Ch d s x,∀e o,cx[id]? =some e->s[id]? =some (some o)->e.Fg=false-> ¬A' e.b)->Rel w [] A' x' v/\x'.Lm=true:=by
 intro d
 induction d with
 |zero=>intro x x' v h;cases h
 |succ d ih=>
  intro x x' v h R hro
  have mv: ∀ {y:AV} {u:Value},Rel w cx (Av V cx s) y u->y.Lm=true->Rel w [] A' y u:=fun r hi=>
   r.KY (Nat.le_refl _) (fun _ _ _=>rfl) (fun b _ hb hb'=>hb (hA b hb')) hi
  have cellsOf: ∀(y y1:AV) (b o:Nat),snap d s y=some y1->rX w cx (Av V cx s) y b o->(∀id∈Ch d s y,∀e o,cx[id]? =some e->s[id]? =some (some o)->e.Fg=false-> ¬A' e.b)->
    ∀(c:Nat) (y':AV),y1.cells[c]? =some y'-> ∃u,w.cell? ⟨b,o+c,none⟩=some u/\u.oneCell'=true/\Rel w [] A' y' u/\y'.Lm=true:=by
   intro y y1 b o he' hlies Ah2
   cases d with
   |zero=>cases he'
   |succ d=>
    intro c y' hy'
    by_cases hagg: ∃cs,y=.agg cs
    ·obtain⟨cs,rfl⟩:=hagg
     simp only[snap]at he'
     obtain⟨cs',hcs,rfl⟩:=Option.map_eq_some_iff.1 he'
     obtain⟨_,h2⟩:=JI hcs
     obtain⟨z,hz,hsz⟩:=h2 c y' hy'
     obtain⟨u,g1,g2,g3⟩:=hlies c z hz
     have hone:Rel w cx (Av V cx s) (.agg [z]) (.agg #[u]):=.agg [z] [u] rfl (fun v hv=>by simp at hv;subst hv;exact g2) (fun c x v hx hv=>by
            cases c with
            |zero=>simp at hx hv;subst hx;subst hv;exact g3
            |succ c=>simp at hx)
     have:=ih (.agg [z]) (.agg [y']) _ (by simp[snap,SQ,hsz]) hone (fun id' hid=>Ah2 id' (by
            simp only[Ch,List.flatMap_cons,List.flatMap_nil,List.append_nil]at hid ⊢
            exact List.mem_flatMap.2 ⟨z,List.mem_of_getElem? hz,hid⟩))
     obtain⟨r1,r2⟩:=this
     refine⟨u,g1,g2,?_,?_⟩
     ·cases r1 with
      |agg _ vs hl h1 hrel=>
       rename_i hvs
       exact hrel 0 y' u rfl (by simp)
     ·simpa[AV.Lm,RH]using r2
    ·by_cases hai: ∃k l,y=.H8 k l
     ·obtain⟨k,l,rfl⟩:=hai
      cases he'
      obtain⟨u,g1,g2,g3⟩:=hlies c y' hy'
      exact⟨u,g1,g2,mv g3 (AV.J3 (v:=.H8 k l) rfl hy'),AV.J3 (v:=.H8 k l) rfl hy'⟩
     ·have hsc: ∀(z:AV),(∀cs,z≠.agg cs)->(∀k l,z≠.H8 k l)->z.cells= [z]:=fun z h1 h2=>by cases z<;>first|rfl|exact absurd rfl (h1 _)|exact absurd rfl (h2 _ _)
      rw[Aab he' (fun cs hc=>hagg ⟨cs,hc⟩) fun k l hc=>hai ⟨k,l,hc⟩]at hy'
      cases c with
      |succ c=>simp at hy'
      |zero=>
       simp at hy'
       subst hy'
       obtain⟨u,g1,g2,g3⟩:=hlies 0 y (by rw[hsc y (fun cs hc=>hagg ⟨cs,hc⟩) fun k l hc=>hai ⟨k,l,hc⟩];rfl)
       obtain⟨r1,r2⟩:=ih _ _ _ he' g3 Ah2
       exact⟨u,g1,g2,r1,r2⟩
  have AiX: ∀(y y1:AV),(∀(c:Nat) (y':AV),y1.cells[c]? =some y'->y'.Lm=true)->y1.Lm=true:=by
   intro y y1 hc
   cases he2:y1 with
   |agg cs=>
    refine Xd fun z hz=>?_
    obtain⟨c,hcl,rfl⟩:=List.getElem_of_mem hz
    exact hc c _ (by rw[he2];simp[AV.cells,hcl])
   |H8 k l=>rfl
   |_=>rw[<- he2];exact hc 0 y1 (by rw[he2];rfl)
  cases R with
  |ms id n cap e he hnn hn hcap htot hmax=>
   simp only[snap]at h
   split at h
   ·rename_i o ho
    obtain⟨cur,RO⟩:=S.obj id e o he ho hnn
    have Ady:n<=o.row.len:=by rw[<- RO.len];exact hn
    have core: ∀get:Nat->AV,(∀j,j<n->(get j).A9=e.BU/\ ∀(c:Nat) (y':AV),(get j).cells[c]? =some y'-> ∃u,w.cell? ⟨e.b,j*e.BU+c,none⟩=some u/\u.oneCell'=true/\Rel w [] A' y' u/\y'.Lm=true)->
            Rel w [] A' (.sl (bif o.mb then none else some false) n get) (.slice (some ⟨e.b,0,none⟩) n cap)/\(AV.sl (bif o.mb then none else some false) n get).Lm=true:=fun get hg=>by
         refine⟨.sl _ n get (some ⟨e.b,0,none⟩) cap e.BU (fun j c=>(w.cell? ⟨e.b,0+(j*e.BU+c),none⟩).getD undef) (fun b hb=>?_) hcap hmax (fun h0=>by cases h0) (fun h0=>?_) (fun j hj=>?_) (fun j c y hj hy=>?_),rfl⟩
         ·cases hm:o.mb<;>rw[hm]at hb<;>cases hb
          rfl
         ·refine⟨e.b,0,rfl,hro id (by simp[Ch]) e o he ho hnn,RO.cel,fun j c y hj hy=>?_⟩
          obtain⟨u,h1,h2,_⟩:=(hg j hj).2 c y hy
          rw[Nat.zero_add,h1]
          exact⟨rfl,h2⟩
         ·exact⟨AiX .unk _ fun c y hy=>by obtain⟨_,_,_,_,h⟩:=(hg j hj).2 c y hy;exact h,(hg j hj).1⟩
         ·obtain⟨u,h1,h2,h3,_⟩:=(hg j hj).2 c y hy
          rw[Nat.zero_add,h1]
          exact h3
    have plain:Xo o.mb o.row n=some x'->Rel w [] A' x' (.slice (some ⟨e.b,0,none⟩) n cap)/\x'.Lm=true:=fun h=>by
         obtain⟨get,rfl,hg,Gr⟩:=eT h RO.ok
         refine core get fun j hj=>⟨by rw[hg];exact(RO.size j (by omega)).trans RO.BU.symm,fun c y hy=>?_⟩
         rw[hg]at hy
         obtain⟨u,h1,h2,h3⟩:=RO.lies (i:=j) (by omega) c y hy
         have hi:=AV.J3 (Gr j (by omega)) hy
         exact⟨u,h1,h2,mv h3 hi,hi⟩
    cases hr:o.row with
    |vals l=>
     rw[hr]at h
     obtain⟨l',hl',rfl⟩:=Option.map_eq_some_iff.1 h
     obtain⟨g1,g2⟩:=JI hl'
     refine core _ fun j hj=>?_
     have hjl:j<l'.length:=by rw[g1];rw[hr]at Ady;exact Nat.lt_of_lt_of_le hj Ady
     obtain⟨y,hy,hsy⟩:=g2 j l'[j] (List.getElem?_eq_getElem hjl)
     have hyl:o.row.get j=y:=by rw[hr];simp[Row.get,List.getD,hy]
     have hgd:l'.getD j .unk=l'[j]:=by simp[List.getD,List.getElem?_eq_getElem hjl]
     rw[hgd]
     have hL:=RO.lies (i:=j) (by omega)
     rw[hyl]at hL
     have hC:=cellsOf y l'[j] e.b (j*e.BU) hsy hL fun id' hid=>hro id' (by
            simp only[Ch,ho,hr,List.mem_cons]
            exact .inr (List.mem_flatMap.2 ⟨y,List.mem_of_getElem? hy,hid⟩))
     refine⟨?_,hC⟩
     rw[Aaa hsy,<- hyl,RO.size j (by omega),RO.BU]
    |ints k l=>rw[hr]at h;exact plain (by rw[hr];exact h)
    |strs l=>rw[hr]at h;exact plain (by rw[hr];exact h)
    |bools l=>rw[hr]at h;exact plain (by rw[hr];exact h)
    |Sg l=>rw[hr]at h;exact plain (by rw[hr];exact h)
    |Y6 n' g=>rw[hr]at h;exact plain (by rw[hr];exact h)
   ·cases h
  |ms0 id e he hnn=>
   have hmb: ∀o,s[id]? =some (some o)->o.mb=true:=fun o ho=>(S.gM id e o he ho hnn).2.2.1
   have fin: ∀get,Rel w [] A' (.sl none 0 get) (.slice none 0 0)/\(AV.sl none 0 get).Lm=true:=fun get=>
    ⟨.sl none 0 get none 0 0 (fun _ _=>undef) (fun b hb=>by cases hb) (Nat.le_refl _) (Nat.zero_le _) (fun _=>rfl) (fun h=>absurd h (Nat.lt_irrefl _)) (fun j hj=>absurd hj (Nat.not_lt_zero _)) (fun j c x hj=>absurd hj (Nat.not_lt_zero _)),rfl⟩
   simp only[snap]at h
   split at h
   ·rename_i o ho
    rw[hmb o ho]at h
    cases hr:o.row with
    |vals l=>
     rw[hr]at h
     obtain⟨l',hl',rfl⟩:=Option.map_eq_some_iff.1 h
     exact fin _
    |ints k l=>rw[hr]at h;cases h;exact fin _
    |strs l=>rw[hr]at h;cases h;exact fin _
    |bools l=>rw[hr]at h;cases h;exact fin _
    |Sg l=>rw[hr]at h;cases h;exact fin _
    |Y6 n' g=>rw[hr]at h;cases h;exact fin _
   ·cases h
  |LP id off n cap o e he hnn hn hcap hoff hmax=>simp only[snap]at h;cases h
  |XK id e he hnn=>simp only[snap]at h;cases h
  |gH id i off=>simp only[snap]at h;cases h
  |gI id i off e he hnn hi=>simp only[snap]at h;cases h
  |sd id n a ha=>simp only[snap]at h;cases h
  |mp id i off e he hnn hi=>
   simp only[snap]at h
   split at h
   ·rename_i o ho
    obtain⟨cur,RO⟩:=S.obj id e o he ho hnn
    obtain⟨e',he',rfl⟩:=Option.map_eq_some_iff.1 h
    have Ah2: ∀id'∈Ch d s (o.row.get i),∀e o,cx[id']? =some e->s[id']? =some (some o)->e.Fg=false-> ¬A' e.b:=fun id' hid=>hro id' (by simp[Ch,ho];exact .inr hid)
    have hlies:=RO.lies hi
    have hcell:=cellsOf (o.row.get i) e' e.b (i*e.BU) he' hlies Ah2
    have Gr:e'.Lm=true:=AiX .unk e' fun c y hy=>by obtain⟨_,_,_,_,h⟩:=hcell c y hy;exact h
    refine⟨.ip e' off e.b (i*e.BU) (fun c=>(w.cell? ⟨e.b,i*e.BU+c,none⟩).getD undef) Gr (hro id (by simp[Ch]) e o he ho hnn) RO.cel (fun c y hy=>?_) (fun c y hy=>?_),rfl⟩
    ·obtain⟨u,g1,g2,_⟩:=hcell c y hy
     rw[g1];exact⟨rfl,g2⟩
    ·obtain⟨u,g1,_,g3,_⟩:=hcell c y hy
     rw[g1];exact g3
   ·cases h
  |agg cs vs hl h1 hrel=>
   simp only[snap]at h
   obtain⟨cs',hcs,rfl⟩:=Option.map_eq_some_iff.1 h
   obtain⟨g1,g2⟩:=JI hcs
   have key: ∀c x',cs'[c]? =some x'-> ∀u,vs[c]? =some u->Rel w [] A' x' u/\x'.Lm=true:=fun c x' hx u hu=>by
    obtain⟨y,hy,hsy⟩:=g2 c x' hx
    exact ih y x' u hsy (hrel c y u hy hu) fun id hid=>hro id (by simp only[Ch];exact List.mem_flatMap.2 ⟨y,List.mem_of_getElem? hy,hid⟩)
   refine⟨.agg cs' vs (by omega) h1 fun c x' u hx hu=>(key c x' hx u hu).1,Xd fun y hy=>?_⟩
   obtain⟨c,hc,rfl⟩:=List.getElem_of_mem hy
   have hlt:c<vs.length:=by omega
   exact(key c _ (by simp[hc]) vs[c] (by simp[hlt])).2
  |GU cs vs hl hrel=>
   simp only[snap]at h
   obtain⟨cs',hcs,rfl⟩:=Option.map_eq_some_iff.1 h
   obtain⟨g1,g2⟩:=JI hcs
   have key: ∀c x',cs'[c]? =some x'-> ∀u,vs[c]? =some u->Rel w [] A' x' u/\x'.Lm=true:=fun c x' hx u hu=>by
    obtain⟨y,hy,hsy⟩:=g2 c x' hx
    exact ih y x' u hsy (hrel c y u hy hu) fun id hid=>hro id (by simp only[Ch];exact List.mem_flatMap.2 ⟨y,List.mem_of_getElem? hy,hid⟩)
   refine⟨.GU cs' vs (by omega) fun c x' u hx hu=>(key c x' hx u hu).1,Xd fun y hy=>?_⟩
   obtain⟨c,hc,rfl⟩:=List.getElem_of_mem hy
   have hlt:c<vs.length:=by omega
   exact(key c _ (by simp[hc]) vs[c] (by simp[hlt])).2
  |iface t x v hrel=>
   simp only[snap]at h
   obtain⟨x1,hx1,rfl⟩:=Option.map_eq_some_iff.1 h
   obtain⟨r1,r2⟩:=ih x x1 v hx1 hrel fun id hid=>hro id (by simpa[Ch]using hid)
   exact⟨.iface t x1 v r1,r2⟩
  |fn f a b a' b' hl hl' hrel hrel'=>
   simp only[snap]at h
   split at h
   ·rename_i a1 b1 ha1 hb1
    cases h
    obtain⟨p1,p2⟩:=JI ha1
    obtain⟨q1,q2⟩:=JI hb1
    have AlV: ∀c x',a1[c]? =some x'-> ∀u,a'[c]? =some u->Rel w [] A' x' u/\x'.Lm=true:=fun c x' hx u hu=>by
         obtain⟨y,hy,hsy⟩:=p2 c x' hx
         exact ih y x' u hsy (hrel c y u hy hu) fun id hid=>hro id (by simp only[Ch];exact List.mem_append.2 (.inl (List.mem_flatMap.2 ⟨y,List.mem_of_getElem? hy,hid⟩)))
    have AlW: ∀c x',b1[c]? =some x'-> ∀u,b'[c]? =some u->Rel w [] A' x' u/\x'.Lm=true:=fun c x' hx u hu=>by
         obtain⟨y,hy,hsy⟩:=q2 c x' hx
         exact ih y x' u hsy (hrel' c y u hy hu) fun id hid=>hro id (by simp only[Ch];exact List.mem_append.2 (.inr (List.mem_flatMap.2 ⟨y,List.mem_of_getElem? hy,hid⟩)))
    refine⟨.fn f a1 b1 a' b' (by omega) (by omega) (fun c x' u hx hu=>(AlV c x' hx u hu).1) (fun c x' u hx hu=>(AlW c x' hx u hu).1),?_⟩
    simp only[AV.Lm,Bool.and_eq_true]
    refine⟨Xd fun y hy=>?_,Xd fun y hy=>?_⟩
    ·obtain⟨c,hc,rfl⟩:=List.getElem_of_mem hy
     have hlt:c<a'.length:=by omega
     exact(AlV c _ (by simp[hc]) a'[c] (by simp[hlt])).2
    ·obtain⟨c,hc,rfl⟩:=List.getElem_of_mem hy
     have hlt:c<b'.length:=by omega
     exact(AlW c _ (by simp[hc]) b'[c] (by simp[hlt])).2
   ·cases h
  |unk v=>cases h;exact⟨.unk v,rfl⟩
  |bool b=>cases h;exact⟨.bool b,rfl⟩
  |int k n=>cases h;exact⟨.int k n,rfl⟩
  |str b=>cases h;exact⟨.str b,rfl⟩
  |Lf=>cases h;exact⟨.Lf,rfl⟩
  |PO=>cases h;exact⟨.PO,rfl⟩
  |Ox=>cases h;exact⟨.Ox,rfl⟩
  |Tv b=>cases h;exact⟨.Tv b,rfl⟩
  |Ye a=>cases h;exact⟨.Ye a,rfl⟩
  |sl nl n get a cap BU vals hnil hcap hmax hz hmem Gr hrel=>
   cases h
   exact⟨mv (.sl nl n get a cap BU vals hnil hcap hmax hz hmem Gr hrel) rfl,rfl⟩
  |ip e off b o vals Gr hA' hb hmem hrel=>
   cases h
   exact⟨mv (.ip e off b o vals Gr hA' hb hmem hrel) rfl,rfl⟩
  |H8 k l=>cases h;exact⟨.H8 k l,rfl⟩
  |Wp=>cases h;exact⟨.Wp,rfl⟩
  |UE g t a hA1 hb hm=>cases h;exact⟨mv (.UE g t a hA1 hb hm) rfl,rfl⟩
  |Ve t n e b o v hA1 hb h0 h1 hrel=>cases h;exact⟨mv (.Ve t n e b o v hA1 hb h0 h1 hrel) rfl,rfl⟩
end Go.SE
