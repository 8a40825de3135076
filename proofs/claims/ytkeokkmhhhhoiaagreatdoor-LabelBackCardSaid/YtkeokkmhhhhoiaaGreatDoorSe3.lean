import Derived.Test.YtkeokkmhhhhoiaaGreatDoorSe2
namespace Go.SE
open Go
set_option linter.unusedVariables false
variable {L:Laid}
set_option linter.unusedSimpArgs false
section
variable {P:PL}
theorem Ah4 {t:TypeId} {d:TypeDesc} (h:P.underlying t=some d): ∃i,P.info? t=some i/\i.size=P.cellsOf t/\i.bytes=P.bytesOf t:=by
 unfold Program.underlying at h
 cases hi:P.info? t with
 |none=>rw[hi]at h;cases h
 |some i=>exact⟨i,rfl,by simp[Program.cellsOf,hi],by simp[Program.bytesOf,hi]⟩
theorem run_sizeOf {t:TypeId} {d:TypeDesc} (h:P.underlying t=some d) (w:World):(sizeOf t).run P w=.ok (P.cellsOf t) w:=by
 obtain⟨i,h1,h2,_⟩:=Ah4 h
 simp[sizeOf,typeInfo,h1,h2]
theorem OC {t:TypeId} {d:TypeDesc} (h:P.underlying t=some d) (w:World):(isAgg t).run P w=.ok (Wt d) w:=by
 simp only[isAgg,Sem.run_bind,run_underlying h,Result.andThen_ok]
 cases d<;>rfl
def rX (w:World) (cx:Cx) (A:Nat->Prop) (e:AV) (b o:Nat):Prop:=
 ∀(c:Nat) (x:AV),e.cells[c]? =some x-> ∃v,w.cell? ⟨b,o+c,none⟩=some v/\v.oneCell'=true/\Rel w cx A x v
theorem rX.agg {w:World} {cx:Cx} {A:Nat->Prop} {e:AV} {b o off m:Nat} (h:rX w cx A e b o) (hm:off+m<=e.A9):
  ∃cs:List Value,cs.length=m/\(∀j v,cs[j]? =some v->w.cell? ⟨b,o+off+j,none⟩=some v/\v.oneCell'=true)/\Rel w cx A (Ab3 e off m) (.agg cs.toArray):=by
 have hc: ∀j,j<m-> ∃v,w.cell? ⟨b,o+off+j,none⟩=some v/\v.oneCell'=true/\Rel w cx A (e.cellAt (off+j)) v:=fun j hj=>by
  have:=h (off+j) _ (e.LU (off+j) (by omega))
  rwa[<- Nat.add_assoc]at this
 refine⟨(List.range m).map fun j=>(w.cell? ⟨b,o+off+j,none⟩).getD undef,by simp,fun j v hv=>?_,?_⟩
 ·rw[List.getElem?_map]at hv
  by_cases hj:j<m
  ·obtain⟨u,h1,h2,_⟩:=hc j hj
   rw[List.getElem?_range hj]at hv
   simp only[Option.map_some,h1,Option.getD_some,Option.some.injEq]at hv
   subst hv
   exact⟨h1,h2⟩
  ·rw[List.getElem?_eq_none (by simp;omega)]at hv
   cases hv
 ·have h1: ∀v∈(List.range m).map fun j=>(w.cell? ⟨b,o+off+j,none⟩).getD undef,v.oneCell'=true:=fun v hv=>by
   obtain⟨j,hj,rfl⟩:=List.mem_map.1 hv
   obtain⟨u,h1,h2,_⟩:=hc j (List.mem_range.1 hj)
   rw[h1];exact h2
  have hcell: ∀(cs:List AV),cs.length=m->(∀j,j<m->cs[j]? =some (e.cellAt (off+j)))->Rel w cx A (.agg cs) (.agg ((List.range m).map fun j=>(w.cell? ⟨b,o+off+j,none⟩).getD undef).toArray):=fun cs hl hcs=>by
   refine Rel.of_cells (by simp[hl]) h1 fun c x hx=>?_
   have hlt:c<m:=by rw[<- hl];exact(List.getElem?_eq_some_iff.1 hx).1
   obtain⟨u,g1,_,g3⟩:=hc c hlt
   rw[hcs c hlt]at hx
   cases hx
   exact⟨u,by rw[List.getElem?_map,List.getElem?_range hlt];simp[g1],g3⟩
  unfold Ab3
  cases hq:(off==0&&e.A9==m)with
  |false=>
   refine hcell _ (by simp[e.Db];omega) fun j hj=>?_
   rw[List.getElem?_take,if_pos hj,List.getElem?_drop]
   exact e.LU (off+j) (by omega)
  |true=>
   simp only[Bool.and_eq_true,beq_iff_eq]at hq
   obtain⟨rfl,rfl⟩:=hq
   simp only[cond_true]
   cases e with
   |agg cs=>exact hcell cs rfl fun j hj=>by simpa[AV.cells]using AV.LU (.agg cs) (0+j) (by simpa using hj)
   |H8 k l=>
    have:(List.range (AV.A9 (.H8 k l))).map (fun j=>(w.cell? ⟨b,o+0+j,none⟩).getD undef)=l.map (Value.int k):=by
         apply List.ext_getElem?
         intro j
         by_cases hj:j<l.length
         ·obtain⟨u,g1,_,g3⟩:=hc j hj
          rw[List.getElem?_map,List.getElem?_range (show j<AV.A9 (.H8 k l) from hj),List.getElem?_map,List.getElem?_eq_getElem hj]
          simp only[Option.map_some,g1,Option.getD_some]
          have:=g3.Dx
          rw[this]
          simp[List.getD,List.getElem?_eq_getElem hj]
         ·rw[List.getElem?_eq_none (by simp[AV.A9];omega),List.getElem?_eq_none (by simp;omega)]
    rw[this]
    exact .H8 k l
   |_=>exact hcell _ rfl fun j hj=>by
            have:j=0:=by simp[AV.A9]at hj;exact hj
            subst this
            rfl
theorem rF {t:TypeId} {e:AV} {off:Nat} {K:AV->Prop} (h:Zf P t e off K):
  ∃r,K r/\ ∀w cx A b o,rX w cx A e b o-> ∃u,(loadVar t ⟨b,o+off,none⟩).run P w=.ok u w/\Rel w cx A r u:=by
 unfold Zf at h
 split at h
 ·rename_i d ht
  split at h
  ·rename_i hd
   obtain⟨h1,h2⟩:=Bn h
   refine⟨_,h2,fun w cx A b o hl=>?_⟩
   obtain⟨cs,g1,g2,g3⟩:=hl.agg (off:=off) (m:=P.cellsOf t) (by simpa using h1)
   refine⟨_,?_,g3⟩
   have:=run_loadCells_list (P:=P) w ⟨b,o+off,none⟩ cs fun j v hv=>by rw[Addr.add_lit];exact(g2 j v hv).1
   rw[g1]at this
   simp[loadVar,OC ht,hd,run_sizeOf ht,this]
  ·rename_i hd
   obtain⟨h1,h2⟩:=Bn h
   refine⟨_,h2,fun w cx A b o hl=>?_⟩
   obtain⟨v,g1,_,g3⟩:=hl off _ (e.LU off (by simpa using h1))
   exact⟨v,by simp[loadVar,OC ht,hd,g1],g3⟩
 ·exact h.elim
theorem Rel.Ah7 {w:World} {cx:Cx} {A:Nat->Prop} {e:AV} {off:Nat} {v:Value} (h:Rel w cx A (.ip e off) v): ∃b o,v=.pointer (some ⟨b,o+off,none⟩)/\rX w cx A e b o/\ ¬A b/\UZ w b/\e.Lm=true:=by
 cases h with
 |ip _ _ b o vals Gr hA hb hmem hrel=>exact⟨b,o,rfl,fun c x hx=>⟨vals c,(hmem c x hx).1,(hmem c x hx).2,hrel c x hx⟩,hA,hb,Gr⟩
theorem Jy.lies {w:World} {cx:Cx} {A:Nat->Prop} {e:Qr} {o:E8} {cur:Array Value} (R:Jy w cx A e o cur) {i:Nat} (hi:i<e.len):rX w cx A (o.row.get i) e.b (i*e.BU):=fun c x hx=>by
 obtain⟨v,h1,h2,h3⟩:=R.cells i c x hi hx
 exact⟨v,(R.cell _).trans h1,h2,h3⟩
theorem Rel.WG {V:Nat->Prop} {w:World} {cx:Cx} {s:Store} (S:Bj L V w cx s) {id i off:Nat} {v:Value} {o:E8} (h:Rel w cx (Av V cx s) (.mp id i off) v) (ho:s[id]? =some (some o)):
  ∃e cur,cx[id]? =some e/\e.Fg=false/\i<e.len/\v=.pointer (some ⟨e.b,i*e.BU+off,none⟩)/\Jy w cx (Av V cx s) e o cur:=by
 cases h with
 |mp _ _ _ e he hnn hi=>
  obtain⟨cur,R⟩:=S.obj id e o he ho hnn
  exact⟨e,cur,he,hnn,hi,rfl,R⟩
theorem Jy.whole {w:World} {cx:Cx} {A:Nat->Prop} {e:Qr} {o:E8} {cur:Array Value} (R:Jy w cx A e o cur) (h1:o.BU=1):
  ∃cs:List Value,cs.length=o.row.len/\(∀j v,cs[j]? =some v->w.cell? ⟨e.b,j,none⟩=some v/\v.oneCell'=true)/\Rel w cx A (AgJ o.row) (.agg cs.toArray):=by
 have hl:=R.len
 have he:=R.BU
 have hc: ∀j,j<o.row.len-> ∃v,w.cell? ⟨e.b,j,none⟩=some v/\v.oneCell'=true/\Rel w cx A ((o.row.get j).cellAt 0) v:=fun j hj=>by
  have hs:=R.size j (by omega)
  obtain⟨v,g1,g2,g3⟩:=R.lies (i:=j) (by omega) 0 _ ((o.row.get j).LU 0 (by omega))
  rw[he,h1]at g1
  exact⟨v,by simpa using g1,g2,g3⟩
 refine⟨(List.range o.row.len).map fun j=>(w.cell? ⟨e.b,j,none⟩).getD undef,by simp,fun j v hv=>?_,?_⟩
 ·rw[List.getElem?_map]at hv
  by_cases hj:j<o.row.len
  ·obtain⟨u,h1,h2,_⟩:=hc j hj
   rw[List.getElem?_range hj]at hv
   simp only[Option.map_some,h1,Option.getD_some,Option.some.injEq]at hv
   subst hv
   exact⟨h1,h2⟩
  ·rw[List.getElem?_eq_none (by simp;omega)]at hv
   cases hv
 ·have h1': ∀v∈(List.range o.row.len).map fun j=>(w.cell? ⟨e.b,j,none⟩).getD undef,v.oneCell'=true:=fun v hv=>by
   obtain⟨j,hj,rfl⟩:=List.mem_map.1 hv
   obtain⟨u,h1,h2,_⟩:=hc j (List.mem_range.1 hj)
   rw[h1];exact h2
  have hcell: ∀(cs:List AV),cs.length=o.row.len->(∀j,j<o.row.len->cs[j]? =some ((o.row.get j).cellAt 0))->Rel w cx A (.agg cs) (.agg ((List.range o.row.len).map fun j=>(w.cell? ⟨e.b,j,none⟩).getD undef).toArray):=fun cs hl hcs=>by
   refine Rel.of_cells (by simp[hl]) h1' fun c x hx=>?_
   have hlt:c<o.row.len:=by rw[<- hl];exact(List.getElem?_eq_some_iff.1 hx).1
   obtain⟨u,g1,_,g3⟩:=hc c hlt
   rw[hcs c hlt]at hx
   cases hx
   exact⟨u,by rw[List.getElem?_map,List.getElem?_range hlt];simp[g1],g3⟩
  have yH: ∀l:List AV,(∀j,j<l.length->(l.getD j .unk).A9=1)->(l.flatMap AV.cells).length=l.length/\ ∀j,j<l.length->(l.flatMap AV.cells)[j]? =some ((l.getD j .unk).cellAt 0):=by
   intro l
   induction l with
   |nil=>exact fun _=>⟨rfl,fun j hj=>absurd hj (Nat.not_lt_zero _)⟩
   |cons x l ih=>
    intro hx
    obtain⟨i1,i2⟩:=ih fun j hj=>by have:=hx (j+1) (by simpa using hj);simpa[List.getD]using this
    have hx0:x.A9=1:=by simpa[List.getD]using hx 0 (by simp)
    have hx1:x.cells.length=1:=by rw[x.Db,hx0]
    refine⟨by simp[hx1,i1];omega,fun j hj=>?_⟩
    cases j with
    |zero=>
     rw[List.flatMap_cons,List.getElem?_append_left (by omega)]
     exact x.LU 0 (by omega)
    |succ j=>
     have:=i2 j (by simpa using hj)
     simp only[List.flatMap_cons,List.getElem?_append,hx1]
     rw[if_neg (by omega)]
     simpa[List.getD]using this
  have hsz: ∀j,j<o.row.len->(o.row.get j).A9=1:=fun j hj=>(R.size j (by omega)).trans h1
  cases hrow:o.row with
  |ints k l=>
   rw[hrow]at hc
   have:(List.range (Row.len (.ints k l))).map (fun j=>(w.cell? ⟨e.b,j,none⟩).getD undef)=l.map (Value.int k):=by
    apply List.ext_getElem?
    intro j
    by_cases hj:j<l.length
    ·obtain⟨u,g1,_,g3⟩:=hc j hj
     rw[List.getElem?_map,List.getElem?_range (show j<Row.len (.ints k l) from hj),List.getElem?_map,List.getElem?_eq_getElem hj]
     simp only[Option.map_some,g1,Option.getD_some]
     have:=g3.Dx
     rw[this]
     simp[List.getD,List.getElem?_eq_getElem hj]
    ·rw[List.getElem?_eq_none (by simp[Row.len];omega),List.getElem?_eq_none (by simp;omega)]
   rw[this]
   exact .H8 k l
  |strs l=>
   rw[hrow]at hcell
   exact hcell _ (by simp[Row.len]) fun j hj=>by simp[Row.len]at hj;simp[Row.get,AV.cellAt,List.getD,hj]
  |bools l=>
   rw[hrow]at hcell
   exact hcell _ (by simp[Row.len]) fun j hj=>by simp[Row.len]at hj;simp[Row.get,AV.cellAt,List.getD,hj]
  |Sg l=>
   rw[hrow]at hcell hsz
   exact hcell _ (yH l hsz).1 (yH l hsz).2
  |vals l=>
   rw[hrow]at hcell hsz
   exact hcell _ (yH l hsz).1 (yH l hsz).2
  |Y6 n g=>
   rw[hrow]at hcell hsz
   have e: ∀j,j<n->((List.range n).map g).getD j .unk=g j:=fun j hj=>by simp[List.getD,hj]
   have hl:((List.range n).map g).length=n:=by simp
   obtain⟨f1,f2⟩:=yH ((List.range n).map g) fun j hj=>by rw[e j (by omega)];exact hsz j (by simpa[Row.len]using hj)
   refine hcell _ (by rw[f1];simp[Row.len]) fun j hj=>?_
   rw[f2 j (by simpa[Row.len]using hj),e j hj]
   rfl
theorem rG {s:Store} {t:TypeId} {a:AV} {K:AV->Prop} (h:zB P s t a K):
  ∃r,K r/\ ∀V w cx p,Bj P.laid V w cx s->Rel w cx (Av V cx s) a p-> ∃ad u,p=.pointer (some ad)/\(loadVar t ad).run P w=.ok u w/\Rel w cx (Av V cx s) r u:=by
 unfold zB at h
 split at h
 ·obtain⟨r,hr,hu⟩:=rF h
  refine⟨r,hr,fun V w cx p S R=>?_⟩
  obtain⟨b,o,rfl,hl,_⟩:=R.Ah7
  obtain⟨u,h1,h2⟩:=hu w cx _ b o hl
  exact⟨_,u,rfl,h1,h2⟩
 ·rename_i a
  split at h
  ·rename_i ms ht
   obtain⟨hq,h⟩:=Bn h
   simp only[Bool.and_eq_true,beq_iff_eq,Option.isNone_iff_eq_none,List.contains_iff_mem]at hq
   obtain⟨h0,hs,hg⟩:=hq
   refine⟨_,h,fun V w cx p S R=>?_⟩
   cases R
   obtain⟨b,o,sp⟩:=a
   simp only at h0 hs hg
   subst h0;subst hs
   obtain⟨g1,g2,ad,g3,_⟩:=S.glob.sent b hg
   refine⟨_,_,rfl,?_, .UE b _ ad g1 g2 g3⟩
   simp[loadVar,OC ht,Wt,g3]
  ·exact h.elim
 ·rename_i id i off
  split at h
  ·rename_i o ho
   have plain:Zf P t (o.row.get i) off K-> ∃r,K r/\ ∀V w cx p,Bj P.laid V w cx s->Rel w cx (Av V cx s) (.mp id i off) p-> ∃ad u,p=.pointer (some ad)/\(loadVar t ad).run P w=.ok u w/\Rel w cx (Av V cx s) r u:=fun h=>by
    obtain⟨r,hr,hu⟩:=rF h
    refine⟨r,hr,fun V w cx p S R=>?_⟩
    obtain⟨e,cur,he,hnn,hi,rfl,RO⟩:=R.WG S ho
    obtain⟨u,h1,h2⟩:=hu w cx _ e.b (i*e.BU) (RO.lies hi)
    exact⟨_,u,rfl,h1,h2⟩
   split at h
   ·rename_i n el ht
    split at h
    ·rename_i hq
     obtain⟨h1,h2⟩:=Bn h
     simp only[Bool.and_eq_true,beq_iff_eq]at hq h1
     obtain⟨⟨⟨⟨rfl,rfl⟩,hsz⟩,hn⟩,hct⟩:=hq
     refine⟨_,h2,fun V w cx p S R=>?_⟩
     obtain⟨e,cur,he,hnn,hi,rfl,RO⟩:=R.WG S ho
     obtain⟨cs,g1,g2,g3⟩:=RO.whole h1
     refine⟨_,_,rfl,?_,g3⟩
     have:=run_loadCells_list (P:=P) w ⟨e.b,0,none⟩ cs fun j v hv=>by rw[Addr.add_lit,Nat.zero_add];exact(g2 j v hv).1
     rw[g1]at this
     have Anm:P.cellsOf t=o.row.len:=by rw[hct,h1,hn];omega
     simp[loadVar,OC ht,Wt,run_sizeOf ht,Anm,this]
    ·exact plain h
   ·exact plain h
  ·exact h.elim
 ·exact h.elim
section
variable {o:Oper} {s:Store} {ev:Operand->AV}
theorem Aah {t:TypeId} {a:Operand} {K:AV->Prop} (ho:o.op=.load t a) (h:zB P s t (ev a) K): ∃r,K r/\EY P o s ev r s:=by
 obtain⟨r,hr,hu⟩:=rG h
 refine⟨r,hr,EY.value (sem:=fun ρ=>Instr.loadAt t (ρ a)) (fun ρ=>by simp[execOp,ho]) fun V w cx ρ S R=>?_⟩
 obtain⟨ad,u,h1,h2,h3⟩:=hu V w cx (ρ a) S (R a (by simp[ho,Op.operands]))
 exact⟨u,by rw[h1];simp[Instr.loadAt,Instr.sureAddr,h2],h3⟩
end
end
end Go.SE
