import Derived.Test.YtkeokkmhhhhoiaaGreatDoorSe6
namespace Go.SE
open Go
set_option linter.unusedVariables false
set_option linter.unusedSimpArgs false
section
variable {P:PL}
structure Xr (w:World) (cx:Cx) (A:Nat->Prop) (cs:List AV) (us:List Value):Prop where
 len:cs.length=us.length
 one: ∀u∈us,u.oneCell'=true
 rel: ∀(c:Nat) (x:AV),cs[c]? =some x-> ∃u,us[c]? =some u/\Rel w cx A x u
section
variable {w:World} {cx:Cx} {A:Nat->Prop} {cs cs':List AV} {us us':List Value}
theorem Xr.append (h:Xr w cx A cs us) (h':Xr w cx A cs' us'):Xr w cx A (cs++cs') (us++us') where
 len:=by simp[h.len,h'.len]
 one u hu:=(List.mem_append.1 hu).elim (h.one u) (h'.one u)
 rel c x hx:=by
  rw[List.getElem?_append]at hx ⊢
  rw[<- h.len]
  split at hx
  ·rw[if_pos ‹_›];exact h.rel c x hx
  ·rw[if_neg ‹_›];exact h'.rel _ x hx
theorem Xr.take (h:Xr w cx A cs us) (n:Nat):Xr w cx A (cs.take n) (us.take n) where
 len:=by simp[h.len]
 one u hu:=h.one u (List.mem_of_mem_take hu)
 rel c x hx:=by
  rw[List.getElem?_take]at hx ⊢
  split at hx
  ·rw[if_pos ‹_›];exact h.rel c x hx
  ·cases hx
theorem Xr.drop (h:Xr w cx A cs us) (n:Nat):Xr w cx A (cs.drop n) (us.drop n) where
 len:=by simp[h.len]
 one u hu:=h.one u (List.mem_of_mem_drop hu)
 rel c x hx:=by
  rw[List.getElem?_drop]at hx ⊢
  exact h.rel _ x hx
theorem Xr.agg (h:Xr w cx A cs us):Rel w cx A (.agg cs) (.agg us.toArray):=Rel.of_cells h.len h.one h.rel
theorem Rel.list {x:AV} {v:Value} (h:Rel w cx A x v) (hk:x.storable=true):Xr w cx A x.cells v.cells.toList:=by
 obtain⟨h1,h2,h3⟩:=h.cells hk
 refine⟨by rw[x.Db,<- h1];simp,h2,fun c y hy=>?_⟩
 obtain⟨u,hu,hr⟩:=h3 c y hy
 exact⟨u,by simpa using hu,hr⟩
theorem aJ {place:Nat->Option (Nat×Nat)} {ev:Operand->AV} {ρ:Operand->Value} : ∀ {parts:List (Nat×Operand)} {cells cells':List AV} {arr:List Value},xY place ev cells parts=some cells'->
  Xr w cx A cells arr->(∀p∈parts,Rel w cx A (ev p.2) (ρ p.2))-> ∃arr',Instr.fill place arr.toArray (parts.map fun p=>(p.1,ρ p.2))=some arr'/\Xr w cx A cells' arr'.toList
 | [],cells,cells',arr,h,hr,_=>by cases h;exact⟨_,rfl,by simpa using hr⟩
 |(i,x)::rest,cells,cells',arr,h,hr,R=>by
  unfold xY at h
  split at h
  ·cases h
  ·rename_i off size hp
   cases hq:((ev x).storable&&((ev x).A9==size&&Nat.ble (off+size) cells.length))with
   |false=>rw[hq]at h;cases h
   |true=>
    rw[hq]at h
    simp only[Aaj,cond_true]at h
    simp only[Bool.and_eq_true,beq_iff_eq,Nat.ble_eq]at hq
    obtain⟨h1,h2,h3⟩:=hq
    have hx:=(R (i,x) (by simp)).list h1
    have hsz:(ρ x).cells.size=size:=by have:=hx.len;rw[(ev x).Db]at this;simpa[h2]using this.symm
    have hlen:=hr.len
    obtain⟨arr',g1,g2⟩:=aJ (arr:=arr.take off++(ρ x).cells.toList++arr.drop (off+size)) h (((hr.take off).append hx).append (hr.drop (off+size))) (fun p hp=>R p (by simp[hp]))
    refine⟨arr',?_,g2⟩
    rw[List.map_cons,qF place arr.toArray i (ρ x) _ off size hp hsz (by simp;omega)]
    exact g1
end
theorem WS: ∀(l:List Field) (w:World),(∀f∈l,0<P.cellsOf f.type)->
  (l.mapM (m:=Sem) fun f=>do pure (f.offset,<- sizeOf f.type)).run P w=.ok (l.map fun f=>(f.offset,P.cellsOf f.type)) w
 | [],w,_=>rfl
 |f::l,w,h=>by
  simp only[List.mapM_cons,Sem.run_bind,Cq (h f (by simp)),Result.andThen_ok,Sem.run_pure,WS l w fun g hg=>h g (by simp[hg]),List.map_cons]
section
variable {o:Oper} {s:Store} {ev:Operand->AV}
theorem vV {t:TypeId} {parts:Array (Nat×Operand)} {v:AV} (ho:o.op=.build t parts) (h:AaJ P ev t parts.toList=some v):EY P o s ev v s:=by
 refine EY.value (sem:=fun ρ=>Instr.build t (parts.map fun(i,x)=>(i,ρ x))) (fun ρ=>by simp[execOp,ho]) fun V w cx ρ S R=>?_
 have R': ∀p∈parts.toList,Rel w cx (Av V cx s) (ev p.2) (ρ p.2):=fun p hp=>R p.2 (by simp[ho,Op.operands];exact⟨p.1,by simpa using hp⟩)
 have hparts:(parts.map fun(x:Nat×Operand)=>(x.1,ρ x.2)).toList=parts.toList.map fun p=>(p.1,ρ p.2):=by simp
 unfold AaJ at h
 split at h
 ·rename_i z hz
  obtain⟨i,zv,hi,hzv,wN,hst⟩:=I8 hz w cx (Av V cx s)
  have hzl:z.storable=true->Xr w cx (Av V cx s) z.cells zv.cells.toList:=fun hk=>wN.list hk
  split at h
  ·rename_i fs ht
   cases hq:(fs.toList.all fun f=>Nat.blt 0 (P.cellsOf f.type))with
   |false=>rw[hq]at h;cases h
   |true=>
    rw[hq]at h
    simp only[Bool.not_true,cond_false]at h
    obtain⟨cs,hcs,rfl⟩:=Option.map_eq_some_iff.1 h
    obtain⟨arr',g1,g2⟩:=aJ hcs (hzl hst) R'
    have hpos: ∀f∈fs.toList,0<P.cellsOf f.type:=fun f hf=>by simpa using List.all_eq_true.1 hq f hf
    have hm:=WS (P:=P) fs.toList w hpos
    have hm':(fs.mapM (m:=Sem) fun f=>do pure (f.offset,<- sizeOf f.type)).run P w=.ok (fs.map fun f=>(f.offset,P.cellsOf f.type)) w:=by
         rw[Array.mapM_eq_mapM_toList,Sem.run_map,hm]
         simp only[Result.andThen_ok]
         congr 1
         apply Array.ext'
         simp
    have hpl:(fun(x:Nat)=>(fs.map fun f=>(f.offset,P.cellsOf f.type))[x]?)=fun i=>(fs[i]?).map fun f=>(f.offset,P.cellsOf f.type):=by
         funext i;simp
    refine⟨.agg arr',?_,by have:=g2.agg;simpa using this⟩
    simp only[Instr.build,Sem.run_bind,zeroValue,typeInfo,run_program,Result.andThen_ok,hi,Sem.run_pure,hzv,run_underlying ht,hm',hpl,hparts]
    have g1':Instr.fill (fun i=>(fs[i]?).map fun f=>(f.offset,P.cellsOf f.type)) zv.cells (parts.toList.map fun p=>(p.1,ρ p.2))=some arr':=by simpa using g1
    rw[g1']
    rfl
  ·rename_i n e ht
   cases hq:Nat.blt 0 (P.cellsOf e)with
   |false=>rw[hq]at h;cases h
   |true=>
    rw[hq]at h
    simp only[Bool.not_true,cond_false]at h
    obtain⟨cs,hcs,hv⟩:=Option.map_eq_some_iff.1 h
    obtain⟨arr',g1,g2⟩:=aJ hcs (hzl hst) R'
    have g1':Instr.fill (fun i=>some (i*P.cellsOf e,P.cellsOf e)) zv.cells (parts.toList.map fun p=>(p.1,ρ p.2))=some arr':=by simpa using g1
    have hrun:(Instr.build t (parts.map fun(i,x)=>(i,ρ x))).run P w=.ok (.agg arr') w:=by
         simp only[Instr.build,Sem.run_bind,zeroValue,typeInfo,run_program,Result.andThen_ok,hi,Sem.run_pure,hzv,run_underlying ht,Cq (by simpa using hq:0<P.cellsOf e),hparts]
         rw[g1']
         rfl
    refine⟨.agg arr',hrun,?_⟩
    have hagg:Rel w cx (Av V cx s) (.agg cs) (.agg arr'):=by simpa using g2.agg
    split at hv
    ·rename_i k hk
     split at hv
     ·rename_i l hl
      obtain⟨e1,e2⟩:=Yv hl
      subst hv
      have:arr'=(l.map (Value.int k)).toArray:=by
            apply Array.ext'
            apply List.ext_getElem?
            intro j
            by_cases hj:j<cs.length
            ·obtain⟨u,hu,hr⟩:=g2.rel j (.int k (l.getD j 0)) (by rw[<- e2 j hj];simp[List.getD,hj])
             rw[hu,hr.Dx]
             simp[List.getD,show j<l.length by omega]
            ·rw[List.getElem?_eq_none (by rw[<- g2.len];omega),List.getElem?_eq_none (by simp;omega)]
      rw[this]
      exact .H8 k l
     ·subst hv;exact hagg
    ·subst hv;exact hagg
  ·cases h
 ·cases h
theorem Uq {ev:Operand->AV} {ρ:Operand->Value} {size:Nat} : ∀ {parts:List (Nat×Operand)} {vs:List AV} {i:Nat} {arr:Array Value},MP ev size i parts=some vs->
  (∀p∈parts,(ev p.2).storable=true->(ev p.2).A9=size->(ρ p.2).cells.size=size)->(i+parts.length)*size<=arr.size->
  ∃arr',Instr.fill (fun i=>some (i*size,size)) arr (parts.map fun p=>(p.1,ρ p.2))=some arr'/\arr'.size=arr.size/\vs.length=parts.length/\(∀k,k<i*size->arr'[k]? =arr[k]?)/\
   ∀j p,parts[j]? =some p->vs[j]? =some (ev p.2)/\(ev p.2).storable=true/\(ev p.2).A9=size/\ ∀c,c<size->arr'[(i+j)*size+c]? =(ρ p.2).cells[c]?
 | [],vs,i,arr,h,_,_=>by cases h;exact⟨arr,rfl,rfl,rfl,fun _ _=>rfl,fun j p hp=>by simp at hp⟩
 |(j0,x)::rest,vs,i,arr,h,R,hb=>by
  unfold MP at h
  cases hq:(j0==i&&((ev x).storable&&(ev x).A9==size))with
  |false=>rw[hq]at h;cases h
  |true=>
   rw[hq]at h
   simp only[Bool.and_eq_true,beq_iff_eq]at hq
   obtain⟨rfl,h1,h2⟩:=hq
   simp only[cond_true]at h
   split at h
   ·rename_i l hl
    cases h
    have hsz:(ρ x).cells.size=size:=R (j0,x) (by simp) h1 h2
    have hb':j0*size+size<=arr.size:=by
         have:(j0+1)*size<=arr.size:=Nat.le_trans (Nat.mul_le_mul_right _ (by simp)) hb
         rwa[Nat.add_mul,Nat.one_mul]at this
    let iK:Array Value:=(arr.toList.take (j0*size)++(ρ x).cells.toList++arr.toList.drop (j0*size+size)).toArray
    have hl1:(arr.toList.take (j0*size)).length=j0*size:=by rw[List.length_take];simp;omega
    have hs1:iK.size=arr.size:=by simp[iK,hsz];omega
    have hb1:(j0+1+rest.length)*size<=iK.size:=by
         have e:j0+1+rest.length=j0+((j0,x)::rest).length:=by simp;omega
         rw[hs1,e]
         exact hb
    obtain⟨arr',g1,g2,g3,g4,g5⟩:=Uq (i:=j0+1) (arr:=iK) hl (fun p hp=>R p (by simp[hp])) hb1
    have hlow: ∀k,k<j0*size->iK[k]? =arr[k]? :=fun k hk=>by
         simp only[iK,List.getElem?_toArray,List.append_assoc]
         rw[List.getElem?_append_left (by omega),List.getElem?_take,if_pos hk]
         simp
    have hmid: ∀c,c<size->iK[j0*size+c]? =(ρ x).cells[c]? :=fun c hc=>by
         simp only[iK,List.getElem?_toArray,List.append_assoc]
         rw[List.getElem?_append_right (by omega),hl1,show j0*size+c-j0*size=c by omega,List.getElem?_append_left (by simp;omega)]
         simp
    have hstep:j0*size+size=(j0+1)*size:=by rw[Nat.add_mul,Nat.one_mul]
    refine⟨arr',by rw[List.map_cons,qF _ arr j0 (ρ x) _ (j0*size) size rfl hsz hb'];exact g1,g2.trans hs1,by simp[g3],fun k hk=>(g4 k (by omega)).trans (hlow k hk),fun j p hp=>?_⟩
    cases j with
    |zero=>
     simp only[List.getElem?_cons_zero,Option.some.injEq]at hp
     subst hp
     exact⟨rfl,h1,h2,fun c hc=>by rw[Nat.add_zero,g4 _ (by omega)];exact hmid c hc⟩
    |succ j=>
     obtain⟨q1,q2,q3,q4⟩:=g5 j p (by simpa using hp)
     exact⟨by simpa using q1,q2,q3,fun c hc=>by have:=q4 c hc;rwa[show j0+1+j=j0+(j+1) by omega]at this⟩
   ·cases h
theorem Agn {w':World} {cx:Cx} {A:Nat->Prop} {e:Qr} (hl:cx.length=s.length) (hn:e.Fg=false) {n cap:Nat} (h1:n<=e.len) (h2:n<=cap) (h3:cap*e.BU=e.tot) (h4:cap<=maxLen):
  Rel w' (cx++ [e]) A (.ms s.length n) (.slice (some ⟨e.b,0,none⟩) n cap):=
 .ms s.length n cap e (by rw[<- hl];simp) hn h1 h2 h3 h4
theorem bP {t e:TypeId} {len:Nat} {parts:Array (Nat×Operand)} {vs:List AV} {row:Row} (ho:o.op=.buildSlice t len parts) (ht:P.underlying t=some (.slice e)) (hv:MP ev (P.cellsOf e) 0 parts.toList=some vs)
  (hlen:vs.length=len) (hsmall:len*P.cellsOf e<=16777216) (hpos:0<P.cellsOf e) (hz:(Oy P e).isSome=true) (hrow:lC P e vs=some row):EY P o s ev (.ms s.length len) (s++ [some ⟨P.cellsOf e,e,row,false,false⟩]):=by
 refine EY.made (sem:=fun ρ=>Instr.buildSlice t len (parts.map fun(i,x)=>(i,ρ x))) (fun ρ=>by simp[execOp,ho]) fun V w cx ρ S R=>?_
 have R': ∀p∈parts.toList,Rel w cx (Av V cx s) (ev p.2) (ρ p.2):=fun p hp=>R p.2 (by simp[ho,Op.operands];exact⟨p.1,by simpa using hp⟩)
 have hparts:(parts.map fun(x:Nat×Operand)=>(x.1,ρ x.2)).toList=parts.toList.map fun p=>(p.1,ρ p.2):=by simp
 obtain⟨z,hz⟩:=Option.isSome_iff_exists.1 hz
 obtain⟨i,zv,hi,hzv,wN,hst⟩:=I8 hz w cx (Av V cx s)
 let zs:Array Value:=if len*P.cellsOf e=0 then #[]else zv.cells
 let arr:Array Value:=(Array.range (len*P.cellsOf e)).map (zs[·%zs.size]!)
 have hpl:parts.toList.length=len:=by
  have key: ∀(l:List (Nat×Operand)) (i:Nat) (us:List AV),MP ev (P.cellsOf e) i l=some us->us.length=l.length:=by
   intro l
   induction l with
   |nil=>intro i us h;cases h;rfl
   |cons p l ih=>
    intro i us h
    unfold MP at h
    cases hq:(p.1==i&&((ev p.2).storable&&(ev p.2).A9==P.cellsOf e))with
    |false=>simp only[hq,cond_false]at h;cases h
    |true=>
     simp only[hq,cond_true]at h
     split at h
     ·rename_i l' hl'
      cases h
      simp[ih _ _ hl']
     ·cases h
  rw[<- key _ _ _ hv,hlen]
 obtain⟨arr',g1,g2,g3,_,g5⟩:=Uq (arr:=arr) hv (fun p hp h1 h2=>by rw[((R' p hp).cells h1).1,h2]) (by simp[arr];rw[<- Array.length_toList,hpl];exact Nat.le_refl _)
 obtain⟨r1,r2,r3⟩:=Xf hrow
 have elem: ∀j,j<len-> ∃p,parts.toList[j]? =some p/\vs[j]? =some (ev p.2)/\row.get j=ev p.2/\(ev p.2).storable=true/\(ev p.2).A9=P.cellsOf e/\ ∀c,c<P.cellsOf e->arr'[j*P.cellsOf e+c]? =(ρ p.2).cells[c]? :=fun j hj=>by
  have hlt:j<parts.toList.length:=by omega
  obtain⟨q1,q2,q3,q4⟩:=g5 j _ (List.getElem?_eq_getElem hlt)
  refine⟨_,List.getElem?_eq_getElem hlt,q1,?_,q2,q3,fun c hc=>by have:=q4 c hc;rwa[Nat.zero_add]at this⟩
  rw[r3 j (by omega),List.getD,q1]
  rfl
 have hsize:arr'.size=len*P.cellsOf e:=by rw[g2];simp[arr]
 obtain⟨S',E⟩:=S.alloc ⟨P.cellsOf e,e,row,false,false⟩ arr' r2 (by show row.len*P.cellsOf e<=_;rw[hsize,r1,hlen];exact Nat.le_refl _)
  (fun j hj=>by
    obtain⟨p,_,_,h3,_,h5,_⟩:=elem j (by rw[<- hlen,<- r1];exact hj)
    show(row.get j).A9=P.cellsOf e
    rw[h3,h5])
  (fun j c x hj hx=>by
    obtain⟨p,h1,_,h3,h4,h5,h6⟩:=elem j (by rw[<- hlen,<- r1];exact hj)
    have hx':(ev p.2).cells[c]? =some x:=by rw[<- h3];exact hx
    have hp:p∈parts.toList:=List.mem_of_getElem? h1
    obtain⟨_,k2,k3⟩:=(R' p hp).cells h4
    obtain⟨u,hu,hr⟩:=k3 c x hx'
    exact⟨u,by show arr'[j*P.cellsOf e+c]? =some u;rw[h6 c (by rw[<- h5];exact AV.NS hx')];exact hu,k2 u (by rw[Array.mem_toList_iff];exact Array.mem_of_getElem? hu),hr⟩)
 refine⟨_,_,?_,_,E,S',Agn S.len rfl (by show len<=row.len;omega) (Nat.le_refl _) (by show len*P.cellsOf e=arr'.size;omega) (by have:len<=len*P.cellsOf e:=Nat.le_mul_of_pos_right _ hpos;simp only[maxLen];omega)⟩
 have g1':Instr.fill (fun i=>some (i*P.cellsOf e,P.cellsOf e)) arr (parts.toList.map fun p=>(p.1,ρ p.2))=some arr':=g1
 have hns: ¬len*P.cellsOf e>2 ^ 24:=by omega
 by_cases h0:len*P.cellsOf e=0
 ·have hze:zs= #[]:=by simp[zs,h0]
  simp only[Instr.buildSlice,Sem.run_bind,run_underlying ht,Result.andThen_ok,Cq hpos,Sem.run_ite,if_neg hns,Sem.run_pure,if_pos h0,hparts]
  have:(Array.range (len*P.cellsOf e)).map (fun x=>(#[]:Array Value)[x%(#[]:Array Value).size]!)=arr:=by simp only[arr,hze]
  rw[this,g1']
  simp[newRow]
 ·have hze:zs=zv.cells:=by simp only[zs,if_neg h0]
  simp only[Instr.buildSlice,Sem.run_bind,run_underlying ht,Result.andThen_ok,Cq hpos,Sem.run_ite,if_neg hns,Sem.run_pure,if_neg h0,hparts,zeroValue,typeInfo,run_program,hi,hzv]
  have:(Array.range (len*P.cellsOf e)).map (fun x=>zv.cells[x%zv.cells.size]!)=arr:=by simp only[arr,hze]
  rw[this,g1']
  simp[newRow]
theorem oW {z:Array Value} {n i c size:Nat} (hz:z.size=size) (hc:c<size) (hi:i<n):(madeCells z (n*size))[i*size+c]? =z[c]? :=by
 have hlt:i*size+c<n*size:=by
  have:(i+1)*size<=n*size:=Nat.mul_le_mul_right _ hi
  rw[Nat.add_mul,Nat.one_mul]at this
  omega
 unfold madeCells
 rw[Array.getElem?_map,Array.getElem?_range]
 rw[if_pos hlt]
 simp only[Option.map_some]
 rw[hz,Nat.mul_comm i size,Nat.mul_add_mod,Nat.mod_eq_of_lt hc]
 rw[getElem!_pos z c (by omega),getElem?_pos z c (by omega)]
theorem OA {e:TypeId} {i:TypeInfo} (hi:P.info? e=some i): ∃i',P.info? e=some i'/\i.size=P.cellsOf e/\i.bytes=P.bytesOf e:=⟨i,hi,by simp[Program.cellsOf,hi],by simp[Program.bytesOf,hi]⟩
theorem gL {t e:TypeId} {l c:Operand} {k k':IntKind} {n:Int} {row:Row} (ho:o.op=.makeSlice t l c) (ht:P.underlying t=some (.slice e)) (hl:ev l=.int k n) (hc:ev c=.int k' n) (h0:0<=n)
  (hb:(P.bytesOf e:Int)*n<=281474976710656) (h63:n<=9223372036854775807) (hpos:0<P.cellsOf e) (hrow:wM P e n.toNat=some row):EY P o s ev (.ms s.length n.toNat) (s++ [some ⟨P.cellsOf e,e,row,false,false⟩]):=by
 refine EY.made (sem:=fun ρ=>Instr.makeSlice t (ρ l) (ρ c)) (fun ρ=>by simp[execOp,ho]) fun V w cx ρ S R=>?_
 have rl:=R l (by simp[ho,Op.operands])
 have rc:=R c (by simp[ho,Op.operands])
 rw[hl]at rl
 rw[hc]at rc
 rw[rl.Dx,rc.Dx]
 unfold wM at hrow
 split at hrow
 ·rename_i z hz
  obtain⟨i,zv,hi,hzv,wN,hst⟩:=I8 hz w cx (Av V cx s)
  cases hq:(z.Lm&&z.storable&&z.A9==P.cellsOf e)with
  |false=>rw[hq]at hrow;cases hrow
  |true=>
   rw[hq]at hrow
   simp only[Bool.and_eq_true,beq_iff_eq,cond_true]at hq hrow
   obtain⟨⟨Gr,_⟩,hnc⟩:=hq
   obtain⟨z1,z2,z3⟩:=wN.cells hst
   have hr:row.len=n.toNat/\row.ok/\ ∀j,j<n.toNat->row.get j=z:=by
    split at hrow
    ·cases hrow
     exact⟨by simp[Row.len],trivial,fun j hj=>by simp[Row.get,List.getD,hj]⟩
    ·cases hrow
     exact⟨by simp[Row.len],trivial,fun j hj=>by simp[Row.get,List.getD,hj]⟩
    ·rename_i z0 st ApK
     cases hq:st.data.toList.isEmpty with
     |false=>rw[hq]at hrow;cases hrow
     |true=>
      rw[hq]at hrow
      cases hrow
      refine⟨by simp[Row.len],trivial,fun j hj=>?_⟩
      have:st=ByteArray.empty:=by
            obtain⟨d⟩:=st
            have:d= #[]:=by simpa using hq
            subst this
            rfl
      simp[Row.get,List.getD,hj,this]
    ·cases hrow
     exact⟨rfl,fun j _=>Gr,fun j _=>rfl⟩
   obtain⟨r1,r2,r3⟩:=hr
   obtain⟨i',hi',hsz,hby⟩:=OA (P:=P) hi
   have hrun:=run_make (P:=P) w t e i zv ht hi hzv k k' n n h0 (Int.le_refl _) (by rw[hby];exact hb) h63
   rw[hsz]at hrun
   have hcells:(madeCells zv.cells (n.toNat*P.cellsOf e)).size=n.toNat*P.cellsOf e:=size_madeCells _ _
   obtain⟨S',E⟩:=S.alloc ⟨P.cellsOf e,e,row,false,false⟩ (madeCells zv.cells (n.toNat*P.cellsOf e)) r2 (by show row.len*P.cellsOf e<=_;rw[hcells,r1];exact Nat.le_refl _)
    (fun j hj=>by show(row.get j).A9=P.cellsOf e;rw[r3 j (by rw[<- r1];exact hj),hnc])
    (fun j c x hj hx=>by
         have hj':j<n.toNat:=by rw[<- r1];exact hj
         have hx':z.cells[c]? =some x:=by rw[<- r3 j hj'];exact hx
         obtain⟨u,hu,hr⟩:=z3 c x hx'
         refine⟨u,?_,z2 u (by rw[Array.mem_toList_iff];exact Array.mem_of_getElem? hu),hr⟩
         show(madeCells zv.cells (n.toNat*P.cellsOf e))[j*P.cellsOf e+c]? =some u
         rw[oW (by rw[z1,hnc]) (by rw[<- hnc];exact AV.NS hx') hj']
         exact hu)
   exact⟨_,_,hrun,_,E,S',Agn S.len rfl (by show n.toNat<=row.len;omega) (Nat.le_refl _) (by show n.toNat*P.cellsOf e=_;rw[hcells]) (by simp only[maxLen];omega)⟩
 ·cases hrow
end
end
end Go.SE
