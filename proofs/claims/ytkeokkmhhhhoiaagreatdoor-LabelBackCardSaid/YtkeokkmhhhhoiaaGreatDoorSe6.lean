import Derived.Test.YtkeokkmhhhhoiaaGreatDoorSe5
namespace Go.SE
open Go
set_option linter.unusedVariables false
set_option linter.unusedSimpArgs false
section
variable {P:PL}
theorem Yv {k:IntKind} : ∀ {cs:List AV} {l:List Int},kH k cs=some l->l.length=cs.length/\ ∀i,i<cs.length->cs.getD i .unk=.int k (l.getD i 0)
 | [],l,h=>by cases h;exact⟨rfl,fun i hi=>absurd hi (Nat.not_lt_zero _)⟩
 |v::vs,l,h=>by
  cases v<;>simp only[kH]at h<;>try cases h
  rename_i k' n
  split at h
  ·rename_i l' hk hl
   cases h
   obtain⟨h1,h2⟩:=Yv hl
   refine⟨by simp[h1],fun i hi=>?_⟩
   cases i with
   |zero=>simp[of_decide_eq_true hk]
   |succ i=>simpa using h2 i (by simpa using hi)
  ·cases h
theorem nG: ∀ {cs:List AV} {l:List ByteArray},strsOf cs=some l->l.length=cs.length/\ ∀i,i<cs.length->cs.getD i .unk=.str (l.getD i ByteArray.empty)
 | [],l,h=>by cases h;exact⟨rfl,fun i hi=>absurd hi (Nat.not_lt_zero _)⟩
 |v::vs,l,h=>by
  cases v<;>simp only[strsOf]at h<;>try cases h
  split at h
  ·rename_i l' hl
   cases h
   obtain⟨h1,h2⟩:=nG hl
   refine⟨by simp[h1],fun i hi=>?_⟩
   cases i with
   |zero=>simp
   |succ i=>simpa using h2 i (by simpa using hi)
  ·cases h
theorem bZ: ∀ {cs:List AV} {l:List Bool},gQ cs=some l->l.length=cs.length/\ ∀i,i<cs.length->cs.getD i .unk=.bool (l.getD i false)
 | [],l,h=>by cases h;exact⟨rfl,fun i hi=>absurd hi (Nat.not_lt_zero _)⟩
 |v::vs,l,h=>by
  cases v<;>simp only[gQ]at h<;>try cases h
  split at h
  ·rename_i l' hl
   cases h
   obtain⟨h1,h2⟩:=bZ hl
   refine⟨by simp[h1],fun i hi=>?_⟩
   cases i with
   |zero=>simp
   |succ i=>simpa using h2 i (by simpa using hi)
  ·cases h
theorem Xf {e:TypeId} {cs:List AV} {row:Row} (h:lC P e cs=some row):row.len=cs.length/\row.ok/\ ∀i,i<cs.length->row.get i=cs.getD i .unk:=by
 unfold lC at h
 split at h
 ·obtain⟨l,hl,rfl⟩:=Option.map_eq_some_iff.1 h
  obtain⟨h1,h2⟩:=Yv hl
  exact⟨h1,trivial,fun i hi=>(h2 i hi).symm⟩
 ·obtain⟨l,hl,rfl⟩:=Option.map_eq_some_iff.1 h
  obtain⟨h1,h2⟩:=nG hl
  exact⟨h1,trivial,fun i hi=>(h2 i hi).symm⟩
 ·obtain⟨l,hl,rfl⟩:=Option.map_eq_some_iff.1 h
  obtain⟨h1,h2⟩:=bZ hl
  exact⟨h1,trivial,fun i hi=>(h2 i hi).symm⟩
 ·cases h
  cases hi:RH cs with
  |true=>exact⟨rfl,OZ hi,fun i _=>rfl⟩
  |false=>exact⟨rfl,trivial,fun i _=>rfl⟩
theorem RS {t:TypeId} {x:AV} {ob:E8} (h:newObj P t x=some ob) (hk:x.storable=true) {w:World} {cx:Cx} {A:Nat->Prop} {v:Value} (R:Rel w cx A x v):
  ob.ety=t/\ob.row.ok/\ob.row.len*ob.BU<=v.cells.size/\(∀i,i<ob.row.len->(ob.row.get i).A9=ob.BU)/\
  ∀(i c:Nat) (y:AV),i<ob.row.len->(ob.row.get i).cells[c]? =some y-> ∃u,v.cells[i*ob.BU+c]? =some u/\u.oneCell'=true/\Rel w cx A y u:=by
 obtain⟨hsz,hone,hcell⟩:=R.cells hk
 have hone': ∀(c:Nat) (u:Value),v.cells[c]? =some u->u.oneCell'=true:=fun c u hu=>hone u (by rw[Array.mem_toList_iff];exact Array.mem_of_getElem? hu)
 unfold newObj at h
 split at h
 ·rename_i n e ht
  split at h
  ·rename_i row hr
   cases hqn:(row.len==n&&Nat.blt 0 n)with
   |false=>rw[hqn]at h;cases h
   |true=>
    rw[hqn]at h
    cases h
    have key:P.cellsOf e=1/\row.ok/\row.len=x.A9/\ ∀i,i<row.len->row.get i=x.cellAt i:=by
         unfold iG at hr
         split at hr
         ·rename_i k l
          cases hq:(P.cellsOf e==1)<;>rw[hq]at hr<;>cases hr
          exact⟨by simpa using hq,trivial,rfl,fun i hi=>rfl⟩
         ·rename_i cs
          cases hq:(P.cellsOf e==1)<;>rw[hq]at hr
          ·cases hr
          ·obtain⟨h1,h2,h3⟩:=Xf hr
           exact⟨by simpa using hq,h2,h1,fun i hi=>h3 i (by omega)⟩
         ·cases hr
    obtain⟨k1,k2,k3,k4⟩:=key
    have kc: ∀i,i<row.len-> ∃u,v.cells[i]? =some u/\u.oneCell'=true/\Rel w cx A (row.get i) u:=fun i hi=>by
         obtain⟨u,hu,hr⟩:=hcell i _ (x.LU i (by omega))
         exact⟨u,hu,hone' i u hu,by rw[k4 i hi];exact hr⟩
    have kn: ∀i,i<row.len->(row.get i).A9=1:=fun i hi=>by
         obtain⟨u,_,hu,hr⟩:=kc i hi
         exact hr.one hu
    refine⟨rfl,k2,by show row.len*P.cellsOf e<=_;rw[k1,hsz];omega,fun i hi=>(kn i hi).trans k1.symm,fun i c y hi hy=>?_⟩
    have hc0:c=0:=by
         have h1:(row.get i).A9=1:=kn i hi
         have h2:c<(row.get i).A9:=AV.NS hy
         omega
    subst hc0
    obtain⟨u,h1,h2,h3⟩:=kc i hi
    refine⟨u,?_,h2,?_⟩
    ·show v.cells[i*P.cellsOf e+0]? =some u
     rw[k1,Nat.mul_one,Nat.add_zero];exact h1
    ·have:=kn i hi
     have e1:y=(row.get i).cellAt 0:=AV.Ahu hy
     rw[e1]
     cases hg:row.get i with
     |agg cs=>
      rw[hg]at h3
      cases h3;cases h2
     |H8 k l=>
      rw[hg]at h3
      cases h3;cases h2
     |_=>rw[hg]at h3;exact h3
  ·cases h
 ·cases h
  refine⟨rfl,trivial,?_,fun i hi=>?_,fun i c y hi hy=>?_⟩
  ·show 1*x.A9<=_;omega
  ·have:i=0:=by simp[Row.len]at hi;exact hi
   subst this;rfl
  ·have:i=0:=by simp[Row.len]at hi;exact hi
   subst this
   obtain⟨u,hu,hr⟩:=hcell c y hy
   exact⟨u,by simpa using hu,hone' c u hu,hr⟩
section
variable {o:Oper} {s:Store} {ev:Operand->AV}
theorem Yx {t:TypeId} {x:AV} {ob:E8} (h:newObj P t x=some ob):0<ob.row.len:=by
 unfold newObj at h
 split at h
 ·rename_i n e ht
  split at h
  ·rename_i row hr
   cases hqn:(row.len==n&&Nat.blt 0 n)with
   |false=>rw[hqn]at h;cases h
   |true=>
    rw[hqn]at h
    cases h
    simp only[Bool.and_eq_true,beq_iff_eq]at hqn
    have:0<n:=by simpa using hqn.2
    show 0<row.len
    omega
  ·cases h
 ·cases h
  exact Nat.one_pos
theorem Aen {t:TypeId} {x:Operand} {ob:E8} (ho:o.op=.box t x) (hk:(ev x).storable=true) (h:newObj P t (ev x)=some ob):EY P o s ev (.mp s.length 0 0) (s++ [some ob]):=by
 refine EY.made (sem:=fun ρ=>Instr.box t (ρ x)) (fun ρ=>by simp[execOp,ho]) fun V w cx ρ S R=>?_
 have hr:=R x (by simp[ho,Op.operands])
 obtain⟨h1,h2,h3,h4,h5⟩:=RS h hk hr
 obtain⟨S',E⟩:=S.alloc ob (ρ x).cells h2 h3 h4 h5
 rw[h1]at S' E
 refine⟨_,_,?_,_,E,S',Abv (e:=⟨w.heap.size,ob.BU,ob.row.len,(ρ x).cells.size,false⟩) S.len rfl (Yx h)⟩
 simp[Instr.box,newVar,newRow]
theorem I8 {t:TypeId} {z:AV} (h:Oy P t=some z) (w:World) (cx:Cx) (A:Nat->Prop): ∃i v,P.info? t=some i/\i.zero=some v/\Rel w cx A z v/\z.storable=true:=by
 unfold Oy at h
 cases hi:P.info? t with
 |none=>rw[hi]at h;cases h
 |some i=>
  rw[hi]at h
  simp only[Option.bind_some]at h
  cases hz:i.zero with
  |none=>rw[hz]at h;cases h
  |some v=>
   rw[hz]at h
   refine⟨i,v,rfl,hz,?_⟩
   cases v with
   |agg cs=>
    simp only at h
    cases hq:cs.toList.all Value.oneCell' with
    |false=>rw[hq]at h;cases h
    |true=>
     rw[hq]at h
     cases h
     have:(Value.agg cs)=.agg cs.toList.toArray:=by simp
     rw[this]
     refine⟨.agg _ _ (by simp) (fun v hv=>List.all_eq_true.1 hq v hv) fun c x v hx hv=>?_,rfl⟩
     rw[List.getElem?_map,hv]at hx
     cases hx
     exact .ofConst v
   |_=>
    have h': ∀u:Value,(bif (SE.ofConst u).storable then some (SE.ofConst u)else none)=some z->Rel w cx A z u/\z.storable=true:=fun u hu=>by
         cases hq:(SE.ofConst u).storable<;>rw[hq]at hu<;>cases hu
         exact⟨.ofConst u,hq⟩
    exact h' _ h
theorem Aac {t:TypeId} {z:AV} {ob:E8} (ho:o.op=.alloc t) (hz:Oy P t=some z) (h:newObj P t z=some ob):EY P o s ev (.mp s.length 0 0) (s++ [some ob]):=by
 refine EY.made (sem:=fun ρ=>Instr.alloc t true (.tuple #[])) (fun ρ=>by simp[execOp,ho]) fun V w cx ρ S R=>?_
 obtain⟨i,v,hi,hv,hr,hk⟩:=I8 hz w cx (Av V cx s)
 obtain⟨h1,h2,h3,h4,h5⟩:=RS h hk hr
 obtain⟨S',E⟩:=S.alloc ob v.cells h2 h3 h4 h5
 rw[h1]at S' E
 refine⟨_,_,?_,_,E,S',Abv (e:=⟨w.heap.size,ob.BU,ob.row.len,v.cells.size,false⟩) S.len rfl (Yx h)⟩
 simp[Instr.alloc,zeroValue,typeInfo,hi,hv,newVar,newRow]
end
theorem qL: ∀(us:List Value) (k off:Nat) (arr:Array Value),off+k+us.length<=arr.size->
  ((us.zipIdx k).foldl (fun cs (p:Value×Nat)=>cs.setIfInBounds (off+p.2) p.1) arr).toList=arr.toList.take (off+k)++us++arr.toList.drop (off+k+us.length)
 | [],k,off,arr,h=>by simp
 |u::us,k,off,arr,h=>by
  simp only[List.zipIdx_cons,List.foldl_cons]
  rw[qL us (k+1) off _ (by simp at h ⊢;omega)]
  simp only[List.length_cons]at h ⊢
  have hlt:off+k<arr.toList.length:=by simp;omega
  have e1:(arr.setIfInBounds (off+k) u).toList=arr.toList.take (off+k)++u::arr.toList.drop (off+k+1):=by
   rw[Array.toList_setIfInBounds,List.set_eq_take_append_cons_drop,if_pos hlt]
  have hl:(arr.toList.take (off+k)).length=off+k:=by rw[List.length_take];omega
  rw[e1]
  have e2:(arr.toList.take (off+k)++u::arr.toList.drop (off+k+1)).take (off+(k+1))=arr.toList.take (off+k)++ [u]:=by
   rw[List.take_append,hl,show off+(k+1)-(off+k)=1 by omega,List.take_of_length_le (by omega)]
   simp
  have e3:(arr.toList.take (off+k)++u::arr.toList.drop (off+k+1)).drop (off+(k+1)+us.length)=arr.toList.drop (off+k+(us.length+1)):=by
   rw[List.drop_append,hl,show off+(k+1)+us.length-(off+k)=us.length+1 by omega,List.drop_of_length_le (by omega)]
   simp[Nat.add_assoc,Nat.add_comm,Nat.add_left_comm]
  rw[e2,e3]
  simp
theorem qF (place:Nat->Option (Nat×Nat)) (arr:Array Value) (i:Nat) (v:Value) (rest:List (Nat×Value)) (off size:Nat) (hp:place i=some (off,size)) (hs:v.cells.size=size) (hb:off+size<=arr.size):
  Instr.fill place arr ((i,v)::rest)=Instr.fill place (arr.toList.take off++v.cells.toList++arr.toList.drop (off+size)).toArray rest:=by
 have hne: ¬((v.cells.size≠size)∨off+v.cells.size>arr.size):=by omega
 have e:v.cells.zipIdx.foldl (fun cs (x:Value×Nat)=>cs.setIfInBounds (off+x.2) x.1) arr=(arr.toList.take off++v.cells.toList++arr.toList.drop (off+size)).toArray:=by
  apply Array.ext'
  rw[<- Array.foldl_toList,Array.toList_zipIdx]
  have:=qL v.cells.toList 0 off arr (by simp;omega)
  rw[Nat.add_zero]at this
  rw[this]
  simp[hs]
 simp only[Instr.fill,hp]
 rw[if_neg (by simpa using hne)]
 rw[<- e]
end
end Go.SE
