import Derived.Test.YtkeokkmhhhhoiaaGreatDoorK0
import Derived.Test.YtkeokkmhhhhoiaaGreatDoorProg
import Derived.Shelf.Spec.SlicesInsertGrow
import Derived.Laws.CopyRow
namespace Go.Proofs.YtkeokkmhhhhoiaaGreatDoor
open Go Go.SE Go.RowKit Go.Lib Go.Shelf
set_option linter.unusedVariables false
set_option linter.unusedSimpArgs false
theorem Agu (w:World) (tS tR e:TypeId) (ht:Tryz.prog.underlying tS=some (.slice e)) (hz: ∀w,(Go.sizeOf e).run Tryz.prog w=.ok 1 w) (a b:Addr) (la ca lb cb:Nat) (hne:a.block≠b.block) (tA tB:TypeId) (kA kB:Nat)
  (hsa:w.shape? a.block=some (tA,kA)) (hkA:kA≠0) (hsb:w.shape? b.block=some (tB,kB)) (hfb:w.frozen? b=false) (hfe:w.frozen? { block:=b.block,off:=kB } =false):
  (Extern.SlicesOverlaps.overlaps #[tS,tS] #[tR] #[.slice (some a) la ca, .slice (some b) lb cb]).run Tryz.prog w=.ok (.bool false) w:=by
 have hnb:(a.block != b.block)=true:=by simpa using hne
 have hnb':(a.block==b.block)=false:=by simpa using hne
 have ho:Extern.SlicesOverlaps.overlaps #[tS,tS] #[tR] #[.slice (some a) la ca, .slice (some b) lb cb]=(do
  let .slice elem <- underlying tS|stuck "slices.overlaps: slice type expected"
  let size <- sizeOf elem
  if la=0∨lb=0∨size=0 then pure (Value.bool false)
  else if a.block != b.block&&(<- frozen a)&&(<- frozen b)then unsupported .addressObserved
  else do
   if a.block != b.block then do
       noView a;noView b
       if <- mayBeOne a b then return Value.bool ((<- choose (.extern "sameAddr.stringBytes" 2))==1)
   pure (Value.bool (a.block==b.block&&a.off<b.off+lb*size&&b.off<a.off+la*size)):Sem Value):=rfl
 rw[ho]
 by_cases h0:la=0∨lb=0
 ·rcases h0 with h0|h0<;>simp[run_underlying ht,hz,h0]
 ·have h1: ¬(la=0):=fun h=>h0 (.inl h)
  have h2: ¬(lb=0):=fun h=>h0 (.inr h)
  cases kA with
  |zero=>exact absurd rfl hkA
  |succ kA=>
   cases hfa:w.frozen? a<;>cases Ano:w.frozen? { block:=a.block,off:=kA+1 } <;>
    simp[run_underlying ht,hz,h1,h2,hnb,hnb',frozen,noView,viewAt,mayBeOne,stringish,shape,Sem.run,hsa,hsb,hfb,hfe,hfa,Ano]
theorem gU {w:World} {S ty e:TypeId} {b o dLen dCap n c:Nat} {a:Addr} {cur:Array Value} {news:List Value} (hS:Tryz.prog.underlying S=some (.slice e)) (hs:(Tryz.prog.info? e).map (·.size)=some 1)
  (hh:w.heap[b]? =some (.cells cur e (0,0))) (hn:news.length=Nat.min n dLen) (hc: ∀(j:Nat) (u:Value),news[j]? =some u->w.cell? (a.add j)=some u) (h1: ∀u∈news,u.oneCell'=true) (hfit:o+news.length<=cur.size):
  (Builtin.copy_ #[S,S] ty #[.slice (some ⟨b,o,none⟩) dLen dCap, .slice (some a) n c]).run Tryz.prog w=.ok (goInt news.length) (w.setRow b (cur.toList.take o++news++cur.toList.drop (o+news.length)).toArray):=by
 obtain⟨i,hi,his⟩:=Option.map_eq_some_iff.1 hs
 have hfc:(Builtin.firstCells 1 (Nat.min n dLen) (.slice (some a) n c)).run Tryz.prog w=.ok news.toArray w:=run_firstCells_some (P:=Tryz.prog) (w:=w) _ _ a n c _ (by rw[hn,Nat.mul_one]) hc
 have hst:=run_storeCells_at (P:=Tryz.prog) b o e news 0 cur w hh (by omega) h1
 simp only[Nat.add_zero]at hst
 simp only[Builtin.copy_,Builtin.lenOf]
 have hz:(Go.sizeOf e).run Tryz.prog w=.ok 1 w:=by simp[sizeOf,typeInfo,hi,his]
 simp[run_underlying hS,hz,hfc,hst,hn]
structure AeC (cur:Array Value) (n i:Nat) (x:Value) (r:Array Value) (c:Nat):Prop where
 size:r.size=c
 low: ∀j,j<i->r[j]? =cur[j]?
 mid:r[i]? =some x
 high: ∀j,i<=j->j<n->r[j+1]? =cur[j]?
theorem Ah5 {cur r1:Array Value} {n i c:Nat} {x:Value} (hi:i<n) (hn:n<c) (hc:cur.size=c) (hr:r1=(cur.toList.take (i+1)++(cur.toList.take n).drop i++cur.toList.drop (i+1+(n-i))).toArray):
  r1.size=c/\AeC cur n i x (r1.toList.take i++ [x]++r1.toList.drop (i+1)).toArray c:=by
 have hl:cur.toList.length=c:=by rw[Array.length_toList];exact hc
 have h1:(cur.toList.take (i+1)).length=i+1:=by rw[List.length_take];omega
 have h2:((cur.toList.take n).drop i).length=n-i:=by rw[List.length_drop,List.length_take];omega
 have hs:r1.size=c:=by rw[hr];simp;omega
 have g: ∀j,r1[j]? =(cur.toList.take (i+1)++((cur.toList.take n).drop i++cur.toList.drop (i+1+(n-i))))[j]? :=fun j=>by rw[hr,List.getElem?_toArray,List.append_assoc]
 have t1:(r1.toList.take i).length=i:=by rw[List.length_take,Array.length_toList];omega
 refine⟨hs,⟨by simp;omega,fun j hj=>?_,?_,fun j hj hj'=>?_⟩⟩
 ·rw[List.getElem?_toArray,List.append_assoc,List.getElem?_append_left (by omega),List.getElem?_take,if_pos hj,Array.getElem?_toList,g,List.getElem?_append_left (by omega),List.getElem?_take,if_pos (by omega),Array.getElem?_toList]
 ·rw[List.getElem?_toArray,List.append_assoc,List.getElem?_append_right (by omega),t1,Nat.sub_self]
  rfl
 ·rw[List.getElem?_toArray,List.append_assoc,List.getElem?_append_right (by omega),t1,List.getElem?_append_right (by simp;omega),List.getElem?_drop,Array.getElem?_toList,List.length_singleton,show i+1+(j+1-i-1)=j+1 by omega,g,
   List.getElem?_append_right (by omega),h1,List.getElem?_append_left (by omega),List.getElem?_drop,List.getElem?_take,if_pos (by omega),show i+(j+1-(i+1))=j by omega,Array.getElem?_toList]
set_option maxHeartbeats 4000000 in
set_option maxRecDepth 100000 in
theorem Af9 (b n c i vb vo vc:Nat) (x:Value) (cur YE:Array Value) (vt:TypeId) (vf:Nat×Nat) (w:World) (hi:i<n) (hroom:n+1<=c) (hc63:c<=9223372036854775807) (hvb:vb≠b)
  (hh:w.heap[b]? =some (.cells cur 21 (0,0))) (hcs:cur.size=c) (hv:w.heap[vb]? =some (.cells YE vt vf)) (hx:YE[vo]? =some x) (h1: ∀j v,j<n->cur[j]? =some v->v.oneCell'=true) (h1x:x.oneCell'=true):
  Calls Tryz.prog 165 #[.slice (some ⟨b,0,none⟩) n c, .int .i64 i, .slice (some ⟨vb,vo,none⟩) 1 vc] w fun e w'=>
   e=.returned (.slice (some ⟨b,0,none⟩) (n+1) c)/\ ∃r1 r2:Array Value,w'=(w.drew.setRow b r1).setRow b r2/\AeC cur n i x r2 c:=by
 have u25:=run_underlying (P:=Tryz.prog) Tryz.underlying24
 have mixed:Tryz.prog.follows .mixedOrders=true:=by kernel_rfl
 have hz1: ¬((1:Int)=0):=by omega
 have hz2: ¬((i:Int)=(n:Int)):=by omega
 have hsz:(Tryz.prog.info? 21).map (·.size)=some 1:=by kernel_rfl
 have z21: ∀w,(Go.sizeOf 21).run Tryz.prog w=.ok 1 w:=fun w=>by
  obtain⟨j,hj,hjs⟩:=Option.map_eq_some_iff.1 hsz
  simp[sizeOf,typeInfo,hj,hjs]
 have hov: ∀lb cb,(callFunc 206 #[.slice (some ⟨vb,vo,none⟩) 1 vc, .slice (some ⟨b,i+1,none⟩) lb cb]).run Tryz.prog w=.ok (.value (.bool false)) w:=fun lb cb=>by
  rw[run_callFunc_extern Tryz.func206 (by kernel_rfl) (by kernel_rfl) (by kernel_rfl) (e:=Extern.SlicesOverlaps.overlaps #[24,24] #[4]) (by kernel_rfl),
   Agu w 24 4 21 Tryz.underlying24 z21 ⟨vb,vo,none⟩ ⟨b,i+1,none⟩ 1 vc lb cb hvb vt 21 YE.size cur.size (by simp[World.shape?,hv]) (by have:=(Array.getElem?_eq_some_iff.1 hx).1;omega) (by simp[World.shape?,hh]) (by simp[World.frozen?,hh]) (by simp[World.frozen?,hh])]
  rfl
 have hdl:((cur.toList.take n).drop i).length=n-i:=by rw[List.length_drop,List.length_take,Array.length_toList];omega
 have hw1:IntKind.i64.wrap ((i:Int)+(1:Int))=(i:Int)+(1:Int):=by rw[IntKind.wrap_i64];omega
 have hw2:IntKind.i64.wrap ((n:Int)+(1:Int))=(n:Int)+(1:Int):=by rw[IntKind.wrap_i64];omega
 have hb1:(0:Int)<=(i:Int)+(1:Int):=by omega
 have hin:i<=n:=by omega
 have htn:((i:Int)+(1:Int)).toNat=i+1:=by omega
 have hb2: ¬(c=i+1):=by omega
 have hb3:(i:Int)<=(n:Int)+(1:Int):=by omega
 have hb4: ¬(c=i):=by omega
 have hcell: ∀j,w.cell? ⟨b,j,none⟩=cur[j]? :=fun j=>by simp[World.cell?,hh]
 have hcp1: ∀ty dc sc,(Builtin.copy_ #[24,24] ty #[.slice (some ⟨b,i+1,none⟩) (n-i) dc, .slice (some ⟨b,i,none⟩) (n+1-i) sc]).run Tryz.prog w.drew=.ok (goInt ((cur.toList.take n).drop i).length) (w.drew.setRow b (cur.toList.take (i+1)++(cur.toList.take n).drop i++cur.toList.drop (i+1+((cur.toList.take n).drop i).length)).toArray):=fun ty dc sc=>
  gU Tryz.underlying24 hsz hh (by rw[hdl];simp only[Nat.min_def];split<;>omega)
   (fun j u hj=>by
       have hj':=hj
       rw[List.getElem?_drop,List.getElem?_take]at hj
       split at hj
       ·rw[Addr.add_lit]
        show w.cell? ⟨b,i+j,none⟩=some u
        rw[hcell]
        simpa using hj
       ·cases hj)
   (fun u hu=>by
       obtain⟨j,hj⟩:=List.getElem?_of_mem hu
       rw[List.getElem?_drop,List.getElem?_take]at hj
       split at hj
       ·rename_i hlt
        exact h1 (i+j) u hlt (by simpa using hj)
       ·cases hj)
   (by rw[hdl];omega)
 rw[hdl]at hcp1
 obtain⟨r1,hr1⟩: ∃r1,r1=(cur.toList.take (i+1)++(cur.toList.take n).drop i++cur.toList.drop (i+1+(n-i))).toArray:=⟨_,rfl⟩
 rw[<- hr1]at hcp1
 obtain⟨hs1,hI⟩:=Ah5 (x:=x) hi (by omega) hcs hr1
 obtain⟨r2,hr2⟩: ∃r2,r2=(r1.toList.take i++ [x]++r1.toList.drop (i+1)).toArray:=⟨_,rfl⟩
 rw[<- hr2]at hI
 have hcp2: ∀(W:World),W.heap[b]? =some (.cells r1 21 (0,0))->W.heap[vb]? =some (.cells YE vt vf)-> ∀ty dc,(Builtin.copy_ #[24,24] ty #[.slice (some ⟨b,i,none⟩) (n+1-i) dc, .slice (some ⟨vb,vo,none⟩) 1 vc]).run Tryz.prog W=.ok (goInt 1) (W.setRow b r2):=fun W hW hWv ty dc=>hr2▸
  gU (news:= [x]) Tryz.underlying24 hsz hW (by simp only[Nat.min_def,List.length_singleton];split<;>omega)
   (fun j u hj=>by
       match j,hj with
       |0,hj=>cases hj;simp[World.cell?,hWv,Addr.add_lit,hx]
       |j+1,hj=>simp at hj)
   (fun u hu=>by rw[List.mem_singleton.1 hu];exact h1x)
   (by simp;omega)
 have hW1:(w.drew.setRow b r1).heap[b]? =some (.cells r1 21 (0,0)):=setRow_heap w.drew b cur r1 21 (0,0) hh
 have hW2:(w.drew.setRow b r1).heap[vb]? =some (.cells YE vt vf):=by rw[setRow_other w.drew b vb r1 hvb];exact hv
 clear hr1 hr2 hs1 hcell
 go_enter Tryz.func165,Tryz.ntmps165
 go_wp2_with (simp only[hov])
 go_region_law_o (refine step_copy_runI rfl _ _ 24 24 rfl _ _ (by simp[Act.eval,Act.put]) (by simp[Act.eval,Act.put]) (hcp1 _ _ _) ?_)
 go_wp2_with (at_builtin;refine wpList_copy_runI _ rfl _ _ 24 24 rfl _ _ rfl rfl (hcp2 _ hW1 hW2 _ _) ?_)
 go_ret
 exact⟨rfl,r1,r2,rfl,hI⟩
set_option maxHeartbeats 4000000 in
set_option maxRecDepth 100000 in
theorem Acs (base:Option Addr) (n c vb vo vc:Nat) (w w2:World) (v2:Value) (hb:base=none->n=0) (hrun:(Builtin.append_ #[24,24] 24 #[.slice base n c, .slice (some ⟨vb,vo,none⟩) 1 vc]).run Tryz.prog w=.ok v2 w2):
  Calls Tryz.prog 165 #[.slice base n c, .int .i64 n, .slice (some ⟨vb,vo,none⟩) 1 vc] w fun e w'=>e=.returned v2/\w'=w2:=by
 have u25:=run_underlying (P:=Tryz.prog) Tryz.underlying24
 have mixed:Tryz.prog.follows .mixedOrders=true:=by kernel_rfl
 have hz1: ¬((1:Int)=0):=by omega
 have hsz:(Tryz.prog.info? 21).map (·.size)=some 1:=by kernel_rfl
 have z21: ∀w,(Go.sizeOf 21).run Tryz.prog w=.ok 1 w:=fun w=>by
  obtain⟨j,hj,hjs⟩:=Option.map_eq_some_iff.1 hsz
  simp[sizeOf,typeInfo,hj,hjs]
 go_enter Tryz.func165,Tryz.ntmps165
 cases base with
 |none=>
  have h0:=hb rfl
  subst h0
  go_wp2_with (at_builtin;refine Lib.wpList_append_run _ rfl _ _ _ _ rfl _ _ rfl rfl _ _ hrun ?_)
  go_ret
  exact⟨rfl,rfl⟩
 |some a=>
  obtain⟨ab,ao,asp⟩:=a
  go_wp2_with (at_builtin;refine Lib.wpList_append_run _ rfl _ _ _ _ rfl _ _ rfl rfl _ _ hrun ?_)
  all_goals (go_ret;exact⟨rfl,rfl⟩)
set_option maxHeartbeats 4000000 in
set_option maxRecDepth 100000 in
theorem Af8 (b n i vb vo vc:Nat) (x:Value) (cur YE:Array Value) (vt:TypeId) (vf:Nat×Nat) (w:World) (hi:i<n) (hbig:(n+1)*4<=140737488355328)
  (hh:w.heap[b]? =some (.cells cur 21 (0,0))) (hcs:n<=cur.size) (hv:w.heap[vb]? =some (.cells YE vt vf)) (hx:YE[vo]? =some x) (h1: ∀j v,j<n->cur[j]? =some v->v.oneCell'=true) (h1x:x.oneCell'=true):
  Calls Tryz.prog 165 #[.slice (some ⟨b,0,none⟩) n n, .int .i64 i, .slice (some ⟨vb,vo,none⟩) 1 vc] w fun e w'=>
   ∃(c:Nat) (r0 r1 r2:Array Value),n+1<=c/\c<=maxLen/\e=.returned (.slice (some ⟨w.heap.size,0,none⟩) (n+1) c)/\w'=(((w.alloc (.cells r0 21)).drew.setRow w.heap.size r1).drew).setRow w.heap.size r2/\AeC cur n i x r2 c:=by
 have u25:=run_underlying (P:=Tryz.prog) Tryz.underlying24
 have mixed:Tryz.prog.follows .mixedOrders=true:=by kernel_rfl
 have hz1: ¬((1:Int)=0):=by omega
 have hz2: ¬((i:Int)=(n:Int)):=by omega
 have hz3:(n:Int)<(n:Int)+(1:Int):=by omega
 have hsz:(Tryz.prog.info? 21).map (·.size)=some 1:=by kernel_rfl
 have hbz:(Tryz.prog.info? 21).map (·.bytes)=some 4:=by kernel_rfl
 have hzz:(Tryz.prog.info? 21).bind (·.zero)=some (.int .i32 0):=by kernel_rfl
 obtain⟨i0,hi0,hzs⟩:=Option.map_eq_some_iff.1 hsz
 rw[hi0]at hbz hzz
 have hzb:i0.bytes=4:=by simpa using hbz
 have hz0:i0.zero=some (.int .i32 0):=hzz
 have z21: ∀w,(Go.sizeOf 21).run Tryz.prog w=.ok 1 w:=fun w=>by simp[sizeOf,typeInfo,hi0,hzs]
 have hcell: ∀j,w.cell? ⟨b,j,none⟩=cur[j]? :=fun j=>by simp[World.cell?,hh]
 have hkk:(n:Int)+(1:Int)-(i:Int)=((n+1-i:Nat):Int):=by omega
 have hik:i+(n+1-i)=n+1:=by omega
 have hold:(Builtin.firstCells i0.size i (.slice (some ⟨b,0,none⟩) i n)).run Tryz.prog w.drew=.ok (cur.toList.take i).toArray w.drew:=by
  rw[hzs]
  exact run_firstCells_some w.drew 1 i ⟨b,0,none⟩ i n (cur.toList.take i) (by rw[List.length_take,Array.length_toList];omega) (fun j v hj=>by
   rw[Addr.add_lit,Nat.zero_add]
   rw[List.getElem?_take]at hj
   split at hj
   ·show w.cell? ⟨b,j,none⟩=some v
    rw[hcell];simpa using hj
   ·cases hj)
 obtain⟨G,hG⟩: ∃G,G=grownCap w (n+1) n 21:=⟨_,rfl⟩
 obtain⟨ROW,hROW⟩: ∃ROW:Array Value,ROW=(cur.toList.take i).toArray++Builtin.zeroCells (Value.int .i32 0).cells (n+1-i)++Builtin.zeroCells (Value.int .i32 0).cells (G-(n+1)):=⟨_,rfl⟩
 have hrz: ∀ty,(Builtin.append_ #[24,3] ty #[.slice (some ⟨b,0,none⟩) i n, .int .i64 ((n:Int)+(1:Int)-(i:Int))]).run Tryz.prog w=
   .ok (.slice (some ⟨w.heap.size,0,none⟩) (n+1) G) (w.drew.alloc (.cells ROW 21)):=fun ty=>by
  have h:=Lib.run_append_grow_zeros w 24 3 ty 21 i0 _ .i64 .i64 Tryz.underlying24 Tryz.underlying3 hi0 hz0 (some ⟨b,0,none⟩) i n (cur.toList.take i) hold (n+1-i) (by omega) (by omega) (by omega) (by omega) (by rw[hzb];omega) (by rw[hzb,hik];exact growslice_fits (by omega) hbig)
  rw[hik]at h
  rw[hkk,hROW,hG]
  exact h
 have hGn:n+1<=G:=by rw[hG];exact grownCap_ge w _ _ _
 have hGm:G<=maxLen:=by rw[hG];exact grownCap_le_maxLen w (n+1) n 21 (by unfold maxLen;omega)
 have hG63:G<=9223372036854775807:=by unfold maxLen at hGm;omega
 have hRs:ROW.size=G:=by rw[hROW];simp[Builtin.zeroCells,Value.cells];omega
 have hbw:b<w.heap.size:=(Array.getElem?_eq_some_iff.1 hh).1
 have hvw:vb<w.heap.size:=(Array.getElem?_eq_some_iff.1 hv).1
 have hl:cur.toList.length=cur.size:=Array.length_toList
 obtain⟨r1,hr1⟩: ∃r1,r1=(ROW.toList.take i++ [x]++ROW.toList.drop (i+1)).toArray:=⟨_,rfl⟩
 have hs1:r1.size=G:=by rw[hr1];simp;omega
 obtain⟨r2,hr2⟩: ∃r2,r2=(r1.toList.take (i+1)++(cur.toList.take n).drop i++r1.toList.drop (i+1+(n-i))).toArray:=⟨_,rfl⟩
 have hdl:((cur.toList.take n).drop i).length=n-i:=by rw[List.length_drop,List.length_take];omega
 have hI:AeC cur n i x r2 G:=by
  have t1:(ROW.toList.take i).length=i:=by rw[List.length_take,Array.length_toList];omega
  have t2:(r1.toList.take (i+1)).length=i+1:=by rw[List.length_take,Array.length_toList];omega
  refine⟨by rw[hr2];simp;omega,fun j hj=>?_,?_,fun j hj hj'=>?_⟩
  ·rw[hr2,List.getElem?_toArray,List.append_assoc,List.getElem?_append_left (by omega),List.getElem?_take,if_pos (by omega),Array.getElem?_toList,hr1,List.getElem?_toArray,List.append_assoc,List.getElem?_append_left (by omega),List.getElem?_take,if_pos hj,Array.getElem?_toList,hROW,Array.append_assoc,Array.getElem?_append_left (by simp;omega),List.getElem?_toArray,List.getElem?_take,if_pos hj,Array.getElem?_toList]
  ·rw[hr2,List.getElem?_toArray,List.append_assoc,List.getElem?_append_left (by omega),List.getElem?_take,if_pos (by omega),Array.getElem?_toList,hr1,List.getElem?_toArray,List.append_assoc,List.getElem?_append_right (by omega),t1,Nat.sub_self]
   rfl
  ·rw[hr2,List.getElem?_toArray,List.append_assoc,List.getElem?_append_right (by omega),t2,List.getElem?_append_left (by omega),List.getElem?_drop,List.getElem?_take,if_pos (by omega),show i+(j+1-(i+1))=j by omega,Array.getElem?_toList]
 obtain⟨W1,hW1⟩: ∃W1,W1=w.drew.alloc (.cells ROW 21):=⟨_,rfl⟩
 have a1:(w.drew.alloc (.cells ROW 21)).heap[w.heap.size]? =some (.cells ROW 21 (0,0)):=heap_alloc_new w.drew _
 have a2:(w.drew.alloc (.cells ROW 21)).heap[vb]? =some (.cells YE vt vf):=by rw[heap_alloc_old w.drew _ hvw];exact hv
 have a3:(w.drew.alloc (.cells ROW 21)).heap[b]? =some (.cells cur 21 (0,0)):=by rw[heap_alloc_old w.drew _ hbw];exact hh
 have hcpA: ∀(W:World),W.heap[w.heap.size]? =some (.cells ROW 21 (0,0))->W.heap[vb]? =some (.cells YE vt vf)-> ∀ty dc,(Builtin.copy_ #[24,24] ty #[.slice (some ⟨w.heap.size,i,none⟩) (n+1-i) dc, .slice (some ⟨vb,vo,none⟩) 1 vc]).run Tryz.prog W=.ok (goInt 1) (W.setRow w.heap.size r1):=fun W hW hWv ty dc=>hr1▸
  gU (news:= [x]) Tryz.underlying24 hsz hW (by simp only[Nat.min_def,List.length_singleton];split<;>omega)
   (fun j u hj=>by
       match j,hj with
       |0,hj=>cases hj;simp[World.cell?,hWv,Addr.add_lit,hx]
       |j+1,hj=>simp at hj)
   (fun u hu=>by rw[List.mem_singleton.1 hu];exact h1x)
   (by simp;omega)
 have hcpB: ∀(W:World),W.heap[w.heap.size]? =some (.cells r1 21 (0,0))->W.heap[b]? =some (.cells cur 21 (0,0))-> ∀ty dc sc,(Builtin.copy_ #[24,24] ty #[.slice (some ⟨w.heap.size,i+1,none⟩) (n-i) dc, .slice (some ⟨b,i,none⟩) (n-i) sc]).run Tryz.prog W=.ok (goInt (n-i:Nat)) (W.setRow w.heap.size r2):=fun W hW hWb ty dc sc=>by
  have h:=gU (ty:=ty) (o:=i+1) (dLen:=n-i) (dCap:=dc) (n:=n-i) (c:=sc) (a:=⟨b,i,none⟩) (news:=(cur.toList.take n).drop i) Tryz.underlying24 hsz hW (by rw[hdl];simp[Nat.min_def])
   (fun j u hj=>by
       rw[List.getElem?_drop,List.getElem?_take]at hj
       split at hj
       ·rw[Addr.add_lit]
        have:W.cell? ⟨b,i+j,none⟩=cur[i+j]? :=by simp[World.cell?,hWb]
        rw[this]
        simpa using hj
       ·cases hj)
   (fun u hu=>by
       obtain⟨j,hj⟩:=List.getElem?_of_mem hu
       rw[List.getElem?_drop,List.getElem?_take]at hj
       split at hj
       ·rename_i hlt
        exact h1 (i+j) u hlt (by simpa using hj)
       ·cases hj)
   (by rw[hdl];omega)
  rw[hdl,<- hr2]at h
  exact h
 have e1:((w.alloc (.cells ROW 21)).drew).heap[w.heap.size]? =some (.cells ROW 21 (0,0)):=a1
 have e2:((w.alloc (.cells ROW 21)).drew).heap[vb]? =some (.cells YE vt vf):=a2
 have e3:(((w.alloc (.cells ROW 21)).drew.setRow w.heap.size r1).drew).heap[w.heap.size]? =some (.cells r1 21 (0,0)):=setRow_heap (w.alloc (.cells ROW 21)).drew w.heap.size ROW r1 21 (0,0) a1
 have e4:(((w.alloc (.cells ROW 21)).drew.setRow w.heap.size r1).drew).heap[b]? =some (.cells cur 21 (0,0)):=by
  show((w.alloc (.cells ROW 21)).drew.setRow w.heap.size r1).heap[b]? =_
  rw[setRow_other _ w.heap.size b r1 (by omega)];exact a3
 have hw1:IntKind.i64.wrap ((i:Int)+(1:Int))=(i:Int)+(1:Int):=by rw[IntKind.wrap_i64];omega
 have hw2:IntKind.i64.wrap ((n:Int)+(1:Int))=(n:Int)+(1:Int):=by rw[IntKind.wrap_i64];omega
 have hw3:IntKind.i64.wrap ((n:Int)+(1:Int)-(i:Int))=(n:Int)+(1:Int)-(i:Int):=by rw[IntKind.wrap_i64];omega
 have hb1:(0:Int)<=(i:Int)+(1:Int):=by omega
 have hin:i<=n:=by omega
 have htn:((i:Int)+(1:Int)).toNat=i+1:=by omega
 have hb3:(i:Int)<=(n:Int):=by omega
 have hGi: ¬(G=i):=by omega
 have hGim: ¬(G=i+1):=by omega
 have hni: ¬(n=i):=by omega
 have hA:=hcpA _ e1 e2
 have hB:=hcpB _ e3 e4
 clear hkk hik hold hROW hG hr1 hr2 hs1 hcell hW1 W1 hcpA hcpB
 go_enter Tryz.func165,Tryz.ntmps165
 go_wp2_with (first
  |(at_builtin;refine Lib.wpList_append_run _ rfl _ _ _ _ rfl _ _ rfl rfl _ _ (hrz _) ?_)
  |(at_builtin;refine wpList_copy_runI _ rfl _ _ 24 24 rfl _ _ rfl rfl (hA _ _) ?_))
 go_region_law_o (refine step_copy_runI rfl _ _ 24 24 rfl (.slice (some ⟨w.heap.size,i+1,none⟩) (n-i) (G-(i+1))) (.slice (some ⟨b,i,none⟩) (n-i) (n-i)) (by simp[Act.eval,Act.put]) (by simp[Act.eval,Act.put]) (hB 3 (G-(i+1)) (n-i)) ?_)
 go_wp2
 go_ret
 exact⟨G,ROW,r1,r2,hGn,hGm,rfl,rfl,hI⟩
theorem Y7 {L:Laid} {V:Nat->Prop} {w w':World} {cx:Cx} {l0 l2:List Int} {x0:Option E8} {k:Nat} {v:Value}
  (h: ∃BX,Ext 1 V w w' cx BX [some ⟨1,21, .ints .i32 l0,false,true⟩] [x0,some ⟨1,21, .ints .i32 l2,false,true⟩]/\Bj L V w' BX [x0,some ⟨1,21, .ints .i32 l2,false,true⟩]/\
    Rel w' BX (Av V BX [x0,some ⟨1,21, .ints .i32 l2,false,true⟩]) (.ms 1 k) v):
  ∃BX,Ext 0 V w w' cx BX [some ⟨1,21, .ints .i32 l0,false,true⟩] [some ⟨1,21, .ints .i32 l2,false,true⟩]/\Bj L V w' BX [some ⟨1,21, .ints .i32 l2,false,true⟩]/\Rel w' BX (Av V BX [some ⟨1,21, .ints .i32 l2,false,true⟩]) (.ms 0 k) v:=by
 obtain⟨BX,E,S,R⟩:=h
 have R1:EU L V w' BX ⟨[.ms 1 k],[x0,some ⟨1,21, .ints .i32 l2,false,true⟩]⟩ { tmps:= #[v],defers:= [] } :=⟨S,rfl,trivial,fun i x hx=>by
  cases i with
  |zero=>simp at hx;subst hx;exact R
  |succ i=>simp at hx⟩
 have W:Weak 0 ⟨[.ms 1 k],[x0,some ⟨1,21, .ints .i32 l2,false,true⟩]⟩ (BS 1 [(0, .ms 0 k)] [some ⟨1,21, .ints .i32 l2,false,true⟩]):=
  WX [1] rfl rfl (sK rfl (l9 rfl) FD.nil) (Kt.cons (cR rfl rfl) Kt.nil)
 obtain⟨UY,E2,R2⟩:=W L V w' BX _ R1
 exact⟨UY,(E.less (Nat.zero_le _)).trans E2,R2.st,R2.tmps 0 _ rfl⟩
theorem fO (BA:List Int) (p_i:Int) (p_v r:List Int) (h:Oa BA p_i p_v=some r):
  Bc 0 pl 165 [.ms 0 BA.length, .int .i64 p_i, .sl none p_v.length fun j=>.int .i32 (p_v.getD j 0)] [some ⟨1,21, .ints .i32 BA,false,true⟩] (.ms 0 r.length) [some ⟨1,21, .ints .i32 r,false,true⟩]:=by
 obtain⟨x,i,rfl,rfl,hi,hbig,rfl⟩: ∃(x:Int) (i:Nat),p_v= [x]/\p_i=(i:Int)/\i<=BA.length/\(BA.length+1)*4<=140737488355328/\r=BA.take i++x::BA.drop i:=by
  unfold Oa at h
  split at h
  ·rename_i x
   split at h
   ·rename_i hc
    cases h
    exact⟨x,p_i.toNat,rfl,by omega,by omega,hc.2.2,rfl⟩
   ·cases h
  ·cases h
 clear h
 have hrl:(BA.take i++x::BA.drop i).length=BA.length+1:=by simp;omega
 refine⟨⟨_,Tryz.func165,by kernel_rfl,by kernel_rfl⟩,fun V w cx vs S hlen R=>?_⟩
 match vs,hlen with
 | [v0,v1,v2],_=>
   have r0:=R 0 _ v0 rfl rfl
   have r1:=(R 1 _ v1 rfl rfl).Dx
   have r2:=R 2 _ v2 rfl rfl
   subst r1
   obtain⟨j0,hj0,hjz⟩: ∃j0,Tryz.prog.info? 21=some j0/\j0.zero=some (.int .i32 0):=by
     have:(Tryz.prog.info? 21).bind (·.zero)=some (.int .i32 0):=by kernel_rfl
     obtain⟨j0,h1,h2⟩:=Option.bind_eq_some_iff.1 this
     exact⟨j0,h1,h2⟩
   have hc1:pl.cellsOf 21=1:=by kernel_rfl
   have hb4:pl.bytesOf 21=4:=by kernel_rfl
   have ht:pl.underlying 24=some (.slice 21):=Tryz.underlying24
   generalize hn0:BA.length=n0 at r0
   cases r2 with
   |sl _ _ _ av vc AqV vals hnil AoC AoD vhz Amc Gr Amd=>
    obtain⟨vb,vo,rfl,hvA,⟨YE,vt,vf,hv⟩,hvm⟩:=Amc (show 0<1 by omega)
    have hu:=(Amd 0 0 _ (show 0<1 by omega) rfl).Dx
    have hx0:YE[vo]? =some (.int .i32 x):=by
       have:=(hvm 0 0 _ (show 0<1 by omega) rfl).1
       rw[hu]at this
       simpa[World.cell?,hv]using this
    have src:SE.Src w cx (Av V cx [some ⟨1,21, .ints .i32 BA,false,true⟩]) (.slice (some ⟨vb,vo,none⟩) 1 vc) 1 1 (.ints .i32 [x]):=
       source S (x:=.sl none 1 fun j=>.int .i32 (([x]:List Int).getD j 0)) (n:=1) (r:=.ints .i32 [x]) ⟨rfl,rfl,fun j hj=>rfl⟩ (R 2 _ _ rfl rfl) (fun j hj=>rfl) (by omega)
    cases r0 with
    |ms0 _ en hen hnn=>
     have hp0:BA= []:=List.eq_nil_of_length_eq_zero hn0
     subst hp0
     have hi0:i=0:=by simpa using hi
     subst hi0
     obtain⟨v',w',q1,q2⟩:=QV (P:=pl) (ty:=24) (x:=.unk) S (H7.kill _ 0) (ob:=⟨1,21, .ints .i32 [x],false,true⟩) ht (by rw[hc1];omega) hj0 hjz (by rw[hc1];rfl) (by rw[hc1];exact src) (by rw[hc1]) rfl rfl rfl trivial (fun j hj=>by rw[hc1];rfl) (by rw[hb4];show 1*4<=140737488355328;decide) (by show 1<=9223372036854775807;decide)
     refine(Acs none 0 0 vb vo vc w w' v' (fun _=>rfl) q1).mono ?_
     rintro ev w2 ⟨rfl,rfl⟩
     obtain⟨BX,q⟩:=Y7 q2
     exact⟨v',BX,rfl,q⟩
    |ms _ _ cap en hen hnn hn hcap htot hmax=>
     obtain⟨Na,RO⟩:=S.obj 0 en _ hen rfl hnn
     have hes:en.BU=1:=RO.BU
     have hel:en.len=BA.length:=RO.len
     have hh:w.heap[en.b]? =some (.cells Na 21 (0,0)):=RO.heap rfl
     have hsz:Na.size=cap:=by rw[RO.tot,<- htot,hes,Nat.mul_one]
     have hcell: ∀j,j<BA.length->Na[j]? =some (.int .i32 (BA.getD j 0)):=fun j hj=>by
         obtain⟨u,h1,_,h3⟩:=RO.cells j 0 (.int .i32 (BA.getD j 0)) (by omega) rfl
         rw[h3.Dx]at h1
         rwa[hes,Nat.mul_one,Nat.add_zero]at h1
     by_cases hin:i<BA.length
     ·have hvb:vb≠en.b:=fun h=>hvA (by rw[h];exact .inr ⟨0,en,_,hen,rfl,rfl,hnn,rfl⟩)
      have one: ∀j v,j<n0->Na[j]? =some v->v.oneCell'=true:=fun j v hj hv=>by
          rw[hcell j (by omega)]at hv
          cases hv
          rfl
      have fin:=vF (P:=pl) S (id:=0) rfl hen hnn rfl RO (e:=21) (n:=BA.length+1-i) (n0:=i) (row:=.ints .i32 (BA.take i++x::BA.drop i)) (r2:=.ints .i32 (x::BA.drop i)) (news:=(x::BA.drop i).map (Value.int .i32)) (by omega) hc1.symm rfl
          (by show(x::BA.drop i).length=_;simp;omega) (fun j hj=>hc1.symm) (by show(BA.take i++x::BA.drop i).length=i+(x::BA.drop i).length;simp;omega) trivial
          (fun j hj=>by
            show AV.int .i32 ((BA.take i++x::BA.drop i).getD j 0)=AV.int .i32 (BA.getD j 0)
            rw[List.getD_eq_getElem?_getD,List.getElem?_append_left (by rw[List.length_take];omega),List.getElem?_take,if_pos hj,<- List.getD_eq_getElem?_getD])
          (fun j=>by
            show AV.int .i32 ((BA.take i++x::BA.drop i).getD (i+j) 0)=AV.int .i32 ((x::BA.drop i).getD j 0)
            rw[List.getD_eq_getElem?_getD,List.getElem?_append_right (by rw[List.length_take];omega),List.length_take,show i+j-min i BA.length=j by omega,<- List.getD_eq_getElem?_getD])
          (by rw[hc1,List.length_map];simp;omega)
          (fun j c x' hj hx=>by
            have hx':(AV.int .i32 ((x::BA.drop i).getD j 0)).cells[c]? =some x':=hx
            match c,hx' with
            |c+1,hx'=>cases hx'
            |0,hx'=>
             cases hx'
             have hjl:j<(x::BA.drop i).length:=by simp;omega
             refine⟨.int .i32 ((x::BA.drop i).getD j 0),?_,rfl, .int _ _⟩
             rw[hc1,Nat.mul_one,Nat.add_zero,List.getElem?_map,List.getD_eq_getElem?_getD,List.getElem?_eq_getElem hjl]
             rfl)
      simp only[hc1,Nat.mul_one]at fin
      have ins: ∀ {r2:Array Value} {c:Nat},AeC Na n0 i (.int .i32 x) r2 c->(∀k,k<i->r2[k]? =Na[k]?)/\ ∀k,k<BA.length+1-i->r2[i+k]? =((x::BA.drop i).map (Value.int .i32))[k]? :=fun I=>by
          refine⟨I.low,fun k hk=>?_⟩
          cases k with
          |zero=>rw[Nat.add_zero,I.mid];rfl
          |succ k=>
           rw[<- Nat.add_assoc,I.high (i+k) (by omega) (by omega),hcell _ (by omega),List.map_cons,List.getElem?_cons_succ,List.getElem?_map,List.getElem?_drop,List.getD_eq_getElem?_getD,List.getElem?_eq_getElem (by omega)]
           rfl
      have hk:i+(BA.length+1-i)=BA.length+1:=by omega
      rw[hk]at fin
      by_cases hroom:n0+1<=cap
      ·refine(Af9 en.b n0 cap i vb vo vc (.int .i32 x) Na YE vt vf w (by omega) hroom (by unfold maxLen at hmax;omega) hvb hh hsz hv hx0 one rfl).mono ?_
       rintro ev w2 ⟨rfl,r1,r2,rfl,I⟩
       have hw:((w.drew.setRow en.b r1).setRow en.b r2).heap[en.b]? =some (.cells r2 21 (0,0)):=setRow_heap _ en.b r1 r2 21 (0,0) (setRow_heap w.drew en.b Na r1 21 (0,0) hh)
       obtain⟨BX,q⟩:=Y7 (fin ((w.drew.setRow en.b r1).setRow en.b r2) en.b cap r2 ⟨rfl,rfl,rfl,by simp,fun k _ hk=>by
            rw[setRow_other _ en.b k r2 (fun e=>hk (by rw[e])),setRow_other _ en.b k r1 (fun e=>hk (by rw[e]))];rfl⟩ hw (by omega) hmax I.size (ins I).1 (ins I).2 (.inl rfl))
       rw[hrl]
       exact⟨_,BX,by rw[hn0],q⟩
      ·have hcn:cap=n0:=by omega
       subst hcn
       refine(Af8 en.b cap i vb vo vc (.int .i32 x) Na YE vt vf w (by omega) (by omega) hh (by omega) hv hx0 one rfl).mono ?_
       rintro ev w2 ⟨c,r0,r1,r2,g1,g2,rfl,rfl,I⟩
       have a1:(w.alloc (.cells r0 21)).drew.heap[w.heap.size]? =some (.cells r0 21 (0,0)):=heap_alloc_new w _
       have a2:(((w.alloc (.cells r0 21)).drew.setRow w.heap.size r1).drew).heap[w.heap.size]? =some (.cells r1 21 (0,0)):=setRow_heap (w.alloc (.cells r0 21)).drew w.heap.size r0 r1 21 (0,0) a1
       have a3:((((w.alloc (.cells r0 21)).drew.setRow w.heap.size r1).drew).setRow w.heap.size r2).heap[w.heap.size]? =some (.cells r2 21 (0,0)):=setRow_heap _ w.heap.size r1 r2 21 (0,0) a2
       obtain⟨BX,q⟩:=Y7 (fin ((((w.alloc (.cells r0 21)).drew.setRow w.heap.size r1).drew).setRow w.heap.size r2) w.heap.size c r2 ⟨rfl,rfl,rfl,by simp,fun k hk _=>by
            rw[setRow_other _ w.heap.size k r2 (by omega)]
            show((w.alloc (.cells r0 21)).drew.setRow w.heap.size r1).heap[k]? =_
            rw[setRow_other _ w.heap.size k r1 (by omega)]
            exact heap_alloc_old w _ hk⟩ a3 (by omega) g2 I.size (ins I).1 (ins I).2 (.inr (Nat.le_refl _)))
       rw[hrl]
       exact⟨_,BX,by rw[hn0],q⟩
     ·have hie:i=BA.length:=by omega
      subst hie
      have er:BA.take BA.length++x::BA.drop BA.length=BA++ [x]:=by simp
      obtain⟨v',w',q1,q2⟩:=Vx (P:=pl) (ty:=24) S (id:=0) (n:=1) (r2:=.ints .i32 [x]) (row:=.ints .i32 (BA++ [x])) rfl hen hnn rfl RO ht (by rw[hc1];omega) hj0 hjz (by rw[hc1];rfl) hn hcap htot hmax (by rw[hc1];exact src) hc1.symm rfl rfl (fun j hj=>by rw[hc1];rfl)
          (by show(BA++ [x]).length=n0+1;simp;omega) trivial
          (fun j hj=>by
            show AV.int .i32 ((BA++ [x]).getD j 0)=AV.int .i32 (BA.getD j 0)
            rw[List.getD_eq_getElem?_getD,List.getElem?_append_left (by omega),<- List.getD_eq_getElem?_getD])
          (fun j=>by
            show AV.int .i32 ((BA++ [x]).getD (n0+j) 0)=AV.int .i32 (([x]:List Int).getD j 0)
            rw[List.getD_eq_getElem?_getD,List.getElem?_append_right (by omega),show n0+j-BA.length=j by omega,<- List.getD_eq_getElem?_getD])
          (by rw[hb4];show(n0+1)*4<=_;omega) (by show n0+1<=_;omega)
      subst hn0
      refine(Acs (some ⟨en.b,0,none⟩) BA.length cap vb vo vc w w' v' (fun h=>by cases h) q1).mono ?_
      rintro ev w2 ⟨rfl,rfl⟩
      obtain⟨BX,q⟩:=Y7 q2
      rw[hrl,er]
      exact⟨v',BX,rfl,q⟩
end Go.Proofs.YtkeokkmhhhhoiaaGreatDoor
