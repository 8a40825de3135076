import Derived.Test.YtkeokkmhhhhoiaaGreatDoorSe11b
import Derived.Laws.IdiomStrings
namespace Go.SE
open Go
set_option linter.unusedVariables false
variable {L:Laid}
set_option linter.unusedSimpArgs false
section
variable {P:PL} {s:Store}
theorem Ud: ∀(ids:List Nat) (s:Store) (i:Nat) (o:E8),s[i]? =some (some o)-> ∃o',(Ib s ids)[i]? =some (some o')/\(o.ro=true->o'.ro=true)
 | [],s,i,o,h=>⟨o,h,fun h=>h⟩
 |k::ks,s,i,o,h=>by
  unfold Ib
  split
  ·rename_i ok hk
   by_cases hki:k=i
   ·subst hki
    have hlt:=(List.getElem?_eq_some_iff.1 hk).1
    obtain⟨o',h1,h2⟩:=Ud ks (s.set k (some { ok with ro:=true })) k { ok with ro:=true } (by rw[List.getElem?_set,if_pos rfl,if_pos hlt])
    exact⟨o',h1,fun _=>h2 rfl⟩
   ·exact Ud ks _ i o (by rw[List.getElem?_set,if_neg hki];exact h)
  ·exact Ud ks s i o h
theorem UQ: ∀(ids:List Nat) (s:Store) (i:Nat) (o:E8),i∈ids->s[i]? =some (some o)-> ∃o',(Ib s ids)[i]? =some (some o')/\o'.ro=true
 | [],s,i,o,hi,h=>by cases hi
 |k::ks,s,i,o,hi,h=>by
  unfold Ib
  by_cases hki:i=k
  ·subst hki
   have hlt:=(List.getElem?_eq_some_iff.1 h).1
   split
   ·rename_i ok hk
    obtain⟨o',h1,h2⟩:=Ud ks (s.set i (some { ok with ro:=true })) i { ok with ro:=true } (by rw[List.getElem?_set,if_pos rfl,if_pos hlt])
    exact⟨o',h1,h2 rfl⟩
   ·rename_i hno
    exact absurd h (hno o)
  ·have hi':i∈ks:=(List.mem_cons.1 hi).resolve_left hki
   split
   ·rename_i ok hk
    exact UQ ks _ i o hi' (by rw[List.getElem?_set,if_neg (fun h=>hki h.symm)];exact h)
   ·exact UQ ks s i o hi' h
theorem Wr.none {b:Nat} : ¬Wr [] [] b:=by rintro⟨i,e,o,h,_⟩;simp at h
theorem Bj.none {V:Nat->Prop} {w:World} (G:Glob L w V) (hV: ∀b,V b->b<w.heap.size):Bj L V w [] [] where
 low:=hV
 len:=rfl
 obj i e o h:=by simp at h
 gM i e o h:=by simp at h
 may i e o h:=by simp at h
 apart i e o h:=by simp at h
 inj i j ei ej oi oj h:=by simp at h
 glob:=G.move (Nat.le_refl _) (fun _ _ _=>rfl) fun b _ hA hA'=>hA (hA'.elim id fun h=>absurd h Wr.none)
theorem oH {g:FuncId} {avs:List AV} {K:AV->Store->Prop} (h:sW P g avs s K):YO P g avs s K∨YN P g avs s K:=by
 unfold sW at h
 unfold YO
 split at h
 ·exact h
 ·exact .inr h
theorem AeY {g:FuncId} {avs:List AV} {K:AV->Store->Prop} (h:YN P g avs s K): ∃r s',K r s'/\(∃fn,P.funcs[g]? =some fn/\fn.body.isNone=false/\(fn.name== "runtime.NumGoroutine")=false)/\
  ∀V w cx (vs:List Value),Bj P.laid V w cx s->avs.length=vs.length->(∀(i:Nat) (x:AV) (v:Value),avs[i]? =some x->vs[i]? =some v->Rel w cx (Av V cx s) x v)->
   Calls P g vs.toArray w fun e w'=> ∃u,e=.returned u/\ ∃BX,Ext s.length V w w' cx BX s s'/\Bj P.laid V w' BX s'/\Rel w' BX (Av V BX s') r u:=by
 obtain⟨r,s',⟨hfn,hC⟩,hK⟩:=h
 refine⟨r,s',hK,hfn,fun V w cx vs S hlen R=>(hC V w cx vs S hlen R).mono ?_⟩
 rintro e w' ⟨v,BX,he,E,S',R'⟩
 exact⟨v,he,BX,E,S',R'⟩
theorem Ac5 {g:FuncId} {avs:List AV} {K:AV->Store->Prop} (h:YO P g avs s K): ∃r s',K r s'/\(∃fn,P.funcs[g]? =some fn/\fn.body.isNone=false/\(fn.name== "runtime.NumGoroutine")=false)/\
  ∀V w cx (vs:List Value),Bj P.laid V w cx s->avs.length=vs.length->(∀(i:Nat) (x:AV) (v:Value),avs[i]? =some x->vs[i]? =some v->Rel w cx (Av V cx s) x v)->
   Calls P g vs.toArray w fun e w'=> ∃u,e=.returned u/\ ∃BX,Ext s.length V w w' cx BX s s'/\Bj P.laid V w' BX s'/\Rel w' BX (Av V BX s') r u:=by
 unfold YO at h
 split at h
 ·rename_i args' hargs
  obtain⟨r,⟨hfn,hC⟩,Gr,hK⟩:=h
  obtain⟨hl,hget⟩:=JI hargs
  refine⟨r,_,hK,hfn,fun V w cx vs S hlen R=>?_⟩
  cases hsc:r.scalar with
  |true=>
   have Abd: ∀(i:Nat) (x:AV) (v:Value),args'[i]? =some x->vs[i]? =some v->Rel w [] (Av (fun _=>False) [] []) x v:=fun i x v hx hv=>by
    obtain⟨y,hy,hsy⟩:=hget i x hx
    exact((R i y v hy hv).Uf S (A':=Av (fun _=>False) [] []) (fun b hb=>hb.elim False.elim fun h=>absurd h Wr.none) 6 y x v hsy (fun _ _ _ _ _ _ _ hb=>hb.elim False.elim fun h=>absurd h Wr.none)).1
   refine(hC (fun _=>False) w [] vs (Bj.none (S.glob.move (Nat.le_refl _) (fun _ _ _=>rfl) fun _ _ _ h=>h) fun _ h=>h.elim) (by omega) Abd).mono ?_
   rintro e w' ⟨v,BX,he,E,S',R'⟩
   have hk: ∀b,b<w.heap.size->w'.heap[b]? =w.heap[b]? :=fun b hb=>E.keep b hb Wr.none
   exact⟨v,he,cx,Ext.grown E.os E.tape E.output E.size hk,S.grown E.size hk,R'.zX hsc⟩
  |false=>
   have F:=H7.Ib (avs.flatMap (Ch 6 s)) s
   have S1:=S.fewer F
   have Abd: ∀(i:Nat) (x:AV) (v:Value),args'[i]? =some x->vs[i]? =some v->Rel w [] (Av (Av V cx (Ib s (avs.flatMap (Ch 6 s)))) [] []) x v:=fun i x v hx hv=>by
    obtain⟨y,hy,hsy⟩:=hget i x hx
    refine((R i y v hy hv).Uf S (A':=Av (Av V cx (Ib s (avs.flatMap (Ch 6 s)))) [] []) (fun b hb=>?_) 6 y x v hsy fun id hid e o he ho hn hb=>?_).1
    ·rcases hb with hb|hb
     ·exact hb.imp (fun h=>h) F.back
     ·exact absurd hb Wr.none
    ·rcases hb with hb|hb
     ·obtain⟨o',h1,h2⟩:=UQ (avs.flatMap (Ch 6 s)) s id o (List.mem_flatMap.2 ⟨y,List.mem_of_getElem? hy,hid⟩) ho
      exact WO S1 he h1 hn h2 hb
     ·exact absurd hb Wr.none
   refine(hC (Av V cx (Ib s (avs.flatMap (Ch 6 s)))) w [] vs (Bj.none S1.glob fun b h=>Av.lt S1 h) (by omega) Abd).mono ?_
   rintro e w' ⟨v,BX,he,E,S',R'⟩
   have hk: ∀b,b<w.heap.size->w'.heap[b]? =w.heap[b]? :=fun b hb=>E.keep b hb Wr.none
   exact⟨v,he,cx,(Ext.fewer (w:=w) (cx:=cx) F).trans (Ext.grown E.os E.tape E.output E.size hk),S1.grown E.size hk,
    R'.KY (Nat.le_refl _) (fun _ _ _=>rfl) (fun b _ hA hA'=>hA (.inl hA')) Gr⟩
 ·exact h.elim
section
variable {o:Oper} {ev:Operand->AV}
theorem Ac4 {w:World} {A:Nat->Prop} {nl:Option Bool} {n:Nat} {get:Nat->AV} {v:Value} {src dst e:TypeId} (hs:P.underlying src=some (.slice e)) (he:P.underlying e=some (.int .u8)) (hd:P.underlying dst=some .string) (R:Rel w [] A (.sl nl n get) v)
  (l:List Int) (hl:l.length=n) (hg: ∀j,j<n->get j=.int .u8 (l.getD j 0)):(convert src dst v).run P w=.ok (.string (strOfNums l)) w:=by
 cases R with
 |sl _ _ _ a cap BU vals hnil hcap hmax hz hmem Gr hrel=>
  by_cases h0:0<n
  ·obtain⟨b,off,rfl,_,_,hm⟩:=hmem h0
   have Ld:BU=1:=by have:=(Gr 0 h0).2;rw[hg 0 h0]at this;exact this.symm
   subst Ld
   refine run_convert_bytes_arg w src e hs he b off n cap l hl (fun i hi=>?_) dst hd
   have hc:(get i).cells[0]? =some (.int .u8 (l.getD i 0)):=by rw[hg i hi];rfl
   have m:=(hm i 0 _ hi hc).1
   have r:=hrel i 0 _ hi hc
   rw[r.Dx]at m
   simpa using m
  ·have hn:n=0:=by omega
   subst hn
   have hl0:l= []:=List.eq_nil_of_length_eq_zero hl
   subst hl0
   cases a with
   |none=>exact run_convert_bytes_nil w src e hs he 0 cap dst hd
   |some ad=>
    have h:=run_loadCells_list (P:=P.toProgram) w ad [] (fun j v h=>by simp at h)
    rw[run_convert_bytes_string w src dst e (some ad) 0 cap hs he hd,run_bytesToString w ad 0 cap [] (by simpa using h)]
    rfl
theorem Agk {u:TypeId} {count:Nat} (hc:0<P.cellsOf u) (h:1<=count):liesAt P.toProgram P.toProgram.depth u count 0 u 1=true:=by
 have hd:P.toProgram.depth=(2*(P.toProgram.types.size+Made.depth)+1)+1:=rfl
 rw[hd]
 simp only[liesAt,Bool.or_eq_true]
 left
 rw[hd]
 have hne:P.cellsOf u≠0:=by omega
 simp[rowAt,hne,h,sameLayout]
theorem AgK {fits:TypeId->Bool} {d:Nat} {e:TypeId} {off n count:Nat} (hc:0<P.cellsOf e) (h:1<=count) (hr:rowAt P.toProgram fits d e 1 off n=true):rowAt P.toProgram fits d e count off n=true:=by
 cases d with
 |zero=>cases hr
 |succ d=>
  have hne:P.cellsOf e≠0:=by omega
  simp only[rowAt,hne,if_false,Bool.or_eq_true,Bool.and_eq_true,decide_eq_true_eq]at hr ⊢
  rcases hr with ⟨⟨h1,h2⟩,h3⟩|⟨h1,h2⟩
  ·exact .inl ⟨⟨h1,by omega⟩,h3⟩
  ·exact .inr ⟨by omega,h2⟩
theorem qX {e:TypeId} {off count:Nat} (hc:0<P.cellsOf e) (h:1<=count): ∀ {d:Nat} {u:TypeId} {n:Nat},liesAt P.toProgram d e 1 off u n=true->liesAt P.toProgram d e count off u n=true
 |0,_,_,hr=>hr
 |d+1,u,n,hr=>by
  simp only[liesAt,Bool.or_eq_true]at hr ⊢
  rcases hr with hr|hr
  ·exact .inl (AgK hc h hr)
  ·refine .inr ?_
   split at hr
   ·exact qX hc h hr
   ·cases hr
theorem mV {a b:TypeId} {x:Operand} {K:AV->Prop} (ho:o.op=.convert a b x) (h:jE P s a b (ev x) K): ∃r,K r/\EY P o s ev r s:=by
 have hx:x∈o.op.operands.toList:=by simp[ho,Op.operands]
 unfold jE at h
 split at h
 ·rename_i d k k' n ha hb he
  refine⟨_,h,EY.value (sem:=fun ρ=>convert a b (ρ x)) (fun ρ=>by simp[execOp,ho]) fun V w cx ρ S R=>⟨I9 _,?_, .Kg _ _⟩⟩
  have e:=R x hx;rw[he]at e;rw[e.Dx];simp[convert,run_underlying ha,run_underlying hb,Conv.intToInt,I9]
 ·rename_i d st ha hb he
  refine⟨_,h,EY.value (sem:=fun ρ=>convert a b (ρ x)) (fun ρ=>by simp[execOp,ho]) fun V w cx ρ S R=>⟨I9 _,?_, .YP _⟩⟩
  have e:=R x hx;rw[he]at e;rw[e.QB];simp[convert,run_underlying ha,run_underlying hb,I9]
 ·rename_i e y ha hb _
  unfold AeW at h
  split at h
  ·rename_i nl n get he hsn
   obtain⟨l,hl,hg,hK⟩:=h
   refine⟨_,hK,EY.value (sem:=fun ρ=>convert a b (ρ x)) (fun ρ=>by simp[execOp,ho]) fun V w cx ρ S R=>⟨I9 _,?_, .YP _⟩⟩
   have R1:=(Rel.Uf S (A':=fun _=>False) (fun b h=>h.elim) 6 _ _ _ hsn (R x hx) (fun _ _ _ _ _ _ _ h=>h)).1
   exact Ac4 ha he hb R1 l hl hg
  ·exact h.elim
 ·rename_i t id i off ha hb hev
  split at h
  ·rename_i ob Sd
   obtain⟨hq,hK⟩:=Bn h
   simp only[Bool.and_eq_true]at hq
   obtain⟨hi,hc,hoff⟩:=hq
   refine⟨_,hK,EY.value (sem:=fun ρ=>convert a b (ρ x)) (fun ρ=>by simp[execOp,ho]) fun V w cx ρ S R=>?_⟩
   have hrx:=R x hx
   rw[hev]at hrx
   obtain⟨e,cur,he,hnn,hlt,hv,RO⟩:=hrx.WG S Sd
   obtain⟨j,hj⟩:=Option.isSome_iff_exists.1 hi
   obtain⟨j',hj',hsz,_⟩:=OA hj
   refine⟨ρ x,?_,hrx⟩
   rw[hv]
   have hc':0<P.cellsOf t:=by simpa using hc
   have Aor:off<ob.BU:=by simpa using hoff
   refine Lib.run_to_unsafe w _ ha hb hj (by omega) (e:=ob.ety) (cells:=cur.size) RO.shape ?_
   show i*e.BU+off<cur.size
   have h1:=RO.fits
   have h2:=RO.tot
   have h3:=RO.BU
   have h4:(i+1)*e.BU<=e.len*e.BU:=Nat.mul_le_mul_right _ hlt
   rw[Nat.add_mul,Nat.one_mul]at h4
   omega
  ·exact h.elim
 ·rename_i u id i off ha hb hev
  split at h
  ·rename_i ob Sd
   obtain⟨hq,hK⟩:=Bn h
   simp only[Bool.and_eq_true,beq_iff_eq]at hq
   obtain⟨hi0,Ld,hc,hi⟩:=hq
   obtain rfl:=Nat.eq_of_beq_eq_true hi0
   have hc':0<P.cellsOf ob.ety:=by simpa using hc
   have hK':K (.mp id 0 off)/\ ∀count,1<=count->liesAt P.toProgram P.toProgram.depth ob.ety count off u 1=true:=by
    split at hK
    ·rename_i hq
     simp only[Bool.and_eq_true,beq_iff_eq]at hq
     obtain⟨h0,Tt⟩:=hq
     obtain rfl:=Nat.eq_of_beq_eq_true h0
     subst Tt
     exact⟨hK,fun count hcount=>Agk hc' hcount⟩
    ·exact⟨hK.2,fun count hcount=>qX hc' hcount (AdN hK.1)⟩
   obtain⟨hK,hlies⟩:=hK'
   refine⟨_,hK,EY.value (sem:=fun ρ=>convert a b (ρ x)) (fun ρ=>by simp[execOp,ho]) fun V w cx ρ S R=>?_⟩
   have hrx:=R x hx
   rw[hev]at hrx
   obtain⟨e,cur,he,hnn,hlt,hv,RO⟩:=hrx.WG S Sd
   obtain⟨j,hj⟩:=Option.isSome_iff_exists.1 hi
   refine⟨ρ x,?_,hrx⟩
   rw[hv]
   have hcount:1<=cur.size/P.cellsOf ob.ety:=by
    rw[Nat.le_div_iff_mul_le hc',Nat.one_mul]
    have h1:=RO.fits
    have h2:=RO.tot
    have h3:=RO.BU
    have h4:1*e.BU<=e.len*e.BU:=Nat.mul_le_mul_right _ hlt
    omega
   refine Lib.run_from_unsafe w _ ha hb hj (e:=ob.ety) (cells:=cur.size) RO.shape ?_
   show liesAt P.toProgram P.toProgram.depth ob.ety (cur.size/P.cellsOf ob.ety) (0*e.BU+off) u 1=true
   rw[Nat.zero_mul,Nat.zero_add]
   exact hlies _ hcount
  ·exact h.elim
 ·exact h.elim
theorem eP (t:ByteArray): ∀(n i:Nat) (acc:Array Value) (l:List Int),acc.toList=l.map (Value.int .i32)-> ∃l':List Int,(Conv.runesFrom t n i acc).toList=l'.map (Value.int .i32)
 |0,i,acc,l,h=>⟨l,h⟩
 |n+1,i,acc,l,h=>by
  unfold Conv.runesFrom
  split
  ·exact eP t n _ _ (l++ [Int.ofNat (Utf8.decode t i).1]) (by rw[Array.toList_push,h,List.map_append];rfl)
  ·exact⟨l,h⟩
theorem ZG (t:ByteArray):(Conv.runesFrom t t.size 0 #[]).toList=(runesL t).map (Value.int .i32):=by
 obtain⟨l,h⟩:=eP t t.size 0 #[] [] rfl
 unfold runesL
 rw[h]
 simp
theorem wB {a b e:TypeId} {x:Operand} {t:ByteArray} {K:AV->Store->Prop} (ho:o.op=.convert a b x) (ha:P.underlying a=some .string) (hb:P.underlying b=some (.slice e)) (hev:ev x=.str t) (h:AbL P s e t K): ∃r s',K r s'/\EY P o s ev r s':=by
 have hx:x∈o.op.operands.toList:=by simp[ho,Op.operands]
 unfold AbL at h
 split at h
 ·rename_i he
  replace h:=Bn h
  obtain⟨hc,hsz,hK⟩:=h
  refine⟨_,_,hK,EY.made (sem:=fun ρ=>convert a b (ρ x)) (fun ρ=>by simp[execOp,ho]) fun V w cx ρ S R=>?_⟩
  have e0:=R x hx
  rw[hev]at e0
  rw[e0.QB]
  have hn:=size_runesFrom t t.size 0 #[]
  have hl:(Conv.runesFrom t t.size 0 #[]).size=(runesL t).length:=by rw[<- Array.length_toList,ZG,List.length_map]
  have hr:=run_runes_of_string (P:=P.toProgram) w a b e t ha hb he (by simp at hn;omega)
  rw[hl]at hr
  refine⟨_,_,hr,?_⟩
  have hge:=grownCap_ge w (runesL t).length 0 e
  have hg:w.grownBy (w.drew.alloc (.cells (Conv.runesFrom t t.size 0 #[]++Array.replicate (grownCap w (runesL t).length 0 e-(runesL t).length) (.int .i32 0)) e)) none:=⟨rfl,rfl,rfl,by simp,fun k hk _=>heap_alloc_old w.drew _ k hk⟩
  have hk: ∀b,b<w.heap.size->(w.drew.alloc (.cells (Conv.runesFrom t t.size 0 #[]++Array.replicate (grownCap w (runesL t).length 0 e-(runesL t).length) (.int .i32 0)) e)).heap[b]? =w.heap[b]? :=fun b hb=>hg.block b hb (by simp)
  have hcs:(Conv.runesFrom t t.size 0 #[]++Array.replicate (grownCap w (runesL t).length 0 e-(runesL t).length) (Value.int .i32 0)).size=grownCap w (runesL t).length 0 e:=by
   rw[Array.size_append,hl,Array.size_replicate];omega
  obtain⟨S3,E3⟩:=S.add (s1:=s) rfl (fun i o ho=>ho) ⟨w.heap.size,1,(runesL t).length,grownCap w (runesL t).length 0 e,false⟩ ⟨1,e, .ints .i32 (runesL t),false,false⟩ _ hg.os hg.tape hg.output hg.size (fun b hb _=>hk b hb)
   (fun i e' o' he' ho' hn'=>by
     obtain⟨cur',R⟩:=S.obj i e' o' he' ho' hn'
     have hlt:=R.lt
     exact⟨fun h=>by simp at h;omega,hk _ hlt⟩)
   (.inl (Nat.le_refl _)) rfl (heap_alloc_new w.drew _) hcs rfl rfl trivial (by show(runesL t).length*1<=grownCap w (runesL t).length 0 e;omega) (fun j hj=>rfl)
   (fun j c x' hj hx=>by
     have hj:j<(runesL t).length:=hj
     have hx':(AV.int .i32 ((runesL t).getD j 0)).cells[c]? =some x':=hx
     match c,hx' with
     |c+1,hx'=>cases hx'
     |0,hx'=>
      cases hx'
      refine⟨.int .i32 ((runesL t).getD j 0),?_,rfl, .int _ _⟩
      rw[Nat.mul_one,Nat.add_zero,Array.getElem?_append_left (by rw[hl];exact hj),<- Array.getElem?_toList,ZG,List.getElem?_map,List.getD_eq_getElem?_getD,List.getElem?_eq_getElem hj]
      rfl)
  exact⟨_,E3,S3, .ms _ (runesL t).length (grownCap w (runesL t).length 0 e) ⟨w.heap.size,1,(runesL t).length,grownCap w (runesL t).length 0 e,false⟩ (by rw[<- S.len];simp) rfl (Nat.le_refl _) hge (Nat.mul_one _) (grownCap_le_maxLen w _ 0 e (by simp at hn;simp only[maxLen];omega))⟩
 ·exact h.elim
theorem Aae {a b:TypeId} {x:Operand} {K:AV->Store->Prop} (ho:o.op=.convert a b x) (h:Ae7 P s a b (ev x) K): ∃r s',K r s'/\EY P o s ev r s':=by
 unfold Ae7 at h
 split at h
 ·rename_i e t ha hb hev
  exact wB ho ha hb hev h
 ·obtain⟨r,hr,hE⟩:=mV ho h;exact⟨r,s,hr,hE⟩
theorem Aad {c:Call} {f:Operand} {K:AV->Store->Prop} (ho:o.op=.call c) (hc:c.callee=.value f) (h:AeX P s (ev f) (c.args.toList.map ev) K): ∃r s',K r s'/\EY P o s ev r s':=by
 unfold AeX at h
 split at h
 ·rename_i g first cap hev
  split at h
  rotate_left
  ·split at h
   ·rename_i x hxs
    obtain⟨⟨fn,hfn,hname,hbody,hnext,hfind⟩,hK⟩:=h
    refine⟨x,s,hK,fun V w cx ρ S R=>?_⟩
    have hmf:f∈o.op.operands.toList:=by simp[ho,Op.operands,Call.operands,hc]
    have hma: ∀a∈c.args.toList,a∈o.op.operands.toList:=fun a ha=>by simp[ho,Op.operands,Call.operands,hc];exact .inr (by simpa using ha)
    have hrf:=R f hmf
    rw[hev]at hrf
    generalize hpf:ρ f=pf at hrf
    cases hrf with
    |fn _ _ _ first' cap' hl hl' hrel hrel'=>
     have Alz: ∀(l:List Operand),(∀a∈l,a∈o.op.operands.toList)-> ∀(as bs:List AV) (as' bs':List Value),as.length=as'.length->bs.length=bs'.length->
            (∀(i:Nat) (x:AV) (v:Value),as[i]? =some x->as'[i]? =some v->Rel w cx (Av V cx s) x v)->(∀(i:Nat) (x:AV) (v:Value),bs[i]? =some x->bs'[i]? =some v->Rel w cx (Av V cx s) x v)->
            as++l.map ev++bs= [x]-> ∃v,as'++l.map ρ++bs'= [v]/\Rel w cx (Av V cx s) x v:=fun l hl as bs as' bs' e1 e2 r1 r2 h=>by
         match as,as',l,bs,bs',e1,e2,h with
         | [a],[a'],[],[],[],_,_,h=>cases h;exact⟨a',rfl,r1 0 _ _ rfl rfl⟩
         | [],[],[a],[],[],_,_,h=>simp at h;subst h;exact⟨ρ a,rfl,R a (hl a (by simp))⟩
         | [],[],[],[b],[b'],_,_,h=>simp at h;subst h;exact⟨b',rfl,r2 0 _ _ rfl rfl⟩
     obtain⟨v,hvs,hv⟩:=Alz c.args.toList hma first cap first' cap' hl hl' hrel hrel' hxs
     have hrun:(execOp ρ o).run P w=.ok (.value v) w:=by
         have harr:(first'.toArray++c.args.map ρ++cap'.toArray)= #[v]:=by
            apply Array.ext'
            simpa using hvs
         have hcall:=run_callFunc_extern (P:=P.toProgram) hfn hname hbody hnext hfind #[v] w
         rw[show(Extern.AbiNoEscape.same #[v]).run P.toProgram w=.ok v w from rfl]at hcall
         simp only[execOp,ho,resolve,hc,hpf,Deferred.ofValue,Sem.run_bind,Sem.run_pure,Result.andThen_ok,invoke]
         rw[harr]
         exact hcall
     unfold Gives
     rw[hrun]
     exact⟨cx,Ext.refl,S,hv⟩
   ·exact h.elim
  obtain⟨r,s',hK,⟨fn,hfn,hbody,hname⟩,hC⟩:=(oH h).elim Ac5 AeY
  refine⟨r,s',hK,fun V w cx ρ S R=>?_⟩
  have hmf:f∈o.op.operands.toList:=by simp[ho,Op.operands,Call.operands,hc]
  have hma: ∀a∈c.args.toList,a∈o.op.operands.toList:=fun a ha=>by simp[ho,Op.operands,Call.operands,hc];exact .inr (by simpa using ha)
  have hrf:=R f hmf
  rw[hev]at hrf
  generalize hpf:ρ f=pf at hrf
  cases hrf with
  |fn _ _ _ first' cap' hl hl' hrel hrel'=>
   have hrun:(execOp ρ o).run P w=.ok (.enter g (first'++c.args.toList.map ρ++cap').toArray) w:=by
    simp only[execOp,ho,resolve,hc,hpf,Deferred.ofValue,Sem.run_bind,Sem.run_pure,Result.andThen_ok,invoke,callFunc,run_program]
    rw[hfn]
    simp only[hname,Bool.false_eq_true,if_false,hbody,Sem.run_pure]
    congr 2
    apply Array.ext'
    simp
   unfold Gives
   rw[hrun]
   refine hC V w cx _ S (by simp[hl,hl']) fun i x v hx hv=>?_
   rw[List.append_assoc,List.getElem?_append]at hx hv
   rw[<- hl]at hv
   split at hx
   ·rw[if_pos ‹_›]at hv
    exact hrel i x v hx hv
   ·rw[if_neg ‹_›]at hv
    rw[List.getElem?_append]at hx hv
    have hlm:(c.args.toList.map ev).length=(c.args.toList.map ρ).length:=by simp
    rw[<- hlm]at hv
    split at hx
    ·rw[if_pos ‹_›]at hv
     rw[List.getElem?_map]at hx hv
     cases hg:c.args.toList[i-first.length]? with
     |none=>rw[hg]at hx;cases hx
     |some a=>
      rw[hg]at hx hv
      cases hx;cases hv
      exact R a (hma a (List.mem_of_getElem? hg))
    ·rw[if_neg ‹_›]at hv
     exact hrel' _ x v hx hv
 ·exact h.elim
theorem mZ {t:TypeId} {a x:Operand} {K:Store->Prop} (ho:o.op=.store t a x) (h:nD P s t (ev a) (ev x) K): ∃s',K s'/\EY P o s ev .unk s':=by
 unfold nD at h
 split at h
 ·exact ZL ho h
 ·split at h
  ·rename_i v' hv'
   obtain⟨s',hK,hE⟩:=ZL (P:=P) (o:= { o with op:=.store t (.tmp 0) (.tmp 1) }) (s:=Ib s (Ch 6 s (ev x))) (t:=t) (a:=.tmp 0) (x:=.tmp 1) (ev:=fun y=>match y with| .tmp 0=>ev a|_=>v') rfl h
   refine⟨s',hK,fun V w cx ρ S R=>?_⟩
   have hra:=R a (by simp[ho,Op.operands])
   have hrx:=R x (by simp[ho,Op.operands])
   have F:=H7.Ib (Ch 6 s (ev x)) s
   have S1:=S.fewer F
   have E1:Ext s.length V w w cx cx s (Ib s (Ch 6 s (ev x))):=Ext.fewer F
   have hx1:Rel w cx (Av V cx (Ib s (Ch 6 s (ev x)))) v' (ρ x):=by
    have q:=hrx.Uf S (A':=Av V cx (Ib s (Ch 6 s (ev x)))) (fun b hb=>hb.imp id F.back) 6 _ v' _ hv' (fun id hid e q he hq hn hb=>by
         obtain⟨o',h1,h2⟩:=UQ (Ch 6 s (ev x)) s id q hid hq
         exact WO S1 he h1 hn h2 hb)
    exact q.1.KY (Nat.le_refl _) (fun _ _ _=>rfl) (fun b _ hA=>hA) q.2
   have ha1:=hra.ext E1 S.len
   have G:=hE V w cx (fun y=>match y with| .tmp 0=>ρ a|_=>ρ x) S1 (fun y hy=>by
    simp[Op.operands]at hy
    rcases hy with rfl|rfl
    ·exact ha1
    ·exact hx1)
   have he:execOp (fun y=>match y with| .tmp 0=>ρ a|_=>ρ x) { o with op:=.store t (.tmp 0) (.tmp 1) } =execOp ρ o:=by simp[execOp,ho]
   unfold Gives at G ⊢
   rw[he]at G
   have fin: ∀ {u:Value} {w':World},(∃BX,Ext (Ib s (Ch 6 s (ev x))).length V w w' cx BX (Ib s (Ch 6 s (ev x))) s'/\Bj P.laid V w' BX s'/\Rel w' BX (Av V BX s') .unk u)-> ∃BX,Ext s.length V w w' cx BX s s'/\Bj P.laid V w' BX s'/\Rel w' BX (Av V BX s') .unk u:=fun⟨BX,E,S',r⟩=>
    ⟨BX,E1.trans (by rw[F.len]at E;exact E),S',r⟩
   split at G
   ·exact fin G
   ·exact fin G
   ·exact G.mono fun e w' ⟨u,hu,g⟩=>⟨u,hu,fin g⟩
   ·exact G.elim
  ·exact h.elim
theorem ZY {K:AV->Store->Prop} (h:aop P s ev o K): ∃v s',K v s'/\EY P o s ev v s':=by
 unfold aop at h
 split at h
 ·rename_i x ho;exact⟨_,_,h,mX (.inl ho)⟩
 ·rename_i x ho;exact⟨_,_,h,mX (.inr ho)⟩
 ·rename_i c a b ho;exact AbS ho h
 ·rename_i t ho
  split at h
  ·rename_i z hz
   split at h
   ·rename_i ob Sd;exact⟨_,_,h,Aac ho hz Sd⟩
   ·exact h.elim
  ·exact h.elim
 ·rename_i t x ho
  replace h:=Bn h
  obtain⟨hq,h⟩:=h
  simp only[Bool.and_eq_true,beq_iff_eq]at hq
  split at h
  ·rename_i ob Sd;exact⟨_,_,h,Aen ho hq.1 Sd⟩
  ·exact h.elim
 ·rename_i t parts ho
  split at h
  ·rename_i v hv;exact⟨_,_,h,vV ho hv⟩
  ·exact h.elim
 ·rename_i t len parts ho
  split at h
  ·rename_i e ht
   split at h
   ·rename_i vs hv
    replace h:=Bn h
    obtain⟨hq,h⟩:=h
    simp only[Bool.and_eq_true,beq_iff_eq]at hq
    obtain⟨⟨⟨h1,h2⟩,h3⟩,h4⟩:=hq
    split at h
    ·rename_i row hrow;exact⟨_,_,h,bP ho ht hv h1 (by simpa using h2) (by simpa using h3) h4 hrow⟩
    ·exact h.elim
   ·exact h.elim
  ·exact h.elim
 ·rename_i t a ho
  obtain⟨r,hr,hE⟩:=Aah ho h;exact⟨r,s,hr,hE⟩
 ·rename_i t a x ho
  obtain⟨s',hr,hE⟩:=mZ ho h;exact⟨_,s',hr,hE⟩
 ·rename_i x ho
  split at h
  ·rename_i a he;exact⟨_,_,h,by have:=Ti (P:=P) (s:=s) (ev:=ev) ho (.inl ⟨_,he⟩);rwa[he]at this⟩
  ·rename_i e off he;exact⟨_,_,h,by have:=Ti (P:=P) (s:=s) (ev:=ev) ho (.inr (.inl ⟨_,_,he⟩));rwa[he]at this⟩
  ·rename_i id i off he;exact⟨_,_,h,by have:=Ti (P:=P) (s:=s) (ev:=ev) ho (.inr (.inr ⟨_,_,_,he⟩));rwa[he]at this⟩
  ·exact h.elim
 ·rename_i op t x y t' ho
  obtain⟨r,hr,hE⟩:=AbQ ho h;exact⟨r,s,hr,hE⟩
 ·rename_i op t x ho
  obtain⟨r,hr,hE⟩:=Aeq ho h;exact⟨r,s,hr,hE⟩
 ·rename_i a b x ho
  exact Aae ho h
 ·rename_i t x ho
  split at h
  ·exact h.elim
  ·rename_i d hne hd
   exact⟨_,_,h,XO ho hd (fun ms hm=>hne ms (by rw[<- hm]))⟩
  ·exact h.elim
 ·rename_i f first cap ho;exact⟨_,_,h,mW ho⟩
 ·rename_i t l c ho
  split at h
  ·rename_i e k n k' m ht hl hc
   obtain⟨rfl,h0,hb,h63,h⟩:=h
   replace h:=Bn h
   obtain⟨hp,h⟩:=h
   split at h
   ·rename_i row hrow;exact⟨_,_,h,gL ho ht hl hc h0 hb h63 (by simpa using hp) hrow⟩
   ·exact h.elim
  ·exact h.elim
 ·rename_i t x lo hi mx ho
  obtain⟨r,hr,hE⟩:=wC ho h;exact⟨r,s,hr,hE⟩
 ·rename_i t x f ho
  obtain⟨r,hr,hE⟩:=bQ (s:=s) ho h;exact⟨r,s,hr,hE⟩
 ·rename_i t x f ho
  obtain⟨r,hr,hE⟩:=vX (s:=s) ho h;exact⟨r,s,hr,hE⟩
 ·rename_i t x i ho
  obtain⟨r,hr,hE⟩:=bS ho h;exact⟨r,s,hr,hE⟩
 ·rename_i t x i ho
  obtain⟨r,hr,hE⟩:=vY (s:=s) ho h;exact⟨r,s,hr,hE⟩
 ·rename_i x i ho
  split at h
  ·rename_i vs hv
   obtain⟨hi,h⟩:=Bn h
   exact⟨_,_,h,pJ ho hv (by simpa using hi)⟩
  ·exact h.elim
 ·rename_i c ho
  split at h
  ·rename_i b hc
   unfold wV at h
   split at h
   ·rename_i x hx
    obtain⟨r,hr,hE⟩:=AbR (s:=s) ho hc hx h;exact⟨r,s,hr,hE⟩
   ·rename_i x0 b hx
    exact bO ho hc hx h
   ·rename_i x0 x1 _ hx
    exact pG ho hc hx h
   ·rename_i x0 x1 hx
    exact Aaf ho hc hx h
   ·rename_i x hx
    exact vW ho hc hx h
   ·rename_i k a k' b hx
    replace h:=Bn h
    obtain⟨hk,h⟩:=h
    obtain rfl:=of_decide_eq_true hk
    exact⟨_,_,h,Aep ho hc hx⟩
   ·rename_i k a k' b hx
    replace h:=Bn h
    obtain⟨hk,h⟩:=h
    obtain rfl:=of_decide_eq_true hk
    exact⟨_,_,h,Aeo ho hc hx⟩
   ·rename_i x hx
    obtain⟨r,hr,hE⟩:=Aag (s:=s) ho hc hx h;exact⟨r,s,hr,hE⟩
   ·rename_i x n hx
    exact Aai ho hc hx h
   ·exact h.elim
  ·rename_i f hc
   exact Aad ho hc h
  ·exact h.elim
 ·exact h.elim
theorem ZK {t e:TypeId} {len:Nat} {parts:Array (Nat×Operand)} {vs:List AV} {row:Row} (ho:o.op=.buildSlice t len parts) (ht:P.underlying t=some (.slice e)) (hv:MP ev (P.cellsOf e) 0 parts.toList=some vs)
  (hlen:vs.length=len) (hsmall:len*P.cellsOf e<=16777216) (hpos:0<P.cellsOf e) (hz:(Oy P e).isSome=true) (hrow:lC P e vs=some row) {v:AV} (hsn:Xo false row len=some v):EY P o s ev v s:=by
 refine EY.made (sem:=fun ρ=>Instr.buildSlice t len (parts.map fun(i,x)=>(i,ρ x))) (fun ρ=>by simp[execOp,ho]) fun V w cx ρ S R=>?_
 have R': ∀p∈parts.toList,Rel w cx (Av V cx s) (ev p.2) (ρ p.2):=fun p hp=>R p.2 (by simp[ho,Op.operands];exact⟨p.1,by simpa using hp⟩)
 have hparts:(parts.map fun(x:Nat×Operand)=>(x.1,ρ x.2)).toList=parts.toList.map fun p=>(p.1,ρ p.2):=by simp
 obtain⟨z,hz⟩:=Option.isSome_iff_exists.1 hz
 obtain⟨i,zv,hi,hzv,wN,hst⟩:=I8 hz w cx (Av V cx s)
 let zs:Array Value:=if len*P.cellsOf e=0 then #[]else zv.cells
 let arr:Array Value:=(Array.range (len*P.cellsOf e)).map (zs[·%zs.size]!)
 have hpl:parts.toList.length=len:=by
  have key: ∀(l:List (Nat×Operand)) (i:Nat) (us:List AV),MP ev (P.cellsOf e) i l=some us->us.length=l.length:=by
   intro l
   induction l with
   |nil=>intro i us h;cases h;rfl
   |cons p l ih=>
    intro i us h
    unfold MP at h
    cases hq:(p.1==i&&((ev p.2).storable&&(ev p.2).A9==P.cellsOf e))with
    |false=>simp only[hq,cond_false]at h;cases h
    |true=>
     simp only[hq,cond_true]at h
     split at h
     ·rename_i l' hl'
      cases h
      simp[ih _ _ hl']
     ·cases h
  rw[<- key _ _ _ hv,hlen]
 obtain⟨arr',g1,g2,g3,_,g5⟩:=Uq (arr:=arr) hv (fun p hp h1 h2=>by rw[((R' p hp).cells h1).1,h2]) (by simp[arr];rw[<- Array.length_toList,hpl];exact Nat.le_refl _)
 obtain⟨r1,r2,r3⟩:=Xf hrow
 have elem: ∀j,j<len-> ∃p,parts.toList[j]? =some p/\vs[j]? =some (ev p.2)/\row.get j=ev p.2/\(ev p.2).storable=true/\(ev p.2).A9=P.cellsOf e/\ ∀c,c<P.cellsOf e->arr'[j*P.cellsOf e+c]? =(ρ p.2).cells[c]? :=fun j hj=>by
  have hlt:j<parts.toList.length:=by omega
  obtain⟨q1,q2,q3,q4⟩:=g5 j _ (List.getElem?_eq_getElem hlt)
  refine⟨_,List.getElem?_eq_getElem hlt,q1,?_,q2,q3,fun c hc=>by have:=q4 c hc;rwa[Nat.zero_add]at this⟩
  rw[r3 j (by omega),List.getD,q1]
  rfl
 have hsize:arr'.size=len*P.cellsOf e:=by rw[g2];simp[arr]
 obtain⟨get,rfl,hget,Gr⟩:=eT hsn r2
 have hk: ∀k,k<w.heap.size->(w.alloc (.cells arr' e)).heap[k]? =w.heap[k]? :=fun k hk=>heap_alloc_old w _ k hk
 have hsz:w.heap.size<=(w.alloc (.cells arr' e)).heap.size:=by simp
 have cellAt: ∀j c x,j<len->(get j).cells[c]? =some x-> ∃u,arr'[j*P.cellsOf e+c]? =some u/\u.oneCell'=true/\Rel (w.alloc (.cells arr' e)) cx (Av V cx s) x u:=fun j c x hj hx=>by
  obtain⟨p,h1,_,h3,h4,h5,h6⟩:=elem j hj
  have hx':(ev p.2).cells[c]? =some x:=by rw[<- h3,<- hget];exact hx
  have hp:p∈parts.toList:=List.mem_of_getElem? h1
  obtain⟨_,k2,k3⟩:=(R' p hp).cells h4
  obtain⟨u,hu,hr⟩:=k3 c x hx'
  exact⟨u,by rw[h6 c (by rw[<- h5];exact AV.NS hx')];exact hu,k2 u (by rw[Array.mem_toList_iff];exact Array.mem_of_getElem? hu),hr.move hsz (fun k hk' _=>hk k hk') (fun _ _ h=>h) fun _ _ h=>h⟩
 refine⟨_,w.alloc (.cells arr' e),?_,cx,Ext.grown rfl rfl rfl hsz hk,S.grown hsz hk,Rel.sl _ len get (some ⟨w.heap.size,0,none⟩) len (P.cellsOf e) (fun j c=>arr'.getD (j*P.cellsOf e+c) undef) (fun b hb=>by cases hb;rfl) (Nat.le_refl _) (by have:len<=len*P.cellsOf e:=Nat.le_mul_of_pos_right _ hpos;simp only[maxLen];omega) (fun h=>by cases h) (fun _=>?_) (fun j hj=>?_) fun j c x hj hx=>?_⟩
 rotate_left
 ·refine⟨w.heap.size,0,rfl,fun h=>Nat.lt_irrefl _ (Av.lt S h),⟨_,_,_,heap_alloc_new w _⟩,fun j c x hj hx=>?_⟩
  obtain⟨u,h1,h2,_⟩:=cellAt j c x hj hx
  have hd:arr'.getD (j*P.cellsOf e+c) undef=u:=by simp[Array.getD_eq_getD_getElem?,h1]
  rw[hd]
  refine⟨?_,h2⟩
  rw[Nat.zero_add,cell_of_row _ w.heap.size _ arr' e (0,0) (heap_alloc_new w _),h1]
 ·obtain⟨p,_,_,h3,_,h5,_⟩:=elem j hj
  exact⟨by rw[hget];exact Gr j (by omega),by rw[hget,h3,h5]⟩
 ·obtain⟨u,h1,_,h3⟩:=cellAt j c x hj hx
  have hd:arr'.getD (j*P.cellsOf e+c) undef=u:=by simp[Array.getD_eq_getD_getElem?,h1]
  rw[hd]
  exact h3
 have g1':Instr.fill (fun i=>some (i*P.cellsOf e,P.cellsOf e)) arr (parts.toList.map fun p=>(p.1,ρ p.2))=some arr':=g1
 have hns: ¬len*P.cellsOf e>2 ^ 24:=by omega
 by_cases h0:len*P.cellsOf e=0
 ·have hze:zs= #[]:=by simp[zs,h0]
  simp only[Instr.buildSlice,Sem.run_bind,run_underlying ht,Result.andThen_ok,Cq hpos,Sem.run_ite,if_neg hns,Sem.run_pure,if_pos h0,hparts]
  have:(Array.range (len*P.cellsOf e)).map (fun x=>(#[]:Array Value)[x%(#[]:Array Value).size]!)=arr:=by simp only[arr,hze]
  rw[this,g1']
  simp[newRow]
 ·have hze:zs=zv.cells:=by simp only[zs,if_neg h0]
  simp only[Instr.buildSlice,Sem.run_bind,run_underlying ht,Result.andThen_ok,Cq hpos,Sem.run_ite,if_neg hns,Sem.run_pure,if_neg h0,hparts,zeroValue,typeInfo,run_program,hi,hzv]
  have:(Array.range (len*P.cellsOf e)).map (fun x=>zv.cells[x%zv.cells.size]!)=arr:=by simp only[arr,hze]
  rw[this,g1']
  simp[newRow]
theorem Yg {K:AV->Store->Prop} (h:AaF P s ev o K): ∃v s',K v s'/\EY P o s ev v s':=by
 unfold AaF at h
 split at h
 ·rename_i t len parts ho
  split at h
  ·rename_i e ht
   split at h
   ·rename_i vs hv
    replace h:=Bn h
    obtain⟨hq,h⟩:=h
    simp only[Bool.and_eq_true,beq_iff_eq]at hq
    obtain⟨⟨⟨h1,h2⟩,h3⟩,h4⟩:=hq
    split at h
    ·rename_i row hrow
     split at h
     ·rename_i v hsn
      exact⟨_,_,h,ZK ho ht hv h1 (by simpa using h2) (by simpa using h3) h4 hrow hsn⟩
     ·exact h.elim
    ·exact h.elim
   ·exact h.elim
  ·exact h.elim
 ·exact ZY h
end
end
end Go.SE
