import Derived.Test.YtkeokkmhhhhoiaaGreatDoorPFit2
namespace Go.Proofs.YtkeokkmhhhhoiaaGreatDoor
open Go Go.SE
set_option linter.unusedVariables false
set_option linter.unusedSimpArgs false
section
variable (c:Int->Int)
def Qf (r:Int):List Int->List Int
 | []=> [r]
 |x::l=>if c x<=c r then x::Qf r l else r::x::l
def CJ (l:List Int):List Int:=l.foldl (fun acc r=>Qf c r acc) []
def QT (l:List Int):Prop:=l.Pairwise fun x y=>c x<=c y
def Ni (v:Int) (l:List Int):List Int:=l.filter fun x=>c x==v
end
variable {c:Int->Int}
theorem EW (v:Int) (l m:List Int):Ni c v (l++m)=Ni c v l++Ni c v m:=by simp[Ni]
theorem Js (v x:Int) (l:List Int):Ni c v (x::l)=if c x=v then x::Ni c v l else Ni c v l:=by
 simp[Ni,List.filter_cons]
theorem UH (v:Int):Ni c v []= []:=rfl
theorem aU {v:Int} {l:List Int} (h: ∀x∈l,c x≠v):Ni c v l= []:=by
 simp only[Ni,List.filter_eq_nil_iff,beq_iff_eq]
 exact h
theorem zF {r y:Int} : ∀ {l:List Int},y∈Qf c r l↔y=r∨y∈l
 | []=>by simp[Qf]
 |x::l=>by
  unfold Qf
  split
  ·simp only[List.mem_cons,zF (l:=l)]
   constructor<;>rintro(h|h|h)<;>simp[h]
  ·simp
theorem yS (r:Int): ∀(l:List Int),(Qf c r l).length=l.length+1
 | []=>rfl
 |x::l=>by
  unfold Qf
  split<;>simp[yS r l]
theorem yT {r:Int} : ∀ {l:List Int},QT c l->QT c (Qf c r l)
 | [],_=>by simp[Qf,QT]
 |x::l,h=>by
  unfold QT at h
  rw[List.pairwise_cons]at h
  unfold Qf QT
  split
  ·rename_i hle
   rw[List.pairwise_cons]
   refine⟨fun y hy=>?_,yT (show QT c l from h.2)⟩
   rcases zF.1 hy with rfl|hy
   ·exact hle
   ·exact h.1 y hy
  ·rename_i hgt
   rw[List.pairwise_cons,List.pairwise_cons]
   refine⟨fun y hy=>?_,h⟩
   rcases List.mem_cons.1 hy with rfl|hy
   ·omega
   ·have:=h.1 y hy;omega
theorem yR {r:Int} (v:Int): ∀ {l:List Int},QT c l->Ni c v (Qf c r l)=Ni c v l++Ni c v [r]
 | [],_=>by simp[Qf,UH]
 |x::l,h=>by
  unfold QT at h
  rw[List.pairwise_cons]at h
  unfold Qf
  split
  ·rename_i hle
   rw[Js,yR v (show QT c l from h.2),Js (l:=l)]
   split<;>rfl
  ·rename_i hgt
   rw[Js]
   by_cases hv:c r=v
   ·have:Ni c v (x::l)= []:=aU fun y hy=>by
         rcases List.mem_cons.1 hy with rfl|hy
         ·omega
         ·have:=h.1 y hy;omega
    rw[if_pos hv,this,Js,if_pos hv]
    rfl
   ·rw[if_neg hv,Js (l:= []),if_neg hv,UH,List.append_nil]
theorem Acp {r:Int} : ∀ {l:List Int},(∀x∈l,c x<=c r)->Qf c r l=l++ [r]
 | [],_=>rfl
 |x::l,h=>by
  unfold Qf
  rw[if_pos (h x (by simp)),Acp fun y hy=>h y (by simp[hy])]
  rfl
theorem Acr {r x:Int} (hx:c r<c x): ∀(l:List Int),Qf c r (l++ [x])=Qf c r l++ [x]
 | []=>by simp[Qf];omega
 |y::l=>by
  simp only[List.cons_append]
  unfold Qf
  split
  ·rw[Acr hx l];rfl
  ·rfl
theorem W9: ∀(l acc:List Int),QT c acc->QT c (l.foldl (fun acc r=>Qf c r acc) acc)/\(∀v,Ni c v (l.foldl (fun acc r=>Qf c r acc) acc)=Ni c v acc++Ni c v l)/\(l.foldl (fun acc r=>Qf c r acc) acc).length=acc.length+l.length
 | [],acc,h=>⟨h,fun v=>by simp[UH],rfl⟩
 |x::l,acc,h=>by
  obtain⟨h1,h2,h3⟩:=W9 l (Qf c x acc) (yT h)
  refine⟨h1,fun v=>?_,?_⟩
  ·simp only[List.foldl_cons]
   rw[h2,yR v h,List.append_assoc,<- EW]
   rfl
  ·simp only[List.foldl_cons]
   rw[h3,yS,List.length_cons]
   omega
theorem Mk (l:List Int):QT c (CJ c l):=(W9 l [] List.Pairwise.nil).1
theorem OE (l:List Int) (v:Int):Ni c v (CJ c l)=Ni c v l:=by
 have:=(W9 (c:=c) l [] List.Pairwise.nil).2.1 v
 simpa[UH,CJ]using this
theorem DX (l:List Int):(CJ c l).length=l.length:=by
 have:=(W9 (c:=c) l [] List.Pairwise.nil).2.2
 simpa[CJ]using this
theorem AbV (l:List Int) (r:Int):CJ c (l++ [r])=Qf c r (CJ c l):=by simp[CJ]
theorem bN: ∀(l l':List Int),QT c l->QT c l'->(∀v,Ni c v l=Ni c v l')->l=l'
 | [],l',_,_,h=>by
   cases l' with
   |nil=>rfl
   |cons y l'=>
    have:=h (c y)
    rw[Js,if_pos rfl,UH]at this
    cases this
 |x::l,l',hs,hs',h=>by
  unfold QT at hs
  rw[List.pairwise_cons]at hs
  cases l' with
  |nil=>
   have:=h (c x)
   rw[Js,if_pos rfl,UH]at this
   cases this
  |cons y l'=>
   unfold QT at hs'
   rw[List.pairwise_cons]at hs'
   have le1:c y<=c x:=by
    have hm:x∈Ni c (c x) (y::l'):=by rw[<- h (c x),Js,if_pos rfl];simp
    have hm':=(List.mem_filter.1 hm).1
    rcases List.mem_cons.1 hm' with rfl|hm'
    ·exact Int.le_refl _
    ·exact hs'.1 _ hm'
   have le2:c x<=c y:=by
    have hm:y∈Ni c (c y) (x::l):=by rw[h (c y),Js,if_pos rfl];simp
    have hm':=(List.mem_filter.1 hm).1
    rcases List.mem_cons.1 hm' with rfl|hm'
    ·exact Int.le_refl _
    ·exact hs.1 _ hm'
   have he:c x=c y:=by omega
   have h0:=h (c x)
   rw[Js,if_pos rfl,Js,if_pos he.symm]at h0
   obtain⟨rfl,h1⟩:=List.cons.inj h0
   rw[bN l l' hs.2 hs'.2 fun v=>?_]
   have hv:=h v
   rw[Js,Js]at hv
   by_cases hc:c x=v
   ·rw[if_pos hc,if_pos hc]at hv;exact(List.cons.inj hv).2
   ·rw[if_neg hc,if_neg hc]at hv;exact hv
theorem AbU {l l':List Int} (h: ∀v,Ni c v l=Ni c v l'):CJ c l=CJ c l':=
 bN _ _ (Mk l) (Mk l') fun v=>by rw[OE,OE,h]
theorem ZM {m l:List Int} (hs:QT c m) (h: ∀v,Ni c v m=Ni c v l):m=CJ c l:=
 bN _ _ hs (Mk l) fun v=>by rw[OE,h]
theorem ZN {l:List Int} (h:QT c l):CJ c l=l:=(ZM h fun _=>rfl).symm
theorem bT {l:List Int} {x:Int} :x∈CJ c l↔x∈l:=by
 have: ∀(l:List Int) (x:Int),x∈l↔x∈Ni c (c x) l:=fun l x=>by simp[Ni]
 rw[this,OE,<- this]
theorem QT.append {l m:List Int} (h1:QT c l) (h2:QT c m) (h: ∀x∈l,∀y∈m,c x<=c y):QT c (l++m):=List.pairwise_append.2 ⟨h1,h2,h⟩
theorem QT.left {l m:List Int} (h:QT c (l++m)):QT c l:=(List.pairwise_append.1 h).1
theorem QT.right {l m:List Int} (h:QT c (l++m)):QT c m:=(List.pairwise_append.1 h).2.1
theorem QT.cross {l m:List Int} (h:QT c (l++m)): ∀x∈l,∀y∈m,c x<=c y:=(List.pairwise_append.1 h).2.2
theorem kI {l m:List Int} (h: ∀x∈l,∀y∈m,c x≠c y) (v:Int):Ni c v l++Ni c v m=Ni c v m++Ni c v l:=by
 by_cases hl: ∃x∈l,c x=v
 ·obtain⟨x,hx,rfl⟩:=hl
  rw[aU (l:=m) fun y hy=>(h x hx y hy).symm]
  simp
 ·rw[aU (l:=l) fun x hx he=>hl ⟨x,hx,he⟩]
  simp
theorem vB {l1 l2 r1 r2:List Int} (hl:QT c (l1++l2)) (hr:QT c (r1++r2)) (h1: ∀x∈l1,∀y∈r2,c x<=c y) (h2: ∀x∈r1,∀y∈l2,c x<c y):
  CJ c (l1++r1)++CJ c (l2++r2)=CJ c ((l1++l2)++(r1++r2)):=by
 refine ZM (QT.append (Mk _) (Mk _) fun x hx y hy=>?_) fun v=>?_
 ·rw[bT,List.mem_append]at hx hy
  rcases hx with hx|hx<;>rcases hy with hy|hy
  ·exact hl.cross x hx y hy
  ·exact h1 x hx y hy
  ·have:=h2 x hx y hy;omega
  ·exact hr.cross x hx y hy
 ·rw[EW,OE,OE,EW,EW,EW,EW,EW,List.append_assoc,List.append_assoc]
  congr 1
  rw[<- List.append_assoc,<- List.append_assoc,kI (fun x hx y hy=>by have:=h2 x hx y hy;omega) v]
theorem nC (l m:List Int):CJ c (CJ c l++CJ c m)=CJ c (l++m):=AbU fun v=>by rw[EW,EW,OE,OE]
theorem Afw (P L:List Int) (k:Nat):(P++L).getD (P.length+k) 0=L.getD k 0:=by
 simp only[List.getD_eq_getElem?_getD]
 rw[List.getElem?_append_right (by omega)]
 congr 2
 omega
theorem vT (P L:List Int) (k:Nat) (v:Int):(P++L).set (P.length+k) v=P++L.set k v:=by
 rw[List.set_append_right _ _ (by omega)]
 congr 2
 omega
theorem at_eq {s P:List Int} {x:Int} {Q:List Int} {i:Nat} (hs:s=P++x::Q) (hi:i=P.length):s.getD i 0=x:=by
 subst hs;subst hi
 simp[List.getD_eq_getElem?_getD]
theorem swap_eq {s P Y Q:List Int} {x y:Int} {i j:Nat} (hs:s=P++x::(Y++y::Q)) (hi:i=P.length) (hj:j=P.length+(Y.length+1)):
  (s.set i (s.getD j 0)).set j (s.getD i 0)=P++y::(Y++x::Q):=by
 have h1:s.getD i 0=x:=at_eq hs hi
 have h2:s.getD j 0=y:=at_eq (P:=P++x::Y) (Q:=Q) (by rw[hs];simp) (by rw[hj];simp)
 rw[h1,h2]
 subst hs;subst hi;subst hj
 have e1:=vT P (x::(Y++y::Q)) 0 y
 rw[Nat.add_zero]at e1
 rw[e1,vT]
 simp only[List.set_cons_zero,List.set_cons_succ]
 have e2:=vT Y (y::Q) 0 x
 rw[Nat.add_zero]at e2
 rw[e2]
 rfl
theorem Aam {s P Y Q:List Int} {x y:Int} {i j:Nat} (hs:s=P++x::(Y++y::Q)) (hi:i=P.length) (hj:j=P.length+(Y.length+1)):
  (s.set j (s.getD i 0)).set i (s.getD j 0)=P++y::(Y++x::Q):=by
 rw[List.set_comm _ _ (by omega)]
 exact swap_eq hs hi hj
def RZ (t:Ab) (c:Int->Int):Prop:= ∀a b,∃y,Ig a b t=some y/\(decide (y<0)=decide (c a<c b))
theorem I5 {i:Nat} :((i:Int)).toNat=i:=Int.toNat_natCast i
theorem AdH {t:Ab} {c:Int->Int} (hk:RZ t c) (o n a:Nat) (P Q:List Int) (hP:P.length=o+a) (hn:n<1000000000000):
  ∀(k:Nat) (L:List Int) (r:Int) (R:List Int),L.length=k->QT c L->a+k<n->
   iter (Cz o n (a:Int) t) (P++(L++r::R),((a+k:Nat):Int))=some (P++(Qf c r L++R)):=by
 intro k
 induction k with
 |zero=>
  intro L r R hL hs hlt
  have:L= []:=List.eq_nil_of_length_eq_zero hL
  subst this
  rw[BL]
  unfold Cz Fb
  simp[Qf]
 |succ k ih=>
  intro L r R hL hs hlt
  obtain⟨L',x,rfl⟩: ∃L' x,L=L'++ [x]:=by
   cases h:L.getLast? with
   |none=>rw[List.getLast?_eq_none_iff]at h;subst h;simp at hL
   |some x=>obtain⟨L',rfl⟩:=List.getLast?_eq_some_iff.1 h;exact⟨L',x,rfl⟩
  have hL':L'.length=k:=by simpa using hL
  have hd:IntKind.wrap .i64 (((a+(k+1):Nat):Int)-1)=((a+k:Nat):Int):=by
   rw[Gy (by omega) (by omega)];omega
  have e1:(P++(L'++ [x]++r::R)).getD (o+(a+(k+1))) 0=r:=at_eq (P:=P++(L'++ [x])) (Q:=R) (by simp) (by simp;omega)
  have e2:(P++(L'++ [x]++r::R)).getD (o+(a+k)) 0=x:=at_eq (P:=P++L') (Q:=r::R) (by simp) (by simp;omega)
  obtain⟨y,hy,hlt2⟩:=hk r x
  have sw:=Aam (s:=P++(L'++ [x]++r::R)) (P:=P++L') (Y:= []) (Q:=R) (x:=x) (y:=r) (i:=o+(a+k)) (j:=o+(a+(k+1))) (by simp) (by simp;omega) (by simp;omega)
  rw[e1,e2]at sw
  have c1:decide (((a+(k+1):Nat):Int)>(a:Int))=true:=decide_eq_true (by omega)
  have c2:0<=((a+(k+1):Nat):Int)/\((a+(k+1):Nat):Int)<(n:Int):=by omega
  have c3:0<=((a+k:Nat):Int)/\((a+k:Nat):Int)<(n:Int):=by omega
  have body:Cz o n (a:Int) t (P++(L'++ [x]++r::R),((a+(k+1):Nat):Int))=some (if c r<c x then .next (P++(L'++r::x::R),((a+k:Nat):Int))else .done (P++(L'++ [x]++r::R))):=by
   unfold Cz Fb
   simp only[hd,I5,e1,e2,hy,Aa,hlt2,c1,cond_true,if_pos c2,if_pos c3]
   by_cases hc:c r<c x
   ·simp only[decide_eq_true hc,cond_true,sw,if_pos hc]
    simp
   ·simp only[decide_eq_false hc,cond_false,if_neg hc]
  rw[BL,body]
  by_cases hc:c r<c x
  ·simp only[if_pos hc]
   rw[ih L' r (x::R) hL' hs.left (by omega),Acr hc]
   simp
  ·simp only[if_neg hc]
   rw[Acp fun z hz=>?_]
   ·simp
   ·rcases List.mem_append.1 hz with hz|hz
    ·have:=hs.cross z hz x (by simp);omega
    ·simp at hz;subst hz;omega
theorem AdI {t:Ab} {c:Int->Int} (hk:RZ t c) (o n a b:Nat) (P Q:List Int) (hP:P.length=o+a) (hn:n<1000000000000) (hb:b<=n):
  ∀(R D:List Int),a+D.length+R.length=b->0<D.length∨R= []->
   iter (BO o n (a:Int) (b:Int) t) (P++(CJ c D++(R++Q)),((a+D.length:Nat):Int))=some (P++(CJ c (D++R)++Q)):=by
 intro R
 induction R with
 |nil=>
  intro D hl h0
  rw[BL]
  unfold BO
  simp at hl
  simp only[decide_eq_false (show ¬((a+D.length:Nat):Int)<(b:Int) by omega),cond_false]
  simp
 |cons r R ih=>
  intro D hl h0
  simp only[List.length_cons]at hl
  have inner:=AdH hk o n a P Q hP hn D.length (CJ c D) r (R++Q) (DX D) (Mk D) (by omega)
  have body:BO o n (a:Int) (b:Int) t (P++(CJ c D++(r::R++Q)),((a+D.length:Nat):Int))=some (.next (P++(Qf c r (CJ c D)++(R++Q)),((a+D.length+1:Nat):Int))):=by
   unfold BO
   simp only[List.cons_append]at inner ⊢
   simp only[decide_eq_true (show((a+D.length:Nat):Int)<(b:Int) by omega),cond_true,inner,Aa]
   rw[up (by omega)]
  rw[BL,body]
  simp only
  rw[<- AbV]
  have:=ih (D++ [r]) (by simp;omega) (.inl (by simp))
  rw[show a+(D++ [r]).length=a+D.length+1 by simp;omega,List.append_assoc]at this
  exact this
theorem Y8 {t:Ab} {c:Int->Int} (hk:RZ t c) (o n a b:Nat) (P M Q:List Int) (hP:P.length=o+a) (hn:n<1000000000000) (hb:b<=n) (hM:a+M.length=b):
  C8 (P++(M++Q)) o n (a:Int) (b:Int) t=some (P++(CJ c M++Q)):=by
 unfold C8
 rw[up (by omega)]
 cases M with
 |nil=>
  rw[BL]
  unfold BO
  simp at hM
  simp only[decide_eq_false (show ¬((a+1:Nat):Int)<(b:Int) by omega),cond_false]
  simp[CJ]
 |cons x M=>
  have:=AdI hk o n a b P Q hP hn hb M [x] (by simp at hM ⊢;omega) (.inl (by simp))
  have e:CJ c [x]= [x]:=rfl
  rw[e]at this
  simp only[List.length_cons,List.length_nil,Nat.zero_add,List.cons_append,List.nil_append]at this ⊢
  rw[this]
  rfl
theorem AbZ (o n a b m:Nat) (P X Q:List Int) (hP:P.length=o+a) (hn:n<1000000000000) (hb:b+m<=n) (hX:a+m+X.length=b):
  ∀(A2 B2 A1 B1:List Int),A2.length=B2.length->A1.length=B1.length->A1.length+A2.length=m->
   iter (Cj o n (a:Int) (b:Int) (m:Int)) (P++(B1++(A2++(X++(A1++(B2++Q))))),(A1.length:Int))=some (P++(B1++(B2++(X++(A1++(A2++Q)))))):=by
 intro A2
 induction A2 with
 |nil=>
  intro B2 A1 B1 h1 h2 h3
  have:B2= []:=List.eq_nil_of_length_eq_zero (by simpa using h1.symm)
  subst this
  have body:Cj o n (a:Int) (b:Int) (m:Int) (P++(B1++([]++(X++(A1++([]++Q))))),(A1.length:Int))=some (.done (P++(B1++([]++(X++(A1++([]++Q))))))):=by
   unfold Cj
   simp only[decide_eq_false (show ¬(A1.length:Int)<(m:Int) by simp at h3;omega),cond_false]
  rw[BL,body]
 |cons x A2 ih=>
  intro B2 A1 B1 h1 h2 h3
  cases B2 with
  |nil=>simp at h1
  |cons y B2=>
   simp only[List.length_cons]at h1 h3
   have ia:IntKind.wrap .i64 ((a:Int)+(A1.length:Int))=((a+A1.length:Nat):Int):=by rw[Gy (by omega) (by omega)];omega
   have ib:IntKind.wrap .i64 ((b:Int)+(A1.length:Int))=((b+A1.length:Nat):Int):=by rw[Gy (by omega) (by omega)];omega
   have sw:=swap_eq (s:=P++(B1++(x::A2++(X++(A1++(y::B2++Q)))))) (P:=P++B1) (Y:=A2++(X++A1)) (Q:=B2++Q) (x:=x) (y:=y) (i:=o+(a+A1.length)) (j:=o+(b+A1.length)) (by simp) (by simp;omega) (by simp;omega)
   have body:Cj o n (a:Int) (b:Int) (m:Int) (P++(B1++(x::A2++(X++(A1++(y::B2++Q))))),(A1.length:Int))=some (.next (P++(B1++ [y]++(A2++(X++(A1++ [x]++(B2++Q))))),((A1++ [x]).length:Int))):=by
    unfold Cj
    simp only[decide_eq_true (show(A1.length:Int)<(m:Int) by omega),cond_true,ia,ib,I5,sw,if_pos (show 0<=((b+A1.length:Nat):Int)/\((b+A1.length:Nat):Int)<(n:Int) by omega),if_pos (show 0<=((a+A1.length:Nat):Int)/\((a+A1.length:Nat):Int)<(n:Int) by omega)]
    rw[up (by omega)]
    simp
   rw[BL,body]
   simp only
   rw[ih B2 (A1++ [x]) (B1++ [y]) (by omega) (by simp;omega) (by simp;omega)]
   simp
theorem nH (t:Ab) (o n a b m:Nat) (P A X B Q:List Int) (hP:P.length=o+a) (hn:n<1000000000000) (hb:b+m<=n) (hA:A.length=m) (hB:B.length=m) (hX:a+m+X.length=b):
  CU (P++(A++(X++(B++Q)))) o n (a:Int) (b:Int) (m:Int) t=some (P++(B++(X++(A++Q)))):=by
 unfold CU
 have:=AbZ o n a b m P X Q hP hn hb hX A B [] [] (by omega) rfl (by simpa using hA)
 simp only[List.nil_append,List.length_nil]at this
 rw[show((0:Nat):Int)=0 from rfl]at this
 rw[this];rfl
theorem AgH (t:Ab) (o n m:Nat) (hn:n<1000000000000):
  ∀(k:Nat) (P A B Q:List Int),A.length+B.length<=k->0<A.length->0<B.length->P.length+A.length=o+m->A.length<=m->m+B.length<=n->
   ∃(P' A' B' Q':List Int),iter (BK o n (m:Int) t) (P++(A++(B++Q)),(A.length:Int),(B.length:Int))=some (P'++(A'++(B'++Q')),(A'.length:Int))/\
    A'.length=B'.length/\P'.length+A'.length=o+m/\A'.length<=m/\m+B'.length<=n/\P'++(B'++(A'++Q'))=P++(B++(A++Q)):=by
 intro k
 induction k with
 |zero=>intro P A B Q h h1;omega
 |succ k ih=>
  intro P A B Q hk hA hB hP hm hb
  by_cases he:A.length=B.length
  ·refine⟨P,A,B,Q,?_,he,hP,hm,hb,rfl⟩
   have body:BK o n (m:Int) t (P++(A++(B++Q)),(A.length:Int),(B.length:Int))=some (.done (P++(A++(B++Q)),(A.length:Int))):=by
    unfold BK
    have:((A.length:Int) != (B.length:Int))=false:=by rw[he];simp
    simp only[this,cond_false]
   rw[BL,body]
  ·have hne:((A.length:Int) != (B.length:Int))=true:=by simp;omega
   by_cases hlt:B.length<A.length
   ·
    obtain⟨A1,A2,rfl,h1⟩: ∃A1 A2,A=A1++A2/\A1.length=B.length:=⟨A.take B.length,A.drop B.length,(List.take_append_drop _ _).symm,by simp;omega⟩
    have hl:(A1++A2).length=A1.length+A2.length:=by simp
    have sw:=nH t o n (m-(A1++A2).length) m B.length P A1 A2 B Q (by omega) hn (by omega) h1 rfl (by omega)
    have w1:IntKind.wrap .i64 ((m:Int)-((A1++A2).length:Int))=((m-(A1++A2).length:Nat):Int):=by rw[Gy (by omega) (by omega)];omega
    have w2:IntKind.wrap .i64 (((A1++A2).length:Int)-(B.length:Int))=(A2.length:Int):=by rw[Gy (by omega) (by omega)];omega
    have body:BK o n (m:Int) t (P++(A1++A2++(B++Q)),((A1++A2).length:Int),(B.length:Int))=some (.next ((P++B)++(A2++(A1++Q)),(A2.length:Int),(A1.length:Int))):=by
         unfold BK
         simp only[hne,cond_true,decide_eq_true (show((A1++A2).length:Int)>(B.length:Int) by omega),w1,w2]
         have e:P++(A1++A2++(B++Q))=P++(A1++(A2++(B++Q))):=by simp
         rw[e,sw,Aa,if_pos (by simp;omega)]
         simp[h1]
    obtain⟨P',A',B',Q',g1,g2,g3,g4,g5,g6⟩:=ih (P++B) A2 A1 Q (by omega) (by omega) (by omega) (by simp;omega) (by omega) (by omega)
    refine⟨P',A',B',Q',?_,g2,g3,g4,g5,by rw[g6];simp⟩
    rw[BL,body]
    exact g1
   ·obtain⟨B1,B2,rfl,h1⟩: ∃B1 B2,B=B1++B2/\B2.length=A.length:=⟨B.take (B.length-A.length),B.drop (B.length-A.length),(List.take_append_drop _ _).symm,by simp;omega⟩
    have hl:(B1++B2).length=B1.length+B2.length:=by simp
    have sw:=nH t o n (m-A.length) (m+(B1++B2).length-A.length) A.length P A B1 B2 Q (by omega) hn (by omega) rfl h1 (by omega)
    have w1:IntKind.wrap .i64 ((m:Int)-(A.length:Int))=((m-A.length:Nat):Int):=by rw[Gy (by omega) (by omega)];omega
    have w3:IntKind.wrap .i64 (IntKind.wrap .i64 ((m:Int)+((B1++B2).length:Int))-(A.length:Int))=((m+(B1++B2).length-A.length:Nat):Int):=by
         rw[Gy (x:=(m:Int)+((B1++B2).length:Int)) (by omega) (by omega),Gy (by omega) (by omega)];omega
    have w2:IntKind.wrap .i64 (((B1++B2).length:Int)-(A.length:Int))=(B1.length:Int):=by rw[Gy (by omega) (by omega)];omega
    have body:BK o n (m:Int) t (P++(A++(B1++B2++Q)),(A.length:Int),((B1++B2).length:Int))=some (.next (P++(B2++(B1++(A++Q))),(B2.length:Int),(B1.length:Int))):=by
         unfold BK
         simp only[hne,cond_true,decide_eq_false (show ¬(A.length:Int)>((B1++B2).length:Int) by omega),cond_false,w1,w2,w3]
         have e:P++(A++(B1++B2++Q))=P++(A++(B1++(B2++Q))):=by simp
         rw[e,sw,Aa,if_pos (by simp;omega)]
         simp[h1]
    obtain⟨P',A',B',Q',g1,g2,g3,g4,g5,g6⟩:=ih P B2 B1 (A++Q) (by omega) (by omega) (by omega) (by omega) (by omega) (by omega)
    refine⟨P',A',B',Q',?_,g2,g3,g4,g5,by rw[g6];simp⟩
    rw[BL,body]
    exact g1
theorem Ad6 (t:Ab) (o n a m b:Nat) (P A B Q:List Int) (hP:P.length=o+a) (hA:a+A.length=m) (hB:m+B.length=b) (h1:a<m) (h2:m<b) (hb:b<=n) (hn:n<1000000000000):
  FJ (P++(A++(B++Q))) o n (a:Int) (m:Int) (b:Int) t=some (P++(B++(A++Q))):=by
 obtain⟨P',A',B',Q',g1,g2,g3,g4,g5,g6⟩:=AgH t o n m hn _ P A B Q (Nat.le_refl _) (by omega) (by omega) (by omega) (by omega) (by omega)
 unfold FJ
 rw[show IntKind.wrap .i64 ((m:Int)-(a:Int))=(A.length:Int) by rw[Gy (by omega) (by omega)];omega,show IntKind.wrap .i64 ((b:Int)-(m:Int))=(B.length:Int) by rw[Gy (by omega) (by omega)];omega,g1,Aa]
 unfold JF
 simp only
 have sw:=nH t o n (m-A'.length) m A'.length P' A' [] B' Q' (by omega) hn (by omega) rfl g2.symm (by simp;omega)
 simp only[List.nil_append]at sw
 rw[show IntKind.wrap .i64 ((m:Int)-(A'.length:Int))=((m-A'.length:Nat):Int) by rw[Gy (by omega) (by omega)];omega,sw,Aa,if_pos (by simp;omega),g6]
theorem AeU {body:Int×Int->Option (Stp (Int×Int) Int)} (p:Nat->Bool) (lo hi:Nat) (hlh:lo<=hi) (hend: ∀i:Nat,body ((i:Int),(i:Int))=some (.done (i:Int)))
  (hstep: ∀i j:Nat,lo<=i->i<j->j<=hi->body ((i:Int),(j:Int))=some (.next (if p ((i+j)/2)=true then((((i+j)/2+1:Nat):Int),(j:Int))else((i:Int),(((i+j)/2:Nat):Int))))):
  ∃y:Nat,iter body ((lo:Int),(hi:Int))=some (y:Int)/\lo<=y/\y<=hi/\(y=lo∨p (y-1)=true)/\(y=hi∨p y=false):=by
 have key: ∀(k i j:Nat),lo<=i->i<=j->j<=hi->j-i<=k->(i=lo∨p (i-1)=true)->(j=hi∨p j=false)->
   ∃y:Nat,iter body ((i:Int),(j:Int))=some (y:Int)/\lo<=y/\y<=hi/\(y=lo∨p (y-1)=true)/\(y=hi∨p y=false):=by
  intro k
  induction k with
  |zero=>
   intro i j h1 h2 h3 h4 h5 h6
   obtain rfl:i=j:=by omega
   exact⟨i,by rw[BL,hend],h1,h3,h5,h6⟩
  |succ k ih=>
   intro i j h1 h2 h3 h4 h5 h6
   by_cases hij:i=j
   ·subst hij
    exact⟨i,by rw[BL,hend],h1,h3,h5,h6⟩
   ·rw[BL,hstep i j h1 (by omega) h3]
    cases hp:p ((i+j)/2)with
    |true=>
     simp only[if_pos]
     exact ih _ _ (by omega) (by omega) h3 (by omega) (.inr (by simpa using hp)) h6
    |false=>
     simp only[Bool.false_eq_true,if_false]
     exact ih _ _ h1 (by omega) (by omega) (by omega) h5 (.inr hp)
 exact key _ lo hi (Nat.le_refl _) hlh (Nat.le_refl _) (Nat.le_refl _) (.inl rfl) (.inl rfl)
theorem Aii (o n i:Nat) (hn:n<1000000000000) (hi:i<=n): ∀(R P Q:List Int) (x:Int) (k:Nat),P.length=o+k->k+R.length+1=i->
  iter (Cm o n (i:Int)) (P++x::(R++Q),(k:Int))=some (P++(R++x::Q)):=by
 intro R
 induction R with
 |nil=>
  intro P Q x k hP hk
  simp only[List.length_nil]at hk
  have body:Cm o n (i:Int) (P++x::([]++Q),(k:Int))=some (.done (P++x::([]++Q))):=by
   unfold Cm
   rw[Gy (x:=(i:Int)-1) (by omega) (by omega)]
   simp only[decide_eq_false (show ¬(k:Int)<(i:Int)-1 by omega),cond_false]
  rw[BL,body]
  simp
 |cons y R ih=>
  intro P Q x k hP hk
  simp only[List.length_cons]at hk
  have sw:=swap_eq (s:=P++x::(y::R++Q)) (P:=P) (Y:= []) (Q:=R++Q) (x:=x) (y:=y) (i:=o+k) (j:=o+(k+1)) (by simp) (by omega) (by simp;omega)
  have body:Cm o n (i:Int) (P++x::(y::R++Q),(k:Int))=some (.next ((P++ [y])++x::(R++Q),((k+1:Nat):Int))):=by
   unfold Cm
   rw[Gy (x:=(i:Int)-1) (by omega) (by omega)]
   simp only[decide_eq_true (show(k:Int)<(i:Int)-1 by omega),cond_true,up (show k<9223372036854775807 by omega),I5,sw,if_pos (show 0<=((k+1:Nat):Int)/\((k+1:Nat):Int)<(n:Int) by omega),if_pos (show 0<=(k:Int)/\(k:Int)<(n:Int) by omega)]
   simp
  rw[BL,body]
  simp only
  rw[ih (P++ [y]) Q x (k+1) (by simp;omega) (by omega)]
  simp
theorem AdS (o n i:Nat) (hn:n<1000000000000): ∀(l:Nat) (L P Q:List Int) (y:Int) (k:Nat),L.length=l->P.length=o+i->i+l=k->k<n->
  iter (Ck o n (i:Int)) (P++(L++y::Q),(k:Int))=some (P++(y::(L++Q))):=by
 intro l
 induction l with
 |zero=>
  intro L P Q y k hL hP hk hkn
  have:L= []:=List.eq_nil_of_length_eq_zero hL
  subst this
  have body:Ck o n (i:Int) (P++([]++y::Q),(k:Int))=some (.done (P++([]++y::Q))):=by
   unfold Ck
   simp only[decide_eq_false (show ¬(k:Int)>(i:Int) by omega),cond_false]
  rw[BL,body]
  simp
 |succ l ih=>
  intro L P Q y k hL hP hk hkn
  obtain⟨L',x,rfl⟩: ∃L' x,L=L'++ [x]:=by
   cases h:L.getLast? with
   |none=>rw[List.getLast?_eq_none_iff]at h;subst h;simp at hL
   |some x=>obtain⟨L',rfl⟩:=List.getLast?_eq_some_iff.1 h;exact⟨L',x,rfl⟩
  have hL':L'.length=l:=by simpa using hL
  have hd:IntKind.wrap .i64 ((k:Int)-1)=((k-1:Nat):Int):=down (by omega) (by omega)
  have sw:=Aam (s:=P++(L'++ [x]++y::Q)) (P:=P++L') (Y:= []) (Q:=Q) (x:=x) (y:=y) (i:=o+(k-1)) (j:=o+k) (by simp) (by simp;omega) (by simp;omega)
  have body:Ck o n (i:Int) (P++(L'++ [x]++y::Q),(k:Int))=some (.next (P++(L'++y::(x::Q)),((k-1:Nat):Int))):=by
   unfold Ck
   simp only[decide_eq_true (show(k:Int)>(i:Int) by omega),cond_true,hd,I5,sw,if_pos (show 0<=((k-1:Nat):Int)/\((k-1:Nat):Int)<(n:Int) by omega),if_pos (show 0<=(k:Int)/\(k:Int)<(n:Int) by omega)]
   simp
  rw[BL,body]
  simp only
  rw[ih L' P (x::Q) y (k-1) hL' hP (by omega) (by omega)]
  simp
theorem Y2 {P L R:List Int} {o a k:Nat} (hP:P.length=o+a) (h1:a<=k) (h2:k<a+L.length):(P++(L++R)).getD (o+k) 0=L.getD (k-a) 0:=by
 have:=Afw P (L++R) (k-a)
 rw[show P.length+(k-a)=o+k by omega]at this
 rw[this,List.getD_eq_getElem?_getD,List.getD_eq_getElem?_getD,List.getElem?_append_left (by omega)]
theorem aM {P L R Q:List Int} {o a m k:Nat} (hP:P.length=o+a) (hL:a+L.length=m) (h1:m<=k) (h2:k<m+R.length):(P++(L++(R++Q))).getD (o+k) 0=R.getD (k-m) 0:=by
 have:=Y2 (P:=P++L) (L:=R) (R:=Q) (o:=o) (a:=m) (k:=k) (by simp;omega) h1 h2
 rw[<- this]
 simp
theorem QT.get {c:Int->Int} {l:List Int} (h:QT c l) {i j:Nat} (hij:i<=j) (hj:j<l.length):c (l.getD i 0)<=c (l.getD j 0):=by
 rcases Nat.lt_or_ge i j with hlt|hge
 ·exact RY h hlt hj
 ·obtain rfl:i=j:=by omega
  exact Int.le_refl _
theorem T9 {l:List Int} {x:Int} (h:x∈l): ∃i,i<l.length/\l.getD i 0=x:=by
 obtain⟨i,hi,rfl⟩:=List.getElem_of_mem h
 exact⟨i,hi,by simp[List.getD_eq_getElem?_getD,hi]⟩
theorem iI (p q:Prop) [Decidable p] [Decidable q]:(bif decide p then some (decide q)else some false)=some (decide (p/\q)):=by
 by_cases hp:p<;>by_cases hq:q<;>simp[hp,hq]
def OKr (tot:Bool) (x:Option (List Int)) (v:List Int):Prop:=x=some v∨(tot=false/\x=none)
set_option maxHeartbeats 1000000
theorem AgZ {t:Ab} {c:Int->Int} (hk:RZ t c) (IB:List Int->Nat->Nat->Int->Int->Int->Ab->Option (List Int)) (o n:Nat) (hn:n<1000000000000) (P R Q:List Int) (x:Int) (a m b:Nat)
  (hP:P.length=o+a) (hm:m=a+1) (hR:m+R.length=b) (h1:0<R.length) (hb:b<=n) (sR:QT c R):
  BD IB (P++([x]++(R++Q))) o n (a:Int) (m:Int) (b:Int) t=some (P++(CJ c ([x]++R)++Q)):=by
 obtain⟨y,hy,y1,y2,y3,y4⟩:=AeU (body:=Et (P++([x]++(R++Q))) o n (a:Int) t) (fun k=>decide (c (R.getD (k-m) 0)<c x)) m b (by omega)
  (fun i=>by
    unfold Et
    simp only[decide_eq_false (show ¬(i:Int)<(i:Int) by omega),cond_false])
  (fun i j h1 h2 h3=>by
    unfold Et
    have hh:i<=(i+j)/2/\(i+j)/2<j:=by omega
    have e1:(P++([x]++(R++Q))).getD (o+(i+j)/2) 0=R.getD ((i+j)/2-m) 0:=aM (L:= [x]) hP (by simp;omega) (by omega) (by omega)
    have e2:(P++([x]++(R++Q))).getD (o+a) 0=x:=by rw[Y2 hP (Nat.le_refl _) (by simp)];simp
    obtain⟨z,hz,hlt⟩:=hk (R.getD ((i+j)/2-m) 0) x
    simp only[decide_eq_true (show(i:Int)<(j:Int) by omega),cond_true,mid (show i+j<9223372036854775808 by omega),I5,e1,e2,hz,Aa,hlt,if_pos (show 0<=(((i+j)/2:Nat):Int)/\(((i+j)/2:Nat):Int)<(n:Int) by omega),if_pos (show 0<=(a:Int)/\(a:Int)<(n:Int) by omega),up (show(i+j)/2<9223372036854775807 by omega)]
    cases decide (c (R.getD ((i+j)/2-m) 0)<c x)<;>simp)
 have AjG:R=R.take (y-m)++R.drop (y-m):=(List.take_append_drop _ _).symm
 have l1:(R.take (y-m)).length=y-m:=by simp;omega
 have up1:=Aii o n y hn (by omega) (R.take (y-m)) P (R.drop (y-m)++Q) x a hP (by rw[l1];omega)
 have e:P++([x]++(R++Q))=P++x::(R.take (y-m)++(R.drop (y-m)++Q)):=by rw[<- List.append_assoc (R.take (y-m)),<- AjG];simp
 have fin:CJ c ([x]++R)=R.take (y-m)++x::R.drop (y-m):=by
  have below: ∀z∈R.take (y-m),c z<c x:=fun z hz=>by
   obtain⟨i,hi,rfl⟩:=T9 hz
   have g:(R.take (y-m)).getD i 0=R.getD i 0:=by simp[List.getD_eq_getElem?_getD,List.getElem?_take,show i<y-m by omega]
   rw[g]
   have hp:=of_decide_eq_true (y3.resolve_left (by omega))
   have:=sR.get (i:=i) (j:=y-1-m) (by omega) (by omega)
   omega
  have above: ∀z∈R.drop (y-m),c x<=c z:=fun z hz=>by
   obtain⟨i,hi,rfl⟩:=T9 hz
   simp at hi
   have g:(R.drop (y-m)).getD i 0=R.getD (y-m+i) 0:=by simp[List.getD_eq_getElem?_getD,List.getElem?_drop]
   rw[g]
   have hp:=of_decide_eq_false (y4.resolve_left (by omega))
   have:=sR.get (i:=y-m) (j:=y-m+i) (by omega) (by omega)
   omega
  refine(ZM ?_ fun v=>?_).symm
  ·have sR':QT c (R.take (y-m)++R.drop (y-m)):=by rw[<- AjG];exact sR
   refine QT.append sR'.left (List.pairwise_cons.2 ⟨above,sR'.right⟩) fun z hz w hw=>?_
   rcases List.mem_cons.1 hw with rfl|hw
   ·have:=below z hz;omega
   ·exact sR'.cross z hz w hw
  ·have e2:R.take (y-m)++x::R.drop (y-m)=R.take (y-m)++([x]++R.drop (y-m)):=by simp
   rw[e2,EW,EW,<- List.append_assoc,kI (fun z hz w hw=>by simp at hw;subst hw;have:=below z hz;omega) v,List.append_assoc,<- EW (l:=R.take (y-m)),<- AjG,EW]
 unfold BD IZ
 rw[show(IntKind.wrap .i64 ((m:Int)-(a:Int))==1)=true by rw[Gy (by omega) (by omega)];simp;omega]
 simp only[cond_true,hy,Aa]
 rw[e,up1,fin]
 simp[Aa]
theorem Aer {t:Ab} {c:Int->Int} (hk:RZ t c) (IB:List Int->Nat->Nat->Int->Int->Int->Ab->Option (List Int)) (o n:Nat) (hn:n<1000000000000) (P L Q:List Int) (x:Int) (a m b:Nat)
  (hP:P.length=o+a) (hL:a+L.length=m) (hm:b=m+1) (h1:1<L.length) (hb:b<=n) (sL:QT c L):
  BD IB (P++(L++([x]++Q))) o n (a:Int) (m:Int) (b:Int) t=some (P++(CJ c (L++ [x])++Q)):=by
 obtain⟨y,hy,y1,y2,y3,y4⟩:=AeU (body:=Es (P++(L++([x]++Q))) o n (m:Int) t) (fun k=> !decide (c x<c (L.getD (k-a) 0))) a m (by omega)
  (fun i=>by
    unfold Es
    simp only[decide_eq_false (show ¬(i:Int)<(i:Int) by omega),cond_false])
  (fun i j h1 h2 h3=>by
    unfold Es
    have hh:i<=(i+j)/2/\(i+j)/2<j:=by omega
    have e1:(P++(L++([x]++Q))).getD (o+(i+j)/2) 0=L.getD ((i+j)/2-a) 0:=Y2 hP (by omega) (by omega)
    have e2:(P++(L++([x]++Q))).getD (o+m) 0=x:=by rw[aM (R:= [x]) hP hL (Nat.le_refl _) (by simp)];simp
    obtain⟨z,hz,hlt⟩:=hk x (L.getD ((i+j)/2-a) 0)
    simp only[decide_eq_true (show(i:Int)<(j:Int) by omega),cond_true,mid (show i+j<9223372036854775808 by omega),I5,e1,e2,hz,Aa,hlt,if_pos (show 0<=(((i+j)/2:Nat):Int)/\(((i+j)/2:Nat):Int)<(n:Int) by omega),if_pos (show 0<=(m:Int)/\(m:Int)<(n:Int) by omega),up (show(i+j)/2<9223372036854775807 by omega)]
    cases decide (c x<c (L.getD ((i+j)/2-a) 0))<;>simp)
 have AjF:L=L.take (y-a)++L.drop (y-a):=(List.take_append_drop _ _).symm
 have l1:(L.take (y-a)).length=y-a:=by simp;omega
 have dn:=AdS o n y hn _ (L.drop (y-a)) (P++L.take (y-a)) Q x m rfl (by simp;omega) (by simp;omega) (by omega)
 have e:P++(L++([x]++Q))=P++L.take (y-a)++(L.drop (y-a)++x::Q):=by
  rw[List.append_assoc,<- List.append_assoc (L.take (y-a)),<- AjF];simp
 have fin:CJ c (L++ [x])=L.take (y-a)++x::L.drop (y-a):=by
  have below: ∀z∈L.take (y-a),c z<=c x:=fun z hz=>by
   obtain⟨i,hi,rfl⟩:=T9 hz
   have g:(L.take (y-a)).getD i 0=L.getD i 0:=by simp[List.getD_eq_getElem?_getD,List.getElem?_take,show i<y-a by omega]
   rw[g]
   have hp:=y3.resolve_left (by omega)
   simp only[Bool.not_eq_true',decide_eq_false_iff_not]at hp
   have:=sL.get (i:=i) (j:=y-1-a) (by omega) (by omega)
   omega
  have above: ∀z∈L.drop (y-a),c x<c z:=fun z hz=>by
   obtain⟨i,hi,rfl⟩:=T9 hz
   simp at hi
   have g:(L.drop (y-a)).getD i 0=L.getD (y-a+i) 0:=by simp[List.getD_eq_getElem?_getD,List.getElem?_drop]
   rw[g]
   have hp:=y4.resolve_left (by omega)
   simp only[Bool.not_eq_false',decide_eq_true_eq]at hp
   have:=sL.get (i:=y-a) (j:=y-a+i) (by omega) (by omega)
   omega
  have sL':QT c (L.take (y-a)++L.drop (y-a)):=by rw[<- AjF];exact sL
  refine(ZM ?_ fun v=>?_).symm
  ·refine QT.append sL'.left (List.pairwise_cons.2 ⟨fun z hz=>by have:=above z hz;omega,sL'.right⟩) fun z hz w hw=>?_
   rcases List.mem_cons.1 hw with rfl|hw
   ·exact below z hz
   ·exact sL'.cross z hz w hw
  ·have e2:L.take (y-a)++x::L.drop (y-a)=L.take (y-a)++([x]++L.drop (y-a)):=by simp
   rw[e2,EW,EW,kI (l:= [x]) (fun z hz w hw=>by simp at hz;subst hz;have:=above w hw;omega) v,<- List.append_assoc,<- EW,<- AjF,EW]
 unfold BD Ez IY
 rw[show(IntKind.wrap .i64 ((m:Int)-(a:Int))==1)=false by rw[Gy (by omega) (by omega)];simp;omega,show(IntKind.wrap .i64 ((b:Int)-(m:Int))==1)=true by rw[Gy (by omega) (by omega)];simp;omega]
 simp only[cond_true,cond_false,hy,Aa]
 rw[e,dn,fin]
 simp[Aa]
set_option maxHeartbeats 2000000
theorem OKr.bind {tot:Bool} {x:Option (List Int)} {v w:List Int} {f:List Int->Option (List Int)} (h:OKr tot x v) (hf:OKr tot (f v) w):OKr tot (Option.bind x f) w:=by
 rcases h with h|⟨h,h'⟩
 ·rw[h];exact hf
 ·rw[h'];exact .inr ⟨h,rfl⟩
theorem Aes {t:Ab} {c:Int->Int} (hk:RZ t c) (o n:Nat) (hn:n<1000000000000) (P L R Q:List Int) (a m b:Nat) (hP:P.length=o+a) (hL:a+L.length=m) (hR:m+R.length=b) (h0:1<L.length) (h1:1<R.length) (hb:b<=n) (sL:QT c L) (sR:QT c R):
  ∃y:Nat,iter (Dh (P++(L++(R++Q))) o n (a:Int) (m:Int) (b:Int) t) ((((if m>(a+b)/2 then(a+b)/2+m-b else a):Nat):Int),(((if m>(a+b)/2 then(a+b)/2 else m):Nat):Int))=some (y:Int)/\
   a<=y/\y<=m/\m<=(a+b)/2+m-y/\(a+b)/2+m-y<=b/\y<=(a+b)/2/\
   (∀z∈L.take (y-a),∀w∈R.drop ((a+b)/2+m-y-m),c z<=c w)/\(∀z∈R.take ((a+b)/2+m-y-m),∀w∈L.drop (y-a),c z<c w):=by
 obtain⟨q,hq⟩: ∃q,q=(a+b)/2:=⟨_,rfl⟩
 rw[<- hq]
 obtain⟨lo,hlo⟩: ∃lo,lo=if m>q then q+m-b else a:=⟨_,rfl⟩
 obtain⟨hi,hhi⟩: ∃hi,hi=if m>q then q else m:=⟨_,rfl⟩
 rw[<- hlo,<- hhi]
 have hb1:a<=lo/\lo<=hi/\hi<=m/\hi<=q/\q+m-lo<=b/\m<=q+m-hi/\(lo=a∨q+m-lo=b)/\(hi=m∨q+m-hi=m):=by
  by_cases h:m>q
  ·rw[if_pos h]at hlo hhi;omega
  ·rw[if_neg h]at hlo hhi;omega
 obtain⟨y,hy,y1,y2,y3,y4⟩:=AeU (body:=Dh (P++(L++(R++Q))) o n (a:Int) (m:Int) (b:Int) t) (fun k=> !decide (c (R.getD (q+m-1-k-m) 0)<c (L.getD (k-a) 0))) lo hi hb1.2.1
  (fun i=>by
    unfold Dh
    simp only[decide_eq_false (show ¬(i:Int)<(i:Int) by omega),cond_false])
  (fun i j h1 h2 h3=>by
    unfold Dh
    have hh:i<=(i+j)/2/\(i+j)/2<j:=by omega
    have hm1:IntKind.wrap .i64 (Int.fdiv (IntKind.wrap .u64 (IntKind.wrap .i64 ((a:Int)+(b:Int)))) 2)=((q:Nat):Int):=by rw[mid (by omega),hq]
    have hm2:IntKind.wrap .i64 ((q:Int)+(m:Int))=((q+m:Nat):Int):=by rw[Gy (by omega) (by omega)];omega
    have hm3:IntKind.wrap .i64 (((q+m:Nat):Int)-1)=((q+m-1:Nat):Int):=down (by omega) (by omega)
    have hm4:IntKind.wrap .i64 (((q+m-1:Nat):Int)-(((i+j)/2:Nat):Int))=((q+m-1-(i+j)/2:Nat):Int):=by rw[Gy (by omega) (by omega)];omega
    have e1:(P++(L++(R++Q))).getD (o+(i+j)/2) 0=L.getD ((i+j)/2-a) 0:=Y2 hP (by omega) (by omega)
    have e2:(P++(L++(R++Q))).getD (o+(q+m-1-(i+j)/2)) 0=R.getD (q+m-1-(i+j)/2-m) 0:=aM hP hL (by omega) (by omega)
    obtain⟨z,hz,hlt⟩:=hk (R.getD (q+m-1-(i+j)/2-m) 0) (L.getD ((i+j)/2-a) 0)
    simp only[decide_eq_true (show(i:Int)<(j:Int) by omega),cond_true,hm1,hm2,hm3,mid (show i+j<9223372036854775808 by omega),hm4,I5,e1,e2,hz,Aa,hlt,if_pos (show 0<=(((i+j)/2:Nat):Int)/\(((i+j)/2:Nat):Int)<(n:Int) by omega),if_pos (show 0<=((q+m-1-(i+j)/2:Nat):Int)/\((q+m-1-(i+j)/2:Nat):Int)<(n:Int) by omega),up (show(i+j)/2<9223372036854775807 by omega)]
    cases decide (c (R.getD (q+m-1-(i+j)/2-m) 0)<c (L.getD ((i+j)/2-a) 0))<;>simp)
 refine⟨y,hy,by omega,by omega,by omega,by omega,by omega,fun z hz w hw=>?_,fun z hz w hw=>?_⟩
 ·obtain⟨i,hi',rfl⟩:=T9 hz
  obtain⟨j,hj',rfl⟩:=T9 hw
  simp at hi' hj'
  have g1:(L.take (y-a)).getD i 0=L.getD i 0:=by simp[List.getD_eq_getElem?_getD,List.getElem?_take,show i<y-a by omega]
  have g2:(R.drop (q+m-y-m)).getD j 0=R.getD (q+m-y-m+j) 0:=by simp[List.getD_eq_getElem?_getD,List.getElem?_drop]
  rw[g1,g2]
  have hp:=y3.resolve_left (by omega)
  simp only[Bool.not_eq_true',decide_eq_false_iff_not]at hp
  rw[show q+m-1-(y-1)-m=q+m-y-m by omega]at hp
  have p1:=sL.get (i:=i) (j:=y-1-a) (by omega) (by omega)
  have p2:=sR.get (i:=q+m-y-m) (j:=q+m-y-m+j) (by omega) (by omega)
  omega
 ·obtain⟨i,hi',rfl⟩:=T9 hz
  obtain⟨j,hj',rfl⟩:=T9 hw
  simp at hi' hj'
  have g1:(R.take (q+m-y-m)).getD i 0=R.getD i 0:=by simp[List.getD_eq_getElem?_getD,List.getElem?_take,show i<q+m-y-m by omega]
  have g2:(L.drop (y-a)).getD j 0=L.getD (y-a+j) 0:=by simp[List.getD_eq_getElem?_getD,List.getElem?_drop]
  rw[g1,g2]
  have hp:=y4.resolve_left (by omega)
  simp only[Bool.not_eq_false',decide_eq_true_eq]at hp
  have p1:=sR.get (i:=i) (j:=q+m-1-y-m) (by omega) (by omega)
  have p2:=sL.get (i:=y-a) (j:=y-a+j) (by omega) (by omega)
  omega
theorem AgX {t:Ab} {c:Int->Int} (hk:RZ t c) (IB:List Int->Nat->Nat->Int->Int->Int->Ab->Option (List Int)) (tot:Bool) (o n K:Nat) (hn:n<1000000000000)
  (hrec: ∀(P L R Q:List Int) (a m b:Nat),P.length=o+a->a+L.length=m->m+R.length=b->0<L.length->0<R.length->b<=n->b-a<K->QT c L->QT c R->OKr tot (IB (P++(L++(R++Q))) o n (a:Int) (m:Int) (b:Int) t) (P++(CJ c (L++R)++Q)))
  (P L R Q:List Int) (a m b:Nat) (hP:P.length=o+a) (hL:a+L.length=m) (hR:m+R.length=b) (h0:0<L.length) (h1:0<R.length) (hb:b<=n) (hK:b-a<=K) (sL:QT c L) (sR:QT c R):
  OKr tot (BD IB (P++(L++(R++Q))) o n (a:Int) (m:Int) (b:Int) t) (P++(CJ c (L++R)++Q)):=by
 by_cases e1:L.length=1
 ·obtain⟨x,rfl⟩:=List.length_eq_one_iff.1 e1
  exact .inl (AgZ hk IB o n hn P R Q x a m b hP (by simp at hL;omega) hR h1 hb sR)
 by_cases e2:R.length=1
 ·obtain⟨x,rfl⟩:=List.length_eq_one_iff.1 e2
  exact .inl (Aer hk IB o n hn P L Q x a m b hP hL (by simp at hR;omega) (by omega) hb sL)
 obtain⟨y,hy,y1,y2,y3,y4,y5,hx1,hx2⟩:=Aes hk o n hn P L R Q a m b hP hL hR (by omega) (by omega) hb sL sR
 obtain⟨q,hq⟩: ∃q,q=(a+b)/2:=⟨_,rfl⟩
 rw[<- hq]at hy y3 y4 y5 hx1 hx2
 obtain⟨L1,hL1⟩: ∃L1,L1=L.take (y-a):=⟨_,rfl⟩
 obtain⟨L2,hL2⟩: ∃L2,L2=L.drop (y-a):=⟨_,rfl⟩
 obtain⟨R1,hR1⟩: ∃R1,R1=R.take (q+m-y-m):=⟨_,rfl⟩
 obtain⟨R2,hR2⟩: ∃R2,R2=R.drop (q+m-y-m):=⟨_,rfl⟩
 have eL:L=L1++L2:=by rw[hL1,hL2,List.take_append_drop]
 have eR:R=R1++R2:=by rw[hR1,hR2,List.take_append_drop]
 have n1:L1.length=y-a:=by rw[hL1];simp;omega
 have n2:R1.length=q+m-y-m:=by rw[hR1];simp;omega
 have n3:L2.length=m-y:=by rw[hL2];simp;omega
 have n4:R2.length=b-(q+m-y):=by rw[hR2];simp;omega
 rw[<- hL1,<- hR2]at hx1
 rw[<- hR1,<- hL2]at hx2
 clear hL1 hL2 hR1 hR2
 rw[eL]at sL
 rw[eR]at sR
 have hm1:IntKind.wrap .i64 (Int.fdiv (IntKind.wrap .u64 (IntKind.wrap .i64 ((a:Int)+(b:Int)))) 2)=((q:Nat):Int):=by rw[mid (by omega),hq]
 have hm2:IntKind.wrap .i64 ((q:Int)+(m:Int))=((q+m:Nat):Int):=by rw[Gy (by omega) (by omega)];omega
 have hm3:IntKind.wrap .i64 (((q+m:Nat):Int)-(y:Int))=((q+m-y:Nat):Int):=by rw[Gy (by omega) (by omega)];omega
 have first:(Option.bind (bif decide ((m:Int)>(q:Int))then some (IntKind.wrap .i64 (((q+m:Nat):Int)-(b:Int)),(q:Int))else some ((a:Int),(m:Int)):Option (Int×Int)) fun s5=>Gi (P++(L++(R++Q))) o n (a:Int) (m:Int) (b:Int) t IB s5)=Gj (P++(L++(R++Q))) o n (a:Int) (m:Int) (b:Int) t IB (y:Int):=by
  unfold Gi
  by_cases h:m>q
  ·rw[if_pos h,if_pos h]at hy
   simp only[decide_eq_true (show(m:Int)>(q:Int) by omega),cond_true,Aa]
   rw[show IntKind.wrap .i64 (((q+m:Nat):Int)-(b:Int))=((q+m-b:Nat):Int) by rw[Gy (by omega) (by omega)];omega,hy]
   rfl
  ·rw[if_neg h,if_neg h]at hy
   simp only[decide_eq_false (show ¬(m:Int)>(q:Int) by omega),cond_false,Aa]
   rw[hy]
   rfl
 unfold BD Ez Gg
 rw[show(IntKind.wrap .i64 ((m:Int)-(a:Int))==1)=false by rw[Gy (by omega) (by omega)];simp;omega,show(IntKind.wrap .i64 ((b:Int)-(m:Int))==1)=false by rw[Gy (by omega) (by omega)];simp;omega]
 simp only[cond_false,Aa,hm1,hm2]
 rw[first]
 have rot:(Option.bind (bif decide ((y:Int)<(m:Int))then some (decide ((m:Int)<((q+m-y:Nat):Int)))else some false) fun Vv=>Gc (P++(L++(R++Q))) o n (a:Int) (m:Int) (b:Int) t (y:Int) Vv)=some (P++(L1++(R1++(L2++(R2++Q))))):=by
  rw[iI,Aa]
  unfold Gc
  simp only[hm1,hm2,hm3]
  by_cases h:(y:Int)<(m:Int)/\(m:Int)<((q+m-y:Nat):Int)
  ·rw[decide_eq_true h,cond_true]
   have:=Ad6 t o n y m (q+m-y) (P++L1) L2 R1 (R2++Q) (by simp;omega) (by omega) (by omega) (by omega) (by omega) (by omega) hn
   have e:P++(L++(R++Q))=P++L1++(L2++(R1++(R2++Q))):=by rw[eL,eR];simp
   rw[e,this,Aa,if_pos (by simp;omega)]
   simp
  ·rw[decide_eq_false h,cond_false]
   have:L2= []∨R1= []:=by
       by_cases hh:y<m
       ·exact .inr (List.eq_nil_of_length_eq_zero (by omega))
       ·exact .inl (List.eq_nil_of_length_eq_zero (by omega))
   rcases this with h|h<;>rw[eL,eR,h]<;>simp
 unfold Gj
 simp only[hm1,hm2,hm3]
 rw[rot,Aa]
 unfold IV
 simp only[hm1,hm2,hm3,iI,Aa]
 have goal:CJ c (L++R)=CJ c (L1++R1)++CJ c (L2++R2):=by rw[eL,eR];exact(vB sL sR hx1 hx2).symm
 have st1:OKr tot (Gb o n (a:Int) (b:Int) t IB (y:Int) (P++(L1++(R1++(L2++(R2++Q))))) (decide ((a:Int)<(y:Int)/\(y:Int)<(q:Int)))) (P++(CJ c (L1++R1)++(L2++(R2++Q)))):=by
  unfold Gb
  rw[hm1]
  by_cases h:(a:Int)<(y:Int)/\(y:Int)<(q:Int)
  ·rw[decide_eq_true h,cond_true]
   refine(hrec P L1 R1 (L2++(R2++Q)) a y q hP (by omega) (by omega) (by omega) (by omega) (by omega) (by omega) sL.left sR.left).bind ?_
   rw[if_pos (by simp[DX];omega)]
   exact .inl rfl
  ·rw[decide_eq_false h,cond_false]
   have:L1= []∨R1= []:=by
       by_cases hh:a<y
       ·exact .inr (List.eq_nil_of_length_eq_zero (by omega))
       ·exact .inl (List.eq_nil_of_length_eq_zero (by omega))
   have hs:CJ c (L1++R1)=L1++R1:=by
       rcases this with h|h
       ·rw[h];exact ZN sR.left
       ·rw[h,List.append_nil];exact ZN sL.left
   rw[hs]
   exact .inl (by simp)
 refine st1.bind ?_
 unfold IW
 simp only[hm1,hm2,hm3,iI,Aa]
 unfold IX
 simp only[hm1,hm2,hm3]
 by_cases h:(q:Int)<((q+m-y:Nat):Int)/\((q+m-y:Nat):Int)<(b:Int)
 ·rw[decide_eq_true h,cond_true]
  have:=hrec (P++CJ c (L1++R1)) L2 R2 Q q (q+m-y) b (by simp[DX];omega) (by omega) (by omega) (by omega) (by omega) (by omega) (by omega) sL.right sR.right
  rw[List.append_assoc]at this
  refine this.bind ?_
  rw[if_pos (by simp[DX];omega),goal]
  exact .inl (by simp)
 ·rw[decide_eq_false h,cond_false,goal]
  have:L2= []∨R2= []:=by
   by_cases hh:q<q+m-y
   ·exact .inr (List.eq_nil_of_length_eq_zero (by omega))
   ·exact .inl (List.eq_nil_of_length_eq_zero (by omega))
  have hs:CJ c (L2++R2)=L2++R2:=by
   rcases this with h|h
   ·rw[h];exact ZN sR.right
   ·rw[h,List.append_nil];exact ZN sL.right
  rw[hs]
  exact .inl (by simp)
theorem Ag0 {t:Ab} {c:Int->Int} (hk:RZ t c) (o n:Nat) (hn:n<1000000000000): ∀(tot:Bool) (N:Nat) (P L R Q:List Int) (a m b:Nat),P.length=o+a->a+L.length=m->m+R.length=b->0<L.length->0<R.length->b<=n->(tot=true->b-a<=N)->QT c L->QT c R->
  OKr tot (Bu N (P++(L++(R++Q))) o n (a:Int) (m:Int) (b:Int) t) (P++(CJ c (L++R)++Q)):=by
 intro tot N
 induction N with
 |zero=>
  intro P L R Q a m b hP hL hR h0 h1 hb hN sL sR
  cases tot with
  |true=>have:=hN rfl;omega
  |false=>exact .inr ⟨rfl,rfl⟩
 |succ N ih=>
  intro P L R Q a m b hP hL hR h0 h1 hb hN sL sR
  exact AgX hk (Bu N) tot o n (b-a) hn (fun P L R Q a' m' b' g1 g2 g3 g4 g5 g6 g7 g8 g9=>ih P L R Q a' m' b' g1 g2 g3 g4 g5 g6 (fun ht=>by have:=hN ht;omega) g8 g9) P L R Q a m b hP hL hR h0 h1 hb (Nat.le_refl _) sL sR
theorem AgY {t:Ab} {c:Int->Int} (hk:RZ t c) (o n:Nat) (hn:n<1000000000000) (P L R Q:List Int) (a m b:Nat) (hP:P.length=o+a) (hL:a+L.length=m) (hR:m+R.length=b) (h0:0<L.length) (h1:0<R.length) (hb:b<=n) (sL:QT c L) (sR:QT c R):
  CY (P++(L++(R++Q))) o n (a:Int) (m:Int) (b:Int) t=some (P++(CJ c (L++R)++Q)):=by
 unfold CY
 split
 ·rename_i y hy
  rcases Ag0 hk o n hn false 3 P L R Q a m b hP hL hR h0 h1 hb (fun h=>by cases h) sL sR with h|⟨_,h⟩
  ·rw[h]at hy;rw[<- hy]
  ·rw[h]at hy;cases hy
 have ex: ∃N,(Bu N (P++(L++(R++Q))) o n (a:Int) (m:Int) (b:Int) t).isSome=true:=by
  refine⟨b-a,?_⟩
  rcases Ag0 hk o n hn true (b-a) P L R Q a m b hP hL hR h0 h1 hb (fun _=>Nat.le_refl _) sL sR with h|⟨h,_⟩
  ·rw[h];rfl
  ·cases h
 rw[dif_pos ex]
 have hs:=Classical.choose_spec ex
 rcases Ag0 hk o n hn false (Classical.choose ex) P L R Q a m b hP hL hR h0 h1 hb (fun h=>by cases h) sL sR with h|⟨_,h⟩
 ·exact h
 ·rw[h]at hs;cases hs
set_option maxHeartbeats 1000000
def cs (c:Int->Int) (bs:Nat) (M:List Int):List Int:=if h:bs=0∨M.length<=bs then CJ c M else CJ c (M.take bs)++cs c bs (M.drop bs)
termination_by M.length
decreasing_by simp;omega
variable {c:Int->Int}
theorem OX {bs:Nat} {M:List Int} (h:M.length<=bs):cs c bs M=CJ c M:=by rw[cs,dif_pos (.inr h)]
theorem jH {bs:Nat} {T1 T:List Int} (h0:0<bs) (h:T1.length=bs):cs c bs (T1++T)=CJ c T1++cs c bs T:=by
 by_cases hT:T= []
 ·subst hT
  rw[List.append_nil,OX (by omega),OX (M:= []) (by simp)]
  simp[CJ]
 ·have:0<T.length:=List.length_pos_iff.2 hT
  rw[cs,dif_neg (by simp;omega)]
  have e1:(T1++T).take bs=T1:=by rw[<- h];simp
  have e2:(T1++T).drop bs=T:=by rw[<- h];simp
  rw[e1,e2]
theorem wU {t:Ab} (hk:RZ t c) (o n N:Nat) (hn:n<1000000000000) (hN:N<=n) (P Q:List Int) (hP:P.length=o): ∀(k:Nat) (T D:List Int) (a:Nat),T.length<=k->D.length=a->a+T.length=N->
  ∃(D' T':List Int) (a':Nat),iter (BJ o n (N:Int) t) (P++(D++(T++Q)),(a:Int),((a+20:Nat):Int))=some (P++(D'++(T'++Q)),(a':Int))/\D'.length=a'/\a'+T'.length=N/\D'++CJ c T'=D++cs c 20 T:=by
 intro k
 induction k with
 |zero=>
  intro T D a h1 h2 h3
  refine⟨D,T,a,?_,h2,h3,by rw[OX (by omega)]⟩
  have body:BJ o n (N:Int) t (P++(D++(T++Q)),(a:Int),((a+20:Nat):Int))=some (.done (P++(D++(T++Q)),(a:Int))):=by
   unfold BJ
   simp only[decide_eq_false (show ¬((a+20:Nat):Int)<=(N:Int) by omega),cond_false]
  rw[BL,body]
 |succ k ih=>
  intro T D a h1 h2 h3
  by_cases hb:a+20<=N
  ·obtain⟨T1,T2,rfl,hl⟩: ∃T1 T2,T=T1++T2/\T1.length=20:=⟨T.take 20,T.drop 20,(List.take_append_drop _ _).symm,by simp;omega⟩
   have hlen:(T1++T2).length=T1.length+T2.length:=by simp
   have ins:=Y8 hk o n a (a+20) (P++D) T1 (T2++Q) (by simp;omega) hn (by omega) (by omega)
   have body:BJ o n (N:Int) t (P++(D++(T1++T2++Q)),(a:Int),((a+20:Nat):Int))=some (.next (P++((D++CJ c T1)++(T2++Q)),((a+20:Nat):Int),((a+20+20:Nat):Int))):=by
    unfold BJ
    have e:P++(D++(T1++T2++Q))=P++D++(T1++(T2++Q)):=by simp
    rw[e]
    simp only[decide_eq_true (show((a+20:Nat):Int)<=(N:Int) by omega),cond_true]
    rw[ins,Aa,if_pos (by simp[DX]),Gy (x:=((a+20:Nat):Int)+20) (by omega) (by omega)]
    simp
   obtain⟨D',T',a',g1,g2,g3,g4⟩:=ih T2 (D++CJ c T1) (a+20) (by omega) (by simp[DX];omega) (by omega)
   refine⟨D',T',a',by rw[BL,body];exact g1,g2,g3,?_⟩
   rw[g4,jH (by omega) hl,List.append_assoc]
  ·refine⟨D,T,a,?_,h2,h3,by rw[OX (by omega)]⟩
   have body:BJ o n (N:Int) t (P++(D++(T++Q)),(a:Int),((a+20:Nat):Int))=some (.done (P++(D++(T++Q)),(a:Int))):=by
    unfold BJ
    simp only[decide_eq_false (show ¬((a+20:Nat):Int)<=(N:Int) by omega),cond_false]
   rw[BL,body]
theorem AdW {t:Ab} (hk:RZ t c) (o n N bs:Nat) (hn:n<1000000000000) (hN:N<=n) (h0:0<bs) (hbs:bs<N) (P Q:List Int) (hP:P.length=o) (s5:List Int×Int) (h5:s5.2=(bs:Int)): ∀(k:Nat) (T D:List Int) (a:Nat),T.length<=k->D.length=a->a+T.length=N->
  ∃(D' T':List Int) (a':Nat),iter (BI o n (N:Int) t s5) (P++(D++(cs c bs T++Q)),(a:Int),((a+2*bs:Nat):Int))=some (P++(D'++(cs c bs T'++Q)),(a':Int))/\D'.length=a'/\a'+T'.length=N/\T'.length<2*bs/\D'++CJ c T'=D++cs c (2*bs) T:=by
 intro k
 induction k with
 |zero=>
  intro T D a h1 h2 h3
  refine⟨D,T,a,?_,h2,h3,by omega,by rw[OX (by omega)]⟩
  have body:BI o n (N:Int) t s5 (P++(D++(cs c bs T++Q)),(a:Int),((a+2*bs:Nat):Int))=some (.done (P++(D++(cs c bs T++Q)),(a:Int))):=by
   unfold BI
   simp only[decide_eq_false (show ¬((a+2*bs:Nat):Int)<=(N:Int) by omega),cond_false]
  rw[BL,body]
 |succ k ih=>
  intro T D a h1 h2 h3
  by_cases hb:a+2*bs<=N
  ·obtain⟨T1,U,rfl,hl1⟩: ∃T1 T2,T=T1++T2/\T1.length=bs:=⟨T.take bs,T.drop bs,(List.take_append_drop _ _).symm,by simp;omega⟩
   have hlen:(T1++U).length=T1.length+U.length:=by simp
   obtain⟨T2,T3,rfl,hl2⟩: ∃T2 T3,U=T2++T3/\T2.length=bs:=⟨U.take bs,U.drop bs,(List.take_append_drop _ _).symm,by simp;omega⟩
   have Alq:(T2++T3).length=T2.length+T3.length:=by simp
   have sm:=AgY hk o n hn (P++D) (CJ c T1) (CJ c T2) (cs c bs T3++Q) a (a+bs) (a+2*bs) (by simp;omega) (by rw[DX];omega) (by rw[DX];omega) (by rw[DX];omega) (by rw[DX];omega) (by omega) (Mk T1) (Mk T2)
   have body:BI o n (N:Int) t s5 (P++(D++(cs c bs (T1++(T2++T3))++Q)),(a:Int),((a+2*bs:Nat):Int))=some (.next (P++((D++CJ c (T1++T2))++(cs c bs T3++Q)),((a+2*bs:Nat):Int),((a+2*bs+2*bs:Nat):Int))):=by
    unfold BI
    have e:P++(D++(cs c bs (T1++(T2++T3))++Q))=P++D++(CJ c T1++(CJ c T2++(cs c bs T3++Q))):=by rw[jH h0 hl1,jH h0 hl2];simp
    rw[e]
    simp only[decide_eq_true (show((a+2*bs:Nat):Int)<=(N:Int) by omega),cond_true,h5]
    rw[show IntKind.wrap .i64 ((a:Int)+(bs:Int))=((a+bs:Nat):Int) by rw[Gy (by omega) (by omega)];omega,sm,Aa,if_pos (by simp[DX];omega),nC]
    rw[show IntKind.wrap .i64 (((a+2*bs:Nat):Int)+IntKind.wrap .i64 (2*(bs:Int)))=((a+2*bs+2*bs:Nat):Int) by rw[Gy (x:=2*(bs:Int)) (by omega) (by omega),Gy (by omega) (by omega)];omega]
    simp
   obtain⟨D',T',a',g1,g2,g3,g4,g5⟩:=ih T3 (D++CJ c (T1++T2)) (a+2*bs) (by omega) (by simp[DX];omega) (by omega)
   refine⟨D',T',a',by rw[BL,body];exact g1,g2,g3,g4,?_⟩
   rw[g5,<- List.append_assoc T1,jH (T1:=T1++T2) (by omega) (by simp;omega),List.append_assoc]
  ·refine⟨D,T,a,?_,h2,h3,by omega,by rw[OX (by omega)]⟩
   have body:BI o n (N:Int) t s5 (P++(D++(cs c bs T++Q)),(a:Int),((a+2*bs:Nat):Int))=some (.done (P++(D++(cs c bs T++Q)),(a:Int))):=by
    unfold BI
    simp only[decide_eq_false (show ¬((a+2*bs:Nat):Int)<=(N:Int) by omega),cond_false]
   rw[BL,body]
theorem xR {t:Ab} (hk:RZ t c) (o n N bs:Nat) (hn:n<1000000000000) (hN:N<=n) (h0:0<bs) (hbs:bs<N) (P M Q:List Int) (hP:P.length=o) (hM:M.length=N):
  Cc o n (N:Int) t (P++(cs c bs M++Q),(bs:Int))=some (.next (P++(cs c (2*bs) M++Q),((2*bs:Nat):Int))):=by
 obtain⟨D',T',a',g1,g2,g3,g4,g5⟩:=AdW hk o n N bs hn hN h0 hbs P Q hP (P++(cs c bs M++Q),(bs:Int)) rfl M.length M [] 0 (Nat.le_refl _) rfl (by omega)
 simp only[List.nil_append,Nat.zero_add]at g1 g5
 unfold Cc
 simp only[decide_eq_true (show(bs:Int)<(N:Int) by omega),cond_true]
 rw[show IntKind.wrap .i64 (2*(bs:Int))=((2*bs:Nat):Int) by rw[Gy (by omega) (by omega)];omega]
 rw[show((0:Nat):Int)=0 from rfl]at g1
 rw[g1,Aa]
 unfold JH
 simp only
 rw[show IntKind.wrap .i64 ((a':Int)+(bs:Int))=((a'+bs:Nat):Int) by rw[Gy (by omega) (by omega)];omega,show IntKind.wrap .i64 ((bs:Int)*2)=((2*bs:Nat):Int) by rw[Gy (by omega) (by omega)];omega]
 by_cases h:a'+bs<N
 ·obtain⟨T1,T2,rfl,hl1⟩: ∃T1 T2,T'=T1++T2/\T1.length=bs:=⟨T'.take bs,T'.drop bs,(List.take_append_drop _ _).symm,by simp;omega⟩
  have hlen:(T1++T2).length=T1.length+T2.length:=by simp
  have sm:=AgY hk o n hn (P++D') (CJ c T1) (CJ c T2) Q a' (a'+bs) N (by simp;omega) (by rw[DX];omega) (by rw[DX];omega) (by rw[DX];omega) (by rw[DX];omega) (by omega) (Mk T1) (Mk T2)
  have e:P++(D'++(cs c bs (T1++T2)++Q))=P++D'++(CJ c T1++(CJ c T2++Q)):=by rw[jH h0 hl1,OX (M:=T2) (by omega)];simp
  simp only[decide_eq_true (show((a'+bs:Nat):Int)<(N:Int) by omega),cond_true]
  rw[e,sm,Aa,if_pos (by simp[DX];omega),nC,<- g5]
  simp
 ·simp only[decide_eq_false (show ¬((a'+bs:Nat):Int)<(N:Int) by omega),cond_false]
  rw[OX (by omega),<- g5]
  simp
theorem xQ {t:Ab} (hk:RZ t c) (o n N:Nat) (hn:n<1000000000000) (hN:N<=n) (P M Q:List Int) (hP:P.length=o) (hM:M.length=N): ∀(k bs:Nat),0<bs->N-bs<=k->
  iter (Cc o n (N:Int) t) (P++(cs c bs M++Q),(bs:Int))=some (P++(CJ c M++Q)):=by
 intro k
 have stop: ∀bs,N<=bs->iter (Cc o n (N:Int) t) (P++(cs c bs M++Q),(bs:Int))=some (P++(CJ c M++Q)):=fun bs h=>by
  have body:Cc o n (N:Int) t (P++(cs c bs M++Q),(bs:Int))=some (.done (P++(cs c bs M++Q))):=by
   unfold Cc
   simp only[decide_eq_false (show ¬(bs:Int)<(N:Int) by omega),cond_false]
  rw[BL,body,OX (by omega)]
 induction k with
 |zero=>intro bs h0 h;exact stop bs (by omega)
 |succ k ih=>
  intro bs h0 h
  by_cases hb:N<=bs
  ·exact stop bs hb
  ·rw[BL,xR hk o n N bs hn hN h0 (by omega) P M Q hP hM]
   exact ih (2*bs) (by omega) (by omega)
theorem pF {t:Ab} (hk:RZ t c) (o:Nat) (P M Q:List Int) (hP:P.length=o) (hn:M.length<1000000000000):
  En (P++(M++Q)) o M.length t=some (P++(CJ c M++Q)):=by
 obtain⟨D',T',a',g1,g2,g3,g4⟩:=wU hk o M.length M.length hn (Nat.le_refl _) P Q hP M.length M [] 0 (Nat.le_refl _) rfl (by omega)
 simp only[List.nil_append,Nat.zero_add]at g1 g4
 rw[show((0:Nat):Int)=0 from rfl,show((20:Nat):Int)=20 from rfl]at g1
 unfold En HY
 rw[g1,Aa]
 unfold JG
 simp only
 have ins:=Y8 hk o M.length a' M.length (P++D') T' Q (by simp;omega) hn (Nat.le_refl _) g3
 rw[<- List.append_assoc P D',ins,Aa,if_pos (by simp[DX])]
 have:=xQ hk o M.length M.length hn (Nat.le_refl _) P M Q hP rfl M.length 20 (by omega) (by omega)
 rw[show P++D'++(CJ c T'++Q)=P++(cs c 20 M++Q) by rw[<- g4];simp]
 rw[show((20:Nat):Int)=20 from rfl]at this
 rw[this,Aa,Aa,if_pos (by simp[DX])]
theorem AiG (n:Int) (h0:0<=n) (h1:n<11172) (t:Ab):Lx t (44032+n)=some (if n%28>0 then [4352+n/588,4449+n/28%21,4519+n%28]else [4352+n/588,4449+n/28%21]):=by
 unfold Lx
 have hc:dM (44032+n)=4:=by
  unfold dM
  rw[if_neg (by omega),if_neg (by omega),if_neg (by omega),if_pos (by omega)]
 have e0:IntKind.wrap .i64 ((IntKind.wrap .i64 (44032+n))-44032)=n:=by
  rw[Gy (x:=44032+n) (by omega) (by omega),Gy (by omega) (by omega)];omega
 rw[YV,Aa,hc]
 simp only[beq_self_eq_true,cond_true,e0]
 rw[Int.tmod_eq_emod_of_nonneg h0,Int.tdiv_eq_ediv_of_nonneg h0,Int.tdiv_eq_ediv_of_nonneg h0,Gy (x:=n/588) (by omega) (by omega),Gy (x:=n/28) (by omega) (by omega),Int.tmod_eq_emod_of_nonneg (a:=n/28) (by omega)]
 rw[Gy (x:=4352+n/588) (by omega) (by omega),w32 (x:=4352+n/588) (by omega) (by omega),Gy (x:=4449+n/28%21) (by omega) (by omega),w32 (x:=4449+n/28%21) (by omega) (by omega),Gy (x:=4519+n%28) (by omega) (by omega),w32 (x:=4519+n%28) (by omega) (by omega)]
 by_cases h:n%28>0
 ·rw[if_pos h,decide_eq_true h];rfl
 ·rw[if_neg h,decide_eq_false h];rfl
theorem jQ (l:List Int) (i k:Nat) (v:Int) (hi:i<l.length):(l.set i v).getD k 0=if k=i then v else l.getD k 0:=by
 by_cases h:k=i
 ·subst h;simp[List.getD_eq_getElem?_getD,hi]
 ·rw[if_neg h];simp[List.getD_eq_getElem?_getD,List.getElem?_set,Ne.symm h]
theorem AgE (l:List Int) (hl:l.length<=1000): ∀(d i:Nat) (s:List Int) (j:Int),(i:Int)+j=(l.length:Int)-1->j-i<=d->s.length=l.length->(∀k,k<l.length->s.getD k 0=if k<i∨j<(k:Int)then l.getD (l.length-1-k) 0 else l.getD k 0)->
  iter (DN) (s,(i:Int),j)=some l.reverse:=by
 intro d
 induction d with
 |zero=>
  intro i s j hij hd hs hk
  refine Ay ?_
  unfold DN
  simp only
  rw[decide_eq_false (by omega),cond_false]
  congr 2
  refine List.ext_getElem (by simp[hs]) fun k h1 h2=>?_
  have:=hk k (by omega)
  have e1:s.getD k 0=s[k]:=by simp[List.getD_eq_getElem?_getD,h1]
  rw[e1]at this
  rw[this,List.getElem_reverse]
  have e2: ∀q,(hq:q<l.length)->l.getD q 0=l[q]:=fun q hq=>by simp[List.getD_eq_getElem?_getD,hq]
  split
  ·rw[e2 _ (by omega)]
  ·rw[e2 _ (by omega)]
   congr 1
   omega
 |succ d ih=>
  intro i s j hij hd hs hk
  by_cases hlt:(i:Int)<j
  ·obtain⟨m,rfl⟩: ∃m:Nat,j=m:=⟨j.toNat,by omega⟩
   have step:DN (s,(i:Int),(m:Int))=some (.next ((s.set i (s.getD m 0)).set m (s.getD i 0),((i+1:Nat):Int),((m-1:Nat):Int))):=by
    unfold DN
    simp only[Int.toNat_natCast]
    rw[decide_eq_true hlt,cond_true,if_pos ⟨by omega,by omega⟩,if_pos ⟨by omega,by omega⟩,if_pos ⟨by omega,by omega⟩,if_pos ⟨by omega,by omega⟩,up (by omega),down (by omega) (by omega)]
   rw[Bh step]
   refine ih (i+1) _ _ (by omega) (by omega) (by simp[hs]) fun k hkl=>?_
   rw[jQ _ _ _ _ (by simp;omega),jQ _ _ _ _ (by omega)]
   have hi:=hk i (by omega)
   have hm:=hk m (by omega)
   have hkk:=hk k hkl
   rw[if_neg (by omega)]at hi
   rw[if_neg (by omega)]at hm
   by_cases e1:k=m
   ·subst e1
    rw[if_pos rfl,if_pos (.inr (by omega)),hi]
    congr 1;omega
   ·rw[if_neg e1]
    by_cases e2:k=i
    ·subst e2
     rw[if_pos rfl,if_pos (.inl (by omega)),hm]
     congr 1;omega
    ·rw[if_neg e2,hkk]
     by_cases e3:k<i∨(m:Int)<(k:Int)
     ·rw[if_pos e3,if_pos (by omega)]
     ·rw[if_neg e3,if_neg (by omega)]
  ·exact ih i s j hij (by omega) hs hk
theorem rev_eq (l:List Int) (hl:l.length<=1000):F7 l=some l.reverse:=by
 unfold F7
 rw[Gy (by omega) (by omega),show(0:Int)=((0:Nat):Int) from rfl,AgE l hl l.length 0 l ((l.length:Int)-1) (by omega) (by omega) rfl fun k hk=>by rw[if_neg (by omega)]]
 rfl
structure Sound (t:Ab):Prop where
 len:t.Ad.length<=2000
 row: ∀i,i<t.Ad.length->OJ t i=0
 deep: ∀i,i<t.Ad.length->OY t 8 (i:Int)=false
theorem Sound.of {t:Ab} (h:gP t):Sound t where
 len:=h.rows
 row i hi:=by
  have:=h.row i hi
  rw[Xk]at this
  by_cases h0:OJ t i=0
  ·exact h0
  ·rw[if_pos h0]at this;exact absurd this h0
 deep i hi:=by
  have:=h.row i hi
  rw[Xk]at this
  by_cases h0:OJ t i=0
  ·rw[if_neg (fun h=>h h0)]at this
   cases hd:OY t 8 (i:Int)with
   |false=>rfl
   |true=>
    have:dI t i=true:=by unfold dI;rw[hd,Bool.or_true]
    simp_all
  ·rw[if_pos h0]at this;exact absurd this h0
theorem Sound.rising {t:Ab} (h:Sound t):iA t:=by
 have:=Wx (Nat.le_refl t.Ad.length) h.row
 have e:(lead t t.Ad.length).Ad=t.Ad:=by simp[lead]
 intro i j hij hj
 have q:=this i j hij (by rw[e];exact hj)
 rwa[e]at q
theorem Sound.ahead {t:Ab} (h:Sound t) {k:Nat} (hk:k<t.Ad.length):G9 t ((t.Ad.getD k Ac).Bp.getD 0 0)=Uh t k:=by
 have:=kS (Nat.le_refl t.Ad.length) h.row hk
 have e:(lead t t.Ad.length).Ad=t.Ad:=by simp[lead]
 unfold G9 at this ⊢
 rwa[e]at this
theorem rD (t:Ab) (r:Int):G9 t r<t.Ad.length/\ -1<=G9 t r:=by
 unfold G9
 cases hf:Am (fun i=>if(t.Ad.getD i Ac).Bd=r then some (i:Int)else none) t.Ad.length 0 with
 |none=>simp only[Option.getD_none];omega
 |some v=>
  obtain⟨j,_,h2,hj,_⟩:=Br hf
  split at hj
  ·cases hj;simp only[Option.getD_some];omega
  ·cases hj
theorem Ag3 {t:Ab} {k:Nat} (h:OJ t k=0): ¬(44032<=(t.Ad.getD k Ac).Bp.getD 0 0/\(t.Ad.getD k Ac).Bp.getD 0 0<=55203):=by
 have hto:=QA h
 have hb:=List.any_eq_false.1 hto.2.2.1 _ (Fe (d:=(0:Int)) (i:=0) (by omega))
 intro ⟨h1,h2⟩
 apply hb
 unfold Rh TH
 rw[decide_eq_true (show(t.Ad.getD k Ac).Bp.getD 0 0>=44032 from h1),decide_eq_true h2]
 simp
theorem Ac6 {t:Ab} (h:Sound t): ∀(m:Nat) (r:Int),m<=100-> ¬(44032<=r/\r<=55203)->OY t m (G9 t r)=false->
  ∃(r':Int) (B:List Int),B.length<=m/\(∀fuel,m+1<=fuel->Dp t fuel r=some ([r']++B.reverse))/\
   (∀(n:Nat) (back:List Int),n+m<=9->back.length+m<=1000->iter (Hq t) (r,back,(n:Int))=some (r',back++B)):=by
 have stop: ∀(m:Nat) (r:Int),¬(44032<=r/\r<=55203)->G9 t r<0->
   ∃(r':Int) (B:List Int),B.length<=m/\(∀fuel,m+1<=fuel->Dp t fuel r=some ([r']++B.reverse))/\
    (∀(n:Nat) (back:List Int),n+m<=9->back.length+m<=1000->iter (Hq t) (r,back,(n:Int))=some (r',back++B)):=fun m r hs hneg=>by
  refine⟨r,[],by simp,fun fuel hf=>?_,fun n back hn _=>?_⟩
  ·obtain⟨f,rfl⟩: ∃f,fuel=f+1:=⟨fuel-1,by omega⟩
   rw[Dp,if_neg hs,Xl t r h.len,Aa,if_pos hneg]
   rfl
  ·rw[List.append_nil]
   refine Ay ?_
   unfold Hq Nq
   simp only
   by_cases h9:(n:Int)<=8
   ·rw[decide_eq_true h9,cond_true,YU t r h.len h.rising,Aa,decide_eq_true hneg];rfl
   ·rw[decide_eq_false h9];rfl
 intro m
 induction m with
 |zero=>
  intro r hm hs hd
  refine stop 0 r hs ?_
  simpa[OY]using hd
 |succ m ih=>
  intro r hm hs hd
  by_cases hneg:G9 t r<0
  ·exact stop (m+1) r hs hneg
  ·obtain⟨j,hj⟩: ∃j:Nat,G9 t r=j:=⟨(G9 t r).toNat,by omega⟩
   have hjl:j<t.Ad.length:=by have:=(rD t r).1;omega
   have hto:=QA (h.row j hjl)
   rw[hj,OY,if_neg (by omega),Int.toNat_natCast,<- h.ahead hjl]at hd
   obtain⟨r',B1,hB,hR,hP⟩:=ih _ (by omega) (Ag3 (h.row j hjl)) hd
   by_cases h2:(t.Ad.getD j Ac).Bp.length=2
   ·refine⟨r',(t.Ad.getD j Ac).Bp.getD 1 0::B1,by simp;omega,fun fuel hf=>?_,fun n back hn hb=>?_⟩
    ·obtain⟨f,rfl⟩: ∃f,fuel=f+1:=⟨fuel-1,by omega⟩
     rw[Dp,if_neg hs,Xl t r h.len,Aa,hj,if_neg (by omega),if_pos (by omega),Int.toNat_natCast,if_pos (by omega),hR f (by omega),Aa,if_pos h2,if_pos (by simp;omega)]
     simp
    ·have step:Hq t (r,back,(n:Int))=some (.next ((t.Ad.getD j Ac).Bp.getD 0 0,back++ [(t.Ad.getD j Ac).Bp.getD 1 0],((n+1:Nat):Int))):=by
          unfold Hq Nq
          simp only
          rw[decide_eq_true (by omega),cond_true,YU t r h.len h.rising,Aa,hj,decide_eq_false (by omega),cond_false,if_pos ⟨by omega,by omega⟩,Aa,if_pos ⟨by omega,by omega⟩]
          simp only[Int.toNat_natCast]
          rw[beq_false_of_ne (show(((t.Ad.getD j Ac).Bp.length:Nat):Int)≠0 by omega),cond_false,show(((t.Ad.getD j Ac).Bp.length:Nat):Int)==2 from by rw[h2];rfl,cond_true,if_pos ⟨by omega,by omega⟩,if_pos (by omega),if_pos ⟨by omega,by omega⟩,up (by omega)]
     rw[Bh step,hP (n+1) _ (by omega) (by simp;omega)]
     simp
   ·refine⟨r',B1,by omega,fun fuel hf=>?_,fun n back hn hb=>?_⟩
    ·obtain⟨f,rfl⟩: ∃f,fuel=f+1:=⟨fuel-1,by omega⟩
     rw[Dp,if_neg hs,Xl t r h.len,Aa,hj,if_neg (by omega),if_pos (by omega),Int.toNat_natCast,if_pos (by omega),hR f (by omega),Aa,if_neg h2]
    ·have step:Hq t (r,back,(n:Int))=some (.next ((t.Ad.getD j Ac).Bp.getD 0 0,back,((n+1:Nat):Int))):=by
          unfold Hq Nq
          simp only
          rw[decide_eq_true (by omega),cond_true,YU t r h.len h.rising,Aa,hj,decide_eq_false (by omega),cond_false,if_pos ⟨by omega,by omega⟩,Aa,if_pos ⟨by omega,by omega⟩]
          simp only[Int.toNat_natCast]
          rw[beq_false_of_ne (show(((t.Ad.getD j Ac).Bp.length:Nat):Int)≠0 by omega),cond_false,beq_false_of_ne (show(((t.Ad.getD j Ac).Bp.length:Nat):Int)≠2 by omega),cond_false,if_pos ⟨by omega,by omega⟩,up (by omega)]
     rw[Bh step,hP (n+1) _ (by omega) (by omega)]
theorem Ain {t:Ab} (h:Sound t) (r:Int): ∃l:List Int,l.length<=100/\Lx t r=some l/\MB t r=some l:=by
 unfold MB
 by_cases hs:44032<=r/\r<=55203
 ·have h1:=AiG (r-44032) (by omega) (by omega) t
  rw[show 44032+(r-44032)=r by omega]at h1
  refine⟨_,?_,h1,?_⟩
  ·split<;>simp
  ·rw[show(50:Nat)=49+1 from rfl,Dp,if_pos hs]
 ·have hd:OY t 8 (G9 t r)=false:=by
   by_cases hneg:G9 t r<0
   ·rw[OY,if_pos hneg]
   ·obtain⟨j,hj⟩: ∃j:Nat,G9 t r=j:=⟨(G9 t r).toNat,by omega⟩
    rw[hj]
    exact h.deep j (by have:=(rD t r).1;omega)
  obtain⟨r',B,hB,hR,hP⟩:=Ac6 h 8 r (by omega) hs hd
  have hp:=hP 0 [] (by omega) (by simp)
  refine⟨[r']++B.reverse,by simp;omega,?_,hR 50 (by omega)⟩
  unfold Lx
  have hc:(dM r==4)=false:=by
   refine beq_false_of_ne ?_
   unfold dM
   repeat' split
   all_goals omega
  rw[YV,Aa,hc,cond_false,show(0:Int)=((0:Nat):Int) from rfl,hp,Aa]
  unfold VK
  simp only[List.nil_append]
  rw[rev_eq B (by omega),Aa,if_pos (by simp),if_pos (by omega)]
set_option maxHeartbeats 1000000
section
variable (c:Int->Int)
def XL:List Int->List Int->List Int
 |run,[]=>CJ c run
 |run,z::l=>if 0<c z then XL (run++ [z]) l else CJ c run++z::XL [] l
def lJ (l:List Int):List Int:=XL c [] l
end
variable {c:Int->Int}
theorem lI: ∀(run acc rest:List Int),(∀x∈run,0<c x)->XL c acc (run++rest)=XL c (acc++run) rest
 | [],acc,rest,_=>by simp
 |x::run,acc,rest,h=>by
  rw[List.cons_append,XL,if_pos (h x (by simp)),lI run _ _ fun y hy=>h y (by simp[hy])]
  simp
theorem lH: ∀(l acc:List Int),(XL c acc l).length=acc.length+l.length
 | [],acc=>by rw[XL,DX];rfl
 |z::l,acc=>by
  rw[XL]
  split
  ·rw[lH];simp;omega
  ·rw[List.length_append,DX,List.length_cons,lH];simp
theorem Agt (l:List Int):(lJ c l).length=l.length:=by rw[lJ,lH];simp
structure pK (t:Ab) (c:Int->Int):Prop where
 prog: ∀x,EF t x=some (c x)
 ref: ∀x,NG t x=some (c x)
 low: ∀x,0<=c x
 high: ∀x,c x<=999999
theorem pK.key {t:Ab} (h:pK t c):RZ t c:=fun a b=>by
 have ha:=h.low a
 have hb:=h.low b
 have ha':=h.high a
 have hb':=h.high b
 refine⟨c a-c b,?_,?_⟩
 ·unfold Ig
  rw[h.prog,h.prog,Aa,Aa,Gy (by omega) (by omega)]
 ·exact decide_eq_decide.2 (by omega)
theorem AgM {t:Ab} (h:pK t c) (s5:List Int×Int) (hn:s5.1.length<1000000000000): ∀(T D:List Int),s5.1=D++T->
  ∃run rest,T=run++rest/\(∀x∈run,0<c x)/\(∀z,rest.head?=some z-> ¬0<c z)/\iter (FM t s5) (D.length:Int)=some ((D.length+run.length:Nat):Int):=by
 intro T
 induction T with
 |nil=>
  intro D hs
  refine⟨[],[],rfl,fun x hx=>(by cases hx),fun z hz=>(by cases hz),?_⟩
  have body:FM t s5 (D.length:Int)=some (.done (D.length:Int)):=by
   unfold FM LA
   rw[hs]
   simp
  rw[BL,body]
  simp
 |cons z T ih=>
  intro D hs
  have hz:s5.1.getD D.length 0=z:=at_eq hs rfl
  have hlen:D.length<s5.1.length:=by rw[hs];simp
  by_cases hc:0<c z
  ·obtain⟨run,rest,h1,h2,h3,h4⟩:=ih (D++ [z]) (by rw[hs];simp)
   refine⟨z::run,rest,by rw[h1];rfl,fun x hx=>?_,h3,?_⟩
   ·rcases List.mem_cons.1 hx with rfl|hx
    ·exact hc
    ·exact h2 x hx
   ·have body:FM t s5 (D.length:Int)=some (.next ((D.length+1:Nat):Int)):=by
         unfold FM LA
         simp only[decide_eq_true (show(D.length:Int)<(s5.1.length:Int) by omega),cond_true,if_pos (show 0<=(D.length:Int)/\(D.length:Int)<(s5.1.length:Int) by omega),I5,hz,h.prog,Aa,decide_eq_true (show c z>0 from hc)]
         rw[up (by omega)]
    rw[BL,body]
    simp only
    rw[show(D++ [z]).length=D.length+1 by simp]at h4
    rw[h4]
    simp only[List.length_cons]
    congr 2
    omega
  ·refine⟨[],z::T,rfl,fun x hx=>(by cases hx),fun w hw=>(by cases hw;exact hc),?_⟩
   have body:FM t s5 (D.length:Int)=some (.done (D.length:Int)):=by
    unfold FM LA
    simp only[decide_eq_true (show(D.length:Int)<(s5.1.length:Int) by omega),cond_true,if_pos (show 0<=(D.length:Int)/\(D.length:Int)<(s5.1.length:Int) by omega),I5,hz,h.prog,Aa,decide_eq_false (show ¬c z>0 from hc),cond_false]
   rw[BL,body]
   simp
theorem Aee {t:Ab} (h:pK t c) (N:Nat) (hN:N<1000000000000): ∀(k:Nat) (T D:List Int),T.length<=k->(D++T).length=N->iter (GY t) (D++T,(D.length:Int))=some (D++lJ c T):=by
 intro k
 have Xg: ∀(D:List Int) (i:Nat),D.length=N->N<=i->iter (GY t) (D,(i:Int))=some D:=fun D i hl hi=>by
  have body:GY t (D,(i:Int))=some (.done D):=by
   unfold GY
   simp only[decide_eq_false (show ¬(i:Int)<(D.length:Int) by omega),cond_false]
  rw[BL,body]
 induction k with
 |zero=>
  intro T D hT hl
  have:T= []:=List.eq_nil_of_length_eq_zero (by omega)
  subst this
  rw[List.append_nil]at hl ⊢
  rw[Xg D D.length hl (by omega)]
  simp[lJ,XL,CJ]
 |succ k ih=>
  intro T D hT hl
  by_cases hT0:T= []
  ·subst hT0
   rw[List.append_nil]at hl ⊢
   rw[Xg D D.length hl (by omega)]
   simp[lJ,XL,CJ]
  have hpos:0<T.length:=List.length_pos_iff.2 hT0
  have hlen:(D++T).length=D.length+T.length:=by simp
  obtain⟨run,rest,rfl,h2,h3,h4⟩:=AgM h (D++T,(D.length:Int)) (by simp only;omega) T D rfl
  have Alq:(run++rest).length=run.length+rest.length:=by simp
  have so:=pF h.key D.length D run rest rfl (by omega)
  have body:GY t (D++(run++rest),(D.length:Int))=some (.next (D++(CJ c run++rest),((D.length+run.length+1:Nat):Int))):=by
   unfold GY
   simp only[decide_eq_true (show(D.length:Int)<((D++(run++rest)).length:Int) by omega),cond_true,h4,Aa]
   unfold TP
   simp only[I5]
   rw[if_pos (by omega),show D.length+run.length-D.length=run.length by omega,so,Aa,if_pos (by simp[DX]),up (by omega)]
  rw[BL,body]
  simp only
  cases rest with
  |nil=>
   rw[List.append_nil,List.append_nil]
   rw[Xg (D++CJ c run) _ (by simp[DX]at hl ⊢;omega) (by simp at hl;omega)]
   have e:=lI (c:=c) run [] [] h2
   simp only[List.append_nil,List.nil_append]at e
   rw[lJ,e,XL]
  |cons z r=>
   have hz:=h3 z rfl
   have:=ih r (D++CJ c run++ [z]) (by simp at hT;omega) (by simp[DX]at hl ⊢;omega)
   rw[show(D++CJ c run++ [z]).length=D.length+run.length+1 by simp[DX];omega]at this
   rw[show D++(CJ c run++z::r)=D++CJ c run++ [z]++r by simp,this]
   rw[lJ,lJ,lI run [] (z::r) h2,List.nil_append,XL,if_neg hz]
   simp
theorem Abw {t:Ab} (h:pK t c) (l:List Int) (hl:l.length<1000000000):Pg t l=some (lJ c l):=by
 unfold Pg Gw FB
 rw[if_pos (by omega),Aa]
 have:=Aee h l.length (by omega) l.length l [] (Nat.le_refl _) rfl
 simp only[List.nil_append,List.length_nil]at this
 rw[show((0:Nat):Int)=0 from rfl]at this
 rw[this];rfl
def inv (c:Int->Int):List Int->Nat
 | []=>0
 |x::l=>(l.filter fun y=>decide (c y<c x)).length+inv c l
set_option maxHeartbeats 1000000
theorem tQ {l:List Ap} {r:Int} :(∃x∈l,qJ l r=(x.CP,true)/\x.GQ<=r/\r<=x.GD)∨qJ l r=(0,false):=by
 unfold qJ
 cases h:l.find? (XF r)with
 |none=>exact .inr rfl
 |some x=>
  have h1:=List.mem_of_find?_eq_some h
  have h2:=List.find?_some h
  unfold XF at h2
  simp only[Bool.and_eq_true,decide_eq_true_eq]at h2
  exact .inl ⟨x,h1,rfl,h2⟩
structure Good (t:Ab):Prop where
 r4:gP t
 sound:Sound t
 Ajp:t.Au.length<=2000
 Ak8:ordered t.Au
 Ak7: ∀x∈t.Au,XJ x=true
 exR:Xj t.AJ
theorem Good.of {t:Ab} (h:gP t):Good t:=by
 have hR:=RX h.cls
 exact⟨h,Sound.of h,hR.1,hR.2.1,hR.2.2,qE h.exV⟩
theorem Good.cls {t:Ab} (g:Good t):pK t (KF t) where
 prog x:=aC t x ⟨g.Ak8,g.Ajp⟩
 ref x:=Ae4 t x g.Ajp
 low x:=by
  unfold KF
  rcases tQ (l:=t.Au) (r:=x)with ⟨y,hy,e,_⟩|e
  ·rw[e]
   have:=g.Ak7 y hy
   unfold XJ at this
   simp only[Bool.and_eq_true,decide_eq_true_eq]at this
   exact this.1.2
  ·rw[e];exact Int.le_refl _
 high x:=by
  unfold KF
  rcases tQ (l:=t.Au) (r:=x)with ⟨y,hy,e,_⟩|e
  ·rw[e]
   have:=g.Ak7 y hy
   unfold XJ at this
   simp only[Bool.and_eq_true,decide_eq_true_eq]at this
   exact this.2
  ·rw[e];show(0:Int)<=999999;omega
noncomputable def zG (t:Ab) (r:Int):List Int:=(MB t r).getD []
theorem Good.one {t:Ab} (g:Good t) (r:Int):(zG t r).length<=100/\Lx t r=some (zG t r)/\MB t r=some (zG t r):=by
 obtain⟨l,h1,h2,h3⟩:=Ain g.sound r
 have e:zG t r=l:=by unfold zG;rw[h3];rfl
 rw[e]
 exact⟨h1,h2,h3⟩
noncomputable def TD (t:Ab) (l:List Int):List Int:=l.flatMap (zG t)
noncomputable def AcW (t:Ab) (l:List Int):List Int:=lJ (KF t) (TD t l)
theorem Y0 {t:Ab} (g:Good t): ∀(l:List Int),(TD t l).length<=100*l.length
 | []=>by simp[TD]
 |x::l=>by
  have h1:=(g.one x).1
  have h2:=Y0 g l
  unfold TD at h2 ⊢
  rw[List.flatMap_cons,List.length_append,List.length_cons]
  omega
theorem Adt (t:Ab) (l:List Int) (x:Int):TD t (l++ [x])=TD t l++zG t x:=by simp[TD]
theorem AeJ {t:Ab} (g:Good t) (l:List Int):(AcW t l).length<=100*l.length:=by
 unfold AcW;rw[Agt];exact Y0 g l
theorem AeM {t:Ab} (g:Good t) (l:List Int) (hl:l.length<=100000):RJ t l=some (AcW t l):=by
 have loop: ∀(T D:List Int),l=D++T->iter (J4 t l) (TD t D,(D.length:Int))=some (TD t l):=by
  intro T
  induction T with
  |nil=>
   intro D hD
   rw[List.append_nil]at hD
   subst hD
   have body:J4 t l (TD t l,(l.length:Int))=some (.done (TD t l)):=by
       unfold J4
       simp
   rw[BL,body]
  |cons x T ih=>
   intro D hD
   have hx:l.getD D.length 0=x:=at_eq hD rfl
   have hlen:D.length<l.length:=by rw[hD];simp
   have h1:=Y0 g D
   have h2:=(g.one x).1
   have body:J4 t l (TD t D,(D.length:Int))=some (.next (TD t (D++ [x]),((D++ [x]).length:Int))):=by
       unfold J4
       simp only[decide_eq_true (show(D.length:Int)<(l.length:Int) by omega),cond_true,if_pos (show 0<=(D.length:Int)/\(D.length:Int)<(l.length:Int) by omega),I5,hx,(g.one x).2.1,Aa]
       rw[if_pos (by omega),up (by omega),Adt]
       simp
   rw[BL,body]
   exact ih (D++ [x]) (by rw[hD];simp)
 unfold RJ
 have:=loop l [] rfl
 simp only[List.length_nil]at this
 rw[show TD t []= [] from rfl,show((0:Nat):Int)=0 from rfl]at this
 have hf:=Y0 g l
 rw[this,Aa]
 unfold VJ
 rw[Abw g.cls _ (by omega)]
 rfl
set_option maxHeartbeats 1000000
set_option maxRecDepth 10000
def r32 (x:Int):Prop:= -2147483648<=x/\x<=2147483647
def PV (a b:Int):Int:=
 if 4352<=a/\a<=4370/\4449<=b/\b<=4469 then 44032+((a-4352)*21+(b-4449))*28
 else if 44032<=a/\a<=55203/\(a-44032)%28=0/\4520<=b/\b<=4546 then a+b-4519 else-1
theorem Xq {r f m:Int} (hr:r32 r) (hf:0<=f/\f<=100000) (hm:0<=m/\m<=100000):Jo r f m=some (decide (f<=r/\r<f+m)):=by
 unfold Jo
 unfold r32 at hr
 by_cases h:r>=f
 ·rw[decide_eq_true h,cond_true,w32 (by omega) (by omega),Gy (by omega) (by omega)]
  congr 1
  exact decide_eq_decide.2 (by omega)
 ·rw[decide_eq_false h,cond_false,decide_eq_false (by omega)]
theorem Ae2 {a b:Int} (ha:r32 a) (hb:r32 b):Qx a b=some (if 0<=PV a b then(PV a b,true)else(0,false)):=by
 unfold Qx UK Qh WB
 rw[Xq ha (by omega) (by omega),Xq hb (by omega) (by omega),Xq ha (by omega) (by omega),Xq hb (by omega) (by omega)]
 simp only[Aa]
 unfold r32 at ha hb
 by_cases h1:4352<=a/\a<=4370/\4449<=b/\b<=4469
 ·have e:PV a b=44032+((a-4352)*21+(b-4449))*28:=by unfold PV;rw[if_pos h1]
  rw[decide_eq_true (show 4352<=a/\a<4352+19 by omega),decide_eq_true (show 4449<=b/\b<4449+21 by omega)]
  simp only[cond_true,Aa]
  rw[w32 (x:=a-4352) (by omega) (by omega),w32 (x:=(a-4352)*21) (by omega) (by omega),w32 (x:=(a-4352)*21+b) (by omega) (by omega),w32 (x:=(a-4352)*21+b-4449) (by omega) (by omega),w32 (x:=((a-4352)*21+b-4449)*28) (by omega) (by omega),w32 (by omega) (by omega),if_pos (by omega),e]
  congr 2
  omega
 ·have k1:(Option.bind (some (decide (4352<=a/\a<4352+19))) fun y7=>bif y7 then Option.bind (some (decide (4449<=b/\b<4449+21))) fun y8=>some y8 else some false)=some false:=by
   by_cases h:4352<=a/\a<4352+19
   ·rw[decide_eq_true h]
    simp only[Aa,cond_true]
    rw[decide_eq_false (by omega)]
   ·rw[decide_eq_false h];rfl
  simp only[Aa]at k1
  rw[k1]
  simp only[Aa,cond_false]
  by_cases h2:44032<=a/\a<=55203/\(a-44032)%28=0/\4520<=b/\b<=4546
  ·have e:PV a b=a+b-4519:=by unfold PV;rw[if_neg h1,if_pos h2]
   rw[decide_eq_true (show 44032<=a/\a<44032+11172 by omega),decide_eq_true (show 4520<=b/\b<4520+27 by omega)]
   simp only[cond_true,Aa]
   rw[w32 (x:=a-44032) (by omega) (by omega),Int.tmod_eq_emod_of_nonneg (by omega),h2.2.2.1]
   simp only[beq_self_eq_true,cond_true,Aa]
   rw[w32 (x:=a+b) (by omega) (by omega),w32 (by omega) (by omega),if_pos (by omega),e]
  ·have e:PV a b= -1:=by unfold PV;rw[if_neg h1,if_neg h2]
   rw[if_neg (by omega)]
   by_cases h3:44032<=a/\a<44032+11172
   ·rw[decide_eq_true h3]
    simp only[cond_true,Aa]
    rw[w32 (x:=a-44032) (by omega) (by omega),Int.tmod_eq_emod_of_nonneg (by omega)]
    by_cases h4:(a-44032)%28=0
    ·rw[h4,beq_self_eq_true]
     simp only[cond_true,Aa]
     rw[decide_eq_false (by omega)]
     rfl
    ·rw[beq_false_of_ne h4]
     rfl
   ·rw[decide_eq_false h3]
    rfl
def Ue (t:Ab) (a b:Int):Option Int:=Am (fun i=>if NJ t i=true/\(t.Ad.getD i Ac).Bp.getD 0 0=a/\(t.Ad.getD i Ac).Bp.getD 1 0=b then some (t.Ad.getD i Ac).Bd else none) t.Ad.length 0
def SV (t:Ab) (a b:Int):Int:=if 0<=PV a b then PV a b else(Ue t a b).getD (-1)
theorem Good.Afv {t:Ab} (g:Good t) {i:Nat} (hi:i<t.Ad.length):0<=(t.Ad.getD i Ac).Bd:=by
 have h:=g.sound.row i hi
 unfold OJ at h
 split at h
 ·cases h
 ·rename_i h1
  simp only[Bool.or_eq_true,Bool.not_eq_true',not_or,Bool.not_eq_false]at h1
  have:=h1.1
  unfold FH at this
  simp only[Bool.and_eq_true,decide_eq_true_eq]at this
  omega
theorem zT {t:Ab} (g:Good t) {a b x:Int} (h:Ue t a b=some x):0<=x:=by
 obtain⟨j,_,hj,h1,_⟩:=Br h
 split at h1
 ·cases h1;exact g.Afv (by omega)
 ·cases h1
theorem AdV {t:Ab} (g:Good t) {a b:Int} (ha:r32 a) (hb:r32 b):TM t a b=some (if 0<=SV t a b then(SV t a b,true)else(0,false)):=by
 have hn:=g.sound.len
 unfold TM
 rw[Ae2 ha hb,Aa]
 by_cases h:0<=PV a b
 ·simp only[if_pos h,cond_true]
  have e:SV t a b=PV a b:=if_pos h
  rw[e,if_pos h]
 ·simp only[if_neg h,cond_false]
  have e:SV t a b=(Ue t a b).getD (-1):=if_neg h
  rw[e]
  rw[El t.Ad.length (fun i=>if NJ t i=true/\(t.Ad.getD i Ac).Bp.getD 0 0=a/\(t.Ad.getD i Ac).Bp.getD 1 0=b then some ((t.Ad.getD i Ac).Bd,true)else none) (fun i hi _=>?_) (fun _=>?_),Aa]
  ·have hm:Am (fun i=>if NJ t i=true/\(t.Ad.getD i Ac).Bp.getD 0 0=a/\(t.Ad.getD i Ac).Bp.getD 1 0=b then some ((t.Ad.getD i Ac).Bd,true)else none) t.Ad.length 0=(Ue t a b).map fun x=>(x,true):=by
    unfold Ue
    rw[<- EM]
    refine Ho fun j _ _=>?_
    split<;>rfl
   rw[hm]
   cases hp:Ue t a b with
   |none=>rfl
   |some x=>
    have:=zT g hp
    simp only[Option.map_some,Nv,Option.getD_some,if_pos this]
  ·have hto:=(QA (g.sound.row i hi)).1
   unfold Sm WA
   rw[decide_eq_true (by omega),cond_true,if_pos ⟨by omega,by omega⟩,I5]
   by_cases h2:(t.Ad.getD i Ac).Bp.length=2
   ·rw[show((((t.Ad.getD i Ac).Bp.length:Nat):Int)==2)=true by rw[h2];rfl,cond_true,if_pos ⟨by omega,by omega⟩]
    by_cases ea:(t.Ad.getD i Ac).Bp.getD 0 0=a
    ·rw[ea,beq_self_eq_true,cond_true,if_pos ⟨by omega,by omega⟩]
     by_cases eb:(t.Ad.getD i Ac).Bp.getD 1 0=b
     ·rw[eb,beq_self_eq_true,cond_true,YR t i hi hn ⟨g.Ak8,g.Ajp⟩ g.r4.exc g.exR]
      simp only[Aa]
      cases hc:NJ t i with
      |true=>simp
      |false=>simp[up (show i<9223372036854775807 by omega)]
     ·rw[beq_false_of_ne eb,cond_false,Aa,cond_false,if_neg (fun h=>eb h.2.2),up (by omega)]
    ·rw[beq_false_of_ne ea,cond_false,Aa,cond_false,if_neg (fun h=>ea h.2.1),up (by omega)]
   ·rw[beq_false_of_ne (show(((t.Ad.getD i Ac).Bp.length:Nat):Int)≠2 by omega),cond_false,Aa,cond_false,if_neg (fun h=>h2 (xJ h.1)),up (by omega)]
  ·unfold Sm
   rw[decide_eq_false (by omega)]
   rfl
set_option maxHeartbeats 1000000
structure PS where
 done:List Int
 st:Option Int
 mid:List Int
def Ia (s:PS):List Int:=s.done++(s.st.toList++s.mid)
def Rs (t:Ab) (s:PS) (r:Int):PS:=if KF t r=0 then⟨Ia s,some r,[]⟩else⟨s.done,s.st,s.mid++ [r]⟩
def JJ (t:Ab) (s:PS) (r:Int):PS:=
 match s.st with
 |some z=>if(∀x∈s.mid,KF t x<KF t r)/\0<=SV t z r then⟨s.done,some (SV t z r),s.mid⟩else Rs t s r
 |none=>Rs t s r
def ps0:PS:=⟨[],none,[]⟩
def Al2 (t:Ab) (l:List Int):List Int:=Ia (l.foldl (JJ t) ps0)
structure AcU (t:Ab) (s:PS):Prop where
 st: ∀z,s.st=some z->KF t z=0
 mid: ∀x∈s.mid,0<KF t x
 none:s.st=none->s.done= []
 rng: ∀x∈Ia s,r32 x
theorem Aft {t:Ab} (g:Good t) {x:Int} (h:TH x=true):KF t x=0:=by
 unfold KF
 rcases tQ (l:=t.Au) (r:=x)with ⟨y,hy,e,h1,h2⟩|e
 ·exfalso
  obtain⟨i,hi,rfl⟩:=List.getElem_of_mem hy
  have hv:=g.r4.Am3 i hi
  unfold AaR at hv
  have eg:t.Au.getD i Ai=t.Au[i]:=by simp[List.getD_eq_getElem?_getD,hi]
  rw[eg]at hv
  split at hv
  ·cases hv
  ·rename_i hn
   apply hn
   refine .inr (.inr ?_)
   unfold jV
   unfold TH at h
   simp only[Bool.and_eq_true,Bool.or_eq_true,decide_eq_true_eq]at h ⊢
   refine⟨by omega,?_⟩
   rcases h with h|h|h|h
   ·exact .inl ⟨by omega,by omega⟩
   ·exact .inr (.inl ⟨by omega,by omega⟩)
   ·exact .inr (.inr (.inl ⟨by omega,by omega⟩))
   ·exact .inr (.inr (.inr ⟨by omega,by omega⟩))
 ·rw[e]
theorem Adb {t:Ab} {i:Nat} (h:NJ t i=true):KF t (t.Ad.getD i Ac).Bd=0/\KF t ((t.Ad.getD i Ac).Bp.getD 0 0)=0:=by
 unfold NJ at h
 simp only[Bool.and_eq_true,beq_iff_eq]at h
 exact⟨h.1.2,h.2⟩
theorem Aa8 {t:Ab} (g:Good t) {i:Nat} (hi:i<t.Ad.length):FH (t.Ad.getD i Ac).Bd=true/\TH (t.Ad.getD i Ac).Bd=false:=by
 have h:=g.sound.row i hi
 unfold OJ at h
 split at h
 ·cases h
 ·rename_i h1
  simp only[Bool.or_eq_true,Bool.not_eq_true',not_or,Bool.not_eq_false]at h1
  exact⟨h1.1,by simpa using h1.2⟩
theorem Ad5 {x:Int} (h:FH x=true):r32 x:=by
 unfold FH at h
 simp only[Bool.and_eq_true,decide_eq_true_eq]at h
 unfold r32
 omega
theorem Agv {t:Ab} (g:Good t) {a b:Int} (h:0<=SV t a b):KF t (SV t a b)=0/\r32 (SV t a b):=by
 by_cases hh:0<=PV a b
 ·have e:SV t a b=PV a b:=if_pos hh
  rw[e]
  have hb:44032<=PV a b/\PV a b<=55203:=by
   unfold PV at hh ⊢
   split
   ·omega
   ·split
    ·omega
    ·rename_i h1 h2;rw[if_neg h1,if_neg h2]at hh;omega
  refine⟨Aft g ?_,by unfold r32;omega⟩
  unfold TH
  rw[decide_eq_true (show PV a b>=44032 from hb.1),decide_eq_true hb.2]
  rfl
 ·have e:SV t a b=(Ue t a b).getD (-1):=if_neg hh
  rw[e]at h ⊢
  cases hp:Ue t a b with
  |none=>rw[hp]at h;simp at h
  |some x=>
   obtain⟨j,_,hj,h1,_⟩:=Br hp
   split at h1
   ·rename_i hc
    cases h1
    exact⟨(Adb hc.1).1,Ad5 (Aa8 g (by omega)).1⟩
   ·cases h1
theorem Xh (t:Ab) (s:PS) (r:Int):Ia (Rs t s r)=Ia s++ [r]:=by
 unfold Rs
 split
 ·simp[Ia]
 ·simp[Ia]
theorem Ad1 {t:Ab} (g:Good t) {s:PS} (h:AcU t s) {r:Int} (hr:r32 r):AcU t (JJ t s r):=by
 have hl:=g.cls.low r
 have add:AcU t (Rs t s r):=by
  have ho:=Xh t s r
  refine⟨?_,?_,?_,fun x hx=>?_⟩
  ·unfold Rs
   split
   ·intro z hz;cases hz;assumption
   ·exact h.st
  ·unfold Rs
   split
   ·intro x hx;cases hx
   ·intro x hx
    rcases List.mem_append.1 hx with hx|hx
    ·exact h.mid x hx
    ·simp at hx;subst hx;omega
  ·unfold Rs
   split
   ·intro hx;cases hx
   ·exact h.none
  ·rw[ho]at hx
   rcases List.mem_append.1 hx with hx|hx
   ·exact h.rng x hx
   ·simp at hx;subst hx;exact hr
 unfold JJ
 split
 ·rename_i z hz
  split
  ·rename_i hc
   obtain⟨p1,p2⟩:=Agv g hc.2
   refine⟨fun w hw=>(by cases hw;exact p1),h.mid,fun hx=>(by cases hx),fun x hx=>?_⟩
   simp only[Ia,Option.toList_some,List.mem_append,List.mem_singleton]at hx
   rcases hx with hx|rfl|hx
   ·exact h.rng x (by simp[Ia,hx])
   ·exact p2
   ·exact h.rng x (by simp[Ia,hx])
  ·exact add
 ·exact add
theorem Aky (t:Ab):AcU t ps0:=⟨fun z hz=>(by cases hz),fun x hx=>(by cases hx),fun _=>rfl,fun x hx=>(by simp[Ia,ps0]at hx)⟩
theorem AbD (t:Ab) (s:PS) (r:Int):(Ia (JJ t s r)).length<=(Ia s).length+1:=by
 unfold JJ
 split
 ·rename_i z hz
  split
  ·simp[Ia,hz]
  ·rw[Xh];simp
 ·rw[Xh];simp
def U1 (s:PS):Int:=match s.st with|some _=>(s.done.length:Int)|none=> -1
def WE (c:Int->Int) (l:List Int):Int:=l.foldl (fun m x=>max m (c x)) 0
theorem AdP (c:Int->Int) (l:List Int) (x:Int):WE c (l++ [x])=max (WE c l) (c x):=by simp[WE]
theorem AcE {c:Int->Int} {v:Int} : ∀(l:List Int) (m:Int),l.foldl (fun m x=>max m (c x)) m<v↔m<v/\ ∀x∈l,c x<v
 | [],m=>by simp
 |y::l,m=>by
  rw[List.foldl_cons,AcE l]
  simp only[List.mem_cons,forall_eq_or_imp]
  exact⟨fun⟨h1,h2⟩=>⟨by omega,by omega,h2⟩,fun⟨h1,h2,h3⟩=>⟨by omega,h3⟩⟩
theorem add_eq {t:Ab} (g:Good t) {s:PS} (h:AcU t s) {r:Int} (hr:r32 r) (hlen:(Ia s).length<1000000):
  Lp t.Ad t.Au t.AJ (Ia s) (U1 s) (WE (KF t) s.mid) r=some (t.Ad,t.Au,t.AJ,Ia (JJ t s r),U1 (JJ t s r),WE (KF t) (JJ t s r).mid):=by
 have hl:=g.cls.low r
 have Aji:JL t.Ad t.Au t.AJ (Ia s) (U1 s) (WE (KF t) s.mid) r (KF t r) ()=some (t.Ad,t.Au,t.AJ,Ia (Rs t s r),U1 (Rs t s r),WE (KF t) (Rs t s r).mid):=by
  unfold JL
  rw[if_pos (by omega),Xh]
  by_cases h0:KF t r=0
  ·rw[h0,beq_self_eq_true,cond_true]
   have e:Rs t s r=⟨Ia s,some r,[]⟩:=if_pos h0
   rw[e,Gy (by omega) (by omega)]
   simp[U1,WE]
  ·rw[beq_false_of_ne h0,cond_false]
   have e:Rs t s r=⟨s.done,s.st,s.mid++ [r]⟩:=if_neg h0
   rw[e]
   simp only[AdP]
   rfl
 unfold Lp
 rw[g.cls.prog,Aa]
 cases hst:s.st with
 |none=>
  have ha:U1 s= -1:=by unfold U1;rw[hst]
  have es:JJ t s r=Rs t s r:=by unfold JJ;rw[hst]
  rw[ha,decide_eq_false (by omega),cond_false,Aa]
  unfold Ms
  rw[cond_false,Aa,es,<- ha]
  exact Aji
 |some z=>
  have ha:U1 s=(s.done.length:Int):=by unfold U1;rw[hst]
  have ho:Ia s=s.done++z::s.mid:=by simp[Ia,hst]
  have hlo:(Ia s).length=s.done.length+1+s.mid.length:=by rw[ho];simp;omega
  have hz:(Ia s).getD s.done.length 0=z:=at_eq ho rfl
  have wN:r32 z:=h.rng z (by rw[ho];simp)
  have cond:(bif (((Ia s).length:Int)==IntKind.wrap .i64 (U1 s+1))then some true else some (decide (WE (KF t) s.mid<KF t r)))=some (decide (∀x∈s.mid,KF t x<KF t r)):=by
   rw[ha,Gy (by omega) (by omega)]
   by_cases hm:s.mid= []
   ·rw[show(((Ia s).length:Int)==(s.done.length:Int)+1)=true by rw[hlo,hm];simp,cond_true,decide_eq_true (by rw[hm];intro x hx;cases hx)]
   ·have:0<s.mid.length:=List.length_pos_iff.2 hm
    rw[beq_false_of_ne (by omega),cond_false]
    congr 1
    refine decide_eq_decide.2 ?_
    unfold WE
    rw[AcE]
    refine⟨fun hh=>hh.2,fun hh=>⟨?_,hh⟩⟩
    obtain⟨x,hx⟩:=List.exists_mem_of_ne_nil _ hm
    have h1:=hh x hx
    have h2:=h.mid x hx
    omega
  rw[decide_eq_true (show U1 s>=0 by omega),cond_true,cond]
  unfold Ms
  simp only[Aa]
  by_cases hmid: ∀x∈s.mid,KF t x<KF t r
  ·rw[decide_eq_true hmid,cond_true,if_pos ⟨by omega,by omega⟩,ha,I5,hz,AdV g wN hr,Aa]
   by_cases hp:0<=SV t z r
   ·have es:JJ t s r=⟨s.done,some (SV t z r),s.mid⟩:=by unfold JJ;rw[hst];exact if_pos ⟨hmid,hp⟩
    simp only[if_pos hp,cond_true]
    rw[if_pos ⟨by omega,by omega⟩,Aa,es]
    have e2:(Ia s).set s.done.length (SV t z r)=s.done++SV t z r::s.mid:=by
         rw[ho]
         simp
    rw[e2]
    simp[Ia,U1]
   ·have es:JJ t s r=Rs t s r:=by unfold JJ;rw[hst];exact if_neg (fun hh=>hp hh.2)
    simp only[if_neg hp,cond_false,Aa]
    rw[es,<- ha]
    exact Aji
  ·have es:JJ t s r=Rs t s r:=by unfold JJ;rw[hst];exact if_neg (fun hh=>hmid hh.1)
   rw[decide_eq_false hmid,cond_false,Aa,es]
   exact Aji
theorem Agz {t:Ab} (g:Good t) (l:List Int) (hl:l.length<=100000) (hr: ∀x∈l,r32 x):Vr t l=some (Al2 t l):=by
 have loop: ∀(T D:List Int) (s:PS),l=D++T->AcU t s->(Ia s).length<=D.length->
   iter (Mh l) (t.Ad,t.Au,t.AJ,Ia s,U1 s,WE (KF t) s.mid,(D.length:Int))=some (t.Ad,t.Au,t.AJ,Ia (T.foldl (JJ t) s),U1 (T.foldl (JJ t) s),WE (KF t) (T.foldl (JJ t) s).mid):=by
  intro T
  induction T with
  |nil=>
   intro D s hD hs hlen
   rw[List.append_nil]at hD
   subst hD
   have body:Mh l (t.Ad,t.Au,t.AJ,Ia s,U1 s,WE (KF t) s.mid,(l.length:Int))=some (.done (t.Ad,t.Au,t.AJ,Ia s,U1 s,WE (KF t) s.mid)):=by
       unfold Mh
       simp
   rw[BL,body]
   rfl
  |cons x T ih=>
   intro D s hD hs hlen
   have hx:l.getD D.length 0=x:=at_eq hD rfl
   have hll:D.length<l.length:=by rw[hD];simp
   have hxr:r32 x:=hr x (by rw[hD];simp)
   have body:Mh l (t.Ad,t.Au,t.AJ,Ia s,U1 s,WE (KF t) s.mid,(D.length:Int))=some (.next (t.Ad,t.Au,t.AJ,Ia (JJ t s x),U1 (JJ t s x),WE (KF t) (JJ t s x).mid,((D++ [x]).length:Int))):=by
       unfold Mh
       simp only[decide_eq_true (show(D.length:Int)<(l.length:Int) by omega),cond_true,if_pos (show 0<=(D.length:Int)/\(D.length:Int)<(l.length:Int) by omega),I5,hx]
       rw[add_eq g hs hxr (by omega),Aa,up (by omega)]
       simp
   rw[BL,body]
   have:=AbD t s x
   exact ih (D++ [x]) (JJ t s x) (by rw[hD];simp) (Ad1 g hs hxr) (by simp;omega)
 unfold Vr
 have:=loop l [] ps0 rfl (Aky t) (by simp[Ia,ps0])
 simp only[List.length_nil]at this
 rw[show Ia ps0= [] from rfl,show U1 ps0= -1 from rfl,show WE (KF t) ps0.mid=0 from rfl,show((0:Nat):Int)=0 from rfl]at this
 rw[this]
 rfl
set_option maxHeartbeats 1000000
theorem vD {c:Int->Int} : ∀(l acc:List Int) (x:Int),x∈XL c acc l↔x∈acc∨x∈l
 | [],acc,x=>by simp[XL,bT]
 |z::l,acc,x=>by
  rw[XL]
  split
  ·rw[vD l];simp[or_assoc]
  ·rw[List.mem_append,bT,List.mem_cons,vD l];simp
theorem AdU {t:Ab} (g:Good t): ∀(k:Nat) (r:Int) (l:List Int),r32 r->Dp t k r=some l-> ∀x∈l,r32 x:=by
 intro k
 induction k with
 |zero=>intro r l hr h;cases h
 |succ k ih=>
  intro r l hr h
  rw[Dp]at h
  split at h
  ·rename_i hs
   cases h
   intro x hx
   unfold r32
   split at hx
   ·simp at hx;omega
   ·simp at hx;omega
  ·rw[Xl t r g.sound.len,Aa]at h
   split at h
   ·cases h
    intro x hx
    simp at hx
    subst hx
    exact hr
   ·split at h
    ·split at h
     ·rename_i h1 h2 h3
      have hi:(G9 t r).toNat<t.Ad.length:=by omega
      have hto:=QA (g.sound.row _ hi)
      have ok: ∀j,j<(t.Ad.getD (G9 t r).toNat Ac).Bp.length->r32 ((t.Ad.getD (G9 t r).toNat Ac).Bp.getD j 0):=fun j hj=>by
          have:=List.any_eq_false.1 hto.2.2.1 _ (Fe (d:=(0:Int)) hj)
          exact WM (by simpa using this)
      cases hp:Dp t k ((t.Ad.getD (G9 t r).toNat Ac).Bp.getD 0 0)with
      |none=>rw[hp]at h;cases h
      |some out=>
       rw[hp,Aa]at h
       have h4:=ih _ out (ok 0 h3) hp
       split at h
       ·split at h
        ·cases h
         intro x hx
         rcases List.mem_append.1 hx with hx|hx
         ·exact h4 x hx
         ·simp at hx;subst hx;rw[<- List.getD_eq_getElem?_getD];exact ok 1 (by omega)
        ·cases h
       ·cases h;exact h4
     ·cases h
    ·cases h
theorem Aim {t:Ab} (g:Good t) {r:Int} (hr:r32 r): ∀x∈zG t r,r32 x:=AdU g 50 r _ hr (g.one r).2.2
theorem AeK {t:Ab} (g:Good t) {l:List Int} (hr: ∀x∈l,r32 x): ∀x∈AcW t l,r32 x:=fun x hx=>by
 unfold AcW lJ at hx
 rw[vD]at hx
 simp only[List.not_mem_nil,false_or]at hx
 obtain⟨y,hy,hxy⟩:=List.mem_flatMap.1 hx
 exact Aim g (hr y hy) x hxy
noncomputable def Ae6 (t:Ab) (l:List Int):List Int:=Al2 t (AcW t l)
theorem oI {t:Ab} (g:Good t) (l:List Int) (hl:l.length<=1000) (hr: ∀x∈l,r32 x):Sl t l=some (Ae6 t l):=by
 have:=AeJ g l
 unfold Sl Ae6
 rw[AeM g l (by omega),Aa,Agz g _ (by omega) (AeK g hr)]
 rfl
end Go.Proofs.YtkeokkmhhhhoiaaGreatDoor
