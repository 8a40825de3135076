import Derived.Test.YtkeokkmhhhhoiaaGreatDoorSe20r
import Derived.Test.YtkeokkmhhhhoiaaGreatDoorSe18
namespace Go.SE
open Go
set_option linter.unusedVariables false
set_option linter.unusedSimpArgs false
theorem Ao {S X:Type} {body:S->Option (Stp S X)} {k:Nat} {x y:X} (h:AgW body k x (.done y)):y=x:=h
theorem AP.nil:AP [] []:=trivial
theorem AP.cons {x y:AV} {xs ys:List AV} (h:x.Le y) (t:AP xs ys):AP (x::xs) (y::ys):=⟨h,t⟩
theorem FZ.nil {ps:List Nat} :FZ ps [] []:=trivial
theorem FZ.cons {ps:List Nat} {x y:AV} {xs ys:List AV} (h:Vb ps x y) (t:FZ ps xs ys):FZ ps (x::xs) (y::ys):=⟨h,t⟩
theorem Ll {ps:List Nat} : ∀ {xs:List AV},RH xs=true->FZ ps xs xs
 | [],_=>trivial
 |x::xs,h=>by
  simp only[RH,Bool.and_eq_true]at h
  exact⟨Yn h.1,Ll h.2⟩
theorem Lc.nil {ps:List Nat} :Lc ps [] []:=trivial
theorem Lc.cons {ps:List Nat} {x y:AV} {xs ys:List AV} (h:FZ ps x.cells y.cells) (t:Lc ps xs ys):Lc ps (x::xs) (y::ys):=⟨h,t⟩
theorem FD.nil {ps:List Nat} {s:Store} :FD ps s [] []:=trivial
theorem FD.cons {ps is:List Nat} {s os:Store} {i:Nat} {o o':E8} (h:s[i]? =some (some o)) (h1:VO ps o o') (t:FD ps s is os):FD ps s (i::is) (some o'::os):=by
 refine⟨?_,t⟩
 rw[h]
 exact h1
theorem VO.mk {ps:List Nat} {BU:Nat} {ety:TypeId} {r r':Row} {ro ro' mb mb':Bool} (h1:ro=true->ro'=true) (h2:mb=true->mb'=true) (h3:VP ps r r'):VO ps ⟨BU,ety,r,ro,mb⟩ ⟨BU,ety,r',ro',mb'⟩:=⟨rfl,rfl,h1,h2,h3⟩
theorem Kt.nil {ps:List Nat} {t:List AV} :Kt ps t []:=trivial
theorem Kt.cons {ps:List Nat} {t:List AV} {i:Nat} {v:AV} {r:List (Nat×AV)} (h:Vb ps (t.getD i .unk) v) (k:Kt ps t r):Kt ps t ((i,v)::r):=⟨h,k⟩
theorem sK {ps is:List Nat} {s os:Store} {i BU:Nat} {ety:TypeId} {r r':Row} {ro mb:Bool} (h:s[i]? =some (some ⟨BU,ety,r,ro,mb⟩)) (h3:VP ps r r') (t:FD ps s is os):FD ps s (i::is) (some ⟨BU,ety,r',ro,mb⟩::os):=FD.cons h (VO.mk id id h3) t
theorem cR {ps:List Nat} {x y:AV} (h:x.refs (yQ ps)=true) (h2:x.ren (idx ps)=y):Vb ps x y:=⟨h,AV.Le.of_eq h2⟩
theorem sQ {ps:List Nat} {t:List AV} : ∀ {kv:List (Nat×AV)} (h1:(kv.all fun p=>(t.getD p.1 .unk).refs (yQ ps))=true) (h2:(kv.map fun p=>(t.getD p.1 .unk).ren (idx ps))=kv.map (·.2)),Kt ps t kv
 | [],_,_=>trivial
 |(i,v)::r,h1,h2=>by
  simp only[List.all_cons,Bool.and_eq_true]at h1
  simp only[List.map_cons,List.cons.injEq]at h2
  exact⟨⟨h1.1,AV.Le.of_eq h2.1⟩,sQ h1.2 h2.2⟩
theorem zR {ps:List Nat} {n n':Nat} {g g':Nat->AV} (hn:n'=n) (h: ∀i,i<n->(g i).cells= [g i]/\(g' i).cells= [g' i]/\(g' i).Lm=true/\(g i).Le (g' i)):VP ps (.Y6 n g) (.Y6 n' g'):=by
 subst hn
 refine⟨rfl,fun ho j hj=>(h j hj).2.2.1,fun i hi=>?_⟩
 obtain⟨h1,h2,h3,h4⟩:=h i hi
 refine⟨by show(g' i).A9=(g i).A9;rw[<- AV.Db,<- AV.Db,h1,h2];rfl,fun c y hy=>?_⟩
 have hy:(g' i).cells[c]? =some y:=hy
 rw[h2]at hy
 cases c with
 |zero=>
  simp at hy
  subst hy
  refine⟨g i,by show(g i).cells[0]? =_;rw[h1];rfl,fun ho=>?_⟩
  have:=Yn (ps:=ps) (ho i hi)
  exact⟨this.1,(by rw[Xi _ _ (ho i hi)];exact h4)⟩
 |succ c=>simp at hy
theorem getD_map {α:Type} (f:α->AV) (d:α): ∀(l:List α) (j:Nat),j<l.length->(l.map f).getD j .unk=f (l.getD j d)
 | [],j,h=>absurd h (Nat.not_lt_zero _)
 |x::l,0,_=>rfl
 |x::l,j+1,h=>getD_map f d l j (by simpa using h)
theorem KW {α:Type} {l:List α} {d:α} {lo n j:Nat} (h:j<n):((l.drop lo).take n).getD j d=l.getD (lo+j) d:=by
 simp[List.getD_eq_getElem?_getD,List.getElem?_take,h,List.getElem?_drop]
theorem getD_take {α:Type} {l:List α} {d:α} {n j:Nat} (h:j<n):(l.take n).getD j d=l.getD j d:=by
 simp[List.getD_eq_getElem?_getD,List.getElem?_take,h]
theorem jQ {α:Type} {l:List α} {d v:α} {i j:Nat} (h:i<l.length):(l.set i v).getD j d=if j=i then v else l.getD j d:=by
 simp only[List.getD_eq_getElem?_getD,List.getElem?_set]
 by_cases e:i=j
 ·subst e;simp[h]
 ·rw[if_neg e,if_neg (fun h:j=i=>e h.symm)]
theorem AV.Le.Al5 {nl:Option Bool} {n:Nat} {get get':Nat->AV} {n':Nat} (hn:n=n') (hi: ∀j,j<n->(get' j).Lm=true) (h: ∀j,j<n->AP (get j).cells (get' j).cells):(AV.sl nl n get).Le (.sl none n' get'):=by
 subst hn
 intro w cx A v R
 cases R with
 |sl _ _ _ a cap BU vals g1 g2 g3 g4 g5 g6 g7=>
  refine .sl none n get' a cap BU vals (fun b hb=>by cases hb) g2 g3 g4 (fun hn=>?_) (fun j hj=>⟨hi j hj,?_⟩) fun j c x hj hx=>?_
  ·obtain⟨b,off,e1,e2,e3,e4⟩:=g5 hn
   refine⟨b,off,e1,e2,e3,fun j c x hj hx=>?_⟩
   obtain⟨y,hy,_⟩:=(Li (h j hj)).2 c x hx
   exact e4 j c y hj hy
  ·rw[<- AV.Db,<- (Li (h j hj)).1,AV.Db];exact(g6 j hj).2
  ·obtain⟨y,hy,hle⟩:=(Li (h j hj)).2 c x hx
   exact hle _ _ _ _ (g7 j c y hj hy)
theorem AV.Le.fn {f:Fn} {a a' b b':List AV} (h:AP a a') (h':AP b b'):(AV.fn f a b).Le (.fn f a' b'):=by
 intro w cx A v R
 obtain⟨h1,h2⟩:=Li h
 obtain⟨h1',h2'⟩:=Li h'
 cases R with
 |fn _ _ _ vs vs' hl hl' hrel hrel'=>
  refine .fn f a' b' vs vs' (by rw[<- h1];exact hl) (by rw[<- h1'];exact hl') (fun c y u hy hu=>?_) fun c y u hy hu=>?_
  ·obtain⟨x,hx,hle⟩:=h2 c y hy;exact hle w cx A u (hrel c x u hx hu)
  ·obtain⟨x,hx,hle⟩:=h2' c y hy;exact hle w cx A u (hrel' c x u hx hu)
theorem AV.Le.ip {x y:AV} (h:x.Le y) (h1:x.cells= [x]:=by rfl) (h2:y.cells= [y]:=by rfl) (h3:y.Lm=true:=by rfl):(AV.ip x 0).Le (.ip y 0):=by
 intro w cx A v R
 cases R with
 |ip _ _ b o vals Gr hA hb hmem hrel=>
  refine .ip y 0 b o vals h3 hA hb (fun c z hz=>?_) fun c z hz=>?_
  ·rw[h2]at hz
   cases c with
   |zero=>exact hmem 0 x (by rw[h1];rfl)
   |succ c=>simp at hz
  ·rw[h2]at hz
   cases c with
   |zero=>simp at hz;subst hz;exact h _ _ _ _ (hrel 0 x (by rw[h1];rfl))
   |succ c=>simp at hz
def Ji:List AV->List AV->Prop
 | [],[]=>True
 |x::xs,y::ys=>AP x.cells y.cells/\y.Lm=true/\Ji xs ys
 |_,_=>False
theorem Ji.nil:Ji [] []:=trivial
theorem Ji.cons {x y:AV} {xs ys:List AV} (h:AP x.cells y.cells) (hi:y.Lm=true) (t:Ji xs ys):Ji (x::xs) (y::ys):=⟨h,hi,t⟩
theorem kT: ∀ {xs ys:List AV},Ji xs ys->xs.length=ys.length/\ ∀j,j<xs.length->AP (xs.getD j .unk).cells (ys.getD j .unk).cells/\(ys.getD j .unk).Lm=true
 | [],[],_=>⟨rfl,fun j h=>absurd h (Nat.not_lt_zero _)⟩
 |x::xs,y::ys,h=>by
  obtain⟨h1,h2⟩:=kT h.2.2
  refine⟨by simp[h1],fun j hj=>?_⟩
  cases j with
  |zero=>exact⟨h.1,h.2.1⟩
  |succ j=>exact h2 j (by simpa using hj)
 | [],_::_,h=>h.elim
 |_::_,[],h=>h.elim
theorem AV.Le.lits {α:Type} {nl:Option Bool} {n:Nat} {xs:List AV} {enc:α->AV} {l:List α} (d:α) (hn:n=xs.length) (h:Ji xs (l.map enc)):(AV.sl nl n fun j=>xs.getD j .unk).Le (.sl none l.length fun j=>enc (l.getD j d)):=by
 obtain⟨h1,h2⟩:=kT h
 rw[List.length_map]at h1
 subst hn
 refine AV.Le.Al5 h1 (fun j hj=>?_) fun j hj=>?_
 ·rw[<- getD_map enc d l j (by omega)];exact(h2 j hj).2
 ·rw[<- getD_map enc d l j (by omega)];exact(h2 j hj).1
theorem Ad9 {ps:List Nat} {α:Type} (enc:α->AV) (d:α) (l:List α):VP ps (.Sg (l.map enc)) (.Y6 l.length fun j=>enc (l.getD j d)):=
 l8 (by simp) fun i hi=>(getD_map enc d l i (by simpa using hi)).symm
def One (x y:AV):Prop:=x.cells= [x]/\y.cells= [y]/\y.Lm=true/\x.Le y
theorem Ail {α:Type} {enc:α->AV} {d:α} {l l2:List α} {i:Nat} (he: ∀x,(enc x).cells= [enc x]/\(enc x).Lm=true) (hi:i<l.length+l2.length):One (bif i.blt l.length then(fun j=>enc (l.getD j d)) i else(fun j=>enc (l2.getD j d)) (i-l.length)) (enc ((l++l2).getD i d)):=by
 have h:(bif i.blt l.length then(fun j=>enc (l.getD j d)) i else(fun j=>enc (l2.getD j d)) (i-l.length))=enc ((l++l2).getD i d):=by
  simp only[List.getD_eq_getElem?_getD,List.getElem?_append]
  by_cases hl:i<l.length
  ·have:i.blt l.length=true:=by simpa using hl
   rw[this,if_pos hl];rfl
  ·have:i.blt l.length=false:=by
       cases hb:i.blt l.length with
       |false=>rfl
       |true=>exact absurd (by simpa using hb) hl
   rw[this,if_neg hl];rfl
 rw[h]
 exact⟨(he _).1,(he _).1,(he _).2,AV.Le.refl _⟩
theorem one_set {α:Type} {enc:α->AV} {d x:α} {l:List α} {i k:Nat} {e v:AV} (he: ∀x,(enc x).cells= [enc x]/\(enc x).Lm=true) (h0:bU e 0 v=v) (hv:v.cells= [v]) (hle:v.Le (enc x)) (hi:i<l.length):One (bif i.beq k then bU e 0 v else(fun j=>enc (l.getD j d)) i) (enc ((l.set k x).getD i d)):=by
 simp only[List.getD_eq_getElem?_getD,List.getElem?_set]
 by_cases hk:k=i
 ·subst hk
  have:k.beq k=true:=by simp
  rw[this,if_pos rfl,if_pos hi,cond_true,h0]
  exact⟨hv,(he _).1,(he _).2,hle⟩
 ·have:i.beq k=false:=by
   cases hb:i.beq k with
   |false=>rfl
   |true=>exact absurd (Nat.eq_of_beq_eq_true hb).symm hk
  rw[this,if_neg hk,cond_false]
  exact⟨(he _).1,(he _).1,(he _).2,AV.Le.refl _⟩
theorem Ags {α:Type} {enc:α->AV} {d:α} {g:Nat->AV} {n i:Nat} (h:One (.sl (some true) 0 g) (enc d)):One (.sl (some true) 0 g) (enc ((List.replicate n d).getD i d)):=by
 have:(List.replicate n d).getD i d=d:=by
  simp only[List.getD_eq_getElem?_getD,List.getElem?_replicate]
  split<;>rfl
 rw[this];exact h
def Aih (b n:Int):Prop:=0<=n/\b*n<=281474976710656/\n<=9223372036854775807
instance (b n:Int):Decidable (Aih b n):=by unfold Aih;infer_instance
end Go.SE
