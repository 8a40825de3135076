import Derived.Test.YtkeokkmhhhhoiaaGreatDoorPSqF
import Derived.Test.YtkeokkmhhhhoiaaGreatDoorPFit2
namespace Go.Proofs.YtkeokkmhhhhoiaaGreatDoor
open Go Go.SE
set_option linter.unusedVariables false
set_option linter.unusedSimpArgs false
def pY (l:List Int):Nat->List Int
 |0=> []
 |j+1=>if j=0∨l.getD j 0≠l.getD (j-1) 0 then pY l j++ [l.getD j 0]else pY l j
theorem AmS {a b:Int} (h:a=b):(a != b)=false:=by subst h;simp
theorem AmT {a b:Int} (h: ¬a=b):(a != b)=true:=by simp[h]
theorem Ak0 {a b:Int} (h:a=b):(a==b)=true:=by subst h;simp
theorem iL {a b:Int} (h: ¬a=b):(a==b)=false:=by simp[h]
theorem Qq (l:List Int) (m:Nat) (h:m<l.length):l.take (m+1)=l.take m++ [l.getD m 0]:=by
 rw[List.take_add_one,List.getD_eq_getElem?_getD,List.getElem?_eq_getElem h]
 rfl
theorem YT (l:List Int): ∀m,m<=l.length->(∀j,1<=j->j<m->l.getD j 0≠l.getD (j-1) 0)->pY l m=l.take m
 |0,_,_=>by simp[pY]
 |m+1,h,hd=>by
  have ih:=YT l m (by omega) (fun j h1 h2=>hd j h1 (by omega))
  rw[pY,if_pos (if h0:m=0 then .inl h0 else .inr (hd m (by omega) (by omega))),ih,Qq l m (by omega)]
theorem eG (l:List Int) (i j:Nat) (x:Int):(l.set i x).getD j 0=if i=j/\i<l.length then x else l.getD j 0:=by
 simp only[List.getD_eq_getElem?_getD,List.getElem?_set]
 by_cases h:i=j
 ·subst h
  by_cases h2:i<l.length
  ·simp[h2]
  ·simp[h2]
 ·simp[h]
theorem Ae9 (l:List Int) (k0:Nat) (h0:1<=k0) (hk0:k0<l.length) (hL:l.length<=1000000000): ∀(n k k2:Nat) (mem:List Int),k2+n=l.length-k0->1<=k2->mem.length=l.length->k<=k0+k2-1->mem.take k=pY l (k0+k2)->(∀j,k0+k2-1<=j->mem.getD j 0=l.getD j 0)->
  ∃mem' k',iter (Cb l (k0:Int)) (mem,(k:Int),(k2:Int))=some (mem',((k':Nat):Int))/\mem'.length=l.length/\k'<=l.length/\mem'.take k'=pY l l.length:=by
 intro n
 induction n with
 |zero=>
  intro k k2 mem hn h1 hm hk ht hr
  have hc:decide ((k2:Int)<(((l.length-k0:Nat)):Int))=false:=by simp;omega
  refine⟨mem,k,Ay ?_,hm,by omega,?_⟩
  ·simp only[Cb,Int.toNat_natCast,hc,cond_false]
  ·rw[ht];congr 1;omega
 |succ n ih=>
  intro k k2 mem hn h1 hm hk ht hr
  have hc:decide ((k2:Int)<(((l.length-k0:Nat)):Int))=true:=by simp;omega
  have hml:(mem.length:Int)=l.length:=by omega
  have e1:=hr (k0+k2) (by omega)
  have e2:=hr (k0+(k2-1)) (by omega)
  have e3:k0+k2-1=k0+(k2-1):=by omega
  by_cases hne:l.getD (k0+k2) 0=l.getD (k0+(k2-1)) 0
  ·have hb:(l.getD (k0+k2) 0 != l.getD (k0+(k2-1)) 0)=false:=AmS hne
   have hs:Cb l (k0:Int) (mem,(k:Int),(k2:Int))=some (.next (mem,(k:Int),((k2+1:Nat):Int))):=by
    simp (disch:=omega) only[Cb,Int.toNat_natCast,hc,cond_true,if_pos,nM,e1,e2,hb,cond_false,VR]
   rw[Bh hs]
   refine ih k (k2+1) mem (by omega) (by omega) hm (by omega) ?_ (fun j hj=>hr j (by omega))
   rw[show k0+(k2+1)=(k0+k2)+1 by omega,pY,if_neg (by rw[e3];omega),ht]
  ·have hb:(l.getD (k0+k2) 0 != l.getD (k0+(k2-1)) 0)=true:=AmT hne
   have hs:Cb l (k0:Int) (mem,(k:Int),(k2:Int))=some (.next (mem.set k (l.getD (k0+k2) 0),((k+1:Nat):Int),((k2+1:Nat):Int))):=by
    simp (disch:=omega) only[Cb,Int.toNat_natCast,hc,cond_true,if_pos,nM,e1,e2,hb,cond_true,VR,hml]
   rw[Bh hs]
   refine ih (k+1) (k2+1) _ (by omega) (by omega) (by simp[hm]) (by omega) ?_ (fun j hj=>?_)
   ·rw[Qq _ _ (by simp;omega),eG,if_pos ⟨rfl,by omega⟩,List.take_set_of_le (Nat.le_refl _),ht]
    rw[show k0+(k2+1)=(k0+k2)+1 by omega,pY,if_pos (by rw[e3];exact .inr hne)]
   ·rw[eG,if_neg (by omega)]
    exact hr j (by omega)
theorem Afa (l:List Int) (hL:l.length<=1000000000): ∀(n k:Nat),k+n=l.length->1<=k->(∀j,1<=j->j<k->l.getD j 0≠l.getD (j-1) 0)->
  (iter (CW l) (k:Int)=some (.inl ())/\pY l l.length=l)∨ ∃mem k',iter (CW l) (k:Int)=some (.inr (mem,k'))/\mem.length=l.length/\k'<=l.length/\mem.take k'=pY l l.length:=by
 intro n
 induction n with
 |zero=>
  intro k hn h1 hd
  have hc:decide ((k:Int)<((l.length:Nat):Int))=false:=by simp;omega
  refine .inl ⟨Ay (by simp only[CW,hc,cond_false]),?_⟩
  rw[YT l l.length (Nat.le_refl _) (fun j h h'=>hd j h (by omega)),List.take_length]
 |succ n ih=>
  intro k hn h1 hd
  have hc:decide ((k:Int)<((l.length:Nat):Int))=true:=by simp;omega
  by_cases he:l.getD k 0=l.getD (k-1) 0
  ·have hb:(l.getD k 0==l.getD (k-1) 0)=true:=Ak0 he
   obtain⟨mem,k',r1,r2,r3,r4⟩:=Ae9 l k h1 (by omega) hL (l.length-k-1) k 1 l (by omega) (by omega) rfl (by omega) (by
    rw[pY,if_neg (by omega)]
    exact(YT l k (by omega) hd).symm) (fun _ _=>rfl)
   rw[show((1:Nat):Int)=1 from rfl]at r1
   have hml:(mem.length:Int)=l.length:=by omega
   refine .inr ⟨mem.take k'++(List.replicate (mem.length-k') 0++mem.drop (k'+(mem.length-k'))),k',Ay ?_,?_,r3,?_⟩
   ·simp (disch:=omega) only[CW,Int.toNat_natCast,hc,cond_true,if_pos,nM,hb,r1,Bf,JE,hml]
   ·simp;omega
   ·rw[List.take_append_of_le_length (by simp;omega),List.take_take,Nat.min_self,r4]
  ·have hb:(l.getD k 0==l.getD (k-1) 0)=false:=iL he
   rw[Bh (s':=((k+1:Nat):Int)) (by simp (disch:=omega) only[CW,Int.toNat_natCast,hc,cond_true,if_pos,nM,hb,cond_false,Bf,VR])]
   refine ih (k+1) (by omega) (by omega) (fun j h h'=>?_)
   by_cases hj:j=k
   ·subst hj;exact he
   ·exact hd j h (by omega)
theorem AaS (l:List Int) (hL:l.length<=1000000000): ∃mem k,F6 l=some (mem,k)/\mem.length=l.length/\k<=l.length/\mem.take k=pY l l.length:=by
 unfold F6
 by_cases h2:l.length<2
 ·have hc:decide (((l.length:Nat):Int)<2)=true:=by simp;omega
  rw[hc,cond_true]
  refine⟨l,l.length,rfl,rfl,Nat.le_refl _,?_⟩
  rw[YT l l.length (Nat.le_refl _) (fun j h h'=>by omega)]
 ·have hc:decide (((l.length:Nat):Int)<2)=false:=by simp;omega
  rw[hc,cond_false]
  rcases Afa l hL (l.length-1) 1 (by omega) (Nat.le_refl _) (fun j h h'=>by omega)with ⟨r1,r2⟩|⟨mem,k,r1,r2,r3,r4⟩
  ·rw[show((1:Nat):Int)=1 from rfl]at r1
   rw[r1,Bf]
   exact⟨l,l.length,rfl,rfl,Nat.le_refl _,by rw[r2,List.take_length]⟩
  ·rw[show((1:Nat):Int)=1 from rfl]at r1
   rw[r1,Bf]
   exact⟨mem,k,rfl,r2,r3,r4⟩
def dst (l:List Int):List Int:=pY (l.mergeSort fun x y=>decide (x<=y)) l.length
theorem tC (l:List Int): ∀m,m<=l.length-> ∀x,x∈pY l m↔ ∃j,j<m/\l.getD j 0=x
 |0,_,x=>by simp[pY]
 |m+1,h,x=>by
  have ih:=tC l m (by omega) x
  rw[pY]
  split
  ·rw[List.mem_append,ih,List.mem_singleton]
   constructor
   ·rintro(⟨j,h1,h2⟩|h2)
    ·exact⟨j,by omega,h2⟩
    ·exact⟨m,by omega,h2.symm⟩
   ·rintro⟨j,h1,h2⟩
    by_cases hj:j=m
    ·subst hj;exact .inr h2.symm
    ·exact .inl ⟨j,by omega,h2⟩
  ·rename_i hc
   rw[ih]
   constructor
   ·rintro⟨j,h1,h2⟩
    exact⟨j,by omega,h2⟩
   ·rintro⟨j,h1,h2⟩
    by_cases hj:j=m
    ·subst hj
     refine⟨j-1,by omega,?_⟩
     rw[<- h2]
     by_cases h3:l.getD j 0=l.getD (j-1) 0
     ·exact h3.symm
     ·exact absurd (.inr h3) hc
    ·exact⟨j,by omega,h2⟩
theorem xO (l:List Int) (hs:l.Pairwise (·<= ·)): ∀m,m<=l.length->(pY l m).Pairwise (·< ·)
 |0,_=>by simp[pY]
 |m+1,h=>by
  have ih:=xO l hs m (by omega)
  rw[pY]
  split
  ·rename_i hc
   rw[List.pairwise_append]
   refine⟨ih,List.pairwise_singleton _ _,fun x hx y hy=>?_⟩
   rw[List.mem_singleton]at hy
   subst hy
   obtain⟨j,hj,rfl⟩:=(tC l m (by omega) x).1 hx
   have hm:0<m:=by omega
   have h1:l.getD (m-1) 0<=l.getD m 0:=RY hs (by omega) (by omega)
   have h2:l.getD j 0<=l.getD (m-1) 0:=by
    by_cases hj2:j=m-1
    ·rw[hj2];exact Int.le_refl _
    ·exact RY hs (by omega) (by omega)
   rcases hc with hc|hc
   ·omega
   ·omega
  ·exact ih
theorem Afj (l:List Int):(dst l).Pairwise (·< ·):=by
 refine xO _ ?_ _ (by rw[List.length_mergeSort];exact Nat.le_refl _)
 have:=List.pairwise_mergeSort (le:=fun x y:Int=>decide (x<=y)) (fun a b c h1 h2=>by simp at*;omega) (fun a b=>by simp;omega) l
 exact this.imp (fun h=>by simpa using h)
theorem AhA (l:List Int) (x:Int):x∈dst l↔x∈l:=by
 unfold dst
 rw[tC _ _ (by rw[List.length_mergeSort];exact Nat.le_refl _),<- (List.mergeSort_perm l fun x y=>decide (x<=y)).mem_iff]
 have hl:=List.length_mergeSort (le:=fun x y:Int=>decide (x<=y)) l
 generalize (l.mergeSort fun x y=>decide (x<=y))=q at hl
 constructor
 ·rintro⟨j,h1,rfl⟩
  exact Fe (by omega)
 ·intro h
  obtain⟨j,hj,rfl⟩:=List.mem_iff_getElem.1 h
  exact⟨j,by omega,by simp[List.getD_eq_getElem?_getD,hj]⟩
def Je (b k:Int):Int:=wi (36*(k+1)-b) 1 26
theorem YG (b k:Int):1<=Je b k/\Je b k<=26:=Ag5 (by omega)
def sg (n:Int):Int:=if n<26 then 97+n else 22+n
theorem rP {n:Int} (h:0<=n) (h':n<=35):48<=sg n/\sg n<=122:=by unfold sg;split<;>omega
theorem sign_eq {n:Int} (h:0<=n) (h':n<=35):OB n=some (sg n):=by
 unfold OB sg
 simp only[YQ,decide_eq_true_eq]
 split
 ·rw[Gy (by omega) (by omega),w8 (by omega) (by omega)]
 ·rw[Gy (x:=48+n) (by omega) (by omega),Gy (by omega) (by omega),w8 (by omega) (by omega)]
  congr 1;omega
def aD (b:Int):Nat->Int->Int->List Int
 |0,_,_=> []
 |n+1,k,d=>if d<Je b k then [sg d]else sg (Je b k+(d-Je b k)%(36-Je b k))::aD b n (k+1) ((d-Je b k)/(36-Je b k))
theorem Afh {d t:Int} (ht:1<=t) (ht':t<=26) (hd:t<=d) (hd':d<=100000000000000000):
  IntKind.wrap .i64 (36-t)=36-t/\IntKind.wrap .i64 (t+(Int.tmod (IntKind.wrap .i64 (d-t)) (36-t)))=t+(d-t)%(36-t)/\0<=t+(d-t)%(36-t)/\t+(d-t)%(36-t)<=35/\
   IntKind.wrap .i64 (Int.tdiv (IntKind.wrap .i64 (d-t)) (36-t))=(d-t)/(36-t)/\0<=(d-t)/(36-t)/\(d-t)/(36-t)+1<=d:=by
 have m0:0<=(d-t)%(36-t):=Int.emod_nonneg _ (by omega)
 have m1:(d-t)%(36-t)<36-t:=Int.emod_lt_of_pos _ (by omega)
 have q0:0<=(d-t)/(36-t):=Int.ediv_nonneg (by omega) (by omega)
 have q1:(d-t)/(36-t)<=d-t:=Int.ediv_le_self _ (by omega)
 have e1:IntKind.wrap .i64 (d-t)=d-t:=Gy (by omega) (by omega)
 refine⟨Gy (by omega) (by omega),?_,by omega,by omega,?_,q0,by omega⟩
 ·rw[e1,Int.tmod_eq_emod_of_nonneg (by omega),Gy (by omega) (by omega)]
 ·rw[e1,Int.tdiv_eq_ediv_of_nonneg (by omega),Gy (by omega) (by omega)]
structure OL where
 b:Int
 f:Bool
 o:List Int
 n:Int
 i:Int
 m:Int
noncomputable def bv (d m:Int) (f:Bool):Int:=(MX d m f).getD 0
theorem Aca (d m:Int) (f:Bool):MX d m f=some (bv d m f):=by
 obtain⟨r,h1,h2,h3,h4⟩:=pQ d m f
 unfold bv
 rw[h1];rfl
theorem AiM (d m:Int) (f:Bool):0<=bv d m f/\bv d m f<=1000:=by
 obtain⟨r,h1,h2,h3,h4⟩:=pQ d m f
 unfold bv
 rw[h1];exact⟨h3,h4⟩
def dOf (s:OL) (r p:Int):Int:=(r-s.n)*(s.m+1)+p-s.i
noncomputable def o7 (s:OL) (r p:Int):OL:=⟨bv (dOf s r p) (s.m+1) (!s.f),true,s.o++aD s.b 2147483648 0 (dOf s r p),r,p+1,s.m+1⟩
def Tw (l:List Int) (r:Int) (k:Nat):Nat:=(l.take k).countP fun x=>decide (x<=r)
def eqN (l:List Int) (r:Int) (k:Nat):Nat:=(l.take k).countP fun x=>decide (x=r)
def ltN (l:List Int) (r:Int):Nat:=l.countP fun x=>decide (x<r)
theorem wR (l:List Int) (r:Int) (k:Nat) (h:k<l.length):Tw l r (k+1)=Tw l r k+if l.getD k 0<=r then 1 else 0:=by
 unfold Tw
 rw[Qq l k h,List.countP_append]
 by_cases hc:l.getD k 0<=r<;>simp[hc]
theorem xW (l:List Int) (r:Int) (k:Nat) (h:k<l.length):eqN l r (k+1)=eqN l r k+if l.getD k 0=r then 1 else 0:=by
 unfold eqN
 rw[Qq l k h,List.countP_append]
 by_cases hc:l.getD k 0=r<;>simp[hc]
theorem pO (l:List Int) (r:Int) (k:Nat):Tw l r k<=ltN l r+eqN l r k:=by
 have h1:(l.take k).countP (fun x=>decide (x<r))<=ltN l r:=(List.take_sublist k l).countP_le
 have h2: ∀q:List Int,q.countP (fun x=>decide (x<=r))<=q.countP (fun x=>decide (x<r))+q.countP (fun x=>decide (x=r)):=by
  intro q
  induction q with
  |nil=>simp
  |cons x q ih=>
   simp only[List.countP_cons,decide_eq_true_eq]
   split<;>split<;>split<;>omega
 have:=h2 (l.take k)
 unfold Tw eqN
 omega
noncomputable def Py (l:List Int) (r:Int) (k:Nat) (s:OL):OL:=if l.getD k 0=r then o7 s r (Tw l r k)else s
noncomputable def MC (l:List Int) (r:Int):Nat->Nat->OL->OL
 |0,_,s=>s
 |n+1,k,s=>MC l r n (k+1) (Py l r k s)
structure iD (l:List Int) (r:Int) (k:Nat) (s:OL):Prop where
 len:l.length<=120
 b0:0<=s.b
 b1:s.b<=1000
 m:s.m=((ltN l r+eqN l r k:Nat):Int)
 mle:ltN l r+eqN l r k<=l.length
 n0:0<=s.n
 nr:s.n<=r
 r1:r<=1114111
 i0:0<=s.i
 im:s.i<=s.m
 ni:s.n=r->s.i<=Tw l r k
 o:s.o.length<=3000000000*(s.m.toNat+1)
theorem AaW {l:List Int} {r:Int} {k:Nat} {s:OL} (h:iD l r k s):0<=dOf s r (Tw l r k)/\dOf s r (Tw l r k)<=2147483647/\0<=(r-s.n)*(s.m+1)/\(r-s.n)*(s.m+1)<=1114111*121:=by
 have h1:=h.m
 have h2:=h.mle
 have h3:=h.len
 have h4:=h.n0
 have h5:=h.nr
 have h6:=h.r1
 have h7:=h.i0
 have h8:=h.im
 have h9:=pO l r k
 have a1:0<=(r-s.n)*(s.m+1):=Int.mul_nonneg (by omega) (by omega)
 have a2:(r-s.n)*(s.m+1)<=1114111*(s.m+1):=Int.mul_le_mul_of_nonneg_right (by omega) (by omega)
 unfold dOf
 by_cases hn:s.n=r
 ·have:=h.ni hn
  have e:(r-s.n)*(s.m+1)=0:=by rw[hn,Int.sub_self,Int.zero_mul]
  omega
 ·have a3:1*(s.m+1)<=(r-s.n)*(s.m+1):=Int.mul_le_mul_of_nonneg_right (by omega) (by omega)
  omega
theorem jL (b:Int): ∀(n:Nat) (k d:Int),(aD b n k d).length<=n
 |0,_,_=>by simp[aD]
 |n+1,k,d=>by
  unfold aD
  split
  ·simp
  ·have:=jL b n (k+1) ((d-Je b k)/(36-Je b k))
   simp only[List.length_cons];omega
theorem Y9 {l:List Int} {r:Int} {k:Nat} {s:OL} (h:iD l r k s) (hk:k<l.length):iD l r (k+1) (Py l r k s):=by
 have e1:=xW l r k hk
 have e2:=wR l r k hk
 have h1:=h.m
 have h2:=h.mle
 have h9:=pO l r k
 have hc:eqN l r (k+1)+ltN l r<=l.length:=by
  have h1:eqN l r (k+1)<=l.countP fun x=>decide (x=r):=(List.take_sublist (k+1) l).countP_le
  have h2: ∀q:List Int,q.countP (fun x=>decide (x=r))+q.countP (fun x=>decide (x<r))<=q.length:=by
   intro q
   induction q with
   |nil=>simp
   |cons x q ih=>
    simp only[List.countP_cons,decide_eq_true_eq,List.length_cons]
    split<;>split<;>omega
  have:=h2 l
  unfold ltN
  omega
 unfold Py
 by_cases he:l.getD k 0=r
 ·rw[if_pos he]at e1 ⊢
  rw[if_pos (by omega)]at e2
  have hb:=AiM (dOf s r (Tw l r k)) (s.m+1) (!s.f)
  have hd:=jL s.b 2147483648 0 (dOf s r (Tw l r k))
  have h0:=h.n0
  have h5:=h.nr
  have h8:=h.im
  have ho:=h.o
  refine⟨h.len,hb.1,hb.2,?_,by omega,?_,?_,h.r1,?_,?_,?_,?_⟩
  ·show s.m+1=_;omega
  ·show 0<=r;omega
  ·show r<=r;omega
  ·show(0:Int)<=(Tw l r k:Int)+1;omega
  ·show(Tw l r k:Int)+1<=s.m+1;omega
  ·intro _;show(Tw l r k:Int)+1<=_;omega
  ·show(s.o++_).length<=3000000000*((s.m+1).toNat+1)
   rw[List.length_append];omega
 ·rw[if_neg he]at e1 ⊢
  refine⟨h.len,h.b0,h.b1,by omega,by omega,h.n0,h.nr,h.r1,h.i0,h.im,fun hn=>?_,h.o⟩
  have:=h.ni hn
  omega
theorem Acu {l:List Int} {r:Int} : ∀(n k:Nat) (s:OL),k+n=l.length->iD l r k s->iD l r l.length (MC l r n k s)
 |0,k,s,hk,h=>by rw[show l.length=k by omega];exact h
 |n+1,k,s,hk,h=>by rw[MC];exact Acu n (k+1) _ (by omega) (Y9 h (by omega))
theorem pR (b:Int) (f c:Bool) (o:List Int) (n i m k:Int) (hk:0<=k) (hk':k<=10000000000) (hb:0<=b) (hb':b<=10000000000):JO b f c o n i m k=some (b,f,c,n,i,m,Je b k):=by
 unfold JO
 rw[Gy (x:=k+1) (by omega) (by omega),Gy (x:=36*(k+1)) (by omega) (by omega),Gy (by omega) (by omega),Vt]
 rfl
theorem Afi (b:Int) (f c:Bool) (o:List Int) (w4 w5 w6:Int) (hb:0<=b) (hb':b<=10000000000): ∀(n:Nat) (d k:Int) (out:List Int),0<=d->d<n->k=out.length->(out.length:Int)+d<=3000000000->
  iter (Gd o) (b,f,c,w4,w5,w6,d,out,k)=some (b,f,c,w4,w5,w6,strOfNums (out++aD b n k d)):=by
 intro n
 induction n with
 |zero=>intro d k out h0 h1;omega
 |succ n ih=>
  intro d k out h0 h1 hk h2
  have hB:=YG b k
  unfold aD
  by_cases hd:d<Je b k
  ·refine Ay ?_
   unfold Gd
   simp only
   rw[pR b f c o w4 w5 w6 k (by omega) (by omega) hb hb',Aa]
   simp only[hd,decide_true,cond_true,if_true]
   rw[sign_eq h0 (by omega),Aa,if_pos (by omega)]
  ·have hdf:decide (d<Je b k)=false:=by simp;omega
   rw[if_neg hd]
   obtain⟨s1,s2,s3,s4,s5,s6,s7⟩:=Afh (d:=d) hB.1 hB.2 (by omega) (by omega)
   have hstep:Gd o (b,f,c,w4,w5,w6,d,out,k)=some (.next (b,f,c,w4,w5,w6,(d-Je b k)/(36-Je b k),out++ [sg (Je b k+(d-Je b k)%(36-Je b k))],k+1)):=by
    unfold Gd
    simp only
    rw[pR b f c o w4 w5 w6 k (by omega) (by omega) hb hb',Aa]
    simp only[hdf,cond_false]
    rw[s1,s2,s5,if_pos (by omega),sign_eq s3 s4,Aa,if_pos (by omega),if_pos (by omega),Gy (x:=k+1) (by omega) (by omega)]
   rw[Bh hstep]
   generalize Je b k=t at hB hd s6 s7
   rw[ih _ (k+1) (out++ [sg (t+(d-t)%(36-t))]) s6 (by omega) (by simp;omega) (by simp;omega)]
   simp
theorem Ai2 (l:List Int) (h: ∀x∈l,0<=x/\x<=255):numsOf (strOfNums l)=l:=by
 unfold numsOf strOfNums
 rw[List.map_map]
 conv=>rhs;rw[<- List.map_id l]
 refine List.map_congr_left fun x hx=>?_
 have:=h x hx
 simp only[Function.comp]
 show((UInt8.ofNat (x.toNat)).toNat:Int)=x
 rw[UInt8.toNat_ofNat_of_lt' (show x.toNat<256 by omega)]
 omega
theorem qB (b:Int): ∀(n:Nat) (k d:Int),0<=d-> ∀x∈aD b n k d,48<=x/\x<=122
 |0,_,_,_,x,hx=>by simp[aD]at hx
 |n+1,k,d,h0,x,hx=>by
  have hB:=YG b k
  unfold aD at hx
  split at hx
  ·rename_i hd
   rw[List.mem_singleton]at hx
   subst hx
   exact rP h0 (by omega)
  ·rename_i hd
   have m0:0<=(d-Je b k)%(36-Je b k):=Int.emod_nonneg _ (by omega)
   have m1:(d-Je b k)%(36-Je b k)<36-Je b k:=Int.emod_lt_of_pos _ (by omega)
   rcases List.mem_cons.1 hx with rfl|hx
   ·exact rP (by omega) (by omega)
   ·exact qB b n (k+1) _ (Int.ediv_nonneg (by omega) (by omega)) x hx
theorem jF (b:Int) (f c:Bool) (o:List Int) (n i m:Int): ∃c',Ej b f c o n i m=some (b,f,c',n,i,m):=by
 unfold Ej
 cases c
 ·exact⟨true,rfl⟩
 ·exact⟨true,rfl⟩
theorem Agy {l:List Int} {r:Int} {k:Nat} {s:OL} (h:iD l r k s) (c:Bool): ∃c',Jl s.b s.f c s.o s.n s.i s.m r (Tw l r k:Int)=some ((o7 s r (Tw l r k)).b,(o7 s r (Tw l r k)).f,c',(o7 s r (Tw l r k)).o,(o7 s r (Tw l r k)).n,(o7 s r (Tw l r k)).i,(o7 s r (Tw l r k)).m):=by
 obtain⟨d0,d1,a1,a2⟩:=AaW h
 have h1:=h.m
 have h2:=h.mle
 have h3:=h.len
 have h4:=h.n0
 have h5:=h.nr
 have h6:=h.r1
 have h7:=h.i0
 have h8:=h.im
 have h9:=pO l r k
 have hb0:=h.b0
 have hb1:=h.b1
 have ho:=h.o
 have eD:(IntKind.wrap .i64 ((IntKind.wrap .i64 ((IntKind.wrap .i64 ((IntKind.wrap .i64 ((IntKind.wrap .i64 r)-(IntKind.wrap .i64 s.n)))*(IntKind.wrap .i64 (s.m+(1:Int)))))+(Tw l r k:Int)))-s.i))=dOf s r (Tw l r k):=by
  rw[Gy (x:=r) (by omega) (by omega),Gy (x:=s.n) (by omega) (by omega),Gy (x:=r-s.n) (by omega) (by omega),Gy (x:=s.m+1) (by omega) (by omega)]
  unfold dOf at d0 d1 ⊢
  generalize (r-s.n)*(s.m+1)=z at a1 a2 d0 d1
  rw[Gy (x:=z) (by omega) (by omega),Gy (x:=z+(Tw l r k:Int)) (by omega) (by omega),Gy (by omega) (by omega)]
 unfold Jl
 simp only[eD]
 generalize hD:dOf s r (Tw l r k)=D at d0 d1
 unfold LH
 rw[Afi s.b s.f c s.o s.n s.i s.m hb0 (by omega) 2147483648 D 0 [] d0 (by omega) rfl (by simp;omega),Aa,Aa]
 simp only[List.nil_append]
 obtain⟨c',hc⟩:=jF s.b s.f c s.o s.n s.i s.m
 have hl:=jL s.b 2147483648 0 D
 unfold GR
 rw[hc,Aa,Lb,if_pos (by omega),Aa]
 simp only[Ai2 _ (fun x hx=>by have:=qB s.b 2147483648 0 D d0 x hx;omega)]
 unfold Mw
 rw[Gy (x:=s.m+1) (by omega) (by omega),Aca,Aa,Aa,Gy (x:=(Tw l r k:Int)+1) (by omega) (by omega)]
 refine⟨c',?_⟩
 unfold o7
 rw[hD]
theorem AeL {l:List Int} {r:Int} : ∀(n k:Nat) (s:OL) (c:Bool),k+n=l.length->iD l r k s-> ∃c',iter (DU l r) (s.b,s.f,c,s.o,s.n,s.i,s.m,(Tw l r k:Int),(k:Int))=some ((MC l r n k s).b,(MC l r n k s).f,c',(MC l r n k s).o,(MC l r n k s).n,(MC l r n k s).i,(MC l r n k s).m):=by
 intro n
 induction n with
 |zero=>
  intro k s c hk h
  have hc:decide ((k:Int)<((l.length:Nat):Int))=false:=by simp;omega
  exact⟨c,Ay (by simp only[DU,hc,cond_false,MC])⟩
 |succ n ih=>
  intro k s c hk h
  have hlen:=h.len
  have hc:decide ((k:Int)<((l.length:Nat):Int))=true:=by simp;omega
  have e2:=wR l r k (by omega)
  have hstep: ∃c',DU l r (s.b,s.f,c,s.o,s.n,s.i,s.m,(Tw l r k:Int),(k:Int))=some (.next ((Py l r k s).b,(Py l r k s).f,c',(Py l r k s).o,(Py l r k s).n,(Py l r k s).i,(Py l r k s).m,(Tw l r (k+1):Int),((k+1:Nat):Int))):=by
   have h9:=pO l r k
   have hmk:=h.mle
   by_cases he:l.getD k 0=r
   ·obtain⟨c',hp⟩:=Agy h c
    refine⟨c',?_⟩
    rw[if_pos (by omega)]at e2
    have hle:decide (l.getD k 0<=r)=true:=by simp only[decide_eq_true_eq];omega
    simp (disch:=omega) only[DU,hc,cond_true,if_pos,Int.toNat_natCast,Ak0 he,hp,Bf,Gf,hle,VR,e2,Py]
   ·refine⟨c,?_⟩
    by_cases hle:l.getD k 0<=r
    ·rw[if_pos hle]at e2
     simp (disch:=omega) only[DU,hc,cond_true,if_pos,Int.toNat_natCast,iL he,cond_false,Bf,Gf,decide_eq_true hle,VR,e2,Py,if_neg he]
    ·rw[if_neg hle]at e2
     simp (disch:=omega) only[DU,hc,cond_true,if_pos,Int.toNat_natCast,iL he,cond_false,Bf,Gf,decide_eq_false hle,VR,e2,Py,if_neg he,Nat.add_zero]
  obtain⟨c',hs⟩:=hstep
  rw[Bh hs,MC]
  exact ih (k+1) _ c' (by omega) (Y9 h (by omega))
def Lj (l:List Int):List Int:=l.filter fun x=>decide (x<128)
def Tk (l:List Int):List Int:=l.filter fun x=> !decide (x<128)
def Oz (l:List Int):List Int:=if 0<(Lj l).length then Lj l++ [45]else Lj l
noncomputable def XY (l:List Int) (q:List Int) (s:OL):OL:=q.foldl (fun s r=>MC l r l.length 0 s) s
noncomputable def KV (l:List Int):OL:=XY l (dst (Tk l)) ⟨72,false,Oz l,128,0,((Lj l).length:Int)⟩
structure rZ (l:List Int) (lo:Int) (s:OL):Prop where
 len:l.length<=120
 rt: ∀x∈l,V5 x=true
 lo0:127<=lo
 b0:0<=s.b
 b1:s.b<=1000
 m:s.m=((l.countP fun x=>decide (x<=lo):Nat):Int)
 n0:0<=s.n
 nr:s.n<=lo+1
 i0:0<=s.i
 im:s.i<=s.m
 ni:s.n=lo+1->s.i=0
 o:s.o.length<=3000000000*(s.m.toNat+1)
structure Rest (l:List Int) (lo:Int) (q:List Int):Prop where
 up:q.Pairwise (·< ·)
 mem: ∀x,x∈q↔x∈l/\lo<x
theorem Rest.head {l:List Int} {lo r:Int} {q:List Int} (h:Rest l lo (r::q)):r∈l/\lo<r/\(∀x∈l,x<r↔x<=lo)/\Rest l r q:=by
 have h1:=(h.mem r).1 List.mem_cons_self
 have h2:=List.pairwise_cons.1 h.up
 refine⟨h1.1,h1.2,fun x hx=>?_,h2.2,fun x=>?_⟩
 ·constructor
  ·intro hlt
   by_cases hc:lo<x
   ·rcases List.mem_cons.1 ((h.mem x).2 ⟨hx,hc⟩)with rfl|hq
    ·omega
    ·have:=h2.1 x hq;omega
   ·omega
  ·intro hle;omega
 ·constructor
  ·intro hx
   exact⟨((h.mem x).1 (List.mem_cons_of_mem _ hx)).1,h2.1 x hx⟩
  ·rintro⟨hx,hlt⟩
   rcases List.mem_cons.1 ((h.mem x).2 ⟨hx,by omega⟩)with rfl|hq
   ·omega
   ·exact hq
theorem XT {p q:Int->Bool} {l:List Int} (h: ∀x∈l,p x=q x):l.countP p=l.countP q:=by
 induction l with
 |nil=>rfl
 |cons x l ih=>
  rw[List.countP_cons,List.countP_cons,ih (fun y hy=>h y (List.mem_cons_of_mem _ hy)),h x List.mem_cons_self]
theorem count_le (l:List Int) (r:Int):(l.countP fun x=>decide (x<=r))=ltN l r+eqN l r l.length:=by
 unfold ltN eqN
 rw[List.take_length]
 induction l with
 |nil=>rfl
 |cons x l ih=>
  simp only[List.countP_cons,decide_eq_true_eq,ih]
  split<;>split<;>split<;>omega
theorem vN {x:Int} (h:V5 x=true):0<=x/\x<=1114111:=by
 unfold V5 at h
 simp only[decide_eq_true_eq]at h
 omega
theorem Xn {l:List Int} {lo r:Int} {q:List Int} {s:OL} (h:rZ l lo s) (hr:Rest l lo (r::q)):iD l r 0 s:=by
 obtain⟨h1,h2,h3,h4⟩:=hr.head
 have h5:=vN (h.rt r h1)
 have h6:ltN l r=l.countP fun x=>decide (x<=lo):=by
  unfold ltN
  exact XT fun x hx=>by rw[decide_eq_decide];exact h3 x hx
 have h7:eqN l r 0=0:=by simp[eqN]
 have h8:=h.nr
 have h9:(l.countP fun x=>decide (x<=lo))<=l.length:=List.countP_le_length
 refine⟨h.len,h.b0,h.b1,by rw[h6,h7];exact h.m,by omega,h.n0,by omega,by omega,h.i0,h.im,fun hn=>?_,h.o⟩
 have:=h.ni (by omega)
 omega
theorem Adk {l:List Int} {lo r:Int} {q:List Int} {s s':OL} (h:rZ l lo s) (hr:Rest l lo (r::q)) (h':iD l r l.length s'):rZ l r s':=by
 obtain⟨h1,h2,h3,h4⟩:=hr.head
 have h5:=h.lo0
 have h6:=h'.nr
 exact⟨h.len,h.rt,by omega,h'.b0,h'.b1,by rw[count_le];exact h'.m,h'.n0,by omega,h'.i0,h'.im,fun hn=>by omega,h'.o⟩
theorem bM {l:List Int} {lo r:Int} {q:List Int} {s:OL} (h:rZ l lo s) (hr:Rest l lo (r::q)):rZ l r (MC l r l.length 0 s):=
 Adk h hr (Acu l.length 0 s (by omega) (Xn h hr))
theorem qK {l mem:List Int} {tot:Nat} (htot:tot<=mem.length): ∀(q:List Int) (lo:Int) (s:OL) (c:Bool) (idx:Nat),rZ l lo s->Rest l lo q->idx<=tot->tot<=1000000000->(mem.take tot).drop idx=q->
  ∃c',iter (Kq l (mem,tot)) (s.b,s.f,c,s.o,s.n,s.i,s.m,(idx:Int))=some ((XY l q s).b,(XY l q s).f,c',(XY l q s).o,(XY l q s).n,(XY l q s).i,(XY l q s).m)
 | [],lo,s,c,idx,hs,hr,hi,hT,hq=>by
   have hlen:((mem.take tot).drop idx).length=0:=by rw[hq];rfl
   simp only[List.length_drop,List.length_take]at hlen
   have hc:decide ((idx:Int)<((tot:Nat):Int))=false:=by simp;omega
   exact⟨c,Ay (by simp only[Kq,hc,cond_false];rfl)⟩
 |r::q,lo,s,c,idx,hs,hr,hi,hT,hq=>by
  have hlen:((mem.take tot).drop idx).length=q.length+1:=by rw[hq];rfl
  simp only[List.length_drop,List.length_take]at hlen
  have hc:decide ((idx:Int)<((tot:Nat):Int))=true:=by simp;omega
  have hg:mem.getD idx 0=r:=by
   have:((mem.take tot).drop idx)[0]? =some r:=by rw[hq];rfl
   rw[List.getElem?_drop,List.getElem?_take,if_pos (by omega),Nat.add_zero]at this
   rw[List.getD_eq_getElem?_getD,this];rfl
  have hd:(mem.take tot).drop (idx+1)=q:=by
   rw[<- List.drop_drop,hq];rfl
  obtain⟨c1,h1⟩:=AeL l.length 0 s c (by omega) (Xn hs hr)
  have hah:Tw l r 0=0:=by simp[Tw]
  rw[hah]at h1
  obtain⟨c2,h2⟩:=qK htot q r (MC l r l.length 0 s) c1 (idx+1) (bM hs hr) hr.head.2.2.2 (by omega) hT hd
  refine⟨c2,?_⟩
  have h1':Jk s.b s.f c s.o s.n s.i s.m l r=some ((MC l r l.length 0 s).b,(MC l r l.length 0 s).f,c1,(MC l r l.length 0 s).o,(MC l r l.length 0 s).n,(MC l r l.length 0 s).i,(MC l r l.length 0 s).m):=by
   unfold Jk
   rw[show((0:Nat):Int)=0 from rfl]at h1
   rw[h1];rfl
  rw[Bh (s':=((MC l r l.length 0 s).b,(MC l r l.length 0 s).f,c1,(MC l r l.length 0 s).o,(MC l r l.length 0 s).n,(MC l r l.length 0 s).i,(MC l r l.length 0 s).m,((idx+1:Nat):Int)))]
  ·exact h2
  ·simp (disch:=omega) only[Kq,hc,cond_true,if_pos,Int.toNat_natCast,hg,h1',Bf,VR]
theorem qG (p:Int->Bool) (l:List Int) (k:Nat) (h:k<l.length):(l.take (k+1)).filter p=(l.take k).filter p++if p (l.getD k 0)=true then [l.getD k 0]else []:=by
 rw[Qq l k h,List.filter_append]
 generalize l.getD k 0=x
 cases hp:p x<;>simp[hp]
theorem AbT (l:List Int) (hl:l.length<=120) (hr: ∀x∈l,V5 x=true): ∀(n k:Nat) (c:Bool),k+n=l.length-> ∃c',iter (IJ l) (72,false,c,Lj (l.take k),128,0,((Lj (l.take k)).length:Int),Tk (l.take k),(k:Int))=some (72,false,c',Lj l,128,0,((Lj l).length:Int),Tk l):=by
 intro n
 induction n with
 |zero=>
  intro k c hk
  have hc:decide ((k:Int)<((l.length:Nat):Int))=false:=by simp;omega
  refine⟨c,Ay ?_⟩
  have e:l.take k=l:=by rw[show k=l.length by omega];exact List.take_length
  simp only[IJ,hc,cond_false,e]
 |succ n ih=>
  intro k c hk
  have hc:decide ((k:Int)<((l.length:Nat):Int))=true:=by simp;omega
  have hx:=vN (hr _ (Fe (l:=l) (d:=0) (i:=k) (by omega)))
  have f1:=qG (fun x=>decide (x<128)) l k (by omega)
  have f2:=qG (fun x=> !decide (x<128)) l k (by omega)
  have l1:(Lj (l.take k)).length<=k:=Nat.le_trans (List.length_filter_le _ _) (by simp;omega)
  have l2:(Tk (l.take k)).length<=k:=Nat.le_trans (List.length_filter_le _ _) (by simp;omega)
  by_cases hb:l.getD k 0<128
  ·rw[if_pos (by simp only[decide_eq_true_eq];exact hb)]at f1
   rw[if_neg (by simp only[Bool.not_eq_true',decide_eq_false_iff_not];omega),List.append_nil]at f2
   obtain⟨c1,h1⟩:=jF 72 false c (Lj (l.take k)) 128 0 ((Lj (l.take k)).length:Int)
   obtain⟨c2,h2⟩:=ih (k+1) c1 (by omega)
   refine⟨c2,?_⟩
   rw[Bh (s':=(72,false,c1,Lj (l.take (k+1)),128,0,((Lj (l.take (k+1))).length:Int),Tk (l.take (k+1)),((k+1:Nat):Int)))]
   ·exact h2
   ·have e1:Lj (l.take (k+1))=Lj (l.take k)++ [l.getD k 0]:=f1
    have e2:Tk (l.take (k+1))=Tk (l.take k):=f2
    rw[e1,e2]
    simp (disch:=omega) only[IJ,hc,cond_true,if_pos,Int.toNat_natCast,decide_eq_true hb,Ei,h1,Bf,w8,VR,List.length_append,List.length_singleton]
  ·rw[if_neg (by simp only[decide_eq_true_eq];exact hb),List.append_nil]at f1
   rw[if_pos (by simp only[Bool.not_eq_true',decide_eq_false_iff_not];exact hb)]at f2
   obtain⟨c2,h2⟩:=ih (k+1) c (by omega)
   refine⟨c2,?_⟩
   rw[Bh (s':=(72,false,c,Lj (l.take (k+1)),128,0,((Lj (l.take (k+1))).length:Int),Tk (l.take (k+1)),((k+1:Nat):Int)))]
   ·exact h2
   ·have e1:Lj (l.take (k+1))=Lj (l.take k):=f1
    have e2:Tk (l.take (k+1))=Tk (l.take k)++ [l.getD k 0]:=f2
    rw[e1,e2]
    simp (disch:=omega) only[IJ,hc,cond_true,if_pos,Int.toNat_natCast,decide_eq_false hb,cond_false,VR]
theorem rest_start (l:List Int):Rest l 127 (dst (Tk l)):=by
 refine⟨Afj _,fun x=>?_⟩
 rw[AhA]
 unfold Tk
 rw[List.mem_filter]
 simp only[Bool.not_eq_true',decide_eq_false_iff_not]
 constructor
 ·rintro⟨h1,h2⟩;exact⟨h1,by omega⟩
 ·rintro⟨h1,h2⟩;exact⟨h1,by omega⟩
theorem YC (l:List Int) (hl:l.length<=120) (hr: ∀x∈l,V5 x=true):rZ l 127 ⟨72,false,Oz l,128,0,((Lj l).length:Int)⟩:=by
 have l1:(Lj l).length<=l.length:=List.length_filter_le _ _
 refine⟨hl,hr,by omega,by show(0:Int)<=72;omega,by show(72:Int)<=1000;omega,?_,by show(0:Int)<=128;omega,by show(128:Int)<=127+1;omega,Int.le_refl _,by show(0:Int)<=((Lj l).length:Int);omega,fun _=>rfl,?_⟩
 ·show((Lj l).length:Int)=_
  unfold Lj
  rw[<- List.countP_eq_length_filter]
  congr 1
  exact XT fun x _=>by rw[decide_eq_decide];omega
 ·show(Oz l).length<=3000000000*((((Lj l).length:Int)).toNat+1)
  unfold Oz
  split
  ·rw[List.length_append,List.length_singleton];omega
  ·omega
theorem Ae3 (l:List Int) (hl:l.length<=1000000000): ∀(n k:Nat),k+n=l.length->(∀j,j<k->V5 (l.getD j 0)=true)->
  (iter (IK l) (k:Int)=some (.inl ())/\ ∀j,j<l.length->V5 (l.getD j 0)=true)∨ ∃j,j<l.length/\V5 (l.getD j 0)=false/\(∀i,i<j->V5 (l.getD i 0)=true)/\iter (IK l) (k:Int)=some (.inr (ByteArray.mk #[], .box 70 (j:Int) (.sent 12))):=by
 intro n
 induction n with
 |zero=>
  intro k hk h
  have hc:decide ((k:Int)<((l.length:Nat):Int))=false:=by simp;omega
  exact .inl ⟨Ay (by simp only[IK,hc,cond_false]),fun j hj=>h j (by omega)⟩
 |succ n ih=>
  intro k hk h
  have hc:decide ((k:Int)<((l.length:Nat):Int))=true:=by simp;omega
  cases hq:V5 (l.getD k 0)with
  |true=>
   rw[Bh (s':=((k+1:Nat):Int)) (by simp (disch:=omega) only[IK,hc,cond_true,if_pos,Int.toNat_natCast,lW,hq,Bf,Bool.not_true,cond_false,VR])]
   refine ih (k+1) (by omega) (fun j hj=>?_)
   by_cases hjk:j=k
   ·subst hjk;exact hq
   ·exact h j (by omega)
  |false=>
   refine .inr ⟨k,by omega,hq,h,Ay ?_⟩
   simp (disch:=omega) only[IK,hc,cond_true,if_pos,Int.toNat_natCast,lW,hq,Bf,Bool.not_false]
   rfl
theorem Ahi {l:List Int} {p:Int->Bool} (h: ∀j,j<l.length->p (l.getD j 0)=true): ∀x∈l,p x=true:=fun x hx=>by
 obtain⟨j,hj,rfl⟩:=List.mem_iff_getElem.1 hx
 have:=h j hj
 rw[List.getD_eq_getElem?_getD,List.getElem?_eq_getElem hj]at this
 exact this
theorem Adl (l:List Int) (hl:l.length<=120) (hr: ∀x∈l,V5 x=true):K9 l ()=some (if 120<(KV l).o.length then(ByteArray.mk #[], .box 70 0 (.sent 6))else(strOfNums (KV l).o, .nil)):=by
 unfold K9
 rw[show decide (((l.length:Nat):Int)>120)=false by simp;omega,cond_false]
 obtain⟨c1,h1⟩:=AbT l hl hr l.length 0 false (by omega)
 have h1':iter (IJ l) ((72:Int),false,false,[],(128:Int),(0:Int),(0:Int),[],(0:Int))=some (72,false,c1,Lj l,128,0,((Lj l).length:Int),Tk l):=h1
 rw[h1',Bf]
 have hK5: ∃c2,Qm l (72,false,c1,Lj l,128,0,((Lj l).length:Int),Tk l)=Qn l (72,false,c1,Lj l,128,0,((Lj l).length:Int),Tk l) (72,false,c2,Oz l,128,0,((Lj l).length:Int)):=by
  have l1:(Lj l).length<=l.length:=List.length_filter_le _ _
  unfold Qm Oz
  by_cases h0:0<(Lj l).length
  ·obtain⟨c2,h2⟩:=jF 72 false c1 (Lj l) 128 0 ((Lj l).length:Int)
   refine⟨c2,?_⟩
   have hc:decide (((Lj l).length:Int)>0)=true:=by simp;omega
   simp (disch:=omega) only[hc,cond_true,Ei,h2,Bf,if_pos,h0,if_true]
  ·refine⟨c1,?_⟩
   have hc:decide (((Lj l).length:Int)>0)=false:=decide_eq_false (by omega)
   simp only[hc,cond_false,Bf,if_neg h0]
 obtain⟨c2,h2⟩:=hK5
 rw[h2]
 have l2:(Tk l).length<=l.length:=List.length_filter_le _ _
 unfold Qn
 simp only
 rw[AiC (Tk l) (by omega),Bf,List.length_mergeSort,if_pos rfl]
 obtain⟨mem,k,g1,g2,g3,g4⟩:=AaS ((Tk l).mergeSort fun x y=>decide (x<=y)) (by rw[List.length_mergeSort];omega)
 rw[List.length_mergeSort]at g2 g3 g4
 rw[g1,Bf]
 simp only
 rw[g2,if_pos rfl]
 have g4':(mem.take k).drop 0=dst (Tk l):=by
  rw[List.drop_zero,g4]
  unfold dst
  first|rfl|rw[List.length_mergeSort]
 obtain⟨c3,h3⟩:=qK (tot:=k) (by omega) (dst (Tk l)) 127 ⟨72,false,Oz l,128,0,((Lj l).length:Int)⟩ c2 0 (YC l hl hr) (rest_start l) (by omega) (by omega) g4'
 have h3':iter (Kq l (mem,k)) (72,false,c2,Oz l,128,0,((Lj l).length:Int),(0:Int))=some ((KV l).b,(KV l).f,c3,(KV l).o,(KV l).n,(KV l).i,(KV l).m):=h3
 rw[h3',Bf]
 unfold TW H6
 simp only[Bf]
 by_cases hL:120<(KV l).o.length
 ·have hc:decide ((((KV l).o.length:Nat):Int)>120)=true:=by simp;omega
  rw[hc,cond_true,if_pos hL]
  rfl
 ·have hc:decide ((((KV l).o.length:Nat):Int)>120)=false:=by simp;omega
  rw[hc,cond_false,if_neg hL]
  unfold Iw
  rw[if_pos (by omega),Bf,if_pos rfl,List.take_length]
noncomputable def Ajv (l:List Int):ByteArray×Er:=
 if 120<l.length then(ByteArray.mk #[], .box 70 0 (.sent 6))else if 120<(KV l).o.length then(ByteArray.mk #[], .box 70 0 (.sent 6))else(strOfNums (KV l).o, .nil)
theorem xV (l:List Int) (hl:l.length<=1000000000):((∀x∈l,V5 x=true)/\NR l=some (Ajv l))∨ ∃j,j<l.length/\V5 (l.getD j 0)=false/\(∀i,i<j->V5 (l.getD i 0)=true)/\NR l=some (ByteArray.mk #[], .box 70 (j:Int) (.sent 12)):=by
 unfold NR
 rcases Ae3 l hl l.length 0 (by omega) (fun j hj=>by omega)with ⟨h1,h2⟩|⟨j,h1,h2,h3,h4⟩
 ·rw[show((0:Nat):Int)=0 from rfl]at h1
  have hr:=Ahi h2
  refine .inl ⟨hr,?_⟩
  rw[h1,Bf]
  unfold Ajv
  by_cases hL:120<l.length
  ·rw[if_pos hL]
   unfold K9
   rw[show decide (((l.length:Nat):Int)>120)=true by simp;omega,cond_true]
   rfl
  ·rw[if_neg hL]
   exact Adl l (by omega) hr
 ·rw[show((0:Nat):Int)=0 from rfl]at h4
  refine .inr ⟨j,h1,h2,h3,?_⟩
  rw[h4,Bf]
def dv (b:Int):Nat->Int->Int->List Int
 |0,_,_=> []
 |n+1,k,d=>if d<Je b k then [d]else(Je b k+(d-Je b k)%(36-Je b k))::dv b n (k+1) ((d-Je b k)/(36-Je b k))
theorem Acf (b:Int): ∀(n:Nat) (k d:Int),aD b n k d=(dv b n k d).map sg
 |0,_,_=>rfl
 |n+1,k,d=>by
  unfold aD dv
  split
  ·rfl
  ·rw[List.map_cons,Acf b n]
def rdV (b:Int):Int->Int->Int->List Int->Option (Int×List Int)
 |_,_,_,[]=>none
 |k,u,d,v::vs=>if v<0 then none else if d+v*u>2147483647 then none else if v<Je b k then some (d+v*u,vs)else rdV b (k+1) (u*(36-Je b k)) (d+v*u) vs
theorem Ai5 (b:Int): ∀(n:Nat) (k u d0 d:Int) (rest:List Int),0<=d->d<n->1<=u->0<=d0->d0+d*u<=2147483647->rdV b k u d0 (dv b n k d++rest)=some (d0+d*u,rest)
 |0,k,u,d0,d,rest,h0,h1,h2,h3,h4=>by omega
 |n+1,k,u,d0,d,rest,h0,h1,h2,h3,h4=>by
  have hB:=YG b k
  unfold dv
  obtain⟨t,ht⟩: ∃t,Je b k=t:=⟨_,rfl⟩
  rw[ht]at hB ⊢
  by_cases hd:d<t
  ·rw[if_pos hd,List.cons_append,rdV,if_neg (by omega),if_neg (by omega),if_pos (by omega)]
   rfl
  ·rw[if_neg hd]
   have m0:0<=(d-t)%(36-t):=Int.emod_nonneg _ (by omega)
   have m1:(d-t)%(36-t)<36-t:=Int.emod_lt_of_pos _ (by omega)
   have q0:0<=(d-t)/(36-t):=Int.ediv_nonneg (by omega) (by omega)
   have q1:(d-t)/(36-t)<=d-t:=Int.ediv_le_self _ (by omega)
   have e:=Int.emod_add_mul_ediv (d-t) (36-t)
   generalize (d-t)%(36-t)=m at m0 m1 e ⊢
   generalize (d-t)/(36-t)=q at q0 q1 e ⊢
   have e2:d0+(t+m)*u+q*(u*(36-t))=d0+d*u:=by
    have:d=t+m+(36-t)*q:=by omega
    rw[this];grind
   have hqu:0<=q*(u*(36-t)):=Int.mul_nonneg q0 (Int.mul_nonneg (by omega) (by omega))
   have htu:0<=(t+m)*u:=Int.mul_nonneg (by omega) (by omega)
   have hu:1<=u*(36-t):=by
    have:=Int.mul_le_mul_of_nonneg_right h2 (show 0<=36-t by omega)
    omega
   have ih:=Ai5 b n (k+1) (u*(36-t)) (d0+(t+m)*u) q rest q0 (by omega) hu (by omega) (by omega)
   rw[List.cons_append,rdV,if_neg (by omega),if_neg (by omega),if_neg (by omega),ht,ih,e2]
inductive Run:Int->Bool->Int->Int->List Int->List Int->List Int->Prop
 |nil {b:Int} {f:Bool} {n i:Int} {out:List Int} :Run b f n i out [] out
 |step {b:Int} {f:Bool} {n i:Int} {out vs vs' l:List Int} {d:Int} :rdV b 0 1 0 vs=some (d,vs')->V5 (n+(i+d)/((out.length:Int)+1))=true->
   Run (bv d ((out.length:Int)+1) (!f)) true (n+(i+d)/((out.length:Int)+1)) ((i+d)%((out.length:Int)+1)+1) (out.take ((i+d)%((out.length:Int)+1)).toNat++(n+(i+d)/((out.length:Int)+1))::out.drop ((i+d)%((out.length:Int)+1)).toNat) vs' l->Run b f n i out vs l
theorem Run.inv {b:Int} {f:Bool} {n i:Int} {out vs l:List Int} (h:Run b f n i out vs l):(vs= []/\l=out)∨ ∃d vs',rdV b 0 1 0 vs=some (d,vs')/\V5 (n+(i+d)/((out.length:Int)+1))=true/\
  Run (bv d ((out.length:Int)+1) (!f)) true (n+(i+d)/((out.length:Int)+1)) ((i+d)%((out.length:Int)+1)+1) (out.take ((i+d)%((out.length:Int)+1)).toNat++(n+(i+d)/((out.length:Int)+1))::out.drop ((i+d)%((out.length:Int)+1)).toNat) vs' l:=by
 cases h with
 |nil=>exact .inl ⟨rfl,rfl⟩
 |step h1 h2 h3=>exact .inr ⟨_,_,h1,h2,h3⟩
def Kz (s:ByteArray) (at_:Nat):List Int:=(List.range (s.size-at_)).map fun j=>nJ (bt s ((at_+j:Nat):Int))
theorem eX (s:ByteArray) (at_:Nat) (h:at_<s.size):Kz s at_=nJ (bt s (at_:Int))::Kz s (at_+1):=by
 unfold Kz
 rw[show s.size-at_=(s.size-(at_+1))+1 by omega,List.range_succ_eq_map,List.map_cons,List.map_map]
 congr 1
 refine List.map_congr_left fun j _=>?_
 simp only[Function.comp]
 rw[show at_+(j+1)=at_+1+j by omega]
theorem YD (s:ByteArray):Kz s s.size= []:=by unfold Kz;rw[Nat.sub_self];rfl
theorem bX (s:ByteArray) (at_:Nat) (h:at_<s.size):Kz s at_≠ []:=by rw[eX s at_ h];simp
theorem Tj (s:ByteArray) (at_:Nat):(Kz s at_).length=s.size-at_:=by unfold Kz;simp
theorem bw6 (b k:Int) (hk:0<=k) (hk':k<=1000000000) (hb:0<=b) (hb':b<=1000000000):bw b k=Je b k:=by
 unfold bw Je
 rw[Gy (x:=k+1) (by omega) (by omega),Gy (x:=36*(k+1)) (by omega) (by omega),Gy (by omega) (by omega)]
def bx:Er->Bool| .box t _ (.sent _)=>t==70|_=>false
theorem AaK {e:Er} (h:bx e=true):e.isNil=false:=by
 cases e<;>first|rfl|cases h
theorem Agq (s:ByteArray) (hs:s.size<=1000) (b:Int) (f:Bool) (n i:Int) (out:List Int) (hb:0<=b) (hb':b<=1000): ∀(M at_:Nat) (d u k:Int),at_+M=s.size->0<=d->d<=2147483647->1<=u->u<=75161927645->0<=k->k<=at_->
  (∃D vs',rdV b k u d (Kz s at_)=some (D,vs')/\0<=D/\D<=2147483647/\vs'.length+at_<s.size/\Kz s (s.size-vs'.length)=vs'/\iter (BG out) (b,f,s,(at_:Int),n,i,d,u,k)=some (b,f,s,((s.size-vs'.length:Nat):Int),n,i,D, .nil))∨
  (rdV b k u d (Kz s at_)=none/\ ∃a e,bx e=true/\iter (BG out) (b,f,s,(at_:Int),n,i,d,u,k)=some (b,f,s,a,n,i,0,e)):=by
 intro M
 induction M with
 |zero=>
  intro at_ d u k hM hd hd' hu hu' hk hk'
  have hat:at_=s.size:=by omega
  subst hat
  refine .inr ⟨by rw[YD];rfl,((s.size:Nat):Int), .box 70 ((s.size:Nat):Int) (.sent 11),rfl,Ay ?_⟩
  unfold BG
  simp only[beq_self_eq_true,cond_true]
  rfl
 |succ M ih=>
  intro at_ d u k hM hd hd' hu hu' hk hk'
  have hlt:at_<s.size:=by omega
  have hbt:=pU s (at_:Int)
  have hv:=AiI (bt s (at_:Int))
  have e1:(((at_:Int))==((s.size:Nat):Int))=false:=iL (by omega)
  have hw:IntKind.wrap .i64 ((at_:Int)+1)=((at_+1:Nat):Int):=up (by omega)
  have hv1:=zM hbt.1 hbt.2
  rw[eX s at_ hlt]
  generalize hV:nJ (bt s (at_:Int))=v at hv hv1
  by_cases hneg:v<0
  ·refine .inr ⟨by rw[rdV,if_pos hneg],(at_:Int), .box 70 (at_:Int) (.sent 8),rfl,Ay ?_⟩
   unfold BG
   simp only[e1,cond_false]
   rw[if_pos (by omega),hv1,Aa,decide_eq_true hneg,cond_true]
   rfl
  have hvn:decide (v<0)=false:=decide_eq_false hneg
  have hvu:0<=v*u:=Int.mul_nonneg (by omega) (by omega)
  have ApQ:v*u<=35*u:=Int.mul_le_mul_of_nonneg_right hv.2 (by omega)
  have hD:IntKind.wrap .i64 (d+IntKind.wrap .i64 (v*u))=d+v*u:=by rw[Gy (x:=v*u) (by omega) (by omega),Gy (by omega) (by omega)]
  by_cases hbig:d+v*u>2147483647
  ·refine .inr ⟨by rw[rdV,if_neg hneg,if_pos hbig],(at_:Int), .box 70 (at_:Int) (.sent 6),rfl,Ay ?_⟩
   unfold BG
   simp only[e1,cond_false]
   rw[if_pos (by omega),hv1,Aa,hvn,cond_false,hD,decide_eq_true hbig,cond_true]
   rfl
  have hbf:decide (d+v*u>2147483647)=false:=decide_eq_false hbig
  have hbd: ∀q,LG b f s q n i out k=some (b,f,s,q,n,i,bw b k):=fun q=>rfl
  have hbw:=bw6 b k hk (by omega) hb (by omega)
  have hB:=YG b k
  by_cases hend:v<Je b k
  ·refine .inl ⟨d+v*u,Kz s (at_+1),by rw[rdV,if_neg hneg,if_neg hbig,if_pos hend],by omega,by omega,by rw[Tj];omega,?_,Ay ?_⟩
   ·rw[Tj];congr 1;omega
   ·unfold BG
    simp only[e1,cond_false]
    rw[if_pos (by omega),hv1,Aa,hvn,cond_false,hD,hbf,cond_false,hw,hbd,Aa,hbw]
    simp only[decide_eq_true hend,cond_true]
    rw[Tj,show s.size-(s.size-(at_+1))=at_+1 by omega]
  ·have ApN:u*(36-Je b k)<=u*35:=Int.mul_le_mul_of_nonneg_left (by omega) (by omega)
   have hu1:1<=u*(36-Je b k):=by
    have:=Int.mul_le_mul_of_nonneg_right hu (show 0<=36-Je b k by omega)
    omega
   have ApR:1*u<=v*u:=Int.mul_le_mul_of_nonneg_right (by omega) (by omega)
   have hstep:BG out (b,f,s,(at_:Int),n,i,d,u,k)=some (.next (b,f,s,((at_+1:Nat):Int),n,i,d+v*u,u*(36-Je b k),k+1)):=by
    unfold BG
    simp only[e1,cond_false]
    rw[if_pos (by omega),hv1,Aa,hvn,cond_false,hD,hbf,cond_false,hw,hbd,Aa,hbw]
    simp only[decide_eq_false hend,cond_false]
    rw[Gy (x:=36-Je b k) (by omega) (by omega),Gy (x:=u*(36-Je b k)) (by omega) (by omega),Gy (x:=k+1) (by omega) (by omega)]
   have hrd:rdV b k u d (v::Kz s (at_+1))=rdV b (k+1) (u*(36-Je b k)) (d+v*u) (Kz s (at_+1)):=by
    rw[rdV,if_neg hneg,if_neg hbig,if_neg hend]
   rw[hrd,Bh hstep]
   rcases ih (at_+1) (d+v*u) (u*(36-Je b k)) (k+1) (by omega) (by omega) (by omega) hu1 (by omega) (by omega) (by omega)with ⟨D,vs',g1,g2,g3,g4,g5,g6⟩|h
   ·exact .inl ⟨D,vs',g1,g2,g3,by omega,g5,g6⟩
   ·exact .inr h
theorem Ahw (s:ByteArray) (out:List Int) (b:Int) (f:Bool) (a:Int) (n i D:Int) (ho:out.length<=1000) (hi:0<=i) (hi':i<=2000) (hn:0<=n) (hn':n<=1114111) (hD:0<=D) (hD':D<=2147483647):
  xK s out (b,f,s,a,n,i,D, .nil)=if V5 (n+(i+D)/((out.length:Int)+1))=true then
    iter (EN s) (bv D ((out.length:Int)+1) (!f),true,s,a,n+(i+D)/((out.length:Int)+1),(i+D)%((out.length:Int)+1)+1,out.take ((i+D)%((out.length:Int)+1)).toNat++(n+(i+D)/((out.length:Int)+1))::out.drop ((i+D)%((out.length:Int)+1)).toNat)
   else some (.inr ([], .box 70 (IntKind.wrap .i64 (a-1)) (.sent 12))):=by
 have eM:IntKind.wrap .i64 (((out.length:Nat):Int)+1)=(out.length:Int)+1:=Gy (by omega) (by omega)
 have q0:0<=(i+D)/((out.length:Int)+1):=Int.ediv_nonneg (by omega) (by omega)
 have q1:(i+D)/((out.length:Int)+1)<=i+D:=Int.ediv_le_self _ (by omega)
 have m0:0<=(i+D)%((out.length:Int)+1):=Int.emod_nonneg _ (by omega)
 have m1:(i+D)%((out.length:Int)+1)<(out.length:Int)+1:=Int.emod_lt_of_pos _ (by omega)
 have eN:IntKind.wrap .i64 (n+IntKind.wrap .i64 (Int.tdiv (IntKind.wrap .i64 (i+D)) ((out.length:Int)+1)))=n+(i+D)/((out.length:Int)+1):=by
  rw[Gy (x:=i+D) (by omega) (by omega),Int.tdiv_eq_ediv_of_nonneg (by omega),Gy (x:=(i+D)/((out.length:Int)+1)) (by omega) (by omega),Gy (by omega) (by omega)]
 have eI:Int.tmod (IntKind.wrap .i64 (i+D)) ((out.length:Int)+1)=(i+D)%((out.length:Int)+1):=by
  rw[Gy (x:=i+D) (by omega) (by omega),Int.tmod_eq_emod_of_nonneg (by omega)]
 unfold xK
 simp only[Er.isNil,Bool.not_true,cond_false]
 unfold Jj
 simp only[eM,Aca,Bf]
 rw[if_pos (by omega),if_pos (by omega)]
 simp only[eN]
 unfold JC
 simp only[eM,eN,eI]
 generalize (i+D)/((out.length:Int)+1)=q at q0 q1
 generalize (i+D)%((out.length:Int)+1)=m at m0 m1
 by_cases hbig:n+q>1114111
 ·have hr:V5 (n+q)=false:=by unfold V5;exact decide_eq_false (by omega)
  rw[decide_eq_true hbig,cond_true,Bf,cond_true,hr,if_neg (by simp)]
  rfl
 ·rw[decide_eq_false hbig,cond_false,w32 (x:=n+q) (by omega) (by omega),lW,Bf,Bf]
  cases hr:V5 (n+q)with
  |true=>
   rw[Bool.not_true,cond_false,if_pos rfl]
   unfold Oa
   simp only
   rw[if_pos (by omega),Bf,Bf,Gy (x:=m+1) (by omega) (by omega)]
   rfl
  |false=>
   rw[Bool.not_false,cond_true,if_neg (by simp)]
   rfl
theorem AgL (s:ByteArray) (hs:s.size<=120): ∀(M at_:Nat) (b:Int) (f:Bool) (n i:Int) (out:List Int),s.size-at_<=M->at_<=s.size->0<=b->b<=1000->0<=n->n<=1114111->0<=i->i<=out.length->out.length<=at_->
  (∃l bb ff nn ii,Run b f n i out (Kz s at_) l/\iter (EN s) (b,f,s,(at_:Int),n,i,out)=some (.inl (bb,ff,s,((s.size:Nat):Int),nn,ii,l)))∨
  ((∀l,¬Run b f n i out (Kz s at_) l)/\ ∃e,bx e=true/\iter (EN s) (b,f,s,(at_:Int),n,i,out)=some (.inr ([],e))):=by
 intro M
 induction M with
 |zero=>
  intro at_ b f n i out hM hat hb hb' hn hn' hi hi' ho
  have:at_=s.size:=by omega
  subst this
  refine .inl ⟨out,b,f,n,i,by rw[YD];exact .nil,Ay ?_⟩
  unfold EN
  simp
 |succ M ih=>
  intro at_ b f n i out hM hat hb hb' hn hn' hi hi' ho
  by_cases hend:at_=s.size
  ·subst hend
   refine .inl ⟨out,b,f,n,i,by rw[YD];exact .nil,Ay ?_⟩
   unfold EN
   simp
  have hlt:at_<s.size:=by omega
  rw[group s b f at_ n i out hlt]
  rcases Agq s (by omega) b f n i out hb hb' (s.size-at_) at_ 0 1 0 (by omega) (by omega) (by omega) (by omega) (by omega) (by omega) (by omega)with ⟨D,vs',g1,g2,g3,g4,g5,g6⟩|⟨g1,a,e,g2,g3⟩
  ·rw[g6,Bf,Ahw s out b f _ n i D (by omega) hi (by omega) hn hn' g2 g3]
   have m0:0<=(i+D)%((out.length:Int)+1):=Int.emod_nonneg _ (by omega)
   have m1:(i+D)%((out.length:Int)+1)<(out.length:Int)+1:=Int.emod_lt_of_pos _ (by omega)
   cases hr:V5 (n+(i+D)/((out.length:Int)+1))with
   |true=>
    rw[if_pos rfl]
    have hrr:=vN hr
    have hbv:=AiM D ((out.length:Int)+1) (!f)
    rcases ih (s.size-vs'.length) (bv D ((out.length:Int)+1) (!f)) true (n+(i+D)/((out.length:Int)+1)) ((i+D)%((out.length:Int)+1)+1) (out.take ((i+D)%((out.length:Int)+1)).toNat++(n+(i+D)/((out.length:Int)+1))::out.drop ((i+D)%((out.length:Int)+1)).toNat) (by omega) (by omega) hbv.1 hbv.2 hrr.1 hrr.2 (by omega) (by simp;omega) (by simp;omega)with ⟨l,bb,ff,nn,ii,h1,h2⟩|⟨h1,h2⟩
    ·rw[g5]at h1
     exact .inl ⟨l,bb,ff,nn,ii, .step g1 hr h1,h2⟩
    ·refine .inr ⟨fun l hl=>?_,h2⟩
     rw[g5]at h1
     rcases hl.inv with ⟨k1,_⟩|⟨d',w,k1,k2,k3⟩
     ·exact bX s at_ hlt k1
     ·rw[g1]at k1
      have e:=Option.some.inj k1
      have e1:D=d':=congrArg Prod.fst e
      have e2:vs'=w:=congrArg Prod.snd e
      subst e1 e2
      exact h1 l k3
   |false=>
    rw[if_neg (by simp)]
    refine .inr ⟨fun l hl=>?_,_,rfl,rfl⟩
    rcases hl.inv with ⟨k1,_⟩|⟨d',w,k1,k2,k3⟩
    ·exact bX s at_ hlt k1
    ·rw[g1]at k1
     have e1:D=d':=congrArg Prod.fst (Option.some.inj k1)
     subst e1
     rw[hr]at k2
     cases k2
  ·refine .inr ⟨fun l hl=>?_,e,g2,?_⟩
   ·rcases hl.inv with ⟨k1,_⟩|⟨d',w,k1,k2,k3⟩
    ·exact bX s at_ hlt k1
    ·rw[g1]at k1;cases k1
   ·rw[g3,Bf]
    unfold xK
    simp only[AaK g2,Bool.not_false,cond_true,Bf]
noncomputable def iH (l:List Int) (r:Int):Nat->Nat->OL->List Int
 |0,_,_=> []
 |n+1,k,s=>(if l.getD k 0=r then dv s.b 2147483648 0 (dOf s r (Tw l r k))else [])++iH l r n (k+1) (Py l r k s)
noncomputable def Y1 (l:List Int):List Int->OL->List Int
 | [],_=> []
 |r::q,s=>iH l r l.length 0 s++Y1 l q (MC l r l.length 0 s)
theorem AeI (l:List Int) (r:Int): ∀(n k:Nat) (s:OL),(MC l r n k s).o=s.o++(iH l r n k s).map sg
 |0,k,s=>by simp[MC,iH]
 |n+1,k,s=>by
  rw[MC,iH,AeI l r n (k+1)]
  unfold Py
  split
  ·show(s.o++aD _ _ _ _)++_=_
   rw[Acf,List.map_append,List.append_assoc]
  ·rfl
theorem Aci (l:List Int): ∀(q:List Int) (s:OL),(XY l q s).o=s.o++(Y1 l q s).map sg
 | [],s=>by simp[XY,Y1]
 |r::q,s=>by
  show(XY l q (MC l r l.length 0 s)).o=_
  rw[Aci l q,AeI,Y1,List.map_append,List.append_assoc]
def dN (l:List Int) (r:Int) (k:Nat):List Int:=(l.take k).filter (fun x=>decide (x<=r))++(l.drop k).filter fun x=>decide (x<r)
theorem Ace {l:List Int} {r:Int} {k:Nat} (hk:k<l.length) (h:l.getD k 0≠r):dN l r (k+1)=dN l r k:=by
 unfold dN
 rw[Qq l k hk,UD (d:=0) hk,List.filter_append,List.append_assoc]
 generalize l.getD k 0=x at h
 by_cases hx:x<r
 ·have h1:decide (x<=r)=true:=decide_eq_true (by omega)
  simp only[List.filter_cons,List.filter_nil,h1,decide_eq_true hx,if_true,List.cons_append,List.nil_append]
 ·have h1:decide (x<=r)=false:=decide_eq_false (by omega)
  simp only[List.filter_cons,List.filter_nil,h1,decide_eq_false hx,Bool.false_eq_true,if_false,List.nil_append]
theorem AiN {l:List Int} {r:Int} {k:Nat} (hk:k<l.length) (h:l.getD k 0=r):dN l r (k+1)=(dN l r k).take (Tw l r k)++r::(dN l r k).drop (Tw l r k):=by
 have hlen:((l.take k).filter (fun x=>decide (x<=r))).length=Tw l r k:=by
  unfold Tw;rw[List.countP_eq_length_filter]
 have h1:decide (r<=r)=true:=decide_eq_true (by omega)
 have h2:decide (r<r)=false:=decide_eq_false (by omega)
 have e1:dN l r (k+1)=(l.take k).filter (fun x=>decide (x<=r))++r::(l.drop k).filter fun x=>decide (x<r):=by
  unfold dN
  rw[Qq l k hk,UD (d:=0) hk,List.filter_append,List.append_assoc,h]
  simp only[List.filter_cons,List.filter_nil,h1,h2,if_true,Bool.false_eq_true,if_false,List.cons_append,List.nil_append]
 rw[e1]
 unfold dN
 rw[List.take_left' hlen,List.drop_left' hlen]
theorem Afe {l:List Int} {r:Int} : ∀k,k<=l.length->(dN l r k).length=ltN l r+eqN l r k
 |0,_=>by
  unfold dN ltN eqN
  simp[List.countP_eq_length_filter]
 |k+1,h=>by
  have ih:=Afe (l:=l) (r:=r) k (by omega)
  have e:=xW l r k (by omega)
  by_cases hx:l.getD k 0=r
  ·rw[if_pos hx]at e
   rw[AiN (by omega) hx,e]
   have:=pO l r k
   simp;omega
  ·rw[if_neg hx]at e
   rw[Ace (by omega) hx,ih,e]
   omega
theorem AcM {l:List Int} {r:Int} (hr:V5 r=true) {rest fin:List Int} : ∀(n k:Nat) (s:OL),k+n=l.length->iD l r k s->
  Run (MC l r n k s).b (MC l r n k s).f (MC l r n k s).n (MC l r n k s).i (dN l r l.length) rest fin->Run s.b s.f s.n s.i (dN l r k) (iH l r n k s++rest) fin
 |0,k,s,hk,h,hrun=>by
  have:l.length=k:=by omega
  rw[this]at hrun
  exact hrun
 |n+1,k,s,hk,h,hrun=>by
  rw[MC]at hrun
  have ih:=AcM hr n (k+1) (Py l r k s) (by omega) (Y9 h (by omega)) hrun
  rw[iH,List.append_assoc]
  by_cases hx:l.getD k 0=r
  ·rw[if_pos hx]
   have hst:Py l r k s=o7 s r (Tw l r k):=by unfold Py;rw[if_pos hx]
   rw[hst]at ih ⊢
   obtain⟨d0,d1,a1,a2⟩:=AaW h
   have hrd:=Ai5 s.b 2147483648 0 1 0 (dOf s r (Tw l r k)) (iH l r n (k+1) (o7 s r (Tw l r k))++rest) d0 (by omega) (by omega) (by omega) (by omega)
   rw[Int.mul_one,Int.zero_add]at hrd
   have hlen:=Afe (l:=l) (r:=r) k (by omega)
   have hm:=h.m
   have hah:=pO l r k
   have hid:s.i+dOf s r (Tw l r k)=(Tw l r k:Int)+(s.m+1)*(r-s.n):=by
    unfold dOf
    rw[Int.mul_comm (s.m+1)];omega
   have hL:((dN l r k).length:Int)+1=s.m+1:=by omega
   have e1:s.n+(s.i+dOf s r (Tw l r k))/(((dN l r k).length:Int)+1)=r:=by
    rw[hid,hL,Int.add_mul_ediv_left _ _ (by omega),Int.ediv_eq_zero_of_lt (by omega) (by omega)]
    omega
   have e2:(s.i+dOf s r (Tw l r k))%(((dN l r k).length:Int)+1)=(Tw l r k:Int):=by
    rw[hid,hL,Int.add_mul_emod_self_left,Int.emod_eq_of_lt (by omega) (by omega)]
   refine Run.step hrd (by rw[e1];exact hr) ?_
   rw[e1,e2,hL,Int.toNat_natCast,<- AiN (by omega) hx]
   exact ih
  ·rw[if_neg hx,List.nil_append]
   have hst:Py l r k s=s:=by unfold Py;rw[if_neg hx]
   rw[hst,Ace (by omega) hx]at ih
   rw[hst]
   exact ih
theorem zU {l:List Int} : ∀(q:List Int) (lo:Int) (s:OL),rZ l lo s->Rest l lo q->Run s.b s.f s.n s.i (l.filter fun x=>decide (x<=lo)) (Y1 l q s) l
 | [],lo,s,hs,hr=>by
   have:l.filter (fun x=>decide (x<=lo))=l:=List.filter_eq_self.2 fun x hx=>by
     by_cases hc:lo<x
     ·have:=(hr.mem x).2 ⟨hx,hc⟩
      cases this
     ·simp;omega
   rw[this]
   exact .nil
 |r::q,lo,s,hs,hr=>by
  obtain⟨h1,h2,h3,h4⟩:=hr.head
  have ih:=zU q r _ (bM hs hr) h4
  have e0:dN l r 0=l.filter fun x=>decide (x<=lo):=by
   unfold dN
   simp only[List.take_zero,List.filter_nil,List.nil_append,List.drop_zero]
   exact List.filter_congr fun x hx=>by rw[decide_eq_decide];exact h3 x hx
  have e1:dN l r l.length=l.filter fun x=>decide (x<=r):=by
   unfold dN
   simp
  rw[<- e0]
  rw[<- e1]at ih
  exact AcM (hs.rt r h1) l.length 0 s (by omega) (Xn hs hr) ih
noncomputable def FY (l:List Int):List Int:=Y1 l (dst (Tk l)) ⟨72,false,Oz l,128,0,((Lj l).length:Int)⟩
theorem Acg (l:List Int):(KV l).o=Oz l++(FY l).map sg:=Aci l _ _
theorem Aiz (l:List Int) (hl:l.length<=120) (hr: ∀x∈l,V5 x=true):Run 72 false 128 0 (Lj l) (FY l) l:=by
 have h:=zU (dst (Tk l)) 127 ⟨72,false,Oz l,128,0,((Lj l).length:Int)⟩ (YC l hl hr) (rest_start l)
 have e:(l.filter fun x=>decide (x<=127))=Lj l:=List.filter_congr fun x _=>by rw[decide_eq_decide];omega
 rw[e]at h
 exact h
theorem Aiy {b:Int} {f:Bool} {n i:Int} {out vs l l':List Int} (h:Run b f n i out vs l) (h':Run b f n i out vs l'):l=l':=by
 induction h with
 |nil=>
  rcases h'.inv with ⟨_,h2⟩|⟨d,w,h2,_⟩
  ·exact h2.symm
  ·cases h2
 |step h1 h2 h3 ih=>
  rcases h'.inv with ⟨k1,_⟩|⟨d',w,k1,k2,k3⟩
  ·rw[k1]at h1;cases h1
  ·rw[h1]at k1
   have e1:=congrArg Prod.fst (Option.some.inj k1)
   have e2:=congrArg Prod.snd (Option.some.inj k1)
   simp only at e1 e2
   subst e1 e2
   exact ih k3
structure At (n i:Int) (out:List Int):Prop where
 i0:0<=i
 il:i<=out.length
 le: ∀x∈out,x<=n
 ne: ∀j:Nat,i<=j->j<out.length->out.getD j 0≠n
theorem AbW {n i d:Int} {out:List Int} (h:At n i out) (hd:0<=d):0<=(i+d)/((out.length:Int)+1)/\0<=(i+d)%((out.length:Int)+1)/\(i+d)%((out.length:Int)+1)<=out.length/\((i+d)/((out.length:Int)+1)=0->i<=(i+d)%((out.length:Int)+1))/\(i+d)%((out.length:Int)+1)+((out.length:Int)+1)*((i+d)/((out.length:Int)+1))=i+d:=by
 have h1:=h.i0
 have h2:=h.il
 have q0:0<=(i+d)/((out.length:Int)+1):=Int.ediv_nonneg (by omega) (by omega)
 have m0:0<=(i+d)%((out.length:Int)+1):=Int.emod_nonneg _ (by omega)
 have m1:(i+d)%((out.length:Int)+1)<(out.length:Int)+1:=Int.emod_lt_of_pos _ (by omega)
 have e:=Int.emod_add_mul_ediv (i+d) ((out.length:Int)+1)
 refine⟨q0,m0,by omega,fun hq=>?_,e⟩
 rw[hq,Int.mul_zero]at e
 omega
theorem Afx (out:List Int) (p j:Nat) (x:Int) (hp:p<=out.length):(out.take p++x::out.drop p).getD j 0=if j<p then out.getD j 0 else if j=p then x else out.getD (j-1) 0:=by
 simp only[List.getD_eq_getElem?_getD,List.getElem?_append,List.length_take,List.getElem?_take]
 rw[Nat.min_eq_left hp]
 by_cases h:j<p
 ·rw[if_pos h,if_pos h,if_pos h]
 ·rw[if_neg h,if_neg h]
  by_cases h2:j=p
  ·rw[if_pos h2,h2,Nat.sub_self];rfl
  ·rw[if_neg h2]
   obtain⟨m,rfl⟩: ∃m,j=p+(m+1):=⟨j-p-1,by omega⟩
   rw[show p+(m+1)-p=m+1 by omega,List.getElem?_cons_succ,List.getElem?_drop]
   congr 2
theorem At.next {n i d:Int} {out:List Int} (h:At n i out) (hd:0<=d):At (n+(i+d)/((out.length:Int)+1)) ((i+d)%((out.length:Int)+1)+1) (out.take ((i+d)%((out.length:Int)+1)).toNat++(n+(i+d)/((out.length:Int)+1))::out.drop ((i+d)%((out.length:Int)+1)).toNat):=by
 obtain⟨q0,m0,m1,hq,_⟩:=AbW h hd
 generalize (i+d)/((out.length:Int)+1)=q at q0 hq
 generalize (i+d)%((out.length:Int)+1)=p at m0 m1 hq
 obtain⟨P,rfl⟩: ∃P:Nat,p=P:=⟨p.toNat,by omega⟩
 rw[Int.toNat_natCast]
 refine⟨by omega,by simp;omega,fun x hx=>?_,fun j hj hjl=>?_⟩
 ·rcases List.mem_append.1 hx with hx|hx
  ·have:=h.le x (List.mem_of_mem_take hx);omega
  ·rcases List.mem_cons.1 hx with rfl|hx
   ·omega
   ·have:=h.le x (List.mem_of_mem_drop hx);omega
 ·rw[Afx _ _ _ _ (by omega),if_neg (by omega),if_neg (by omega)]
  simp at hjl
  have hin:=h.le _ (Fe (l:=out) (d:=0) (i:=j-1) (by omega))
  by_cases hq0:q=0
  ·have:=hq hq0
   have:=h.ne (j-1) (by omega) (by omega)
   omega
  ·omega
theorem AgB {b:Int} : ∀ {vs:List Int} {k u d D:Int} {vs':List Int},rdV b k u d vs=some (D,vs')->(∀v∈vs',v∈vs)/\vs'.length<vs.length
 | [],k,u,d,D,vs',h=>by cases h
 |w::vs,k,u,d,D,vs',h=>by
  rw[rdV]at h
  split at h
  ·cases h
  split at h
  ·cases h
  split at h
  ·have e2:vs=vs':=congrArg Prod.snd (Option.some.inj h)
   subst e2
   exact⟨fun v hv=>List.mem_cons_of_mem _ hv,by simp⟩
  ·obtain⟨h1,h2⟩:=AgB h
   exact⟨fun v hv=>List.mem_cons_of_mem _ (h1 v hv),by simp;omega⟩
def lastH (s:ByteArray):Nat->Int
 |0=> -1
 |k+1=>if bt s (k:Int)=45 then(k:Int)else lastH s k
theorem kN (s:ByteArray): ∀k,-1<=lastH s k/\lastH s k<k
 |0=>⟨by simp[lastH],by simp[lastH]⟩
 |k+1=>by
  unfold lastH
  split
  ·omega
  ·have:=kN s k;omega
theorem yY (s:ByteArray) (hs:s.size<=1000):I4 s 45=some (lastH s s.size):=by
 have key: ∀k:Nat,k<=s.size->iter (Cw s 45) ((k:Int)-1)=some (if lastH s k= -1 then .inl ()else .inr (lastH s k)):=by
  intro k
  induction k with
  |zero=>
   intro _
   rw[Ay (x:=.inl ()) (by
       unfold Cw
       rfl)]
   rfl
  |succ k ih=>
   intro hk
   rw[show(((k+1:Nat):Int)-1)=(k:Int) by omega]
   by_cases h:bt s (k:Int)=45
   ·rw[Ay (x:=.inr (k:Int)) (by
         unfold Cw
         rw[show decide ((k:Int)>=0)=true by simp,cond_true,if_pos (by omega),show(bt s (k:Int)==45)=true by simp[h],cond_true])]
    unfold lastH
    rw[if_pos h,if_neg (by omega)]
   ·rw[Bh (s':=(k:Int)-1) (by
         unfold Cw
         rw[show decide ((k:Int)>=0)=true by simp,cond_true,if_pos (by omega),show(bt s (k:Int)==45)=false by simp[h],cond_false,Gy (by omega) (by omega)])]
    rw[ih (by omega)]
    have:lastH s (k+1)=lastH s k:=by rw[lastH,if_neg h]
    rw[this]
 unfold I4 FN
 rw[Gy (by omega) (by omega),key s.size (Nat.le_refl _),Aa]
 by_cases h:lastH s s.size= -1
 ·rw[if_pos h,h];rfl
 ·rw[if_neg h];rfl
def asc (s:ByteArray) (n:Nat):Prop:= ∀j:Nat,j<n->bt s (j:Int)<128
theorem AeV (t:ByteArray) (i:Nat):((t.get! i).toNat:Int)=bt t (i:Int):=by
 unfold bt
 rw[Int.toNat_natCast,ByteArray.get!,Array.getElem!_eq_getD,Array.getD_eq_getD_getElem?,List.getD_eq_getElem?_getD,Array.getElem?_toList]
 rfl
theorem rJ (t:ByteArray) (h:asc t t.size): ∀(n i:Nat) (acc:Array Value),i+n=t.size->(Conv.runesFrom t n i acc).toList=acc.toList++(List.range n).map fun j=>Value.int .i32 (bt t ((i+j:Nat):Int))
 |0,i,acc,_=>by simp[Conv.runesFrom]
 |n+1,i,acc,hi=>by
  have hlt:i<t.size:=by omega
  have hb:=h i hlt
  have hd:Utf8.decode t i=((t.get! i).toNat,1):=by
   have:(t.get! i).toNat<128:=by have:=AeV t i;omega
   unfold Utf8.decode
   simp only[Nat.add_zero]
   rw[if_pos this]
  unfold Conv.runesFrom
  rw[if_pos hlt,hd]
  simp only
  rw[rJ t h n (i+1) _ (by omega),Array.toList_push,List.append_assoc,List.range_succ_eq_map,List.map_cons,List.map_map]
  congr 1
  rw[List.singleton_append]
  congr 1
  ·rw[Nat.add_zero,<- AeV];rfl
  ·refine List.map_congr_left fun j hj=>?_
   simp only[Function.comp]
   rw[show i+1+j=i+(j+1) by omega]
theorem YB (t:ByteArray) (h:asc t t.size):runesL t=(List.range t.size).map fun j=>bt t ((j:Nat):Int):=by
 unfold runesL
 rw[rJ t h t.size 0 #[] (by omega)]
 simp
theorem jB (s:ByteArray) (hs:s.size<=1000) (k:Nat) (hk:k<s.size):Fz s (k:Int)=some (if 128<=bt s (k:Int)then .done (.inr ([], .box 70 (k:Int) (.sent 7)))else .next ((k+1:Nat):Int)):=by
 unfold Fz
 rw[show decide ((k:Int)<((s.size:Nat):Int))=true by simp;omega,cond_true,if_pos (by omega)]
 by_cases h:128<=bt s (k:Int)
 ·rw[show decide (bt s (k:Int)>=128)=true by simp;omega,cond_true,if_pos h];rfl
 ·rw[show decide (bt s (k:Int)>=128)=false by simp;omega,cond_false,if_neg h,up (by omega)]
theorem AaP (s:ByteArray) (hs:s.size<=1000) (ha:asc s s.size): ∀(m k:Nat),k+m=s.size->iter (Fz s) (k:Int)=some (.inl ())
 |0,k,hk=>by
  have:k=s.size:=by omega
  subst this
  refine Ay ?_
  unfold Fz
  simp
 |m+1,k,hk=>by
  have h:=jB s hs k (by omega)
  rw[if_neg (by have:=ha k (by omega);omega)]at h
  rw[Bh h]
  exact AaP s hs ha m (k+1) (by omega)
theorem Acb (s:ByteArray) (hs:s.size<=1000) (j:Nat) (hj:j<s.size) (ha:asc s j) (hb:128<=bt s (j:Int)): ∀(m k:Nat),k+m=j->iter (Fz s) (k:Int)=some (.inr ([], .box 70 (j:Int) (.sent 7)))
 |0,k,hk=>by
  have:k=j:=by omega
  subst this
  have h:=jB s hs k hj
  rw[if_pos hb]at h
  exact Ay h
 |m+1,k,hk=>by
  have h:=jB s hs k (by omega)
  rw[if_neg (by have:=ha k (by omega);omega)]at h
  rw[Bh h]
  exact Acb s hs j hj ha hb m (k+1) (by omega)
theorem AbM (a:List Int) (ha:a.length<4611686018427387904):LB a a=some true:=by
 unfold LB
 rw[show(((a.length:Nat):Int) != ((a.length:Nat):Int))=false by simp,cond_false]
 rw[El a.length (fun _=>none) (fun i hi _=>by
  unfold Mt
  rw[show decide ((i:Int)<((a.length:Nat):Int))=true by simp;omega,cond_true,if_pos (by omega),if_pos (by omega),show(a.getD (i:Int).toNat 0 != a.getD (i:Int).toNat 0)=false by simp,cond_false,up (by omega)]) (fun _=>by
  unfold Mt
  simp)]
 rw[Bl.2 (fun _ _ _=>rfl)]
 rfl
theorem Z4 (l:List Int) (h: ∀x∈l,0<=x/\x<=255) (j:Nat) (hj:j<l.length):bt (strOfNums l) (j:Int)=l.getD j 0:=by
 have e:=Ai2 l h
 have h2:(numsOf (strOfNums l)).getD j 0=bt (strOfNums l) (j:Int):=by
  unfold numsOf bt
  have hs:j<(strOfNums l).data.toList.length:=by
   have:=Lb l
   have e2:(strOfNums l).data.toList.length=(strOfNums l).size:=Array.length_toList
   omega
  rw[List.getD_eq_getElem?_getD,List.getElem?_map,List.getD_eq_getElem?_getD,Int.toNat_natCast,List.getElem?_eq_getElem hs]
  rfl
 rw[<- h2,e]
theorem decode_at (s:ByteArray) (hs:s.size<=120) (ha:asc s s.size) (y:Nat) (hy:lastH s s.size=(y:Int)) (h0:0<y):Im s=Ih s (((y+1:Nat):Int),(List.range y).map fun j=>bt s ((j:Nat):Int)):=by
 have hin:=kN s s.size
 have hc:iter (Fz s) 0=some (.inl ()):=AaP s (by omega) ha s.size 0 (by omega)
 have hex:(s.extract 0 y).size=y:=by simp[ByteArray.size_extract];omega
 have hbx: ∀j:Nat,j<y->bt (s.extract 0 y) (j:Int)=bt s (j:Int):=fun j hj=>by
  unfold bt
  simp only[Int.toNat_natCast,List.getD_eq_getElem?_getD,Array.getElem?_toList,ByteArray.data_extract]
  rw[Array.getElem?_extract,if_pos (by have:=hin.2;have:s.data.size=s.size:=rfl;omega),Nat.zero_add]
 have hru:runesL (s.extract 0 y)=(List.range y).map fun j=>bt s ((j:Nat):Int):=by
  rw[YB _ (fun j hj=>by rw[hbx j (by omega)];exact ha j (by omega)),hex]
  exact List.map_congr_left fun j hj=>hbx j (List.mem_range.1 hj)
 unfold Im
 rw[show decide (((s.size:Nat):Int)>120)=false from decide_eq_false (by omega),cond_false,hc,Bf]
 simp only
 unfold Ns
 rw[yY s (by omega),Bf,show decide (lastH s s.size>0)=true from decide_eq_true (by omega),cond_true,if_pos (by omega),hy,Int.toNat_natCast,if_pos (by omega),hru,up (by omega),Bf]
theorem qA (s:ByteArray) (hs:s.size<=120) (ha:asc s s.size) (hy: ¬lastH s s.size>0):Im s=Ih s (0,[]):=by
 have hc:iter (Fz s) 0=some (.inl ()):=AaP s (by omega) ha s.size 0 (by omega)
 unfold Im
 rw[show decide (((s.size:Nat):Int)>120)=false from decide_eq_false (by omega),cond_false,hc,Bf]
 simp only
 unfold Ns
 rw[yY s (by omega),Bf,show decide (lastH s s.size>0)=false from decide_eq_false hy,cond_false,Bf]
theorem Abt (s:ByteArray) (hs:s.size<=120) (at_:Nat) (out:List Int) (ha:at_<=s.size) (ho:out.length<=at_):
  (∃l,Run 72 false 128 0 out (Kz s at_) l/\Ih s ((at_:Int),out)=some (l, .nil))∨((∀l,¬Run 72 false 128 0 out (Kz s at_) l)/\ ∃e,bx e=true/\Ih s ((at_:Int),out)=some ([],e)):=by
 unfold Ih
 simp only
 rcases AgL s hs s.size at_ 72 false 128 0 out (by omega) ha (by omega) (by omega) (by omega) (by omega) (by omega) (by omega) ho with ⟨l,bb,ff,nn,ii,h1,h2⟩|⟨h1,e,h2,h3⟩
 ·rw[h2,Bf]
  exact .inl ⟨l,h1,rfl⟩
 ·rw[h3,Bf]
  exact .inr ⟨h1,e,h2,rfl⟩
theorem AiO (b:Int): ∀(n:Nat) (k d:Int),0<=d-> ∀x∈dv b n k d,0<=x/\x<=35
 |0,_,_,_,x,hx=>by simp[dv]at hx
 |n+1,k,d,h0,x,hx=>by
  have hB:=YG b k
  unfold dv at hx
  split at hx
  ·rw[List.mem_singleton]at hx;omega
  ·have m0:0<=(d-Je b k)%(36-Je b k):=Int.emod_nonneg _ (by omega)
   have m1:(d-Je b k)%(36-Je b k)<36-Je b k:=Int.emod_lt_of_pos _ (by omega)
   rcases List.mem_cons.1 hx with rfl|hx
   ·omega
   ·exact AiO b n (k+1) _ (Int.ediv_nonneg (by omega) (by omega)) x hx
theorem Ab5 {l:List Int} {r:Int} : ∀(n k:Nat) (s:OL),k+n=l.length->iD l r k s-> ∀x∈iH l r n k s,0<=x/\x<=35
 |0,k,s,hk,h,x,hx=>by simp[iH]at hx
 |n+1,k,s,hk,h,x,hx=>by
  rw[iH]at hx
  rcases List.mem_append.1 hx with hx|hx
  ·split at hx
   ·exact AiO _ _ _ _ (AaW h).1 x hx
   ·cases hx
  ·exact Ab5 n (k+1) _ (by omega) (Y9 h (by omega)) x hx
theorem xZ {l:List Int} : ∀(q:List Int) (lo:Int) (s:OL),rZ l lo s->Rest l lo q-> ∀x∈Y1 l q s,0<=x/\x<=35
 | [],lo,s,hs,hr,x,hx=>by simp[Y1]at hx
 |r::q,lo,s,hs,hr,x,hx=>by
  rw[Y1]at hx
  rcases List.mem_append.1 hx with hx|hx
  ·exact Ab5 l.length 0 s (by omega) (Xn hs hr) x hx
  ·exact xZ q r _ (bM hs hr) hr.head.2.2.2 x hx
theorem Aar {l:List Int} (hl:l.length<=120) (hr: ∀x∈l,V5 x=true): ∀x∈FY l,0<=x/\x<=35:=
 xZ _ 127 _ (YC l hl hr) (rest_start l)
theorem AiJ {x:Int} (h:0<=x) (h':x<=35):nJ (sg x)=x:=by
 unfold nJ sg
 by_cases hx:x<26
 ·rw[if_pos hx,if_pos (by omega)];omega
 ·rw[if_neg hx,if_neg (by omega),if_neg (by omega),if_pos (by omega)];omega
theorem AaH {l:List Int} (hr: ∀x∈l,V5 x=true): ∀x∈Lj l,0<=x/\x<=127:=fun x hx=>by
 obtain⟨h1,h2⟩:=List.mem_filter.1 hx
 have:=vN (hr x h1)
 simp at h2
 omega
theorem kP (s:ByteArray): ∀n,(∀j:Nat,j<n->bt s (j:Int)≠45)->lastH s n= -1
 |0,_=>rfl
 |n+1,h=>by
  rw[lastH,if_neg (h n (by omega))]
  exact kP s n fun j hj=>h j (by omega)
theorem yX (s:ByteArray) (y:Nat) (hy:bt s (y:Int)=45): ∀n,y<n->(∀j:Nat,y<j->j<n->bt s (j:Int)≠45)->lastH s n=(y:Int)
 |0,h,_=>by omega
 |n+1,h,h2=>by
  rw[lastH]
  by_cases hn:n=y
  ·subst hn;rw[if_pos hy]
  ·rw[if_neg (h2 n (by omega) (by omega))]
   exact yX s y hy n (by omega) fun j h3 h4=>h2 j h3 (by omega)
theorem dL (v:List Int) (j:Nat) (hj:j<v.length):(v.map sg).getD j 0=sg (v.getD j 0):=by
 simp[List.getD_eq_getElem?_getD,hj]
theorem AhC (l:List Int) (hl:l.length<=120) (hr: ∀x∈l,V5 x=true) (ho:(KV l).o.length<=120):Im (strOfNums (KV l).o)=some (l, .nil):=by
 have hb:=AaH hr
 have hv:=Aar hl hr
 have hrun:=Aiz l hl hr
 have hsg: ∀x∈(FY l).map sg,48<=x/\x<=122:=fun x hx=>by
  obtain⟨v,h1,rfl⟩:=List.mem_map.1 hx
  have:=hv v h1
  exact rP this.1 this.2
 have hvg: ∀j,j<(FY l).length->nJ (sg ((FY l).getD j 0))=(FY l).getD j 0:=fun j hj=>by
  have:=hv _ (Fe (l:=FY l) (d:=0) hj)
  exact AiJ this.1 this.2
 rw[Acg]at ho ⊢
 rw[List.length_append,List.length_map]at ho
 have fin: ∀(at_:Nat),at_=(Oz l).length->Kz (strOfNums (Oz l++(FY l).map sg)) at_=FY l->(Lj l).length<=at_->Ih (strOfNums (Oz l++(FY l).map sg)) ((at_:Int),Lj l)=some (l, .nil):=by
  intro at_ hat hva hle
  rcases Abt (strOfNums (Oz l++(FY l).map sg)) (by rw[Lb,List.length_append,List.length_map];omega) at_ (Lj l) (by rw[Lb,List.length_append];omega) hle with ⟨l',h1,h2⟩|⟨h1,_⟩
  ·rw[hva]at h1
   rw[h2,Aiy h1 hrun]
  ·rw[hva]at h1
   exact absurd hrun (h1 l)
 by_cases h0:0<(Lj l).length
 ·have eB:Oz l=Lj l++ [45]:=by unfold Oz;rw[if_pos h0]
  rw[eB]at ho fin ⊢
  rw[List.length_append,List.length_singleton]at ho fin
  have hby: ∀x∈Lj l++ [45]++(FY l).map sg,0<=x/\x<=127:=fun x hx=>by
   rcases List.mem_append.1 hx with hx|hx
   ·rcases List.mem_append.1 hx with hx|hx
    ·exact hb x hx
    ·rw[List.mem_singleton]at hx;omega
   ·have:=hsg x hx;omega
  have hlen:(Lj l++ [45]++(FY l).map sg).length=(Lj l).length+1+(FY l).length:=by simp;omega
  have hbt:=Z4 (Lj l++ [45]++(FY l).map sg) (fun x hx=>by have:=hby x hx;omega)
  have hsz:=Lb (Lj l++ [45]++(FY l).map sg)
  rw[hlen]at hbt hsz
  have b1:bt (strOfNums (Lj l++ [45]++(FY l).map sg)) ((Lj l).length:Int)=45:=by
   rw[hbt _ (by omega),List.append_assoc,List.getD_eq_getElem?_getD,List.getElem?_append_right (Nat.le_refl _),Nat.sub_self]
   rfl
  have b2: ∀j,j<(FY l).length->bt (strOfNums (Lj l++ [45]++(FY l).map sg)) (((Lj l).length+1+j:Nat):Int)=sg ((FY l).getD j 0):=fun j hj=>by
   rw[hbt _ (by omega),List.getD_eq_getElem?_getD,List.getElem?_append_right (by first|(simp;done)|(simp;omega)),<- dL _ _ hj,List.getD_eq_getElem?_getD]
   congr 2
   first|(simp;done)|(simp;omega)
  have b3: ∀j,j<(Lj l).length->bt (strOfNums (Lj l++ [45]++(FY l).map sg)) (j:Int)=(Lj l).getD j 0:=fun j hj=>by
   rw[hbt _ (by omega),List.append_assoc,List.getD_eq_getElem?_getD,List.getElem?_append_left hj,List.getD_eq_getElem?_getD]
  have hasc:asc (strOfNums (Lj l++ [45]++(FY l).map sg)) (strOfNums (Lj l++ [45]++(FY l).map sg)).size:=fun j hj=>by
   rw[hbt j (by omega)]
   have:=hby _ (Fe (d:=0) (show j<(Lj l++ [45]++(FY l).map sg).length by omega))
   omega
  have hlast:lastH (strOfNums (Lj l++ [45]++(FY l).map sg)) (strOfNums (Lj l++ [45]++(FY l).map sg)).size=((Lj l).length:Int):=by
   refine yX _ _ b1 _ (by omega) fun j h1 h2=>?_
   obtain⟨m,rfl⟩: ∃m,j=(Lj l).length+1+m:=⟨j-((Lj l).length+1),by omega⟩
   rw[b2 m (by omega)]
   have:=hv _ (Fe (l:=FY l) (d:=0) (i:=m) (by omega))
   have:=rP this.1 this.2
   omega
  rw[decode_at _ (by omega) hasc (Lj l).length hlast h0]
  have hpre:((List.range (Lj l).length).map fun j=>bt (strOfNums (Lj l++ [45]++(FY l).map sg)) ((j:Nat):Int))=Lj l:=by
   apply List.ext_getElem?
   intro j
   rw[List.getElem?_map]
   by_cases hj:j<(Lj l).length
   ·rw[List.getElem?_range hj,List.getElem?_eq_getElem hj]
    simp only[Option.map_some]
    rw[b3 j hj,List.getD_eq_getElem?_getD,List.getElem?_eq_getElem hj];rfl
   ·rw[List.getElem?_eq_none (by simp;omega),List.getElem?_eq_none (by omega)];rfl
  rw[hpre]
  refine fin ((Lj l).length+1) rfl ?_ (by omega)
  apply List.ext_getElem?
  intro j
  unfold Kz
  rw[List.getElem?_map,hsz,show(Lj l).length+1+(FY l).length-((Lj l).length+1)=(FY l).length by omega]
  by_cases hj:j<(FY l).length
  ·rw[List.getElem?_range hj,List.getElem?_eq_getElem hj]
   simp only[Option.map_some]
   rw[b2 j hj,hvg j hj,List.getD_eq_getElem?_getD,List.getElem?_eq_getElem hj];rfl
  ·rw[List.getElem?_eq_none (by simp;omega),List.getElem?_eq_none (by omega)];rfl
 ·have hbn:Lj l= []:=List.eq_nil_of_length_eq_zero (by omega)
  have eB:Oz l= []:=by unfold Oz;rw[if_neg h0,hbn]
  rw[eB]at ho fin ⊢
  rw[List.nil_append]at fin ⊢
  have hbt:=Z4 ((FY l).map sg) (fun x hx=>by have:=hsg x hx;omega)
  have hsz:=Lb ((FY l).map sg)
  rw[List.length_map]at hbt hsz
  have b2: ∀j,j<(FY l).length->bt (strOfNums ((FY l).map sg)) (j:Int)=sg ((FY l).getD j 0):=fun j hj=>by
   rw[hbt j hj,dL _ _ hj]
  have hgd: ∀j,j<(FY l).length->48<=sg ((FY l).getD j 0)/\sg ((FY l).getD j 0)<=122:=fun j hj=>by
   have:=hv _ (Fe (l:=FY l) (d:=0) hj)
   exact rP this.1 this.2
  have hasc:asc (strOfNums ((FY l).map sg)) (strOfNums ((FY l).map sg)).size:=fun j hj=>by
   rw[b2 j (by omega)]
   have:=hgd j (by omega);omega
  have hlast:lastH (strOfNums ((FY l).map sg)) (strOfNums ((FY l).map sg)).size= -1:=by
   refine kP _ _ fun j hj=>?_
   rw[b2 j (by omega)]
   have:=hgd j (by omega);omega
  simp only[List.length_nil]at ho
  rw[qA _ (by omega) hasc (by rw[hlast];omega),<- hbn]
  refine fin 0 rfl ?_ (by omega)
  apply List.ext_getElem?
  intro j
  unfold Kz
  rw[List.getElem?_map,hsz,Nat.sub_zero]
  by_cases hj:j<(FY l).length
  ·rw[List.getElem?_range hj,List.getElem?_eq_getElem hj]
   simp only[Option.map_some]
   rw[Nat.zero_add,b2 j hj,hvg j hj,List.getD_eq_getElem?_getD,List.getElem?_eq_getElem hj];rfl
  ·rw[List.getElem?_eq_none (by simp;omega),List.getElem?_eq_none (by omega)];rfl
def low (b:Int):Int:=if 65<=b/\b<=90 then b+32 else b
theorem AhK (s:ByteArray) (k:Nat) (hk:k<=s.size):s.extract 0 k=strOfNums ((List.range k).map fun j=>bt s ((j:Nat):Int)):=by
 apply ByteArray.ext
 apply Array.toList_inj.1
 have e1:(s.extract 0 k).data.toList=s.data.toList.take k:=by simp[ByteArray.data_extract]
 have e2:(strOfNums ((List.range k).map fun j=>bt s ((j:Nat):Int))).data.toList=((List.range k).map fun j=>bt s ((j:Nat):Int)).map fun n=>UInt8.ofNat n.toNat:=rfl
 have hl:s.data.toList.length=s.size:=Array.length_toList
 rw[e1,e2,List.map_map]
 apply List.ext_getElem?
 intro j
 by_cases hj:j<k
 ·rw[List.getElem?_take,if_pos hj,List.getElem?_map,List.getElem?_range hj,List.getElem?_eq_getElem (by omega)]
  simp only[Option.map_some,Function.comp]
  unfold bt
  rw[Int.toNat_natCast,List.getD_eq_getElem?_getD,List.getElem?_eq_getElem (by omega)]
  simp
 ·rw[List.getElem?_eq_none (by simp;omega),List.getElem?_eq_none (by simp;omega)]
theorem AcN {b:Int} {f:Bool} {n i:Int} {out vs l:List Int} (h:Run b f n i out vs l):(∀x∈out,V5 x=true)-> ∀x∈l,V5 x=true:=by
 induction h with
 |nil=>exact fun h=>h
 |step h1 h2 h3 ih=>
  intro ho
  refine ih fun x hx=>?_
  rcases List.mem_append.1 hx with hx|hx
  ·exact ho x (List.mem_of_mem_take hx)
  ·rcases List.mem_cons.1 hx with rfl|hx
   ·exact h2
   ·exact ho x (List.mem_of_mem_drop hx)
theorem rH {b:Int} {f:Bool} {n i:Int} {out vs l:List Int} (h:Run b f n i out vs l):l.length<=out.length+vs.length:=by
 induction h with
 |nil=>simp
 |step h1 h2 h3 ih=>
  have:=(AgB h1).2
  simp at ih
  omega
end Go.Proofs.YtkeokkmhhhhoiaaGreatDoor
