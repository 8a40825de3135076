import Derived.Test.YtkeokkmhhhhoiaaGreatDoorM
import Derived.KernelRfl
namespace Go.Proofs.YtkeokkmhhhhoiaaGreatDoor
open Go Go.SE
set_option linter.unusedVariables false
set_option linter.unusedSimpArgs false
theorem AdK {S X:Type} {body:S->Option (Stp S X)} {s:S} (h:body s=none):iter body s=none:=by
 cases hi:iter body s with
 |none=>rfl
 |some x=>
  obtain⟨k,hk⟩:=Wu hi
  cases k with
  |zero=>cases hk
  |succ k=>rw[Lh,h]at hk;cases hk
theorem BL {S X:Type} {body:S->Option (Stp S X)} {s:S} :iter body s=match body s with|some (.next s')=>iter body s'|some (.done x)=>some x|none=>none:=by
 cases hb:body s with
 |none=>exact AdK hb
 |some st=>
  cases st with
  |next s'=>exact Bh hb
  |done x=>exact Ay hb
theorem Gy {x:Int} (h: -9223372036854775808<=x) (h':x<=9223372036854775807):IntKind.wrap .i64 x=x:=by
 have e1:(IntKind.i64).bits=64:=rfl
 have e2:(IntKind.i64).signed=true:=rfl
 simp only[IntKind.wrap,e1,e2,Bool.true_and,decide_eq_true_eq]
 split<;>omega
theorem wu64 {x:Int} (h:0<=x) (h':x<=18446744073709551615):IntKind.wrap .u64 x=x:=by
 have e1:(IntKind.u64).bits=64:=rfl
 have e2:(IntKind.u64).signed=false:=rfl
 simp only[IntKind.wrap,e1,e2,Bool.false_and]
 simp
 omega
theorem w32 {x:Int} (h: -2147483648<=x) (h':x<=2147483647):IntKind.wrap .i32 x=x:=by
 have e1:(IntKind.i32).bits=32:=rfl
 have e2:(IntKind.i32).signed=true:=rfl
 simp only[IntKind.wrap,e1,e2,Bool.true_and,decide_eq_true_eq]
 split<;>omega
theorem up {i:Nat} (h:i<9223372036854775807):IntKind.wrap .i64 ((i:Int)+1)=((i+1:Nat):Int):=by
 rw[Gy (by omega) (by omega)];omega
theorem down {i:Nat} (h:0<i) (h2:i<=9223372036854775807):IntKind.wrap .i64 ((i:Int)-1)=((i-1:Nat):Int):=by
 rw[Gy (by omega) (by omega)];omega
theorem mid {i j:Nat} (h:i+j<9223372036854775808):IntKind.wrap .i64 (Int.fdiv (IntKind.wrap .u64 (IntKind.wrap .i64 ((i:Int)+(j:Int)))) 2)=(((i+j)/2:Nat):Int):=by
 rw[Gy (x:=(i:Int)+j) (by omega) (by omega),wu64 (by omega) (by omega),Int.fdiv_eq_ediv_of_nonneg _ (by omega),Gy (by omega) (by omega)]
 omega
theorem UD {α:Type} {l:List α} {d:α} {i:Nat} (h:i<l.length):l.drop i=l.getD i d::l.drop (i+1):=by
 rw[List.drop_eq_getElem_cons h]
 simp[List.getD_eq_getElem?_getD,h]
theorem Fe {α:Type} {l:List α} {d:α} {i:Nat} (h:i<l.length):l.getD i d∈l:=by
 simp[List.getD_eq_getElem?_getD,h]
theorem RY {α:Type} {R:α->α->Prop} {d:α} : ∀ {l:List α},l.Pairwise R-> ∀ {i j:Nat},i<j->j<l.length->R (l.getD i d) (l.getD j d)
 | [],_,i,j,_,h=>absurd h (Nat.not_lt_zero _)
 |x::l,hp,0,j+1,_,h=>(List.pairwise_cons.1 hp).1 _ (Fe (by simpa using h))
 |x::l,hp,i+1,j+1,hij,h=>RY (List.pairwise_cons.1 hp).2 (by omega) (by simpa using h)
def isFirst (p:Nat->Prop) (n y:Nat):Prop:=y<=n/\(∀k,k<y-> ¬p k)/\(y<n->p y)
section
variable {S X A:Type}
end
def Am {V:Type} (f:Nat->Option V):Nat->Nat->Option V
 |0,_=>none
 |k+1,i=>match f i with|some v=>some v|none=>Am f k (i+1)
theorem Bl {V:Type} {f:Nat->Option V} : ∀ {k i:Nat},Am f k i=none↔ ∀j,i<=j->j<i+k->f j=none
 |0,i=>⟨fun _ j h1 h2=>by omega,fun _=>rfl⟩
 |k+1,i=>by
  rw[Am]
  cases hf:f i with
  |some v=>exact⟨fun h=>(by cases h),fun h=>by have:=h i (Nat.le_refl _) (by omega);rw[hf]at this;cases this⟩
  |none=>
   show Am f k (i+1)=none↔_
   rw[Bl]
   refine⟨fun h j h1 h2=>?_,fun h j h1 h2=>h j (by omega) (by omega)⟩
   by_cases e:j=i
   ·subst e;exact hf
   ·exact h j (by omega) (by omega)
theorem Br {V:Type} {f:Nat->Option V} {v:V} : ∀ {k i:Nat},Am f k i=some v-> ∃j,i<=j/\j<i+k/\f j=some v/\ ∀j',i<=j'->j'<j->f j'=none
 |0,i,h=>by cases h
 |k+1,i,h=>by
  rw[Am]at h
  cases hf:f i with
  |some w=>rw[hf]at h;cases h;exact⟨i,Nat.le_refl _,by omega,hf,fun j' h1 h2=>by omega⟩
  |none=>
   rw[hf]at h
   obtain⟨j,h1,h2,h3,h4⟩:=Br (k:=k) (i:=i+1) h
   refine⟨j,by omega,by omega,h3,fun j' g1 g2=>?_⟩
   by_cases e:j'=i
   ·subst e;exact hf
   ·exact h4 j' (by omega) g2
theorem Ho {V:Type} {f f':Nat->Option V} : ∀ {k i:Nat},(∀j,i<=j->j<i+k->f j=f' j)->Am f k i=Am f' k i
 |0,i,_=>rfl
 |k+1,i,h=>by
  rw[Am,Am,h i (Nat.le_refl _) (by omega),Ho (k:=k) (i:=i+1) fun j h1 h2=>h j (by omega) (by omega)]
def Nv {V:Type} :Option V->Sum Unit V
 |none=>.inl ()
 |some v=>.inr v
theorem El {V:Type} {body:Int->Option (Stp Int (Sum Unit V))} (n:Nat) (f:Nat->Option V)
  (hstep: ∀i,i<n->(∀j,j<i->f j=none)->body (i:Int)=some (match f i with|none=>.next ((i+1:Nat):Int)|some v=>.done (.inr v)))
  (hend:(∀j,j<n->f j=none)->body (n:Int)=some (.done (.inl ()))):iter body 0=some (Nv (Am f n 0)):=by
 have key: ∀(k i:Nat),i+k=n->(∀j,j<i->f j=none)->iter body (i:Int)=some (Nv (Am f k i)):=by
  intro k
  induction k with
  |zero=>
   intro i h hi
   have:i=n:=by omega
   subst this
   rw[Ay (hend hi)]
   rfl
  |succ k ih=>
   intro i h hi
   have h1:=hstep i (by omega) hi
   rw[Am]
   cases hf:f i with
   |none=>
    rw[hf]at h1
    rw[Bh h1]
    refine ih (i+1) (by omega) fun j hj=>?_
    by_cases e:j=i
    ·subst e;exact hf
    ·exact hi j (by omega)
   |some v=>rw[hf]at h1;rw[Ay h1];rfl
 exact key n 0 (by omega) fun j hj=>absurd hj (Nat.not_lt_zero _)
theorem ZX {α:Type} (l:List α) (d:α) (p:α->Bool):(match Am (fun k=>if p (l.getD k d)=true then some true else none) l.length 0 with|none=>false|some v=>v)=l.any p:=by
 cases hf:Am (fun k=>if p (l.getD k d)=true then some true else none) l.length 0 with
 |none=>
  have h:=Bl.1 hf
  refine Eq.symm (List.any_eq_false.2 fun x hx=>?_)
  obtain⟨i,hi,rfl⟩:=List.getElem_of_mem hx
  have:=h i (Nat.zero_le _) (by omega)
  have e:l.getD i d=l[i]:=by simp[List.getD_eq_getElem?_getD,hi]
  simp only[e]at this
  split at this
  ·cases this
  ·assumption
 |some w=>
  obtain⟨j,_,hj,h,_⟩:=Br hf
  split at h
  ·cases h
   exact Eq.symm (List.any_eq_true.2 ⟨l.getD j d,Fe (by omega),by assumption⟩)
  ·cases h
theorem YQ {α:Type} (b:Bool) (x y:α):(bif b then x else y)=if b=true then x else y:=by cases b<;>rfl
theorem Aa {α β:Type} (x:α) (f:α->Option β):Option.bind (some x) f=f x:=rfl
def XF (r:Int) (x:Ap):Bool:=decide (x.GQ<=r)&&decide (r<=x.GD)
def AjB:Option Ap->Int×Bool
 |some x=>(x.CP,true)
 |none=>(0,false)
def qJ (l:List Ap) (r:Int):Int×Bool:=AjB (l.find? (XF r))
theorem qH (l:List Ap) (r:Int) (hl:l.length<4611686018427387904): ∀(k i:Nat),i+k=l.length->iter (JN l r) (i:Int)=some (match (l.drop i).find? (XF r)with|some x=>.inr (x.CP,true)|none=>.inl ())
 |0,i,h=>by
  rw[BL]
  simp[JN,show ¬i<l.length by omega,List.drop_of_length_le (show l.length<=i by omega)]
 |k+1,i,h=>by
  have ih:=qH l r hl k (i+1) (by omega)
  rw[BL,UD (d:=Ai) (show i<l.length by omega)]
  by_cases h1:(l.getD i Ai).GQ<=r<;>by_cases h2:r<=(l.getD i Ai).GD<;>
   simp[JN,PX,show i<l.length by omega,h1,h2,XF,up (show i<9223372036854775807 by omega),ih,List.find?_cons,-List.getD_eq_getElem?_getD,-Int.natCast_add]
theorem find_eq (l:List Ap) (r:Int) (hl:l.length<4611686018427387904):Ov l r=some (qJ l r):=by
 have h:=qH l r hl l.length 0 (by omega)
 simp only[Ov]
 rw[show(0:Int)=((0:Nat):Int) from rfl,h]
 unfold qJ
 rw[List.drop_zero]
 cases l.find? (XF r)<;>rfl
def ordered (l:List Ap):Prop:=(∀x∈l,x.GQ<=x.GD)/\l.Pairwise fun x y=>x.GD<y.GQ
theorem Aej (l:List Ap) (r:Int) (hl:l.length<4611686018427387904) (ho:ordered l): ∃y:Nat,GN (l.length:Int) l r=some ((y:Nat):Int)/\isFirst (fun k=>(l.getD k Ai).GD>=r) l.length y:=by
 have hmono: ∀i j,i<j->j<l.length->(l.getD i Ai).GD<(l.getD j Ai).GD:=fun i j hij hj=>by
  have h1:=RY (d:=Ai) ho.2 hij hj
  have h2:=ho.1 _ (Fe (d:=Ai) hj)
  omega
 have key: ∃x,iter (EJ l r) ((0:Int),(l.length:Int))=some x/\ ∃y:Nat,x=(y:Int)/\isFirst (fun k=>(l.getD k Ai).GD>=r) l.length y:=by
  refine Zc (fun s=> ∃i j:Nat,s=((i:Int),(j:Int))/\i<=j/\j<=l.length/\(∀k,k<i-> ¬(l.getD k Ai).GD>=r)/\(j<l.length->(l.getD j Ai).GD>=r)) (fun s=>(s.2-s.1).toNat) _ ?_ _ ⟨0,l.length,rfl,Nat.zero_le _,Nat.le_refl _,fun k hk=>absurd hk (Nat.not_lt_zero _),fun h=>absurd h (Nat.lt_irrefl _)⟩
  rintro s ⟨i,j,rfl,hij,hjn,hlo,hhi⟩
  by_cases hlt:i<j
  ·left
   have hm:=mid (i:=i) (j:=j) (by omega)
   have hmi:(i+j)/2<l.length:=by omega
   by_cases hp:(l.getD ((i+j)/2) Ai).GD>=r
   ·refine⟨((i:Int),(((i+j)/2:Nat):Int)),?_,⟨i,(i+j)/2,rfl,by omega,by omega,hlo,fun _=>hp⟩,?_⟩
    ·simp only[EJ,L8,hm]
     rw[if_pos ⟨by omega,by omega⟩]
     simp only[Int.toNat_natCast,Option.bind_some,decide_eq_true hp,decide_eq_true (show(i:Int)<j by omega)]
     rfl
    ·show((((i+j)/2:Nat):Int)-i).toNat<((j:Int)-i).toNat
     omega
   ·refine⟨((((i+j)/2+1:Nat):Int),(j:Int)),?_,⟨(i+j)/2+1,j,rfl,by omega,hjn,fun k hk hkr=>?_,hhi⟩,?_⟩
    ·simp only[EJ,L8,hm]
     rw[if_pos ⟨by omega,by omega⟩]
     simp only[Int.toNat_natCast,Option.bind_some,decide_eq_false hp,decide_eq_true (show(i:Int)<j by omega),up (show(i+j)/2<9223372036854775807 by omega)]
     rfl
    ·by_cases e:k=(i+j)/2
     ·subst e;exact hp hkr
     ·have:=hmono k ((i+j)/2) (by omega) hmi
      omega
    ·show((j:Int)-(((i+j)/2+1:Nat):Int)).toNat<((j:Int)-i).toNat
     omega
  ·right
   have e:i=j:=by omega
   subst e
   refine⟨(i:Int),?_,i,rfl,hjn,hlo,hhi⟩
   simp[EJ]
 obtain⟨x,hx,y,rfl,hq⟩:=key
 refine⟨y,?_,hq⟩
 simp only[GN,hx,Option.bind_some]
theorem Aa5 {l:List Ap} {r:Int} (ho:ordered l) {y:Nat} (h:isFirst (fun k=>(l.getD k Ai).GD>=r) l.length y):
  qJ l r=if y<l.length then(if(l.getD y Ai).GQ<=r then((l.getD y Ai).CP,true)else(0,false))else(0,false):=by
 obtain⟨h1,h2,h3⟩:=h
 have hno:(l.take y).find? (XF r)=none:=by
  rw[List.find?_eq_none]
  intro x hx
  obtain⟨k,hk,rfl⟩:=List.getElem_of_mem hx
  have hk':k<y:=by rw[List.length_take]at hk;omega
  have: ¬(l.getD k Ai).GD>=r:=h2 k hk'
  have e:l.getD k Ai=(l.take y)[k]:=by simp[List.getD_eq_getElem?_getD,show k<l.length by omega]
  rw[e]at this
  simp only[XF,Bool.and_eq_true,decide_eq_true_eq]
  omega
 have hsp:qJ l r=AjB ((l.drop y).find? (XF r)):=by
  unfold qJ
  conv=>lhs;rw[<- List.take_append_drop y l,List.find?_append,hno]
  simp
 rw[hsp]
 by_cases hy:y<l.length
 ·rw[if_pos hy,UD (d:=Ai) hy]
  have hhi:(l.getD y Ai).GD>=r:=h3 hy
  by_cases hlo:(l.getD y Ai).GQ<=r
  ·have:XF r (l.getD y Ai)=true:=by simp only[XF,Bool.and_eq_true,decide_eq_true_eq];omega
   rw[if_pos hlo,List.find?_cons,this]
   rfl
  ·have:XF r (l.getD y Ai)=false:=by simp[XF,hlo,-List.getD_eq_getElem?_getD]
   rw[if_neg hlo,List.find?_cons,this]
   have hrest:(l.drop (y+1)).find? (XF r)=none:=by
     rw[List.find?_eq_none]
     intro x hx
     obtain⟨k,hk,rfl⟩:=List.getElem_of_mem hx
     rw[List.length_drop]at hk
     have e:l.getD (y+1+k) Ai=(l.drop (y+1))[k]'(by rw[List.length_drop];exact hk):=by simp[List.getD_eq_getElem?_getD,show y+1+k<l.length by omega]
     have h4:=RY (d:=Ai) ho.2 (show y<y+1+k by omega) (by omega)
     rw[e]at h4
     simp only[XF,Bool.and_eq_true,decide_eq_true_eq]
     omega
   simp only[hrest]
   rfl
 ·rw[if_neg hy,List.drop_of_length_le (by omega)]
  rfl
theorem Iz (l:List Ap) (r:Int) (hl:l.length<4611686018427387904) (ho:ordered l):Io l r=some (qJ l r):=by
 obtain⟨y,hy,hf⟩:=Aej l r hl ho
 rw[Aa5 ho hf]
 simp only[Io,hy,Option.bind_some]
 by_cases h1:y<l.length
 ·have e1:((y:Int)==(l.length:Int))=false:=by simp;omega
  have e2:(0:Int)<=y/\(y:Int)<l.length:=by omega
  by_cases h2:(l.getD y Ai).GQ<=r
  ·rw[e1,cond_false,if_pos e2,if_pos h1,if_pos h2]
   simp only[Int.toNat_natCast,Option.bind_some,Nt,if_pos e2]
   rw[decide_eq_false (by omega)]
   rfl
  ·rw[e1,cond_false,if_pos e2,if_pos h1,if_neg h2]
   simp only[Int.toNat_natCast,Option.bind_some,Nt]
   rw[decide_eq_true (by omega)]
   rfl
 ·have e1:((y:Int)==(l.length:Int))=true:=by have:=hf.1;simp;omega
  rw[e1,if_neg h1]
  rfl
def XJ (x:Ap):Bool:=decide (x.GQ>=0)&&decide (x.GQ<=x.GD)&&decide (x.GD<=1114111)&&decide (x.CP>=0)&&decide (x.CP<=999999)
def Yo (l:List Ap) (i:Nat):Option (Int×Int):=
 if XJ (l.getD i Ai)=false then some (i,4)
 else if 0<i/\(l.getD i Ai).GQ<=(l.getD (i-1) Ai).GD then some (i,6)else none
def VW (l:List Ap):Int×Int:=if 2000<l.length then(0,18)else(Am (Yo l) l.length 0).getD (0,0)
theorem Ub {α:Type} {R:α->α->Prop} {d:α} (tr: ∀a b c,R a b->R b c->R a c): ∀(l:List α),(∀i,0<i->i<l.length->R (l.getD (i-1) d) (l.getD i d))->l.Pairwise R
 | [],_=>.nil
 |x::l,h=>by
  have ih:=Ub tr l fun i h0 hi=>by have:=h (i+1) (by omega) (by simpa using hi);rw[show i+1-1=(i-1)+1 by omega]at this;simpa using this
  refine List.pairwise_cons.2 ⟨?_,ih⟩
  cases l with
  |nil=>intro y hy;cases hy
  |cons y l=>
   have h1:R x y:=h 1 (by omega) (by simp)
   intro z hz
   rcases List.mem_cons.1 hz with rfl|hz
   ·exact h1
   ·exact tr _ _ _ h1 ((List.pairwise_cons.1 ih).1 z hz)
theorem RX {l:List Ap} (h:(VW l).2=0):l.length<=2000/\ordered l/\ ∀x∈l,XJ x=true:=by
 unfold VW at h
 by_cases hn:2000<l.length
 ·rw[if_pos hn]at h;cases h
 ·rw[if_neg hn]at h
  have hnone:Am (Yo l) l.length 0=none:=by
   cases hf:Am (Yo l) l.length 0 with
   |none=>rfl
   |some v=>
    obtain⟨j,_,_,hj,_⟩:=Br hf
    rw[hf]at h
    simp only[Option.getD_some]at h
    unfold Yo at hj
    split at hj
    ·cases hj;cases h
    ·split at hj
     ·cases hj;cases h
     ·cases hj
  have hall:=Bl.1 hnone
  have hmay: ∀i,i<l.length->XJ (l.getD i Ai)=true:=fun i hi=>by
   have:=hall i (Nat.zero_le _) (by omega)
   unfold Yo at this
   split at this
   ·cases this
   ·rename_i hm;simpa using hm
  have hm: ∀x∈l,XJ x=true:=fun x hx=>by
   obtain⟨i,hi,rfl⟩:=List.getElem_of_mem hx
   have:=hmay i hi
   simpa[List.getD_eq_getElem?_getD,hi]using this
  have hstep: ∀i,0<i->i<l.length->(l.getD (i-1) Ai).GD<(l.getD i Ai).GQ:=fun i h0 hi=>by
   have:=hall i (Nat.zero_le _) (by omega)
   unfold Yo at this
   split at this
   ·cases this
   ·split at this
    ·cases this
    ·rename_i hc;omega
  have hlo: ∀x∈l,x.GQ<=x.GD:=fun x hx=>by
   have:=hm x hx
   simp only[XJ,Bool.and_eq_true,decide_eq_true_eq]at this
   omega
  refine⟨by omega,⟨hlo,?_⟩,hm⟩
  have hp:l.Pairwise fun x y=>x.GD<y.GQ/\y.GQ<=y.GD:=by
   refine Ub (d:=Ai) (fun a b c h1 h2=>⟨by omega,h2.2⟩) l fun i h0 hi=>⟨hstep i h0 hi,hlo _ (Fe hi)⟩
  exact hp.imp fun h=>h.1
def tabs (p:Bb):List (List Ap):= [p.Ev,p.Gt,p.JX,p.Hl,p.I7,p.Hg,p.JZ,p.JY,p.J2,p.DJ,p.NT]
theorem Ag1 (p:Bb): [(tabs p).getD 0 [],(tabs p).getD 1 [],(tabs p).getD 2 [],(tabs p).getD 3 [],(tabs p).getD 4 [],(tabs p).getD 5 [],(tabs p).getD 6 [],(tabs p).getD 7 [],(tabs p).getD 8 [],(tabs p).getD 9 [],(tabs p).getD 10 []]=tabs p:=rfl
def AcP (p:Bb):Prop:= ∀l∈tabs p,l.length<=40
theorem AhS (p:Bb): ∃b,KJ p=some b/\(b=false->AcP p):=by
 unfold KJ
 rw[show MV p=some (tabs p) from rfl,Aa]
 rw[El 11 (fun i=>if 40<((tabs p).getD i []).length then some true else none) (fun i hi _=>?_) (fun _=>?_)]
 ·cases hf:Am (fun i=>if 40<((tabs p).getD i []).length then some true else none) 11 0 with
  |some v=>
   obtain⟨j,_,_,hj,_⟩:=Br hf
   have:v=true:=by
    split at hj
    ·cases hj;rfl
    ·cases hj
   subst this
   exact⟨true,rfl,fun h=>by cases h⟩
  |none=>
   refine⟨false,rfl,fun _ l hl=>?_⟩
   obtain⟨i,hi,rfl⟩:=List.getElem_of_mem hl
   have h:=Bl.1 hf i (Nat.zero_le _) (by have:(tabs p).length=11:=rfl;omega)
   have e:(tabs p).getD i []=(tabs p)[i]:=by simp[List.getD_eq_getElem?_getD,hi]
   simp only[e]at h
   split at h
   ·cases h
   ·omega
 ·unfold LD
  rw[Ag1,decide_eq_true (by omega),cond_true,if_pos ⟨by omega,by omega⟩,Int.toNat_natCast]
  by_cases h:40<((tabs p).getD i []).length
  ·rw[decide_eq_true (by omega),if_pos h];rfl
  ·rw[decide_eq_false (by omega),if_neg h,cond_false,up (by omega)]
 ·unfold LD
  rw[decide_eq_false (by omega)];rfl
def mxs:List Int:= [5,0,0,0,0,0,0,4,5,11,0]
def Ab1 (m:Int) (l:List Ap) (i:Nat):Option (Int×Int):=
 if 0<m/\((l.getD i Ai).CP<1∨(l.getD i Ai).CP>m)then some (i,17)else none
def Aan (p:Bb) (j:Nat):Option (Int×Int):=
 if(VW ((tabs p).getD j [])).2≠0 then some (VW ((tabs p).getD j []))else Am (Ab1 (mxs.getD j 0) ((tabs p).getD j [])) ((tabs p).getD j []).length 0
def dD (p:Bb):Int×Int:=(Am (Aan p) 11 0).getD (0,0)
theorem dF {p:Bb} (h:(dD p).2=0): ∀j,j<11->(VW ((tabs p).getD j [])).2=0/\ ∀i,i<((tabs p).getD j []).length->Ab1 (mxs.getD j 0) ((tabs p).getD j []) i=none:=by
 unfold dD at h
 have hnone:Am (Aan p) 11 0=none:=by
  cases hv:Am (Aan p) 11 0 with
  |none=>rfl
  |some v=>
   obtain⟨j,_,_,hj,_⟩:=Br hv
   rw[hv]at h
   unfold Aan at hj
   split at hj
   ·rename_i hne;cases hj;exact absurd h hne
   ·obtain⟨i,_,_,hi,_⟩:=Br hj
    unfold Ab1 at hi
    split at hi
    ·cases hi;cases h
    ·cases hi
 intro j hj
 have:=Bl.1 hnone j (Nat.zero_le _) (by omega)
 unfold Aan at this
 split at this
 ·cases this
 ·rename_i h0
  exact⟨Decidable.not_not.1 h0,fun i hi=>Bl.1 this i (Nat.zero_le _) (by omega)⟩
theorem Hw {p:Bb} (h:(dD p).2=0) {j:Nat} (hj:j<11):ordered ((tabs p).getD j [])/\((tabs p).getD j []).length<=2000:=
 let c:=RX (dF h j hj).1
 ⟨c.2.1,c.1⟩
def R6 (p:Bb):Prop:=(dD p).2=0
theorem EM {V W:Type} (f:Nat->Option V) (h:V->W): ∀(k i:Nat),Am (fun j=>(f j).map h) k i=(Am f k i).map h
 |0,i=>rfl
 |k+1,i=>by
  rw[Am,Am,EM f h k (i+1)]
  cases f i<;>rfl
theorem VF {V:Type} (f:Nat->Option V): ∀(k i:Nat),((List.range' i k).filterMap f).head?=Am f k i
 |0,i=>rfl
 |k+1,i=>by
  rw[List.range'_succ,Am,List.filterMap_cons]
  cases h:f i with
  |none=>exact VF f k (i+1)
  |some v=>rfl
def nmG (c:Int):Nat:=if c=4 then 12 else if c=6 then 14 else if c=17 then 9 else if c=5 then 13 else if c=7 then 15 else if c=9 then 17 else 18
def R8 (c:Int×Int):Er:=if c.2=0 then .nil else .box 70 c.1 (.sent (nmG c.2))
theorem AaO {l:List Ap} {k:Nat} :(Yo l k).map R8=(G8 l k).map fun g=>.box 70 (k:Int) (.sent g):=by
 unfold Yo G8
 have e:(decide (0<=(l.getD k Ai).GQ)&&(decide ((l.getD k Ai).GQ<=(l.getD k Ai).GD)&&(decide ((l.getD k Ai).GD<=1114111)&&(decide (0<=(l.getD k Ai).CP)&&decide ((l.getD k Ai).CP<=999999)))))=XJ (l.getD k Ai):=by
  simp only[XJ,Bool.and_assoc,ge_iff_le]
 rw[e]
 cases hm:XJ (l.getD k Ai)with
 |false=>simp only[if_true];rfl
 |true=>
  have h0:0<=(l.getD k Ai).GQ:=by
   simp only[XJ,Bool.and_eq_true,decide_eq_true_eq]at hm;omega
  simp only[Bool.true_eq_false,if_false]
  by_cases hk:0<k
  ·rw[if_neg (show ¬k=0 by omega)]
   by_cases h1:(l.getD k Ai).GQ<=(l.getD (k-1) Ai).GD
   ·rw[if_pos ⟨hk,h1⟩,if_pos h1];rfl
   ·rw[if_neg (fun h=>h1 h.2),if_neg h1];rfl
  ·rw[if_pos (show k=0 by omega),if_neg (fun h=>hk h.1),if_neg (by omega)];rfl
theorem WJ (l:List Ap):La l=some (R8 (VW l)):=by
 unfold La VW
 by_cases hn:2000<l.length
 ·rw[if_pos hn,if_pos hn];rfl
 ·rw[if_neg hn,if_neg hn]
  congr 1
  have h1:=EM (Yo l) R8 l.length 0
  have h2:=EM (G8 l) (fun g=>g) l.length 0
  have h3:Am (fun k=>(Yo l k).map R8) l.length 0=Am (fun k=>(G8 l k).map fun g=>.box 70 (k:Int) (.sent g)) l.length 0:=Ho fun j _ _=>AaO
  have h4:=VF (fun k=>(G8 l k).map fun g=>(k,g)) l.length 0
  have h5:=EM (fun k=>(G8 l k).map fun g=>(k,g)) (fun x:Nat×Nat=>Er.box 70 (x.1:Int) (.sent x.2)) l.length 0
  have h6:(fun j=>((G8 l j).map fun g=>(j,g)).map (fun x:Nat×Nat=>Er.box 70 (x.1:Int) (.sent x.2)))=fun k=>(G8 l k).map fun g=>Er.box 70 (k:Int) (.sent g):=by
   funext k;cases G8 l k<;>rfl
  rw[h6,<- h3,h1]at h5
  rw[<- h4]at h5
  unfold DK
  rw[List.range_eq_range']
  cases hL:(List.range' 0 l.length).filterMap (fun k=>(G8 l k).map fun g=>(k,g))with
  |nil=>
   rw[hL]at h5
   cases hf:Am (Yo l) l.length 0 with
   |none=>rfl
   |some v=>rw[hf]at h5;cases h5
  |cons x tl=>
   rw[hL]at h5
   cases hf:Am (Yo l) l.length 0 with
   |none=>rw[hf]at h5;cases h5
   |some v=>rw[hf]at h5;exact(Option.some.inj h5).symm
theorem Wo (c:Int×Int):(R8 c).isNil=decide (c.2=0):=by
 unfold R8
 by_cases h:c.2=0
 ·rw[if_pos h,decide_eq_true h];rfl
 ·rw[if_neg h,decide_eq_false h];rfl
def Ae5 (p:Bb):List BR:= [({ XD:=p.Ev,Ir:=5 }),({ XD:=p.Gt,Ir:=0 }),({ XD:=p.JX,Ir:=0 }),({ XD:=p.Hl,Ir:=0 }),({ XD:=p.I7,Ir:=0 }),({ XD:=p.Hg,Ir:=0 }),({ XD:=p.JZ,Ir:=0 }),({ XD:=p.JY,Ir:=4 }),({ XD:=p.J2,Ir:=5 }),({ XD:=p.DJ,Ir:=11 }),({ XD:=p.NT,Ir:=0 })]
theorem jC (p:Bb): ∀j,j<11->(Ae5 p).getD j Cr= { XD:=(tabs p).getD j [],Ir:=mxs.getD j 0 }
 |0,_=>rfl|1,_=>rfl|2,_=>rfl|3,_=>rfl|4,_=>rfl|5,_=>rfl|6,_=>rfl|7,_=>rfl|8,_=>rfl|9,_=>rfl|10,_=>rfl
 |n+11,h=>absurd h (by omega)
theorem xI (p:Bb) (j:Nat) (hj:j<11) (hl:((tabs p).getD j []).length<=2000):iter (KG (Ae5 p) (j:Int)) 0=some (Nv (Am (fun i=>(Ab1 (mxs.getD j 0) ((tabs p).getD j []) i).map R8) ((tabs p).getD j []).length 0)):=by
 refine El _ _ (fun i hi _=>?_) (fun _=>?_)
 ·unfold KG Ab1
  simp only[Int.toNat_natCast,jC p j hj]
  rw[decide_eq_true (by omega),cond_true,if_pos ⟨by omega,by omega⟩]
  by_cases h0:0<mxs.getD j 0
  ·rw[decide_eq_true (show mxs.getD j 0>0 from h0),cond_true]
   by_cases h1:(((tabs p).getD j []).getD i Ai).CP<1
   ·simp only[h0,h1,true_or,and_self,if_true,decide_true,cond_true,Aa];rfl
   ·by_cases h2:(((tabs p).getD j []).getD i Ai).CP>mxs.getD j 0
    ·simp only[h0,h1,h2,or_true,and_self,if_true,decide_true,decide_false,cond_false,Aa];rfl
    ·simp only[h0,h1,h2,or_self,and_false,if_false,decide_false,cond_false,Aa,Ny,up (show i<9223372036854775807 by omega)];rfl
  ·rw[decide_eq_false (show ¬mxs.getD j 0>0 from h0)]
   simp only[h0,false_and,if_false,cond_false,Aa,Ny,up (show i<9223372036854775807 by omega)];rfl
 ·unfold KG
  simp only[Int.toNat_natCast,jC p j hj]
  rw[decide_eq_false (by omega)];rfl
theorem fP (p:Bb):NU p=some (R8 (dD p)):=by
 unfold NU dD
 rw[show O7 p=some (Ae5 p) from rfl,Aa]
 rw[El 11 (fun j=>(Aan p j).map R8) (fun j hj _=>?_) (fun _=>?_)]
 ·rw[EM]
  cases Am (Aan p) 11 0<;>rfl
 ·unfold Oi Aan
  simp only[Int.toNat_natCast,jC p j hj]
  rw[show(((Ae5 p).length:Nat):Int)=11 from rfl,decide_eq_true (by omega),cond_true,if_pos ⟨by omega,by omega⟩,WJ,Aa,Wo]
  by_cases h:(VW ((tabs p).getD j [])).2=0
  ·rw[decide_eq_true h,if_neg (fun h'=>h' h),Bool.not_true,cond_false,xI p j hj (RX h).1,EM]
   cases Am (Ab1 (mxs.getD j 0) ((tabs p).getD j [])) ((tabs p).getD j []).length 0 with
   |none=>simp only[Aa,Nv,up (show j<9223372036854775807 by omega)];rfl
   |some v=>rfl
  ·rw[decide_eq_false h,if_pos h];rfl
 ·unfold Oi
  rw[show(((Ae5 p).length:Nat):Int)=11 from rfl,decide_eq_false (by omega)];rfl
def FH (r:Int):Bool:=decide (r>=0)&&decide (r<=1114111)&& !(decide (r>=55296)&&decide (r<=57343))
def TH (r:Int):Bool:=(decide (r>=44032)&&decide (r<=55203))||((decide (r>=4352)&&decide (r<=4370))||((decide (r>=4449)&&decide (r<=4469))||(decide (r>=4520)&&decide (r<=4546))))
def AcO (t:Ab):Prop:=t.Ad.length<=40/\t.Au.length<=40/\t.AJ.length<=40/\ ∀x∈t.Ad,x.Bp.length<=4
theorem AhR (t:Ab): ∃b,KI t=some b/\(b=false->AcO t):=by
 unfold KI Pk
 by_cases h1:40<t.Ad.length
 ·exact⟨true,by rw[decide_eq_true (by omega)];rfl,fun h=>by cases h⟩
 by_cases h2:40<t.Au.length
 ·exact⟨true,by rw[decide_eq_false (by omega),decide_eq_true (by omega)];rfl,fun h=>by cases h⟩
 by_cases h3:40<t.AJ.length
 ·exact⟨true,by rw[decide_eq_false (by omega),decide_eq_false (by omega),decide_eq_true (by omega)];rfl,fun h=>by cases h⟩
 rw[decide_eq_false (by omega),decide_eq_false (by omega),decide_eq_false (by omega)]
 simp only[cond_false,Aa]
 rw[El t.Ad.length (fun i=>if 4<(t.Ad.getD i Ac).Bp.length then some true else none) (fun i hi _=>?_) (fun _=>?_)]
 ·cases hf:Am (fun i=>if 4<(t.Ad.getD i Ac).Bp.length then some true else none) t.Ad.length 0 with
  |some v=>
   obtain⟨j,_,_,hj,_⟩:=Br hf
   have:v=true:=by
    split at hj
    ·cases hj;rfl
    ·cases hj
   subst this
   exact⟨true,rfl,fun h=>by cases h⟩
  |none=>
   refine⟨false,rfl,fun _=>⟨by omega,by omega,by omega,fun x hx=>?_⟩⟩
   obtain⟨i,hi,rfl⟩:=List.getElem_of_mem hx
   have:=Bl.1 hf i (Nat.zero_le _) (by omega)
   have e:t.Ad.getD i Ac=t.Ad[i]:=by simp[List.getD_eq_getElem?_getD,hi]
   simp only[e]at this
   split at this
   ·cases this
   ·omega
 ·unfold LC
  rw[decide_eq_true (by omega),cond_true,if_pos ⟨by omega,by omega⟩,Int.toNat_natCast]
  by_cases h4:4<(t.Ad.getD i Ac).Bp.length
  ·rw[decide_eq_true (by omega),if_pos h4];rfl
  ·rw[decide_eq_false (by omega),if_neg h4,cond_false,up (by omega)]
 ·unfold LC
  rw[decide_eq_false (by omega)];rfl
def G9 (t:Ab) (r:Int):Int:=(Am (fun i=>if(t.Ad.getD i Ac).Bd=r then some (i:Int)else none) t.Ad.length 0).getD (-1)
theorem Xl (t:Ab) (r:Int) (hn:t.Ad.length<=2000):Pm t r=some (G9 t r):=by
 unfold Pm G9
 rw[El t.Ad.length (fun i=>if(t.Ad.getD i Ac).Bd=r then some (i:Int)else none) (fun i hi _=>?_) (fun _=>?_)]
 ·cases Am (fun i=>if(t.Ad.getD i Ac).Bd=r then some (i:Int)else none) t.Ad.length 0<;>rfl
 ·unfold MU
  rw[decide_eq_true (by omega),cond_true,if_pos ⟨by omega,by omega⟩,Int.toNat_natCast]
  by_cases h:(t.Ad.getD i Ac).Bd=r
  ·rw[if_pos h,beq_iff_eq.2 h];rfl
  ·rw[if_neg h,beq_false_of_ne h,cond_false,up (by omega)]
 ·unfold MU
  rw[decide_eq_false (by omega)];rfl
def Uh (t:Ab) (i:Nat):Int:=(Am (fun k=>if(t.Ad.getD k Ac).Bd=(t.Ad.getD i Ac).Bp.getD 0 0 then some (k:Int)else none) i 0).getD (-1)
theorem AeH (t:Ab) (i:Nat):Uh t i<i/\ -1<=Uh t i:=by
 unfold Uh
 cases hf:Am (fun k=>if(t.Ad.getD k Ac).Bd=(t.Ad.getD i Ac).Bp.getD 0 0 then some (k:Int)else none) i 0 with
 |none=>simp only[Option.getD_none];omega
 |some v=>
  obtain⟨j,_,h2,hj,_⟩:=Br hf
  split at hj
  ·cases hj;simp only[Option.getD_some];omega
  ·cases hj
def OY (t:Ab):Nat->Int->Bool
 |0,k=>decide (0<=k)
 |n+1,k=>if k<0 then false else OY t n (Uh t k.toNat)
def Rh (x:Int):Bool:= !FH x||TH x
def pE (t:Ab) (i:Nat):Int:=
 if(!FH (t.Ad.getD i Ac).Bd||TH (t.Ad.getD i Ac).Bd)=true then 4
 else if 0<i/\(t.Ad.getD i Ac).Bd<=(t.Ad.getD (i-1) Ac).Bd then 6
 else if(t.Ad.getD i Ac).Bp.length≠1/\(t.Ad.getD i Ac).Bp.length≠2∨(t.Ad.getD i Ac).Bp.getD 0 0>=(t.Ad.getD i Ac).Bd then 5
 else if(t.Ad.getD i Ac).Bp.any Rh=true then 5
 else if(t.Ad.getD i Ac).Bp.length=2/\0<=G9 t ((t.Ad.getD i Ac).Bp.getD 1 0)then 9
 else if OY t 8 i=true then 9 else 0
theorem AeN {α:Type} (l:List α) (d:α) (p:α->Bool) (v:Int):(match Am (fun k=>if p (l.getD k d)=true then some v else none) l.length 0 with|none=>false|some _=>true)=l.any p:=by
 cases hf:Am (fun k=>if p (l.getD k d)=true then some v else none) l.length 0 with
 |none=>
  have h:=Bl.1 hf
  refine Eq.symm (List.any_eq_false.2 fun x hx=>?_)
  obtain⟨i,hi,rfl⟩:=List.getElem_of_mem hx
  have:=h i (Nat.zero_le _) (by omega)
  have e:l.getD i d=l[i]:=by simp[List.getD_eq_getElem?_getD,hi]
  simp only[e]at this
  split at this
  ·cases this
  ·assumption
 |some w=>
  obtain⟨j,_,hj,h,_⟩:=Br hf
  refine Eq.symm (List.any_eq_true.2 ⟨l.getD j d,Fe (by omega),?_⟩)
  split at h
  ·assumption
  ·cases h
def jV (a b:Int):Bool:=decide (a<=b)&&((decide (a<=55203)&&decide (b>=44032))||((decide (a<=4370)&&decide (b>=4352))||((decide (a<=4469)&&decide (b>=4449))||(decide (a<=4546)&&decide (b>=4520)))))
def AaR (t:Ab) (i:Nat):Option (Int×Int):=
 if(t.Au.getD i Ai).CP<1∨(t.Au.getD i Ai).CP>254∨jV (t.Au.getD i Ai).GQ (t.Au.getD i Ai).GD=true then some (i,17)else none
def exF (t:Ab) (i:Nat):Option (Int×Int):=
 if FH (t.AJ.getD i 0)=false then some (i,4)else if 0<i/\t.AJ.getD i 0<=t.AJ.getD (i-1) 0 then some (i,6)else none
def AiR (t:Ab) (r:Int):Bool:=t.AJ.any fun x=>x==r
def KF (t:Ab) (r:Int):Int:=(qJ t.Au r).1
theorem Ae4 (t:Ab) (r:Int) (hn:t.Au.length<=2000):NG t r=some (KF t r):=by
 unfold NG KF
 rw[find_eq _ _ (by omega)];rfl
def NJ (t:Ab) (i:Nat):Bool:=decide ((t.Ad.getD i Ac).Bp.length=2)&& !AiR t (t.Ad.getD i Ac).Bd&&KF t (t.Ad.getD i Ac).Bd==0&&KF t ((t.Ad.getD i Ac).Bp.getD 0 0)==0
theorem xJ {t:Ab} {i:Nat} (h:NJ t i=true):(t.Ad.getD i Ac).Bp.length=2:=by
 simp only[NJ,Bool.and_eq_true,decide_eq_true_eq]at h
 exact h.1.1.1
def twB (t:Ab) (i k:Nat):Bool:=NJ t i&&(NJ t k&&((t.Ad.getD i Ac).Bp.getD 0 0==(t.Ad.getD k Ac).Bp.getD 0 0&&(t.Ad.getD i Ac).Bp.getD 1 0==(t.Ad.getD k Ac).Bp.getD 1 0))
def twF (t:Ab) (i:Nat):Option (Int×Int):=Am (fun k=>if twB t i k=true then some ((i:Int),(7:Int))else none) i 0
def VE (t:Ab):Int×Int:=
 if 2000<t.Ad.length∨2000<t.AJ.length then(0,18)
 else match Am (fun i=>if pE t i≠0 then some ((i:Int),pE t i)else none) t.Ad.length 0 with
  |some v=>v
  |none=>
   if(VW t.Au).2≠0 then VW t.Au
   else match Am (AaR t) t.Au.length 0 with
       |some v=>v
       |none=>match Am (exF t) t.AJ.length 0 with
        |some v=>v
        |none=>(Am (twF t) t.Ad.length 0).getD (0,0)
structure gP (t:Ab):Prop where
 rows:t.Ad.length<=2000
 exc:t.AJ.length<=2000
 row: ∀i,i<t.Ad.length->pE t i=0
 cls:(VW t.Au).2=0
 Am3: ∀i,i<t.Au.length->AaR t i=none
 exV: ∀i,i<t.AJ.length->exF t i=none
 two: ∀i,i<t.Ad.length->twF t i=none
theorem dB {t:Ab} (h:(VE t).2=0):gP t:=by
 unfold VE at h
 split at h
 ·cases h
 ·rename_i h0
  split at h
  ·rename_i v hv
   obtain⟨j,_,_,hj,_⟩:=Br hv
   split at hj
   ·rename_i hne;cases hj;exact absurd h hne
   ·cases hj
  ·rename_i hrow
   split at h
   ·rename_i hne;exact absurd h hne
   ·rename_i hcls
    split at h
    ·rename_i v hv
     obtain⟨j,_,_,hj,_⟩:=Br hv
     unfold AaR at hj
     split at hj
     ·cases hj;cases h
     ·cases hj
    ·rename_i hc
     split at h
     ·rename_i v hv
      obtain⟨j,_,_,hj,_⟩:=Br hv
      unfold exF at hj
      split at hj
      ·cases hj;cases h
      ·split at hj
       ·cases hj;cases h
       ·cases hj
     ·rename_i hx
      have htw:Am (twF t) t.Ad.length 0=none:=by
            cases hv:Am (twF t) t.Ad.length 0 with
            |none=>rfl
            |some v=>
             obtain⟨j,_,_,hj,_⟩:=Br hv
             unfold twF at hj
             obtain⟨k,_,_,hk,_⟩:=Br hj
             rw[hv]at h
             split at hk
             ·cases hk;cases h
             ·cases hk
      refine⟨by omega,by omega,fun i hi=>?_,Decidable.not_not.1 hcls,fun i hi=>Bl.1 hc i (Nat.zero_le _) (by omega),fun i hi=>Bl.1 hx i (Nat.zero_le _) (by omega),fun i hi=>Bl.1 htw i (Nat.zero_le _) (by omega)⟩
      have:=Bl.1 hrow i (Nat.zero_le _) (by omega)
      split at this
      ·cases this
      ·rename_i h1;exact Decidable.not_not.1 h1
def dM (r:Int):Int:=if r>=4352/\r<4371 then 1 else if r>=4449/\r<4470 then 2 else if r>4519/\r<4547 then 3 else if r>=44032/\r<55204 then 4 else 0
theorem Ahj (p q:Prop) [Decidable p] [Decidable q]:(bif decide p then some (decide q)else some false)=some (decide (p/\q)):=by
 by_cases hp:p<;>by_cases hq:q<;>simp[hp,hq]
theorem YV (r:Int):J5 r=some (dM r):=by
 unfold J5 Sy Sz SA Ot dM
 simp only[Ahj,Aa]
 by_cases h1:r>=4352/\r<4371
 ·rw[if_pos h1,decide_eq_true h1];rfl
 ·rw[if_neg h1,decide_eq_false h1,cond_false]
  by_cases h2:r>=4449/\r<4470
  ·rw[if_pos h2,decide_eq_true h2];rfl
  ·rw[if_neg h2,decide_eq_false h2,cond_false]
   by_cases h3:r>4519/\r<4547
   ·rw[if_pos h3,decide_eq_true h3];rfl
   ·rw[if_neg h3,decide_eq_false h3,cond_false]
    by_cases h4:r>=44032/\r<55204
    ·rw[if_pos h4,decide_eq_true h4];rfl
    ·rw[if_neg h4,decide_eq_false h4];rfl
theorem yE (r:Int):(dM r != 0)=TH r:=by
 rw[Bool.eq_iff_iff]
 unfold dM TH
 simp only[bne_iff_ne,ne_eq,Bool.and_eq_true,Bool.or_eq_true,decide_eq_true_eq]
 repeat' split
 all_goals omega
def OJ (t:Ab) (i:Nat):Int:=
 if(!FH (t.Ad.getD i Ac).Bd||TH (t.Ad.getD i Ac).Bd)=true then 4
 else if 0<i/\(t.Ad.getD i Ac).Bd<=(t.Ad.getD (i-1) Ac).Bd then 6
 else if(t.Ad.getD i Ac).Bp.length≠1/\(t.Ad.getD i Ac).Bp.length≠2∨(t.Ad.getD i Ac).Bp.getD 0 0>=(t.Ad.getD i Ac).Bd then 5
 else if(t.Ad.getD i Ac).Bp.any Rh=true then 5 else 0
def dI (t:Ab) (i:Nat):Bool:=(decide ((t.Ad.getD i Ac).Bp.length=2)&&decide (0<=G9 t ((t.Ad.getD i Ac).Bp.getD 1 0)))||OY t 8 i
theorem Xk (t:Ab) (i:Nat):pE t i=if OJ t i≠0 then OJ t i else if dI t i=true then 9 else 0:=by
 unfold pE OJ dI
 split
 ·rfl
 ·split
  ·rfl
  ·split
   ·rfl
   ·split
    ·rfl
    ·simp only[ne_eq,not_true_eq_false,if_false,Bool.or_eq_true,Bool.and_eq_true,decide_eq_true_eq]
     split
     ·rename_i h;rw[if_pos (.inl h)]
     ·rename_i h
      by_cases hd:OY t 8 i=true
      ·rw[if_pos hd,if_pos (.inr hd)]
      ·rw[if_neg hd,if_neg (fun h'=>h'.elim h hd)]
def NI (t:Ab):Nat:=(Am (fun i=>if OJ t i≠0 then some i else none) t.Ad.length 0).getD t.Ad.length
theorem AgG (t:Ab):NI t<=t.Ad.length/\(∀i,i<NI t->OJ t i=0)/\(NI t<t.Ad.length->OJ t (NI t)≠0):=by
 unfold NI
 cases hf:Am (fun i=>if OJ t i≠0 then some i else none) t.Ad.length 0 with
 |none=>
  refine⟨Nat.le_refl _,fun i hi=>?_,fun h=>absurd h (Nat.lt_irrefl _)⟩
  have:=Bl.1 hf i (Nat.zero_le _) (by simp only[Option.getD_none]at hi;omega)
  split at this
  ·cases this
  ·rename_i h;exact Decidable.not_not.1 h
 |some v=>
  obtain⟨j,_,h2,hj,h4⟩:=Br hf
  split at hj
  ·rename_i hne
   cases hj
   refine⟨by simp only[Option.getD_some];omega,fun i hi=>?_,fun _=>hne⟩
   have:=h4 i (Nat.zero_le _) hi
   split at this
   ·cases this
   ·rename_i h;exact Decidable.not_not.1 h
  ·cases hj
def iA (t:Ab):Prop:= ∀i j,i<j->j<t.Ad.length->(t.Ad.getD i Ac).Bd<(t.Ad.getD j Ac).Bd
theorem AaY (t:Ab) (r:Int) (hl:t.Ad.length<4611686018427387904) (hmono:iA t): ∃y:Nat,GK (t.Ad.length:Int) t r=some ((y:Nat):Int)/\isFirst (fun k=>(t.Ad.getD k Ac).Bd>=r) t.Ad.length y:=by
 have key: ∃x,iter (EH t r) ((0:Int),(t.Ad.length:Int))=some x/\ ∃y:Nat,x=(y:Int)/\isFirst (fun k=>(t.Ad.getD k Ac).Bd>=r) t.Ad.length y:=by
  refine Zc (fun s=> ∃i j:Nat,s=((i:Int),(j:Int))/\i<=j/\j<=t.Ad.length/\(∀k,k<i-> ¬(t.Ad.getD k Ac).Bd>=r)/\(j<t.Ad.length->(t.Ad.getD j Ac).Bd>=r)) (fun s=>(s.2-s.1).toNat) _ ?_ _ ⟨0,t.Ad.length,rfl,Nat.zero_le _,Nat.le_refl _,fun k hk=>absurd hk (Nat.not_lt_zero _),fun h=>absurd h (Nat.lt_irrefl _)⟩
  rintro s ⟨i,j,rfl,hij,hjn,hlo,hhi⟩
  by_cases hlt:i<j
  ·left
   have hm:=mid (i:=i) (j:=j) (by omega)
   have hmi:(i+j)/2<t.Ad.length:=by omega
   by_cases hp:(t.Ad.getD ((i+j)/2) Ac).Bd>=r
   ·refine⟨((i:Int),(((i+j)/2:Nat):Int)),?_,⟨i,(i+j)/2,rfl,by omega,by omega,hlo,fun _=>hp⟩,?_⟩
    ·simp only[EH,LY,hm]
     rw[if_pos ⟨by omega,by omega⟩]
     simp only[Int.toNat_natCast,Option.bind_some,decide_eq_true hp,decide_eq_true (show(i:Int)<j by omega)]
     rfl
    ·show((((i+j)/2:Nat):Int)-i).toNat<((j:Int)-i).toNat
     omega
   ·refine⟨((((i+j)/2+1:Nat):Int),(j:Int)),?_,⟨(i+j)/2+1,j,rfl,by omega,hjn,fun k hk hkr=>?_,hhi⟩,?_⟩
    ·simp only[EH,LY,hm]
     rw[if_pos ⟨by omega,by omega⟩]
     simp only[Int.toNat_natCast,Option.bind_some,decide_eq_false hp,decide_eq_true (show(i:Int)<j by omega),up (show(i+j)/2<9223372036854775807 by omega)]
     rfl
    ·by_cases e:k=(i+j)/2
     ·subst e;exact hp hkr
     ·have:=hmono k ((i+j)/2) (by omega) hmi
      omega
    ·show((j:Int)-(((i+j)/2+1:Nat):Int)).toNat<((j:Int)-i).toNat
     omega
  ·right
   have e:i=j:=by omega
   subst e
   refine⟨(i:Int),?_,i,rfl,hjn,hlo,hhi⟩
   simp[EH]
 obtain⟨x,hx,y,rfl,hq⟩:=key
 refine⟨y,?_,hq⟩
 simp only[GK,hx,Option.bind_some]
theorem RB {V:Type} {f:Nat->Option V} {v:V} : ∀ {k i j:Nat},i<=j->j<i+k->f j=some v->(∀j',i<=j'->j'<j->f j'=none)->Am f k i=some v
 |0,i,j,h1,h2,_,_=>by omega
 |k+1,i,j,h1,h2,h3,h4=>by
  rw[Am]
  by_cases e:i=j
  ·subst e;rw[h3]
  ·rw[h4 i (Nat.le_refl _) (by omega)]
   exact RB (k:=k) (i:=i+1) (j:=j) (by omega) (by omega) h3 fun j' g1 g2=>h4 j' (by omega) g2
theorem YU (t:Ab) (r:Int) (hl:t.Ad.length<=2000) (hmono:iA t):NP t r=some (G9 t r):=by
 obtain⟨y,hy,h1,h2,h3⟩:=AaY t r (by omega) hmono
 unfold NP G9
 rw[hy,Aa]
 by_cases hlt:y<t.Ad.length
 ·rw[beq_false_of_ne (show((y:Nat):Int)≠(t.Ad.length:Int) by omega),cond_false,if_pos ⟨by omega,by omega⟩,Int.toNat_natCast,Aa]
  have hge:(t.Ad.getD y Ac).Bd>=r:=h3 hlt
  unfold Nr
  by_cases he:(t.Ad.getD y Ac).Bd=r
  ·rw[show((t.Ad.getD y Ac).Bd != r)=false by rw[he];simp,cond_false]
   rw[RB (v:=(y:Int)) (j:=y) (Nat.zero_le _) (by omega) (by rw[if_pos he]) (fun j _ hj=>by
     have: ¬(t.Ad.getD j Ac).Bd>=r:=h2 j hj
     rw[if_neg (by omega)])]
   rfl
  ·rw[show((t.Ad.getD y Ac).Bd != r)=true from bne_iff_ne.2 he,cond_true]
   rw[Bl.2 fun j _ hj=>?_]
   ·rfl
   ·by_cases e:j<y
    ·have: ¬(t.Ad.getD j Ac).Bd>=r:=h2 j e
     rw[if_neg (by omega)]
    ·by_cases e2:j=y
     ·subst e2;rw[if_neg he]
     ·have:=hmono y j (by omega) (by omega)
      rw[if_neg (by omega)]
 ·have hyl:y=t.Ad.length:=by omega
  rw[show(((y:Nat):Int)==(t.Ad.length:Int))=true by rw[hyl];simp,cond_true,Aa]
  unfold Nr
  rw[cond_true,Bl.2 fun j _ hj=>?_]
  ·rfl
  ·have: ¬(t.Ad.getD j Ac).Bd>=r:=h2 j (by omega)
   rw[if_neg (by omega)]
def lead (t:Ab) (n:Nat):Ab:= { Ad:=t.Ad.take n,Au:= [],AJ:= [] }
theorem Si (t:Ab) (n:Nat) {i:Nat} (h:i<n):(lead t n).Ad.getD i Ac=t.Ad.getD i Ac:=by
 simp[lead,List.getD_eq_getElem?_getD,List.getElem?_take,h]
theorem Ze (t:Ab) {n:Nat} (h:n<=t.Ad.length):(lead t n).Ad.length=n:=by simp[lead,h]
theorem QA {t:Ab} {i:Nat} (h:OJ t i=0):((t.Ad.getD i Ac).Bp.length=1∨(t.Ad.getD i Ac).Bp.length=2)/\(t.Ad.getD i Ac).Bp.getD 0 0<(t.Ad.getD i Ac).Bd/\(t.Ad.getD i Ac).Bp.any Rh=false/\(0<i->(t.Ad.getD (i-1) Ac).Bd<(t.Ad.getD i Ac).Bd):=by
 unfold OJ at h
 split at h
 ·cases h
 ·split at h
  ·cases h
  ·split at h
   ·cases h
   ·split at h
    ·cases h
    ·rename_i hb
     exact⟨by omega,by omega,by simpa using hb,fun h0=>by omega⟩
theorem Wx {t:Ab} {n:Nat} (hn:n<=t.Ad.length) (h: ∀i,i<n->OJ t i=0):iA (lead t n):=by
 intro i j hij hj
 rw[Ze t hn]at hj
 rw[Si t n (by omega),Si t n hj]
 obtain⟨d,rfl⟩: ∃d,j=i+1+d:=⟨j-i-1,by omega⟩
 clear hij
 induction d with
 |zero=>exact(QA (h (i+1) hj)).2.2.2 (by omega)
 |succ d ih=>
  have h1:=ih (by omega)
  have h2:=(QA (h (i+1+d+1) hj)).2.2.2 (by omega)
  rw[show i+1+d+1-1=i+1+d by omega]at h2
  exact Int.lt_trans h1 h2
theorem XW {V:Type} {f:Nat->Option V} : ∀ {n k i:Nat},k<=n->(∀j,i+k<=j->j<i+n->f j=none)->Am f n i=Am f k i
 |n,0,i,_,h=>Bl.2 fun j h1 h2=>h j (by omega) h2
 |0,k+1,i,hk,_=>absurd hk (by omega)
 |n+1,k+1,i,hk,h=>by
  rw[Am,Am,XW (n:=n) (k:=k) (i:=i+1) (by omega) fun j h1 h2=>h j (by omega) (by omega)]
theorem kS {t:Ab} {n:Nat} (hn:n<=t.Ad.length) (h: ∀i,i<n->OJ t i=0) {k:Nat} (hk:k<n):G9 (lead t n) ((t.Ad.getD k Ac).Bp.getD 0 0)=Uh t k:=by
 have hr:=Wx hn h
 have hto:=(QA (h k hk)).2.1
 unfold G9 Uh
 rw[Ze t hn]
 congr 1
 rw[XW (k:=k) (by omega) fun j h1 h2=>?_]
 ·exact Ho fun j _ hj=>by rw[Si t n (by omega)]
 ·rw[Si t n (by omega)]
  have:(t.Ad.getD k Ac).Bd<=(t.Ad.getD j Ac).Bd:=by
   by_cases e:j=k
   ·subst e;exact Int.le_refl _
   ·have:=hr k j (by omega) (by rw[Ze t hn];omega)
    rw[Si t n hk,Si t n (by omega)]at this
    omega
  rw[if_neg (by omega)]
theorem Aig {x:Ap} (h:XJ x=true):x.GQ<=x.GD:=by
 simp only[XJ,Bool.and_eq_true,decide_eq_true_eq]at h;omega
def Xj (l:List Int):Prop:= ∀i j,i<j->j<l.length->l.getD i 0<l.getD j 0
theorem AcB (x y:Int):BN x y=some (decide (x<y)):=by
 unfold BN Jt
 rw[Aa,show(x != x)=false by simp];rfl
theorem bsearch_eq (l:List Int) (r:Int) (hl:l.length<4611686018427387904) (hmono:Xj l): ∃y:Nat,iter (CS l r) ((0:Int),(l.length:Int))=some ((y:Nat):Int)/\isFirst (fun k=>l.getD k 0>=r) l.length y:=by
 have key: ∃x,iter (CS l r) ((0:Int),(l.length:Int))=some x/\ ∃y:Nat,x=(y:Int)/\isFirst (fun k=>l.getD k 0>=r) l.length y:=by
  refine Zc (fun s=> ∃i j:Nat,s=((i:Int),(j:Int))/\i<=j/\j<=l.length/\(∀k,k<i-> ¬l.getD k 0>=r)/\(j<l.length->l.getD j 0>=r)) (fun s=>(s.2-s.1).toNat) _ ?_ _ ⟨0,l.length,rfl,Nat.zero_le _,Nat.le_refl _,fun k hk=>absurd hk (Nat.not_lt_zero _),fun h=>absurd h (Nat.lt_irrefl _)⟩
  rintro s ⟨i,j,rfl,hij,hjn,hlo,hhi⟩
  by_cases hlt:i<j
  ·left
   have hm:=mid (i:=i) (j:=j) (by omega)
   have hmi:(i+j)/2<l.length:=by omega
   by_cases hp:l.getD ((i+j)/2) 0>=r
   ·refine⟨((i:Int),(((i+j)/2:Nat):Int)),?_,⟨i,(i+j)/2,rfl,by omega,by omega,hlo,fun _=>hp⟩,?_⟩
    ·simp only[CS,AcB,hm]
     rw[if_pos ⟨by omega,by omega⟩]
     simp only[Int.toNat_natCast,Option.bind_some,decide_eq_false (show ¬l.getD ((i+j)/2) 0<r by omega),decide_eq_true (show(i:Int)<j by omega)]
     rfl
    ·show((((i+j)/2:Nat):Int)-i).toNat<((j:Int)-i).toNat
     omega
   ·refine⟨((((i+j)/2+1:Nat):Int),(j:Int)),?_,⟨(i+j)/2+1,j,rfl,by omega,hjn,fun k hk hkr=>?_,hhi⟩,?_⟩
    ·simp only[CS,AcB,hm]
     rw[if_pos ⟨by omega,by omega⟩]
     simp only[Int.toNat_natCast,Option.bind_some,decide_eq_true (show l.getD ((i+j)/2) 0<r by omega),decide_eq_true (show(i:Int)<j by omega),up (show(i+j)/2<9223372036854775807 by omega)]
     rfl
    ·by_cases e:k=(i+j)/2
     ·subst e;exact hp hkr
     ·have:=hmono k ((i+j)/2) (by omega) hmi
      omega
    ·show((j:Int)-(((i+j)/2+1:Nat):Int)).toNat<((j:Int)-i).toNat
     omega
  ·right
   have e:i=j:=by omega
   subst e
   refine⟨(i:Int),?_,i,rfl,hjn,hlo,hhi⟩
   simp[CS]
 obtain⟨x,hx,y,rfl,hq⟩:=key
 exact⟨y,hx,hq⟩
theorem Ak2 (l:List Int) (r:Int) (hl:l.length<=2000) (hmono:Xj l): ∃y,FI l r=some (y,l.any fun x=>x==r):=by
 obtain⟨y,hy,h1,h2,h3⟩:=bsearch_eq l r (by omega) hmono
 unfold FI JD Jc
 rw[hy,Aa]
 have Ai1:(∀j,j<l.length->l.getD j 0≠r)->(l.any fun x=>x==r)=false:=fun h=>List.any_eq_false.2 fun x hx=>by
  obtain⟨i,hi,rfl⟩:=List.getElem_of_mem hx
  have:=h i hi
  have e:l.getD i 0=l[i]:=by simp[List.getD_eq_getElem?_getD,hi]
  rw[e]at this
  simpa using this
 by_cases hlt:y<l.length
 ·have hge:l.getD y 0>=r:=h3 hlt
  rw[decide_eq_true (by omega),cond_true,if_pos ⟨by omega,by omega⟩,Int.toNat_natCast]
  by_cases he:l.getD y 0=r
  ·refine⟨(y:Int),?_⟩
   rw[beq_iff_eq.2 he,cond_true,List.any_eq_true.2 ⟨l.getD y 0,Fe hlt,by simpa using he⟩]
  ·refine⟨(y:Int),?_⟩
   rw[beq_false_of_ne he,cond_false,if_pos ⟨by omega,by omega⟩,Aa,show(l.getD y 0 != l.getD y 0)=false by simp,cond_false,Ai1 fun j hj=>?_]
   by_cases e:j<y
   ·have: ¬l.getD j 0>=r:=h2 j e
    omega
   ·by_cases e2:j=y
    ·subst e2;exact he
    ·have:=hmono y j (by omega) hj
     omega
 ·refine⟨(y:Int),?_⟩
  rw[decide_eq_false (by omega),cond_false,Ai1 fun j hj=>?_]
  have: ¬l.getD j 0>=r:=h2 j (by omega)
  omega
theorem qE {t:Ab} (h: ∀i,i<t.AJ.length->exF t i=none):Xj t.AJ:=by
 have step: ∀i,0<i->i<t.AJ.length->t.AJ.getD (i-1) 0<t.AJ.getD i 0:=fun i h0 hi=>by
  have:=h i hi
  unfold exF at this
  split at this
  ·cases this
  ·split at this
   ·cases this
   ·rename_i hc;omega
 intro i j hij hj
 obtain⟨d,rfl⟩: ∃d,j=i+1+d:=⟨j-i-1,by omega⟩
 clear hij
 induction d with
 |zero=>exact step (i+1) (by omega) hj
 |succ d ih=>
  have h1:=ih (by omega)
  have h2:=step (i+1+d+1) (by omega) hj
  rw[show i+1+d+1-1=i+1+d by omega]at h2
  exact Int.lt_trans h1 h2
theorem aC (t:Ab) (r:Int) (hc:ordered t.Au/\t.Au.length<=2000):EF t r=some (KF t r):=by
 unfold EF KF
 rw[Iz _ _ (by omega) hc.1];rfl
theorem YR (t:Ab) (i:Nat) (hi:i<t.Ad.length) (hn:t.Ad.length<=2000) (hc:ordered t.Au/\t.Au.length<=2000) (he:t.AJ.length<=2000) (hx:Xj t.AJ):Gl t (i:Int)=some (NJ t i):=by
 unfold Gl QG NJ
 rw[decide_eq_false (show ¬(i:Int)<0 by omega),cond_false,decide_eq_false (show ¬(i:Int)>=(t.Ad.length:Int) by omega),cond_false,if_pos ⟨by omega,by omega⟩]
 simp only[Int.toNat_natCast,Aa]
 by_cases h2:(t.Ad.getD i Ac).Bp.length=2
 ·obtain⟨y,hy⟩:=Ak2 t.AJ (t.Ad.getD i Ac).Bd he hx
  rw[show((((t.Ad.getD i Ac).Bp.length:Nat):Int) != 2)=false by rw[h2];rfl,cond_false,if_pos ⟨by omega,by omega⟩,hy,Aa,aC _ _ hc,aC _ _ hc,if_pos ⟨by omega,by omega⟩,decide_eq_true h2,Bool.true_and]
  simp only[Aa]
  unfold AiR
  cases (t.AJ.any fun x=>x==(t.Ad.getD i Ac).Bd)<;>cases (KF t (t.Ad.getD i Ac).Bd==0)<;>rfl
 ·rw[show((((t.Ad.getD i Ac).Bp.length:Nat):Int) != 2)=true by rw[bne_iff_ne];omega,decide_eq_false h2]
  rfl
def Qo (t:Ab) (i:Nat):Int×Int:=((t.Ad.getD i Ac).Bp.getD 0 0,(t.Ad.getD i Ac).Bp.getD 1 0)
theorem AcQ (t:Ab) (i k:Nat) (hi:NJ t i=true):twB t i k=true↔NJ t k=true/\Qo t i=Qo t k:=by
 unfold twB Qo
 simp only[hi,Bool.true_and,Bool.and_eq_true,beq_iff_eq,Prod.mk.injEq]
theorem AiH (t:Ab) (i:Nat) (hi:NJ t i=true):twF t i=if ∃k,k<i/\NJ t k=true/\Qo t i=Qo t k then some ((i:Int),7)else none:=by
 unfold twF
 by_cases h: ∃k,k<i/\NJ t k=true/\Qo t i=Qo t k
 ·rw[if_pos h]
  obtain⟨k,hk,h1⟩:=h
  cases hf:Am (fun k=>if twB t i k=true then some ((i:Int),(7:Int))else none) i 0 with
  |none=>
   have:=Bl.1 hf k (Nat.zero_le _) (by omega)
   rw[if_pos ((AcQ t i k hi).2 h1)]at this
   cases this
  |some v=>
   obtain⟨j,_,_,hj,_⟩:=Br hf
   split at hj
   ·cases hj;rfl
   ·cases hj
 ·rw[if_neg h]
  refine Bl.2 fun k _ hk=>?_
  rw[if_neg]
  intro hb
  exact h ⟨k,by omega,(AcQ t i k hi).1 hb⟩
theorem AkF (t:Ab) (i:Nat) (hi:NJ t i=false):twF t i=none:=by
 unfold twF
 refine Bl.2 fun k _ hk=>?_
 rw[if_neg]
 unfold twB
 rw[hi];simp
theorem WM {x:Int} (h:Rh x=false): -2147483648<=x/\x<=2147483647:=by
 unfold Rh FH at h
 simp only[Bool.or_eq_false_iff,Bool.not_eq_false',Bool.and_eq_true,decide_eq_true_eq]at h
 omega
theorem aB (r:Int):CF r=some (FH r):=by
 unfold CF FH
 by_cases h1:r>=0
 ·by_cases h2:r<=1114111
  ·by_cases h3:r<55296
   ·rw[decide_eq_true h1,decide_eq_true h2,decide_eq_true h3,decide_eq_false (show ¬r>=55296 by omega)];rfl
   ·rw[decide_eq_true h1,decide_eq_true h2,decide_eq_false h3,decide_eq_true (show r>=55296 by omega)]
    by_cases h4:r>57343
    ·rw[decide_eq_true h4,decide_eq_false (show ¬r<=57343 by omega)];rfl
    ·rw[decide_eq_false h4,decide_eq_true (show r<=57343 by omega)];rfl
  ·rw[decide_eq_true h1,decide_eq_false h2];rfl
 ·rw[decide_eq_false h1];rfl
theorem Afk (t:Ab) (i:Nat) (hto:(t.Ad.getD i Ac).Bp.length<=4):iter (JM t (i:Int)) 0=some (if(t.Ad.getD i Ac).Bp.any Rh=true then .inr (.sent 13)else .inl ()):=by
 rw[El (t.Ad.getD i Ac).Bp.length (fun k=>if Rh ((t.Ad.getD i Ac).Bp.getD k 0)=true then some (Er.sent 13)else none) (fun k hk _=>?_) (fun _=>?_)]
 ·have e1:=AeN (t.Ad.getD i Ac).Bp 0 Rh 5
  have e2: ∀(n j:Nat),Am (fun k=>if Rh ((t.Ad.getD i Ac).Bp.getD k 0)=true then some (Er.sent 13)else none) n j=(Am (fun k=>if Rh ((t.Ad.getD i Ac).Bp.getD k 0)=true then some (5:Int)else none) n j).map fun _=>Er.sent 13:=fun n j=>by
   rw[<- EM]
   exact Ho fun k _ _=>by split<;>rfl
  rw[e2,<- e1]
  cases Am (fun k=>if Rh ((t.Ad.getD i Ac).Bp.getD k 0)=true then some (5:Int)else none) (t.Ad.getD i Ac).Bp.length 0<;>rfl
 ·unfold JM Rh
  simp only[Int.toNat_natCast]
  rw[decide_eq_true (by omega),cond_true,if_pos ⟨by omega,by omega⟩,aB,Aa,YV,Aa,yE]
  unfold PW
  rw[up (by omega)]
  cases FH ((t.Ad.getD i Ac).Bp.getD k 0)<;>cases TH ((t.Ad.getD i Ac).Bp.getD k 0)<;>rfl
 ·unfold JM
  simp only[Int.toNat_natCast]
  rw[decide_eq_false (by omega)];rfl
theorem bJ (t:Ab) (i:Nat) (hi:i<t.Ad.length) (hn:t.Ad.length<=2000):Kl t (i:Int)=some (if OJ t i=0 then .nil else .sent (nmG (OJ t i))):=by
 unfold Kl
 rw[if_pos ⟨by omega,by omega⟩]
 simp only[Int.toNat_natCast,aB,YV,Aa,yE]
 have e1:(bif !FH (t.Ad.getD i Ac).Bd then some true else some (TH (t.Ad.getD i Ac).Bd))=some (!FH (t.Ad.getD i Ac).Bd||TH (t.Ad.getD i Ac).Bd):=by
  cases FH (t.Ad.getD i Ac).Bd<;>rfl
 rw[e1,Aa]
 unfold QH OJ
 by_cases c1:(!FH (t.Ad.getD i Ac).Bd||TH (t.Ad.getD i Ac).Bd)=true
 ·rw[c1];rfl
 ·rw[if_neg c1]
  rw[Bool.not_eq_true]at c1
  rw[c1,cond_false]
  have e2:(bif decide ((i:Int)>0)then
     if 0<=IntKind.wrap .i64 ((i:Int)-1)/\IntKind.wrap .i64 ((i:Int)-1)<(t.Ad.length:Int)then
         some (decide ((t.Ad.getD i Ac).Bd<=(t.Ad.getD (IntKind.wrap .i64 ((i:Int)-1)).toNat Ac).Bd))
     else none
   else some false)=some (decide (0<i/\(t.Ad.getD i Ac).Bd<=(t.Ad.getD (i-1) Ac).Bd)):=by
   by_cases h0:0<i
   ·rw[decide_eq_true (by omega),cond_true,down h0 (by omega),if_pos ⟨by omega,by omega⟩,Int.toNat_natCast]
    congr 1
    rw[decide_eq_decide]
    exact⟨fun h=>⟨h0,h⟩,fun h=>h.2⟩
   ·rw[decide_eq_false (by omega),cond_false,decide_eq_false (fun h=>h0 h.1)]
  simp only[Int.toNat_natCast]at e2 ⊢
  rw[e2,Aa]
  unfold QI
  simp only[Int.toNat_natCast]
  by_cases c2:0<i/\(t.Ad.getD i Ac).Bd<=(t.Ad.getD (i-1) Ac).Bd
  ·rw[if_pos c2,decide_eq_true c2];rfl
  ·rw[if_neg c2,decide_eq_false c2,cond_false]
   have e3:(bif decide (((t.Ad.getD i Ac).Bp.length:Int)<1)then some true
     else bif decide (((t.Ad.getD i Ac).Bp.length:Int)>2)then some true
         else if 0<=(0:Int)/\(0:Int)<((t.Ad.getD i Ac).Bp.length:Int)then some (decide ((t.Ad.getD i Ac).Bp.getD 0 0>=(t.Ad.getD i Ac).Bd))else none)
     =some (decide ((t.Ad.getD i Ac).Bp.length≠1/\(t.Ad.getD i Ac).Bp.length≠2∨(t.Ad.getD i Ac).Bp.getD 0 0>=(t.Ad.getD i Ac).Bd)):=by
     by_cases h1:(t.Ad.getD i Ac).Bp.length<1
     ·rw[decide_eq_true (by omega),cond_true,decide_eq_true (.inl ⟨by omega,by omega⟩)]
     ·rw[decide_eq_false (by omega),cond_false]
      by_cases h2:(t.Ad.getD i Ac).Bp.length>2
      ·rw[decide_eq_true (by omega),cond_true,decide_eq_true (.inl ⟨by omega,by omega⟩)]
      ·rw[decide_eq_false (by omega),cond_false,if_pos ⟨by omega,by omega⟩]
       congr 1
       rw[decide_eq_decide]
       exact⟨fun h=>.inr h,fun h=>h.elim (fun h=>by omega) id⟩
   rw[e3,Aa]
   unfold QJ
   by_cases c3:(t.Ad.getD i Ac).Bp.length≠1/\(t.Ad.getD i Ac).Bp.length≠2∨(t.Ad.getD i Ac).Bp.getD 0 0>=(t.Ad.getD i Ac).Bd
   ·rw[if_pos c3,decide_eq_true c3];rfl
   ·rw[if_neg c3,decide_eq_false c3,cond_false,Afk t i (by omega),Aa]
    by_cases c4:(t.Ad.getD i Ac).Bp.any Rh=true
    ·rw[if_pos c4,if_pos c4];rfl
    ·rw[if_neg c4,if_neg c4];rfl
theorem AgF (t:Ab) (hn:t.Ad.length<=2000):Pj t=some ((NI t:Nat):Int):=by
 unfold Pj NI
 have key: ∀(k i:Nat),i+k=t.Ad.length->iter (Kk t) (i:Int)=some ((((Am (fun i=>if OJ t i≠0 then some i else none) k i).getD t.Ad.length:Nat)):Int):=by
  intro k
  induction k with
  |zero=>
   intro i hi
   obtain rfl:i=t.Ad.length:=by omega
   refine Ay ?_
   unfold Kk
   rw[decide_eq_false (by omega)];rfl
  |succ k ih=>
   intro i hi
   rw[Am]
   by_cases h:OJ t i=0
   ·rw[if_neg (fun h'=>h' h)]
    show _=some ((((Am (fun i=>if OJ t i≠0 then some i else none) k (i+1)).getD t.Ad.length:Nat)):Int)
    rw[<- ih (i+1) (by omega)]
    refine Bh ?_
    unfold Kk
    rw[decide_eq_true (by omega),cond_true,bJ t i (by omega) hn,if_pos h]
    simp only[Aa,TQ,Er.isNil,cond_true,up (show i<9223372036854775807 by omega)]
   ·rw[if_pos h]
    refine Ay ?_
    unfold Kk
    rw[decide_eq_true (by omega),cond_true,bJ t i (by omega) hn,if_neg h]
    rfl
 rw[show(0:Int)=((0:Nat):Int) from rfl,key t.Ad.length 0 (by omega)];rfl
theorem Ahz (t:Ab) (r:Int) (hl:t.Ad.length<=2000):RL t r=some (decide (0<=G9 t r)):=by
 unfold RL DC D5 G9
 rw[El t.Ad.length (fun i=>if(t.Ad.getD i Ac).Bd=r then some (i:Int)else none) (fun i hi _=>?_) (fun _=>?_)]
 ·cases Am (fun i=>if(t.Ad.getD i Ac).Bd=r then some (i:Int)else none) t.Ad.length 0<;>rfl
 ·unfold DF Ph
  rw[decide_eq_true (by omega),cond_true,if_pos ⟨by omega,by omega⟩,Int.toNat_natCast,Aa]
  by_cases h:(t.Ad.getD i Ac).Bd=r
  ·rw[if_pos h,beq_iff_eq.2 h];rfl
  ·rw[if_neg h,beq_false_of_ne h,cond_false,up (by omega)]
 ·unfold DF
  rw[decide_eq_false (by omega)];rfl
theorem Ae1 {t:Ab} {n:Nat} (hn:n<=t.Ad.length) (hl:t.Ad.length<=2000) (h: ∀i,i<n->OJ t i=0): ∀(d m:Nat) (k:Int),m+d=8->k<n-> ∃c,iter (GZ (lead t n)) (k,(m:Int))=some c/\decide (c>8)=OY t d k:=by
 intro d
 have hr:=Wx hn h
 have hlen:=Ze t hn
 have round: ∀(k m:Nat),k<n->m<=8->GZ (lead t n) ((k:Int),(m:Int))=some (.next (Uh t k,((m+1:Nat):Int))):=fun k m hk hm=>by
  have hto:=QA (h k hk)
  unfold GZ Kj
  simp only
  rw[decide_eq_true (show(k:Int)>=0 by omega),cond_true,decide_eq_true (show(m:Int)<=8 by omega),Aa,cond_true,if_pos ⟨by omega,by omega⟩]
  simp only[Int.toNat_natCast]
  rw[Si t n hk,beq_false_of_ne (show(((t.Ad.getD k Ac).Bp.length:Nat):Int)≠0 by omega),cond_false,if_pos ⟨by omega,by omega⟩,if_pos ⟨by omega,by omega⟩,YU _ _ (by omega) hr,Aa,kS hn h hk,up (by omega)]
 induction d with
 |zero=>
  intro m k hm hk
  obtain rfl:m=8:=by omega
  by_cases h0:0<=k
  ·obtain⟨j,rfl⟩: ∃j:Nat,k=j:=⟨k.toNat,by omega⟩
   refine⟨9,?_,by simp[OY,h0]⟩
   rw[Bh (round j 8 (by omega) (by omega))]
   refine Ay ?_
   unfold GZ Kj
   by_cases ha:Uh t j>=0
   ·simp only[decide_eq_true ha];rfl
   ·simp only[decide_eq_false ha];rfl
  ·refine⟨8,Ay ?_,by simp[OY,h0]⟩
   unfold GZ Kj
   simp only[decide_eq_false (show ¬k>=0 by omega)];rfl
 |succ d ih=>
  intro m k hm hk
  by_cases h0:0<=k
  ·obtain⟨j,rfl⟩: ∃j:Nat,k=j:=⟨k.toNat,by omega⟩
   have ha:=AeH t j
   obtain⟨c,hc,hd⟩:=ih (m+1) (Uh t j) (by omega) (by omega)
   refine⟨c,?_,?_⟩
   ·rw[Bh (round j m (by omega) (by omega))];exact hc
   ·rw[hd,OY,if_neg (by omega),Int.toNat_natCast]
  ·refine⟨(m:Int),Ay ?_,?_⟩
   ·unfold GZ Kj
    simp only[decide_eq_false (show ¬k>=0 by omega)];rfl
   ·rw[OY,if_pos (by omega),decide_eq_false (by omega)]
theorem Adh {t:Ab} {n:Nat} (hn:n<=t.Ad.length) (hl:t.Ad.length<=2000) (h: ∀i,i<n->OJ t i=0) {k:Nat} (hk:k<n): ∃c,K5 (lead t n) (k:Int)=some c/\decide (c>8)=OY t 8 k:=by
 obtain⟨c,hc,hd⟩:=Ae1 hn hl h 8 0 (k:Int) (by omega) (by omega)
 refine⟨c,?_,hd⟩
 unfold K5
 rw[show(0:Int)=((0:Nat):Int) from rfl,hc];rfl
theorem Adj {t:Ab} {n:Nat} (hn:n<=t.Ad.length) (hl:t.Ad.length<=2000) (h: ∀i,i<n->OJ t i=0):iter (Lv t (n:Int)) 0=some (Nv (Am (fun i=>if dI t i=true then some (Er.box 70 (i:Int) (.sent 17))else none) n 0)):=by
 refine El n _ (fun i hi _=>?_) (fun _=>?_)
 ·have hto:=QA (h i hi)
  obtain⟨c,hc,hd⟩:=Adh hn hl h hi
  have hc':K5 { Ad:=t.Ad.take (n-0),Au:= [],AJ:= [] } (i:Int)=some c:=hc
  unfold Lv dI
  rw[decide_eq_true (by omega),cond_true,if_pos ⟨by omega,by omega⟩]
  simp only[Int.toNat_natCast,hc',Aa,hd]
  unfold Sw Fh
  rw[up (by omega)]
  by_cases h2:(t.Ad.getD i Ac).Bp.length=2
  ·rw[show(((t.Ad.getD i Ac).Bp.length:Nat):Int)==2 from by rw[h2];rfl,cond_true,if_pos ⟨by omega,by omega⟩,Ahz _ _ hl,Aa,decide_eq_true h2,Bool.true_and]
   cases decide (0<=G9 t ((t.Ad.getD i Ac).Bp.getD 1 0))<;>cases OY t 8 (i:Int)<;>rfl
  ·rw[beq_false_of_ne (show(((t.Ad.getD i Ac).Bp.length:Nat):Int)≠2 by omega),cond_false,decide_eq_false h2,Bool.false_and,Bool.false_or,Aa]
   cases OY t 8 (i:Int)<;>rfl
 ·unfold Lv
  rw[decide_eq_false (by omega)];rfl
theorem AdM {x:Ap} (h:x.GQ<=x.GD):Zd x=jV x.GQ x.GD:=by
 rw[Bool.eq_iff_iff]
 simp only[Zd,jV,Bool.and_eq_true,Bool.or_eq_true,decide_eq_true_eq]
 omega
theorem Adi (t:Ab) (hc:(VW t.Au).2=0):iter (Lu t) 0=some (Nv (Am (fun i=>(AaR t i).map R8) t.Au.length 0)):=by
 have hR:=RX hc
 refine El _ _ (fun i hi _=>?_) (fun _=>?_)
 ·have hm:=Aig (hR.2.2 _ (Fe (d:=Ai) hi))
  unfold Lu Q0 Sv Fh AaR
  rw[decide_eq_true (by omega),cond_true,if_pos ⟨by omega,by omega⟩]
  simp only[Int.toNat_natCast,Aa,AdM hm]
  rw[up (by omega)]
  by_cases h1:(t.Au.getD i Ai).CP<1
  ·rw[decide_eq_true h1,if_pos (.inl h1)];rfl
  ·rw[decide_eq_false h1,cond_false]
   by_cases h2:(t.Au.getD i Ai).CP>254
   ·rw[decide_eq_true h2,if_pos (.inr (.inl h2))];rfl
   ·rw[decide_eq_false h2,cond_false,Aa]
    by_cases h3:jV (t.Au.getD i Ai).GQ (t.Au.getD i Ai).GD=true
    ·rw[h3,if_pos (.inr (.inr rfl))];rfl
    ·rw[if_neg (fun h=>h.elim h1 fun h=>h.elim h2 h3)]
     rw[Bool.not_eq_true]at h3
     rw[h3];rfl
 ·unfold Lu
  rw[decide_eq_false (by omega)];rfl
theorem Afg (t:Ab) (hn:t.AJ.length<=2000):iter (Ls t) 0=some (Nv (Am (fun i=>(exF t i).map R8) t.AJ.length 0)):=by
 refine El _ _ (fun i hi _=>?_) (fun _=>?_)
 ·unfold Ls Sr Fh exF
  rw[decide_eq_true (by omega),cond_true,if_pos ⟨by omega,by omega⟩]
  simp only[Int.toNat_natCast,aB,Aa]
  cases hr:FH (t.AJ.getD i 0)with
  |false=>rw[if_pos rfl];rfl
  |true=>
   rw[if_neg (show ¬(true=false) by decide),Bool.not_true,cond_false]
   by_cases h0:0<i
   ·rw[decide_eq_true (show(i:Int)>0 by omega),cond_true,down h0 (by omega),if_pos ⟨by omega,by omega⟩,Int.toNat_natCast,Aa,up (by omega)]
    by_cases h1:t.AJ.getD i 0<=t.AJ.getD (i-1) 0
    ·rw[if_pos ⟨h0,h1⟩,decide_eq_true h1];rfl
    ·rw[if_neg (fun h=>h1 h.2),decide_eq_false h1];rfl
   ·rw[decide_eq_false (show ¬(i:Int)>0 by omega),cond_false,Aa,if_neg (fun h=>h0 h.1),up (by omega)];rfl
 ·unfold Ls
  rw[decide_eq_false (by omega)];rfl
theorem Ag4 (t:Ab) (hrow: ∀i,i<t.Ad.length->OJ t i=0) (hn:t.Ad.length<=2000) (hc:ordered t.Au/\t.Au.length<=2000) (he:t.AJ.length<=2000) (hx:Xj t.AJ):
  K6 t=some (R8 ((Am (twF t) t.Ad.length 0).getD (0,0))):=by
 unfold K6
 rw[if_pos (by omega)]
 have key: ∀(k i:Nat) (seen:List (Int×Int)),i+k=t.Ad.length->(∀x,x∈seen↔ ∃j,j<i/\NJ t j=true/\x=Qo t j)->iter (F5 t) (seen,i)=some (R8 ((Am (twF t) k i).getD (0,0))):=by
  intro k
  induction k with
  |zero=>
   intro i seen hi hs
   refine Ay ?_
   unfold F5
   rw[if_neg (by simp only;omega)];rfl
  |succ k ih=>
   intro i seen hi hs
   have hil:i<t.Ad.length:=by omega
   have hto:=QA (hrow i hil)
   rw[Am]
   cases hb:NJ t i with
   |false=>
    rw[AkF t i hb]
    show _=some (R8 ((Am (twF t) k (i+1)).getD (0,0)))
    rw[<- ih (i+1) seen (by omega) fun x=>by
         rw[hs]
         refine⟨fun⟨j,h1,h2⟩=>⟨j,by omega,h2⟩,fun⟨j,h1,h2,h3⟩=>⟨j,?_,h2,h3⟩⟩
         by_cases e:j=i
         ·subst e;rw[hb]at h2;cases h2
         ·omega]
    refine Bh ?_
    unfold F5
    rw[if_pos hil]
    simp only[YR t i hil hn hc he hx,Aa,hb,Bool.false_eq_true,if_false]
   |true=>
    have h2:=xJ hb
    have hr0:=WM (x:=(t.Ad.getD i Ac).Bp.getD 0 0) (by
         have:=List.any_eq_false.1 hto.2.2.1 _ (Fe (d:=(0:Int)) (i:=0) (by omega));simpa using this)
    have hr1:=WM (x:=(t.Ad.getD i Ac).Bp.getD 1 0) (by
         have:=List.any_eq_false.1 hto.2.2.1 _ (Fe (d:=(0:Int)) (i:=1) (by omega));simpa using this)
    rw[AiH t i hb]
    by_cases hin: ∃k,k<i/\NJ t k=true/\Qo t i=Qo t k
    ·rw[if_pos hin]
     refine Ay ?_
     unfold F5
     rw[if_pos hil]
     simp only[YR t i hil hn hc he hx,Aa,hb,if_true]
     rw[if_pos ⟨h2,hr0,hr1⟩,if_pos (show((t.Ad.getD i Ac).Bp.getD 0 0,(t.Ad.getD i Ac).Bp.getD 1 0)∈seen from(hs (Qo t i)).2 hin)]
     rfl
    ·rw[if_neg hin]
     show _=some (R8 ((Am (twF t) k (i+1)).getD (0,0)))
     rw[<- ih (i+1) (seen++ [Qo t i]) (by omega) fun x=>by
          rw[List.mem_append,hs,List.mem_singleton]
          constructor
          ·rintro(⟨j,h1,h3⟩|rfl)
           ·exact⟨j,by omega,h3⟩
           ·exact⟨i,by omega,hb,rfl⟩
          ·rintro⟨j,h1,h3,h4⟩
           by_cases e:j=i
           ·subst e;exact .inr h4
           ·exact .inl ⟨j,by omega,h3,h4⟩]
     refine Bh ?_
     unfold F5
     rw[if_pos hil]
     simp only[YR t i hil hn hc he hx,Aa,hb,if_true]
     rw[if_pos ⟨h2,hr0,hr1⟩,if_neg (show ¬((t.Ad.getD i Ac).Bp.getD 0 0,(t.Ad.getD i Ac).Bp.getD 1 0)∈seen from fun h=>hin ((hs (Qo t i)).1 h))]
     rfl
 exact key t.Ad.length 0 [] (by omega) fun x=>⟨fun h=>absurd h List.not_mem_nil,fun⟨j,h,_⟩=>absurd h (Nat.not_lt_zero _)⟩
theorem jK (t:Ab):Pb t=some (R8 (VE t)):=by
 unfold Pb VE
 by_cases h1:2000<t.Ad.length
 ·rw[decide_eq_true (by omega),if_pos (.inl h1)];rfl
 ·rw[decide_eq_false (show ¬((t.Ad.length:Nat):Int)>2000 by omega),cond_false,Aa]
  unfold TN
  by_cases h2:2000<t.AJ.length
  ·rw[decide_eq_true (by omega),if_pos (.inr h2)];rfl
  ·have hl:t.Ad.length<=2000:=by omega
   have hx:t.AJ.length<=2000:=by omega
   obtain⟨r1,r2,r3⟩:=AgG t
   rw[decide_eq_false (by omega),cond_false,if_neg (by omega),AgF t hl,Aa,if_pos ⟨by omega,by omega,by omega⟩,Adj r1 hl r2,Aa]
   have hrow: ∀i,i<NI t->pE t i=if dI t i=true then 9 else 0:=fun i hi=>by rw[Xk,if_neg (fun h=>h (r2 i hi))]
   cases hd:Am (fun i=>if dI t i=true then some (Er.box 70 (i:Int) (.sent 17))else none) (NI t) 0 with
   |some v=>
    obtain⟨j,_,j2,j3,j4⟩:=Br hd
    split at j3
    ·rename_i hdj
     cases j3
     rw[RB (v:=((j:Int),(9:Int))) (j:=j) (Nat.zero_le _) (by omega) (by rw[hrow j (by omega),if_pos hdj];rfl) fun j' _ hj'=>?_]
     ·rfl
     ·have:=j4 j' (Nat.zero_le _) hj'
      rw[hrow j' (by omega)]
      split at this
      ·cases this
      ·rename_i hn;rw[if_neg hn];rfl
    ·cases j3
   |none=>
    have hnd: ∀i,i<NI t->pE t i=0:=fun i hi=>by
         have:=Bl.1 hd i (Nat.zero_le _) (by omega)
         rw[hrow i hi]
         split at this
         ·cases this
         ·rename_i hn;rw[if_neg hn]
    simp only[Nv]
    unfold Pf
    by_cases hlt:NI t<t.Ad.length
    ·have hne:=r3 hlt
     have hF:pE t (NI t)=OJ t (NI t):=by rw[Xk,if_pos hne]
     rw[decide_eq_true (by omega),cond_true,bJ t _ hlt hl,if_neg hne,Aa,
         RB (v:=(((NI t:Nat):Int),OJ t (NI t))) (j:=NI t) (Nat.zero_le _) (by omega) (by rw[hF,if_pos hne]) fun j' _ hj'=>by rw[if_neg (fun h=>h (hnd j' hj'))]]
     unfold Fh R8
     rw[if_neg hne];rfl
    ·have hall: ∀i,i<t.Ad.length->OJ t i=0:=fun i hi=>r2 i (by omega)
     rw[decide_eq_false (by omega),cond_false,Bl.2 fun j _ hj=>by rw[if_neg (fun h=>h (hnd j (by omega)))],WJ,Aa,Wo]
     by_cases hc:(VW t.Au).2=0
     ·rw[decide_eq_true hc,Bool.not_true,cond_false,Adi t hc,EM,Aa]
      simp only[if_neg (fun h:(VW t.Au).2≠0=>h hc)]
      cases Am (AaR t) t.Au.length 0 with
      |some v=>rfl
      |none=>
       simp only[Option.map_none,Nv]
       unfold Oo Oq
       rw[Afg t hx,EM,Aa]
       cases hex:Am (exF t) t.AJ.length 0 with
       |some v=>rfl
       |none=>
        have hR:=RX hc
        simp only[Option.map_none,Nv]
        rw[Ag4 t hall hl ⟨hR.2.1,hR.1⟩ hx (qE fun i hi=>Bl.1 hex i (Nat.zero_le _) (by omega))]
        rfl
     ·rw[decide_eq_false hc,Bool.not_false,cond_true]
      simp only[if_pos (show(VW t.Au).2≠0 from hc)]
def U3 (t:Ag):Int×Int:=if(VE t.Ca).2=0 then dD t.Ct else VE t.Ca
theorem AcZ (t:Ag):Nn t=some (R8 (U3 t)):=by
 unfold Nn U3
 rw[jK,Aa,Wo,fP]
 by_cases h:(VE t.Ca).2=0
 ·rw[decide_eq_true h,if_pos h];rfl
 ·rw[decide_eq_false h,if_neg h];rfl
theorem AhT (t:Ag): ∃b,KM t=some b/\(b=false->AcO t.Ca/\AcP t.Ct/\t.EL.length<=40):=by
 obtain⟨b1,h1,g1⟩:=AhR t.Ca
 obtain⟨b2,h2,g2⟩:=AhS t.Ct
 have h8:KL t=some (b1||b2):=by
  unfold KL
  rw[h1,Aa,h2]
  cases b1<;>cases b2<;>rfl
 unfold KM
 rw[h8,Aa]
 cases b1 with
 |true=>exact⟨true,rfl,fun h=>by cases h⟩
 |false=>
  cases b2 with
  |true=>exact⟨true,rfl,fun h=>by cases h⟩
  |false=>
   refine⟨decide (((t.EL.length:Nat):Int)>40),rfl,fun h=>⟨g1 rfl,g2 rfl,?_⟩⟩
   have:=of_decide_eq_false h
   omega
structure rY (t:Ag):Prop where
 Alf: ∀i,i<t.Ca.Ad.length->0<=(t.Ca.Ad.getD i Ac).Bd
 to0: ∀i,i<t.Ca.Ad.length-> ∀x∈(t.Ca.Ad.getD i Ac).Bp,0<=x
 lo0: ∀i,i<t.Ca.Au.length->0<=(t.Ca.Au.getD i Ai).GQ
 n1:t.Ca.Ad.length<=2000
 n2:t.Ca.Au.length<=2000
theorem bI {r:Int} (h:FH r=true):0<=r:=by
 unfold FH at h
 simp only[Bool.and_eq_true,decide_eq_true_eq]at h
 omega
theorem Aiw {t:Ag} (h:(U3 t).2=0):rY t:=by
 have h4:(VE t.Ca).2=0:=by
  unfold U3 at h
  by_cases h4:(VE t.Ca).2=0
  ·exact h4
  ·rw[if_neg h4]at h;exact h
 obtain⟨n,hn⟩: ∃n,n=t.Ca:=⟨_,rfl⟩
 rw[<- hn]at h4
 unfold VE at h4
 split at h4
 ·cases h4
 ·rename_i hbig
  split at h4
  ·rename_i v hv
   obtain⟨j,_,_,hj,_⟩:=Br hv
   split at hj
   ·rename_i hne
    cases hj
    exact absurd h4 hne
   ·cases hj
  ·rename_i hrows
   have hrow: ∀i,i<n.Ad.length->pE n i=0:=fun i hi=>by
    have:=Bl.1 hrows i (Nat.zero_le _) (by omega)
    split at this
    ·cases this
    ·rename_i hn;exact Classical.not_not.1 hn
   have hcls:(VW n.Au).2=0:=by
    by_cases hc:(VW n.Au).2=0
    ·exact hc
    ·rw[if_pos hc]at h4;exact h4
   have r1: ∀i,i<n.Ad.length->FH (n.Ad.getD i Ac).Bd=true/\(n.Ad.getD i Ac).Bp.any Rh=false:=fun i hi=>by
    have:=hrow i hi
    unfold pE at this
    split at this
    ·cases this
    ·rename_i g1
     split at this
     ·cases this
     ·split at this
      ·cases this
      ·split at this
       ·cases this
       ·rename_i g2
        refine⟨?_,by simpa using g2⟩
        cases hb:FH (n.Ad.getD i Ac).Bd with
        |true=>rfl
        |false=>exact absurd (by rw[hb];rfl) g1
   have hcn:n.Au.length<=2000/\ ∀i,i<n.Au.length->XJ (n.Au.getD i Ai)=true:=by
    unfold VW at hcls
    split at hcls
    ·cases hcls
    ·rename_i hl
     refine⟨by omega,fun i hi=>?_⟩
     cases hf:Am (Yo n.Au) n.Au.length 0 with
     |some v=>
      rw[hf]at hcls
      obtain⟨j,_,_,hj,_⟩:=Br hf
      unfold Yo at hj
      split at hj
      ·cases hj;cases hcls
      ·split at hj
       ·cases hj;cases hcls
       ·cases hj
     |none=>
      have:=Bl.1 hf i (Nat.zero_le _) (by omega)
      unfold Yo at this
      split at this
      ·cases this
      ·rename_i hm;simpa using hm
   subst hn
   refine⟨fun i hi=>bI (r1 i hi).1,fun i hi x hx=>?_,fun i hi=>?_,by omega,hcn.1⟩
   ·have:=List.any_eq_false.1 (r1 i hi).2 x hx
    unfold Rh at this
    cases hb:FH x with
    |true=>exact bI hb
    |false=>exact absurd (by rw[hb];simp) this
   ·have:=hcn.2 i hi
    unfold XJ at this
    simp only[Bool.and_eq_true,decide_eq_true_eq]at this
    omega
def Ad7 (t:Ag) (i:Nat):Option (Int×Int):=
 if(t.Ca.Ad.getD i Ac).Bd<128∨((t.Ca.Ad.getD i Ac).Bp.length=2/\(t.Ca.Ad.getD i Ac).Bp.getD 1 0<128)then some ((i:Int),17)else none
def Ac8 (t:Ag) (i:Nat):Option (Int×Int):=if(t.Ca.Au.getD i Ai).GQ<128 then some ((i:Int),17)else none
def fr (l:List CQ) (i:Nat):Int:=(l.getD i E9).Bd
def to (l:List CQ) (i:Nat):Int:=(l.getD i E9).Bp
def zD (l:List CQ) (i:Nat):Option (Int×Int):=
 if FH (fr l i)=false∨fr l i<128∨FH (to l i)=false∨(65<=to l i/\to l i<=90)then some ((i:Int),4)
 else if 0<i/\fr l i<=fr l (i-1)then some ((i:Int),6)else none
def Yd (l:List CQ) (r:Int):Bool:=l.any fun x=>x.Bd==r
def wJ (l:List CQ) (i:Nat):Option (Int×Int):=if Yd l (to l i)=true then some ((i:Int),7)else none
def xH (t:Ag):Int×Int:=
 if(U3 t).2=0 then
  match Am (Ad7 t) t.Ca.Ad.length 0 with
  |some v=>v
  |none=>match Am (Ac8 t) t.Ca.Au.length 0 with
   |some v=>v
   |none=>if 2000<t.EL.length then(0,18)else match Am (zD t.EL) t.EL.length 0 with
    |some v=>v
    |none=>match Am (wJ t.EL) t.EL.length 0 with
     |some v=>v
     |none=>(0,0)
 else U3 t
theorem AbI (r:Int):CF r=some (FH r):=by
 unfold CF FH
 by_cases h1:r>=0<;>by_cases h2:r<=1114111<;>by_cases h3:r<55296<;>by_cases h4:r>57343<;>simp[h1,h2,h3,h4]<;>omega
theorem lS (r:Int):Fu r=some (decide (0<=r/\r<128)):=by
 unfold Fu
 by_cases h1:r>=0<;>by_cases h2:r<128<;>simp[h1,h2]
theorem AaN (r:Int):J6 r=some (decide (65<=r/\r<=90)):=by
 unfold J6
 by_cases h1:r>=65<;>by_cases h2:r<=90<;>simp[h1,h2]
theorem Ad8 (t:Ag) (hR:rY t):iter (N9 t) 0=some (Nv ((Am (Ad7 t) t.Ca.Ad.length 0).map R8)):=by
 rw[<- EM]
 refine El _ _ (fun i hi _=>?_) (fun _=>?_)
 ·have f0:=hR.Alf i hi
  have t0:=hR.to0 i hi
  have hn:=hR.n1
  unfold N9 Ad7
  rw[decide_eq_true (by omega),cond_true,if_pos ⟨by omega,by omega⟩,Int.toNat_natCast]
  generalize t.Ca.Ad.getD i Ac=x at f0 t0
  simp only[lS,Aa]
  by_cases h1:x.Bd<128
  ·rw[decide_eq_true ⟨f0,h1⟩,cond_true,Aa,if_pos (Or.inl h1)];rfl
  ·rw[decide_eq_false (fun h=>h1 h.2),cond_false]
   by_cases h2:x.Bp.length=2
   ·have t1:=t0 _ (Fe (d:=0) (show 1<x.Bp.length by omega))
    rw[show(((x.Bp.length:Nat):Int)==2)=true by rw[h2];rfl,cond_true,if_pos ⟨by omega,by omega⟩]
    by_cases h3:x.Bp.getD 1 0<128
    ·rw[decide_eq_true ⟨t1,h3⟩,Aa,if_pos (Or.inr ⟨h2,h3⟩)];rfl
    ·rw[decide_eq_false (fun h=>h3 h.2),if_neg (by rintro(h|h);exact h1 h;exact h3 h.2),Aa]
     unfold Q5
     rw[cond_false,up (by omega)];rfl
   ·rw[beq_false_of_ne (show((x.Bp.length:Nat):Int)≠2 by omega),cond_false,if_neg (by rintro(h|h);exact h1 h;exact h2 h.1),Aa]
    unfold Q5
    rw[cond_false,up (by omega)];rfl
 ·have hn:=hR.n1
  unfold N9
  rw[decide_eq_false (by omega)];rfl
theorem Ac9 (t:Ag) (hR:rY t):iter (Pn t) 0=some (Nv ((Am (Ac8 t) t.Ca.Au.length 0).map R8)):=by
 rw[<- EM]
 have hn:=hR.n2
 refine El _ _ (fun i hi _=>?_) (fun _=>?_)
 ·have f0:=hR.lo0 i hi
  unfold Pn Ac8
  rw[decide_eq_true (by omega),cond_true,if_pos ⟨by omega,by omega⟩,Int.toNat_natCast,lS,Aa]
  by_cases h1:(t.Ca.Au.getD i Ai).GQ<128
  ·rw[decide_eq_true ⟨f0,h1⟩,if_pos h1];rfl
  ·rw[decide_eq_false (fun h=>h1 h.2),if_neg h1,cond_false,up (by omega)];rfl
 ·unfold Pn
  rw[decide_eq_false (by omega)];rfl
theorem AbA (l:List CQ) (hn:l.length<=2000):iter (Ko l) 0=some (Nv ((Am (zD l) l.length 0).map R8)):=by
 rw[<- EM]
 refine El _ _ (fun i hi _=>?_) (fun _=>?_)
 ·unfold Ko
  rw[decide_eq_true (by omega),cond_true,if_pos ⟨by omega,by omega⟩,Int.toNat_natCast]
  simp only[AbI,lS,AaN,Aa]
  have hA:(bif !FH (fr l i)then some (!FH (fr l i))else bif decide (0<=fr l i/\fr l i<128)then some (decide (0<=fr l i/\fr l i<128))else bif !FH (to l i)then some (!FH (to l i))else some (decide (65<=to l i/\to l i<=90)))=
    some (decide (FH (fr l i)=false∨fr l i<128∨FH (to l i)=false∨(65<=to l i/\to l i<=90))):=by
   cases hr:FH (fr l i)with
   |false=>simp
   |true=>
    have:=bI hr
    by_cases h1:fr l i<128
    ·simp[this,h1]
    ·cases FH (to l i)<;>by_cases h2:65<=to l i<;>by_cases h3:to l i<=90<;>simp[h1,h2,h3]
  have hA':=hA
  unfold fr to at hA'
  rw[hA',Aa]
  unfold QM QN zD
  by_cases hb:FH (fr l i)=false∨fr l i<128∨FH (to l i)=false∨(65<=to l i/\to l i<=90)
  ·rw[if_pos hb]
   unfold fr to at hb
   rw[decide_eq_true hb,cond_true];rfl
  ·rw[if_neg hb]
   unfold fr to at hb
   rw[decide_eq_false hb,cond_false]
   by_cases h0:0<i
   ·rw[decide_eq_true (show(i:Int)>0 by omega),cond_true,down h0 (by omega),if_pos ⟨by omega,by omega⟩,Int.toNat_natCast,Int.toNat_natCast,Aa]
    by_cases h6:fr l i<=fr l (i-1)
    ·rw[if_pos ⟨h0,h6⟩]
     unfold fr at h6
     rw[decide_eq_true h6,cond_true];rfl
    ·rw[if_neg (fun h=>h6 h.2)]
     unfold fr at h6
     rw[decide_eq_false h6,cond_false,up (by omega)];rfl
   ·rw[decide_eq_false (show ¬(i:Int)>0 by omega),cond_false,Aa,cond_false,if_neg (fun h=>h0 h.1),up (by omega)];rfl
 ·unfold Ko
  rw[decide_eq_false (by omega)];rfl
theorem vO {l:List CQ} (h: ∀i,0<i->i<l.length->fr l (i-1)<fr l i): ∀j i,i<j->j<l.length->fr l i<fr l j
 |0,i,hij,_=>by omega
 |j+1,i,hij,hj=>by
  have h1:=h (j+1) (by omega) hj
  rw[Nat.add_sub_cancel]at h1
  by_cases e:i=j
  ·subst e;exact h1
  ·have:=vO h j i (by omega) (by omega)
   omega
theorem u7 (l:List CQ) (r:Int) (hl:l.length<=2000) (ho: ∀j i,i<j->j<l.length->fr l i<fr l j): ∃y:Nat,GL (l.length:Int) l r=some ((y:Nat):Int)/\isFirst (fun k=>fr l k>=r) l.length y:=by
 have key: ∃x,iter (EI l r) ((0:Int),(l.length:Int))=some x/\ ∃y:Nat,x=(y:Int)/\isFirst (fun k=>fr l k>=r) l.length y:=by
  refine Zc (fun s=> ∃i j:Nat,s=((i:Int),(j:Int))/\i<=j/\j<=l.length/\(∀k,k<i-> ¬fr l k>=r)/\(j<l.length->fr l j>=r)) (fun s=>(s.2-s.1).toNat) _ ?_ _ ⟨0,l.length,rfl,Nat.zero_le _,Nat.le_refl _,fun k hk=>absurd hk (Nat.not_lt_zero _),fun h=>absurd h (Nat.lt_irrefl _)⟩
  rintro s ⟨i,j,rfl,hij,hjn,hlo,hhi⟩
  by_cases hlt:i<j
  ·left
   have hm:=mid (i:=i) (j:=j) (by omega)
   have hmi:(i+j)/2<l.length:=by omega
   by_cases hp:fr l ((i+j)/2)>=r
   ·refine⟨((i:Int),(((i+j)/2:Nat):Int)),?_,⟨i,(i+j)/2,rfl,by omega,by omega,hlo,fun _=>hp⟩,?_⟩
    ·unfold fr at hp
     simp only[EI,LZ,hm]
     rw[if_pos ⟨by omega,by omega⟩]
     simp only[Int.toNat_natCast,Option.bind_some,decide_eq_true hp,decide_eq_true (show(i:Int)<j by omega)]
     rfl
    ·show((((i+j)/2:Nat):Int)-i).toNat<((j:Int)-i).toNat
     omega
   ·refine⟨((((i+j)/2+1:Nat):Int),(j:Int)),?_,⟨(i+j)/2+1,j,rfl,by omega,hjn,fun k hk hkr=>?_,hhi⟩,?_⟩
    ·unfold fr at hp
     simp only[EI,LZ,hm]
     rw[if_pos ⟨by omega,by omega⟩]
     simp only[Int.toNat_natCast,Option.bind_some,decide_eq_false hp,decide_eq_true (show(i:Int)<j by omega),up (show(i+j)/2<9223372036854775807 by omega)]
     rfl
    ·by_cases e:k=(i+j)/2
     ·subst e;exact hp hkr
     ·have:=ho ((i+j)/2) k (by omega) hmi
      omega
    ·show((j:Int)-(((i+j)/2+1:Nat):Int)).toNat<((j:Int)-i).toNat
     omega
  ·right
   have:i=j:=by omega
   subst this
   refine⟨(i:Int),?_,i,rfl,hjn,hlo,hhi⟩
   simp[EI]
 obtain⟨x,h1,y,rfl,h2⟩:=key
 refine⟨y,?_,h2⟩
 unfold GL
 rw[h1];rfl
theorem kV (l:List CQ) (r:Int) (hl:l.length<=2000) (ho: ∀j i,i<j->j<l.length->fr l i<fr l j): ∃x,Mj l r=some (x,Yd l r):=by
 obtain⟨y,h1,hy,hlo,hhi⟩:=u7 l r hl ho
 unfold Mj Ql
 rw[h1,Aa]
 have key:Yd l r=true↔y<l.length/\fr l y=r:=by
  unfold Yd
  rw[List.any_eq_true]
  constructor
  ·rintro⟨x,hx,he⟩
   obtain⟨k,hk,rfl⟩:=List.mem_iff_getElem.1 hx
   have hfk:fr l k=r:=by
       unfold fr
       rw[List.getD_eq_getElem?_getD,List.getElem?_eq_getElem hk]
       simpa using he
   have hyk:y<=k:=by
       by_cases h:k<y
       ·exact absurd (show fr l k>=r by omega) (hlo k h)
       ·omega
   have hyl:y<l.length:=by omega
   have hge:fr l y>=r:=hhi hyl
   by_cases e:y=k
   ·subst e;exact⟨hyl,hfk⟩
   ·have:=ho k y (by omega) hk
    omega
  ·rintro⟨hyl,he⟩
   exact⟨_,Fe (d:=E9) hyl,by unfold fr at he;rw[he];simp⟩
 by_cases hyl:y=l.length
 ·rw[show((y:Int)==((l.length:Nat):Int))=true by simp[hyl],cond_true,Aa,cond_true]
  refine⟨r,?_⟩
  cases ht:Yd l r with
  |false=>rfl
  |true=>have:=key.1 ht;omega
 ·have hlt:y<l.length:=by omega
  rw[beq_false_of_ne (show(y:Int)≠((l.length:Nat):Int) by omega),cond_false,if_pos ⟨by omega,by omega⟩,Int.toNat_natCast,Aa]
  by_cases he:fr l y=r
  ·have ht:=key.2 ⟨hlt,he⟩
   unfold fr at he
   rw[he,show(r != r)=false by simp,cond_false,if_pos ⟨by omega,by omega⟩,ht]
   exact⟨_,rfl⟩
  ·have ht:Yd l r=false:=by
    cases ht:Yd l r with
    |false=>rfl
    |true=>exact absurd (key.1 ht).2 he
   unfold fr at he
   rw[show((l.getD y E9).Bd != r)=true by simp only[bne_iff_ne];exact he,cond_true,ht]
   exact⟨_,rfl⟩
theorem Aap (l:List CQ) (hn:l.length<=2000) (ho: ∀j i,i<j->j<l.length->fr l i<fr l j):iter (KN l) 0=some (Nv ((Am (wJ l) l.length 0).map R8)):=by
 rw[<- EM]
 refine El _ _ (fun i hi _=>?_) (fun _=>?_)
 ·unfold KN wJ
  obtain⟨x,hx⟩:=kV l (to l i) hn ho
  have hx':=hx
  unfold to at hx'
  rw[decide_eq_true (by omega),cond_true,if_pos ⟨by omega,by omega⟩,Int.toNat_natCast,hx',Aa]
  show(bif Yd l (to l i)then _ else _)=_
  cases Yd l (to l i)
  ·rw[cond_false,if_neg (by simp),up (by omega)];rfl
  ·rw[cond_true,if_pos rfl];rfl
 ·unfold KN
  rw[decide_eq_false (by omega)];rfl
theorem Afs (t:Ag):TS t=some (R8 (xH t)):=by
 unfold TS xH
 rw[AcZ,Aa,Wo]
 by_cases h0:(U3 t).2=0
 ·have hR:=Aiw h0
  rw[if_pos h0,decide_eq_true h0,Bool.not_true,cond_false,Ad8 t hR,Aa]
  cases Am (Ad7 t) t.Ca.Ad.length 0 with
  |some v=>rfl
  |none=>
   simp only[Nv,Option.map_none]
   unfold SC
   rw[Ac9 t hR,Aa]
   cases Am (Ac8 t) t.Ca.Au.length 0 with
   |some v=>rfl
   |none=>
    simp only[Nv,Option.map_none]
    unfold SF Qk
    by_cases hl:2000<t.EL.length
    ·rw[if_pos hl,decide_eq_true (by omega),cond_true];rfl
    ·rw[if_neg hl,decide_eq_false (by omega),cond_false,AbA t.EL (by omega),Aa]
     cases hp:Am (zD t.EL) t.EL.length 0 with
     |some v=>rfl
     |none=>
      simp only[Nv,Option.map_none]
      have ho:=vO (l:=t.EL) fun i h0 hi=>by
          have:=Bl.1 hp i (Nat.zero_le _) (by omega)
          unfold zD at this
          split at this
          ·cases this
          ·split at this
           ·cases this
           ·rename_i hn;omega
      unfold NH
      rw[Aap t.EL (by omega) ho,Aa]
      cases Am (wJ t.EL) t.EL.length 0<;>rfl
 ·rw[if_neg h0,decide_eq_false h0,Bool.not_false,cond_true]
theorem Ahm:NC=some true:=by kernel_rfl
end Go.Proofs.YtkeokkmhhhhoiaaGreatDoor
