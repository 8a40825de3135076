import Derived.Test.YtkeokkmhhhhoiaaGreatDoorPFit2
import Derived.Sort.AssemblyPlain
namespace Go.Proofs.YtkeokkmhhhhoiaaGreatDoor
open Go Go.SE Go.Sort
set_option linter.unusedVariables false
set_option linter.unusedSimpArgs false
theorem w8 {x:Int} (h:0<=x) (h':x<=255):IntKind.wrap .u8 x=x:=by
 have e1:(IntKind.u8).bits=8:=rfl
 have e2:(IntKind.u8).signed=false:=rfl
 simp only[IntKind.wrap,e1,e2,Bool.false_and]
 simp
 omega
theorem Lb (a:List Int):(strOfNums a).size=a.length:=by simp[strOfNums,ByteArray.size]
def wi (n lo hi:Int):Int:=max lo (min n hi)
theorem Ag5 {n lo hi:Int} (h:lo<=hi):lo<=wi n lo hi/\wi n lo hi<=hi:=by unfold wi;omega
theorem Vt (n lo hi:Int):Kw n lo hi=some (wi n lo hi):=rfl
theorem nL (n lo hi:Int) (h:lo<=hi):Km n lo hi=some (wi n lo hi):=by
 unfold Km wi
 simp only[YQ,decide_eq_true_eq]
 split
 ·congr 1;omega
 ·split
  ·congr 1;omega
  ·congr 1;omega
def pw:Nat->Int
 |0=>455
 |m+1=>35*pw m
theorem Ac0: ∀(m:Nat) (d k:Int),0<=d->d<=pw m->d<=1000000000000->0<=k->k+36*m<=1000000000000-> ∃d' k',iter (Pv) (d,k)=some (d',k')/\0<=d'/\d'<=455/\0<=k'/\k'<=k+36*m:=by
 intro m
 induction m with
 |zero=>
  intro d k h0 h1 hd h2 h3
  rw[BL]
  unfold Pv
  have:decide (d>455)=false:=by simp[pw]at h1 ⊢;omega
  simp only[this,cond_false]
  exact⟨d,k,rfl,h0,h1,h2,by omega⟩
 |succ m ih=>
  intro d k h0 h1 hd h2 h3
  rw[BL]
  unfold Pv
  rw[pw]at h1
  by_cases h:d>455
  ·simp only[h,decide_true,cond_true]
   have e1:Int.tdiv d 35=d/35:=Int.tdiv_eq_ediv_of_nonneg h0
   rw[e1,Gy (by omega) (by omega),Gy (by omega) (by omega)]
   obtain⟨d',k',h4,h5,h6,h7,h8⟩:=ih (d/35) (k+36) (by omega) (by omega) (by omega) (by omega) (by omega)
   refine⟨d',k',h4,h5,h6,h7,by omega⟩
  ·have:decide (d>455)=false:=by simp;omega
   simp only[this,cond_false]
   exact⟨d,k,rfl,h0,by omega,h2,by omega⟩
theorem pQ (d many:Int) (first:Bool): ∃r,MX d many first=some r/\SB d many first=some r/\0<=r/\r<=1000:=by
 have hD:=Ag5 (n:=d) (lo:=0) (hi:=2147483647) (by omega)
 have hM:=Ag5 (n:=many) (lo:=1) (hi:=2147483647) (by omega)
 unfold MX SB
 rw[Vt,Vt,nL _ _ _ (by omega),nL _ _ _ (by omega)]
 generalize wi d 0 2147483647=D at hD
 generalize wi many 1 2147483647=M at hM
 have key: ∀by_:Int,1<=by_-> ∃r,SK M (IntKind.wrap .i64 (Int.tdiv D by_))=some r/\Mv D M by_=some r/\0<=r/\r<=1000:=fun by_ hb=>by
  unfold SK Mv
  have e1:Int.tdiv D by_=D/by_:=Int.tdiv_eq_ediv_of_nonneg hD.1
  have b0:0<=D/by_:=Int.ediv_nonneg hD.1 (by omega)
  have b1:D/by_<=D:=Int.ediv_le_self _ hD.1
  rw[e1,Gy (x:=D/by_) (by omega) (by omega)]
  generalize D/by_=q at b0 b1
  have e2:Int.tdiv q M=q/M:=Int.tdiv_eq_ediv_of_nonneg b0
  have c0:0<=q/M:=Int.ediv_nonneg b0 (by omega)
  have c1:q/M<=q:=Int.ediv_le_self _ b0
  rw[if_pos (by omega),if_pos (by omega),if_pos (by omega),e2,Gy (x:=q/M) (by omega) (by omega),Gy (x:=q+q/M) (by omega) (by omega)]
  generalize q/M=p at c0 c1
  obtain⟨d',k',h4,h5,h6,h7,h8⟩:=Ac0 6 (q+p) 0 (by omega) (by simp[pw];omega) (by omega) (by omega) (by omega)
  have h4':iter (PZ) (q+p,0)=some (d',k'):=h4
  rw[h4,h4',Aa,Aa]
  unfold SL PY
  rw[Gy (x:=d'+38) (by omega) (by omega),if_pos (by omega)]
  have e3:Int.tdiv (IntKind.wrap .i64 (36*d')) (d'+38)=36*d'/(d'+38):=by rw[Gy (by omega) (by omega)];exact Int.tdiv_eq_ediv_of_nonneg (by omega)
  have f0:0<=36*d'/(d'+38):=Int.ediv_nonneg (by omega) (by omega)
  have f1:36*d'/(d'+38)<=36:=by
   have:=Int.ediv_mul_le (36*d') (show d'+38≠0 by omega)
   generalize 36*d'/(d'+38)=z at this f0
   by_cases hz:z<=36
   ·exact hz
   ·have:=Int.mul_le_mul_of_nonneg_right (show 37<=z by omega) (show 0<=d'+38 by omega)
    omega
  simp only[e3]
  rw[Gy (x:=36*d'/(d'+38)) (by omega) (by omega),Gy (by omega) (by omega)]
  exact⟨_,rfl,rfl,by omega,by omega⟩
 cases first with
 |true=>exact key 700 (by omega)
 |false=>exact key 2 (by omega)
def V5 (v:Int):Bool:=decide (0<=v/\v<=1114111/\ ¬(55296<=v/\v<=57343))
theorem lW (v:Int):CF v=some (V5 v):=by
 unfold CF V5
 simp only[YQ,decide_eq_true_eq]
 repeat' split
 all_goals (congr 1;first|rfl|(rw[Bool.eq_iff_iff];simp;omega)|(symm;simp;omega))
def nJ (b:Int):Int:=if 97<=b/\b<=122 then b-97 else if 65<=b/\b<=90 then b-65 else if 48<=b/\b<=57 then b-22 else-1
theorem zM {b:Int} (h:0<=b) (h':b<=255):RP b=some (nJ b):=by
 unfold RP VL VN Q7 nJ
 by_cases h1:97<=b
 ·by_cases h2:b<=122
  ·simp[h1,h2,w8 (x:=b-97) (by omega) (by omega),Gy (x:=b-97) (by omega) (by omega)]
  ·have h3: ¬b<=90:=by omega
   have h4: ¬b<=57:=by omega
   have h5:65<=b:=by omega
   have h6:48<=b:=by omega
   simp[h1,h2,h3,h4,h5,h6]
 ·by_cases h2:65<=b
  ·by_cases h3:b<=90
   ·simp[h1,h2,h3,w8 (x:=b-65) (by omega) (by omega),Gy (x:=b-65) (by omega) (by omega)]
   ·have h4: ¬b<=57:=by omega
    have h6:48<=b:=by omega
    simp[h1,h2,h3,h4,h6]
  ·by_cases h3:48<=b
   ·by_cases h4:b<=57
    ·simp[h1,h2,h3,h4,w8 (x:=b-48) (by omega) (by omega),Gy (x:=b-48) (by omega) (by omega),Gy (x:=b-48+26) (by omega) (by omega)]
     omega
    ·simp[h1,h2,h3,h4]
   ·simp[h1,h2,h3]
theorem AiI (b:Int): -1<=nJ b/\nJ b<=35:=by unfold nJ;split<;>(try split)<;>(try split)<;>omega
theorem pU (s:ByteArray) (i:Int):0<=bt s i/\bt s i<=255:=by
 unfold bt
 have:=(s.data.toList.getD i.toNat 0).toNat_lt
 omega
def bw (b k:Int):Int:=wi (IntKind.wrap .i64 ((IntKind.wrap .i64 (36*(IntKind.wrap .i64 (k+1))))-b)) 1 26
noncomputable def xK (s:ByteArray) (out:List Int) (y1:Int×Bool×ByteArray×Int×Int×Int×Int×Er):Option (Sum (Int×Bool×ByteArray×Int×Int×Int×(List Int)) ((List Int)×Er)):=
 Option.bind (
  bif (!y1.2.2.2.2.2.2.2.isNil)then
   some (y1.1,y1.2.1,y1.2.2.1,y1.2.2.2.1,y1.2.2.2.2.1,y1.2.2.2.2.2.1,out,y1.2.2.2.2.2.2.2)
  else
   Option.bind (Jj y1.1 y1.2.1 y1.2.2.1 y1.2.2.2.1 y1.2.2.2.2.1 y1.2.2.2.2.2.1 out y1.2.2.2.2.2.2.1 (IntKind.wrap .i64 (((out.length:Nat):Int)+(1:Int)))) fun y2=>
   if(IntKind.wrap .i64 (((out.length:Nat):Int)+(1:Int)))≠0 then
    if(IntKind.wrap .i64 (((out.length:Nat):Int)+(1:Int)))≠0 then
         Option.bind (
          bif (decide ((IntKind.wrap .i64 (y2.2.2.2.2.1+(IntKind.wrap .i64 (Int.tdiv (IntKind.wrap .i64 (y2.2.2.2.2.2+y1.2.2.2.2.2.2.1)) (IntKind.wrap .i64 (((out.length:Nat):Int)+(1:Int)))))))>(1114111:Int)))then
           some true
          else
           Option.bind (CF (IntKind.wrap .i32 (IntKind.wrap .i64 (y2.2.2.2.2.1+(IntKind.wrap .i64 (Int.tdiv (IntKind.wrap .i64 (y2.2.2.2.2.2+y1.2.2.2.2.2.2.1)) (IntKind.wrap .i64 (((out.length:Nat):Int)+(1:Int))))))))) fun y7=>
           some (!y7):Option Bool) fun s3=>
         JC out y1 y2 s3
    else none
   else none:Option (Int×Bool×ByteArray×Int×Int×Int×(List Int)×Er)) fun P5=>
 bif (!P5.2.2.2.2.2.2.2.isNil)then some (.inr ([],P5.2.2.2.2.2.2.2))else iter (EN s) (P5.1,P5.2.1,P5.2.2.1,P5.2.2.2.1,P5.2.2.2.2.1,P5.2.2.2.2.2.1,P5.2.2.2.2.2.2.1)
theorem Abs {S X Y:Type} {body:S->Option (Stp S X)} {st:S} {m:Option Y} {g:Y->Stp S X} (h:body st=Option.bind m fun y=>some (g y)):iter body st=Option.bind m fun y=>match g y with| .next s'=>iter body s'| .done x=>some x:=by
 rw[BL,h]
 cases m with
 |none=>rfl
 |some y=>simp only[Option.bind];cases g y<;>rfl
theorem group (s:ByteArray) (b:Int) (f:Bool) (at_:Nat) (n i:Int) (out:List Int) (h:at_<s.size):
  iter (EN s) (b,f,s,(at_:Int),n,i,out)=Option.bind (iter (BG out) (b,f,s,(at_:Int),n,i,0,1,0)) (xK s out):=by
 have hb:EN s (b,f,s,(at_:Int),n,i,out)=Option.bind (IL b f s at_ n i out) fun P5=>some (bif (!P5.2.2.2.2.2.2.2.isNil)then .done (.inr ([],P5.2.2.2.2.2.2.2))else .next (P5.1,P5.2.1,P5.2.2.1,P5.2.2.2.1,P5.2.2.2.2.1,P5.2.2.2.2.2.1,P5.2.2.2.2.2.2.1)):=by
  unfold EN
  simp only
  rw[show decide ((at_:Int)<((s.size:Nat):Int))=true by simp;omega,cond_true]
  congr 1
  funext P5
  cases P5.2.2.2.2.2.2.2.isNil<;>rfl
 rw[Abs hb]
 unfold IL JW
 cases hn:iter (BG out) (b,f,s,(at_:Int),n,i,0,1,0)with
 |none=>rfl
 |some y1=>
  simp only[Option.bind]
  unfold xK
  refine congrArg (Option.bind _) (funext fun P5=>?_)
  cases P5.2.2.2.2.2.2.2.isNil<;>rfl
theorem Bf {α β:Type} (a:α) (f:α->Option β):Option.bind (some a) f=f a:=rfl
theorem DV (x y:Int):BN x y=some (ltInt x y):=by
 unfold BN Jt ltInt
 simp
theorem X0 (d:Array Int) (i:Nat):d.toList.getD i 0=d[i]! :=by
 rw[List.getD_eq_getElem?_getD,Array.getElem?_toList,getElem!_def]
 cases d[i]? <;>rfl
theorem stA (d:Array Int) (i j:Nat):(d.toList.set i (d[j]!)).set j (d[i]!)=(swp d i j).toList:=by
 simp[swp]
theorem wa {x y:Nat} (h:x+y<9223372036854775808):IntKind.wrap .i64 ((x:Int)+(y:Int))=((x+y:Nat):Int):=by
 rw[Gy (by omega) (by omega)];omega
theorem VR {x:Nat} (h:x+1<9223372036854775808):IntKind.wrap .i64 ((x:Int)+(1:Int))=((x+1:Nat):Int):=by
 rw[Gy (by omega) (by omega)];omega
theorem ws {x y:Nat} (h:y<=x) (h2:x<9223372036854775808):IntKind.wrap .i64 ((x:Int)-(y:Int))=((x-y:Nat):Int):=by
 rw[Gy (by omega) (by omega)];omega
theorem nM {x:Nat} (h:1<=x) (h2:x<9223372036854775808):IntKind.wrap .i64 ((x:Int)-(1:Int))=((x-1:Nat):Int):=by
 rw[Gy (by omega) (by omega)];omega
theorem wm2 {x:Nat} (h:2*x<9223372036854775808):IntKind.wrap .i64 ((2:Int)*(x:Int))=((2*x:Nat):Int):=by
 rw[Gy (by omega) (by omega)];omega
theorem wd {x:Nat} (c:Nat) (h:x<9223372036854775808):IntKind.wrap .i64 (Int.tdiv (x:Int) (c:Int))=((x/c:Nat):Int):=by
 have e:Int.tdiv (x:Int) (c:Int)=((x/c:Nat):Int):=by rw[Int.tdiv_eq_ediv_of_nonneg (by omega)];rfl
 have h1:=Nat.div_le_self x c
 rw[e]
 generalize x/c=q at h1
 exact Gy (by omega) (by omega)
theorem wE (a:Nat): ∀(j:Nat) (d:Array Int),j<d.size->d.size<=1000000000->iter (Bg (a:Int)) (d.toList,(j:Int))=some (insInner ltInt a j d).toList/\(insInner ltInt a j d).size=d.size:=by
 intro j
 induction j with
 |zero=>
  intro d hj hB
  refine⟨Ay ?_,rfl⟩
  have h1:decide (((0:Nat):Int)>(a:Int))=false:=by simp
  simp only[Bg,Cn,h1,cond_false,Bf]
  rfl
 |succ j ih=>
  intro d hj hB
  have e1:IntKind.wrap .i64 (((j+1:Nat):Int)-1)=((j:Nat):Int):=by rw[Gy (by omega) (by omega)];omega
  by_cases h:j+1>a
  ·have h1:decide (((j+1:Nat):Int)>(a:Int))=true:=by simp;omega
   have hl:(d.toList.length:Int)=d.size:=by simp
   cases hc:ltInt d[j+1]! d[j]! with
   |true=>
    have hs:Bg (a:Int) (d.toList,((j+1:Nat):Int))=some (.next ((swp d (j+1) j).toList,(j:Int))):=by
         simp (disch:=omega) only[Bg,Cn,h1,cond_true,Bf,e1,DV,hl,if_pos,Int.toNat_natCast,X0,hc,stA]
    have hi:insInner ltInt a (j+1) d=insInner ltInt a j (swp d (j+1) j):=by simp[insInner,h,hc]
    obtain⟨r1,r2⟩:=ih (swp d (j+1) j) (by rw[swp_size];omega) (by rw[swp_size];omega)
    rw[Bh hs,hi]
    exact⟨r1,by rw[r2,swp_size]⟩
   |false=>
    have hs:Bg (a:Int) (d.toList,((j+1:Nat):Int))=some (.done d.toList):=by
         simp (disch:=omega) only[Bg,Cn,h1,cond_true,cond_false,Bf,e1,DV,hl,if_pos,Int.toNat_natCast,X0,hc]
    have hi:insInner ltInt a (j+1) d=d:=by simp[insInner,hc]
    rw[Ay hs,hi]
    exact⟨rfl,rfl⟩
  ·have h1:decide (((j+1:Nat):Int)>(a:Int))=false:=by simp;omega
   have hs:Bg (a:Int) (d.toList,((j+1:Nat):Int))=some (.done d.toList):=by
    simp only[Bg,Cn,h1,cond_false,Bf]
   have hi:insInner ltInt a (j+1) d=d:=by simp[insInner,h]
   rw[Ay hs,hi]
   exact⟨rfl,rfl⟩
theorem wF (a b:Nat): ∀(n i:Nat) (d:Array Int),b-i<=n->b<=d.size->d.size<=1000000000->i<=1000000001->iter (CB (a:Int) (b:Int)) (d.toList,(i:Int))=some (insOuter ltInt a b i d).toList/\(insOuter ltInt a b i d).size=d.size:=by
 intro n
 induction n with
 |zero=>
  intro i d hn hb hB hi
  have h1:decide ((i:Int)<(b:Int))=false:=by simp;omega
  rw[Ay (x:=d.toList) (by simp only[CB,h1,cond_false]),insOuter,if_neg (by omega)]
  exact⟨rfl,rfl⟩
 |succ n ih=>
  intro i d hn hb hB hi
  by_cases h:i<b
  ·have h1:decide ((i:Int)<(b:Int))=true:=by simp;omega
   obtain⟨r1,r2⟩:=wE a i d (by omega) hB
   rw[Bh (s':=((insInner ltInt a i d).toList,((i+1:Nat):Int))) (by simp only[CB,h1,cond_true,r1,Bf,VR (x:=i) (by omega)]),insOuter,if_pos h]
   obtain⟨q1,q2⟩:=ih (i+1) (insInner ltInt a i d) (by omega) (by omega) (by omega) (by omega)
   exact⟨q1,by rw[q2,r2]⟩
  ·have h1:decide ((i:Int)<(b:Int))=false:=by simp;omega
   rw[Ay (x:=d.toList) (by simp only[CB,h1,cond_false]),insOuter,if_neg h]
   exact⟨rfl,rfl⟩
theorem Aga (a b:Nat) (d:Array Int) (ha:a<=b) (hb:b<=d.size) (hB:d.size<=1000000000):D7 d.toList (a:Int) (b:Int)=some (insertionSort ltInt d a b).toList/\(insertionSort ltInt d a b).size=d.size:=by
 obtain⟨q1,q2⟩:=wF a b b (a+1) d (by omega) hb hB (by omega)
 unfold D7 insertionSort
 rw[VR (by omega),q1]
 exact⟨rfl,q2⟩
theorem Ael (hi first:Nat): ∀(n root:Nat) (d:Array Int),hi-root<=n->first+hi<=d.size->d.size<=1000000000->root<=1000000000->(∃x,iter (Bt (hi:Int) (first:Int)) (d.toList,(root:Int))=some x/\(x=.inl (siftDown ltInt hi first root d).toList∨x=.inr (siftDown ltInt hi first root d).toList))/\(siftDown ltInt hi first root d).size=d.size:=by
 intro n
 induction n with
 |zero=>
  intro root d hn hs hB hr
  have h1:decide (((2*root+1:Nat):Int)>=(hi:Int))=true:=by simp;omega
  rw[siftDown,dif_pos (by omega)]
  refine⟨⟨_,Ay ?_, .inl rfl⟩,rfl⟩
  simp (disch:=omega) only[Bt,wm2,VR,h1,cond_true]
 |succ n ih=>
  intro root d hn hs hB hr
  have hl:(d.toList.length:Int)=d.size:=by simp
  by_cases h:2*root+1>=hi
  ·have h1:decide (((2*root+1:Nat):Int)>=(hi:Int))=true:=by simp;omega
   rw[siftDown,dif_pos h]
   refine⟨⟨_,Ay ?_, .inl rfl⟩,rfl⟩
   simp (disch:=omega) only[Bt,wm2,VR,h1,cond_true]
  ·have h1:decide (((2*root+1:Nat):Int)>=(hi:Int))=false:=by simp;omega
   have key: ∀c:Nat,first+c<d.size->(c=2*root+1∨c=2*root+2)->Dq (first:Int) (d.toList,(root:Int)) (c:Int)=some (if ltInt d[first+root]! d[first+c]! then .next ((swp d (first+root) (first+c)).toList,(c:Int))else .done (.inr d.toList)):=by
    intro c hc hcc
    cases hq:ltInt d[first+root]! d[first+c]! with
    |true=>simp (disch:=omega) only[Dq,wa,hl,if_pos,DV,Int.toNat_natCast,X0,Bf,hq,Bool.not_true,cond_false,stA,if_true]
    |false=>simp (disch:=omega) only[Dq,wa,hl,if_pos,DV,Int.toNat_natCast,X0,Bf,hq,Bool.not_false,cond_true,Bool.false_eq_true,if_false]
   have fin: ∀c:Nat,first+c<d.size->(c=2*root+1∨c=2*root+2)->c<hi->Bt (hi:Int) (first:Int) (d.toList,(root:Int))=Dq (first:Int) (d.toList,(root:Int)) (c:Int)->siftDown ltInt hi first root d=(if ltInt d[first+root]! d[first+c]! then siftDown ltInt hi first c (swp d (first+root) (first+c))else d)->
         (∃x,iter (Bt (hi:Int) (first:Int)) (d.toList,(root:Int))=some x/\(x=.inl (siftDown ltInt hi first root d).toList∨x=.inr (siftDown ltInt hi first root d).toList))/\(siftDown ltInt hi first root d).size=d.size:=by
    intro c hc hcc hch hm hsd
    rw[key c hc hcc]at hm
    cases hq:ltInt d[first+root]! d[first+c]! with
    |true=>
     rw[hq,if_pos rfl]at hm hsd
     rw[Bh hm,hsd]
     obtain⟨r1,r2⟩:=ih c (swp d (first+root) (first+c)) (by omega) (by rw[swp_size];omega) (by rw[swp_size];omega) (by omega)
     exact⟨r1,by rw[r2,swp_size]⟩
    |false=>
     rw[hq,if_neg (by simp)]at hm hsd
     rw[Ay hm,hsd]
     exact⟨⟨_,rfl, .inr rfl⟩,rfl⟩
   by_cases h2:2*root+1+1<hi
   ·have h3:decide (((2*root+1+1:Nat):Int)<(hi:Int))=true:=by simp;omega
    cases hq:ltInt d[first+(2*root+1)]! d[first+(2*root+1)+1]! with
    |true=>
     refine fin (2*root+2) (by omega) (.inr rfl) (by omega) ?_ ?_
     ·simp (disch:=omega) only[Bt,Dr,wm2,VR,wa,h1,h3,cond_true,cond_false,hl,if_pos,DV,Int.toNat_natCast,X0,Bf,hq]
     ·rw[siftDown,dif_neg h]
      simp only[h2,hq,decide_true,Bool.and_self,if_true]
      cases ltInt d[first+root]! d[first+(2*root+2)]! <;>simp
      try omega
    |false=>
     refine fin (2*root+1) (by omega) (.inl rfl) (by omega) ?_ ?_
     ·simp (disch:=omega) only[Bt,Dr,wm2,VR,wa,h1,h3,cond_true,cond_false,hl,if_pos,DV,Int.toNat_natCast,X0,Bf,hq]
     ·rw[siftDown,dif_neg h]
      simp only[h2,hq,decide_true,Bool.and_false,Bool.false_eq_true,if_false]
      cases ltInt d[first+root]! d[first+(2*root+1)]! <;>simp
   ·have h3:decide (((2*root+1+1:Nat):Int)<(hi:Int))=false:=by simp;omega
    refine fin (2*root+1) (by omega) (.inl rfl) (by omega) ?_ ?_
    ·simp (disch:=omega) only[Bt,Dr,wm2,VR,wa,h1,h3,cond_true,cond_false,hl,if_pos,DV,Int.toNat_natCast,X0,Bf]
    ·rw[siftDown,dif_neg h]
     simp only[h2,decide_false,Bool.false_and,Bool.false_eq_true,if_false]
     cases ltInt d[first+root]! d[first+(2*root+1)]! <;>simp
theorem z8 (hi first root:Nat) (d:Array Int) (hs:first+hi<=d.size) (hB:d.size<=1000000000) (hr:root<=1000000000):CX d.toList (root:Int) (hi:Int) (first:Int)=some (siftDown ltInt hi first root d).toList/\(siftDown ltInt hi first root d).size=d.size:=by
 obtain⟨⟨x,h1,h2⟩,h3⟩:=Ael hi first hi root d (by omega) hs hB hr
 refine⟨?_,h3⟩
 unfold CX
 rw[h1,Bf]
 rcases h2 with h2|h2<;>rw[h2]
theorem Abg (hi first a b:Nat) (hh:hi=b-a) (hab:a<=b) (hf:first=a): ∀(k:Nat) (d:Array Int),first+hi<=d.size->d.size<=1000000000->k<=1000000000->iter (Eo (a:Int) (b:Int)) (d.toList,(k:Int)-1)=some (heapBuild ltInt hi first k d).toList/\(heapBuild ltInt hi first k d).size=d.size:=by
 intro k
 induction k with
 |zero=>
  intro d hs hB hk
  refine⟨Ay ?_,rfl⟩
  simp only[Eo]
  rfl
 |succ k ih=>
  intro d hs hB hk
  obtain⟨r1,r2⟩:=z8 hi first k d hs hB (by omega)
  obtain⟨q1,q2⟩:=ih (siftDown ltInt hi first k d) (by omega) (by omega) (by omega)
  have e0:((k+1:Nat):Int)-1=(k:Int):=by omega
  have h1:decide ((k:Int)>=0)=true:=by simp
  subst hh hf
  have e1:IntKind.wrap .i64 ((b:Int)-(first:Int))=((b-first:Nat):Int):=ws hab (by omega)
  have e2:IntKind.wrap .i64 ((k:Int)-1)=(k:Int)-1:=Gy (by omega) (by omega)
  rw[e0,Bh (s':=((siftDown ltInt (b-first) first k d).toList,(k:Int)-1)) (by simp only[Eo,h1,cond_true,e1,r1,Bf,Array.length_toList,r2,if_true,e2])]
  exact⟨q1,by rw[heapBuild,q2,r2]⟩
theorem AfS (first:Nat): ∀(k:Nat) (d:Array Int),first+k<=d.size->first<d.size->d.size<=1000000000->iter (Ew (first:Int)) (d.toList,(k:Int)-1)=some (heapPop ltInt first k d).toList/\(heapPop ltInt first k d).size=d.size:=by
 intro k
 induction k with
 |zero=>
  intro d hs hf hB
  refine⟨Ay ?_,rfl⟩
  simp only[Ew]
  rfl
 |succ k ih=>
  intro d hs hf hB
  have hz:(swp d first (first+k)).size=d.size:=swp_size _ _ _
  obtain⟨r1,r2⟩:=z8 k first 0 (swp d first (first+k)) (by omega) (by omega) (by omega)
  obtain⟨q1,q2⟩:=ih (siftDown ltInt k first 0 (swp d first (first+k))) (by omega) (by omega) (by omega)
  have e0:((k+1:Nat):Int)-1=(k:Int):=by omega
  have h1:decide ((k:Int)>=0)=true:=by simp
  have e2:IntKind.wrap .i64 ((k:Int)-1)=(k:Int)-1:=Gy (by omega) (by omega)
  have hl:(d.toList.length:Int)=d.size:=by simp
  rw[e0,Bh (s':=((siftDown ltInt k first 0 (swp d first (first+k))).toList,(k:Int)-1)) (by
   simp (disch:=omega) only[Ew,h1,cond_true,wa,hl,if_pos,Int.toNat_natCast,X0,stA]
   have r1':CX (swp d first (first+k)).toList 0 (k:Int) (first:Int)=_:=r1
   rw[r1',Bf,if_pos (by simp only[Array.length_toList,r2]),e2])]
  exact⟨q1,by rw[heapPop,q2,r2,hz]⟩
theorem Adz (a b:Nat) (d:Array Int) (ha:a<b) (hb:b<=d.size) (hB:d.size<=1000000000):Fq d.toList (a:Int) (b:Int)=some (heapSort ltInt d a b).toList/\(heapSort ltInt d a b).size=d.size:=by
 obtain⟨r1,r2⟩:=Abg (b-a) a a b rfl (by omega) rfl ((b-a-1)/2+1) d (by omega) hB (by omega)
 obtain⟨q1,q2⟩:=AfS a (b-a) (heapBuild ltInt (b-a) a ((b-a-1)/2+1) d) (by omega) (by omega) (by omega)
 have e1:IntKind.wrap .i64 ((b:Int)-(a:Int))=((b-a:Nat):Int):=ws (by omega) (by omega)
 have e2:IntKind.wrap .i64 (((b-a:Nat):Int)-1)=((b-a-1:Nat):Int):=nM (by omega) (by omega)
 have e3:IntKind.wrap .i64 (Int.tdiv ((b-a-1:Nat):Int) (2:Int))=(((b-a-1)/2+1:Nat):Int)-1:=by
  have:=wd (x:=b-a-1) 2 (by omega)
  rw[show((2:Nat):Int)=2 from rfl]at this
  rw[this];omega
 have e4:((b-a-1:Nat):Int)=((b-a:Nat):Int)-1:=by omega
 unfold Fq Jb heapSort
 rw[e1,e2,e3,r1,Bf,e4,q1]
 exact⟨rfl,by rw[q2,r2]⟩
theorem wq1 {x:Nat} (h:x<9223372036854775808):IntKind.wrap .i64 ((x:Int)*(1:Int))=((x*1:Nat):Int):=by
 rw[Gy (by omega) (by omega)];omega
theorem wq2 {x:Nat} (h:2*x<9223372036854775808):IntKind.wrap .i64 ((x:Int)*(2:Int))=((x*2:Nat):Int):=by
 rw[Gy (by omega) (by omega)];omega
theorem wq3 {x:Nat} (h:3*x<9223372036854775808):IntKind.wrap .i64 ((x:Int)*(3:Int))=((x*3:Nat):Int):=by
 rw[Gy (by omega) (by omega)];omega
theorem wd4 {x:Nat} (h:x<9223372036854775808):IntKind.wrap .i64 (Int.tdiv (x:Int) (4:Int))=((x/4:Nat):Int):=wd 4 h
theorem wd8 {x:Nat} (h:x<9223372036854775808):IntKind.wrap .i64 (Int.tdiv (x:Int) (8:Int))=((x/8:Nat):Int):=wd 8 h
theorem bD (d:Array Int) (a b s:Nat) (ha:a<d.size) (hb:b<d.size) (hs:s<=1000):CG d.toList (a:Int) (b:Int) (s:Int)=some (((order2 ltInt d a b s).2.2:Int),((order2 ltInt d a b s).1:Int),((order2 ltInt d a b s).2.1:Int))/\(order2 ltInt d a b s).2.2<=s+1:=by
 have hl:(d.toList.length:Int)=d.size:=by simp
 unfold order2
 cases hq:ltInt d[b]! d[a]! with
 |true=>
  simp (disch:=omega) only[CG,hl,if_pos,DV,Int.toNat_natCast,X0,Bf,hq,cond_true,VR]
  simp
 |false=>
  simp (disch:=omega) only[CG,hl,if_pos,DV,Int.toNat_natCast,X0,Bf,hq,cond_false]
  simp
theorem bA (d:Array Int) (a b c s:Nat) (ha:a<d.size) (hb:b<d.size) (hc:c<d.size) (hs:s<=500):Dt d.toList (a:Int) (b:Int) (c:Int) (s:Int)=some (((median ltInt d a b c s).2:Int),((median ltInt d a b c s).1:Int))/\(median ltInt d a b c s).2<=s+3:=by
 unfold Dt median
 obtain⟨p1,p2⟩:=bD d a b s ha hb (by omega)
 have m1:=order2_mem ltInt d a b s
 generalize order2 ltInt d a b s=r1 at p1 p2 m1 ⊢
 obtain⟨x1,y1,z1⟩:=r1
 have hx1:x1<d.size:=by rcases m1 with ⟨h,h'⟩|⟨h,h'⟩<;>simp only at h<;>omega
 have hy1:y1<d.size:=by rcases m1 with ⟨h,h'⟩|⟨h,h'⟩<;>simp only at h'<;>omega
 simp only at p2
 simp only[p1,Bf]
 obtain⟨p3,p4⟩:=bD d y1 c z1 hy1 hc (by omega)
 have m2:=order2_mem ltInt d y1 c z1
 generalize order2 ltInt d y1 c z1=r2 at p3 p4 m2 ⊢
 obtain⟨x2,y2,z2⟩:=r2
 have hx2:x2<d.size:=by rcases m2 with ⟨h,h'⟩|⟨h,h'⟩<;>simp only at h<;>omega
 simp only at p4
 simp only[p3,Bf]
 obtain⟨p5,p6⟩:=bD d x1 x2 z2 hx1 hx2 (by omega)
 simp only[p5,Bf]
 exact⟨trivial,by omega⟩
theorem Px (d:Array Int) (a s:Nat) (ha:1<=a) (hb:a+1<d.size) (hB:d.size<=1000000000) (hs:s<=500):BZ d.toList (a:Int) (s:Int)=some (((medianAdjacent ltInt d a s).2:Int),((medianAdjacent ltInt d a s).1:Int))/\(medianAdjacent ltInt d a s).2<=s+3:=by
 obtain⟨p1,p2⟩:=bA d (a-1) a (a+1) s (by omega) (by omega) (by omega) hs
 unfold BZ medianAdjacent
 simp (disch:=omega) only[nM,VR,p1,Bf]
 exact⟨trivial,p2⟩
def UG:Hint->Int
 | .unknown=>0
 | .increasing=>1
 | .decreasing=>2
theorem bF (i s:Nat):EO ((s:Int),(i:Int))=some ((i:Int),UG (if s=0 then .increasing else if s=12 then .decreasing else .unknown)):=by
 unfold EO
 simp only
 by_cases h0:s=0
 ·subst h0;rfl
 ·rw[if_neg h0]
  have:(((s:Nat):Int)==0)=false:=by simp;omega
  rw[this,cond_false]
  by_cases h1:s=12
  ·subst h1;rfl
  ·rw[if_neg h1]
   have:(((s:Nat):Int)==12)=false:=by simp;omega
   rw[this,cond_false]
   rfl
theorem Agx (d:Array Int) (a b:Nat) (ha:a<b) (hb:b<=d.size) (hB:d.size<=1000000000):FC d.toList (a:Int) (b:Int)=some (((choosePivot ltInt d a b).1:Int),UG (choosePivot ltInt d a b).2):=by
 have e1:IntKind.wrap .i64 ((b:Int)-(a:Int))=((b-a:Nat):Int):=ws (by omega) (by omega)
 have e4:IntKind.wrap .i64 (Int.tdiv ((b-a:Nat):Int) (4:Int))=(((b-a)/4:Nat):Int):=wd4 (by omega)
 unfold FC choosePivot
 simp (disch:=omega) only[e1,e4,wq1,wq2,wq3,wa]
 generalize hq:(b-a)/4=q
 by_cases h8:b-a>=8
 ·have h8':decide (((b-a:Nat):Int)>=8)=true:=by simp;omega
  simp only[h8',cond_true,h8,if_true]
  by_cases h50:b-a>=50
  ·have Aba:decide (((b-a:Nat):Int)>=50)=true:=by simp;omega
   simp only[Aba,cond_true,h50,if_true]
   obtain⟨p1,p2⟩:=Px d (a+q*1) 0 (by omega) (by omega) hB (by omega)
   have m1:=medianAdjacent_mem ltInt d (a+q*1) 0
   rw[show((0:Nat):Int)=0 from rfl]at p1
   generalize medianAdjacent ltInt d (a+q*1) 0=r1 at p1 p2 m1 ⊢
   obtain⟨x1,z1⟩:=r1
   simp only[p1,Bf]at p2 m1 ⊢
   obtain⟨p3,p4⟩:=Px d (a+q*2) z1 (by omega) (by omega) hB (by omega)
   have m2:=medianAdjacent_mem ltInt d (a+q*2) z1
   generalize medianAdjacent ltInt d (a+q*2) z1=r2 at p3 p4 m2 ⊢
   obtain⟨x2,z2⟩:=r2
   simp only[p3,Bf]at p4 m2 ⊢
   obtain⟨p5,p6⟩:=Px d (a+q*3) z2 (by omega) (by omega) hB (by omega)
   have m3:=medianAdjacent_mem ltInt d (a+q*3) z2
   generalize medianAdjacent ltInt d (a+q*3) z2=r3 at p5 p6 m3 ⊢
   obtain⟨x3,z3⟩:=r3
   simp only[p5,Bf]at p6 m3 ⊢
   obtain⟨p7,p8⟩:=bA d x1 x2 x3 z3 (by omega) (by omega) (by omega) (by omega)
   simp only[p7,Bf,bF]
  ·have Aba:decide (((b-a:Nat):Int)>=50)=false:=by simp;omega
   simp only[Aba,cond_false,h50,if_false]
   obtain⟨p7,p8⟩:=bA d (a+q*1) (a+q*2) (a+q*3) 0 (by omega) (by omega) (by omega) (by omega)
   rw[show((0:Nat):Int)=0 from rfl]at p7
   simp only[p7,Bf,bF]
 ·have h8':decide (((b-a:Nat):Int)>=8)=false:=by simp;omega
  simp only[h8',cond_false,h8,if_false,Bf]
  exact bF _ 0
theorem Aak: ∀(n i j:Nat) (d:Array Int),j-i<=n->j<d.size->d.size<=1000000000->i<=1000000000->iter CK (d.toList,(i:Int),(j:Int))=some (reverseLoop i j d).toList/\(reverseLoop i j d).size=d.size:=by
 intro n
 induction n with
 |zero=>
  intro i j d hn hj hB hi
  have h1:decide ((i:Int)<(j:Int))=false:=by simp;omega
  rw[reverseLoop,if_neg (by omega),Ay (x:=d.toList) (by simp only[CK,h1,cond_false])]
  exact⟨rfl,rfl⟩
 |succ n ih=>
  intro i j d hn hj hB hi
  have hl:(d.toList.length:Int)=d.size:=by simp
  by_cases h:i<j
  ·have h1:decide ((i:Int)<(j:Int))=true:=by simp;omega
   obtain⟨r1,r2⟩:=ih (i+1) (j-1) (swp d i j) (by omega) (by rw[swp_size];omega) (by rw[swp_size];omega) (by omega)
   rw[reverseLoop,if_pos h,Bh (s':=((swp d i j).toList,((i+1:Nat):Int),((j-1:Nat):Int))) (by
    simp (disch:=omega) only[CK,h1,cond_true,hl,if_pos,Int.toNat_natCast,X0,stA,VR,nM])]
   exact⟨r1,by rw[r2,swp_size]⟩
  ·have h1:decide ((i:Int)<(j:Int))=false:=by simp;omega
   rw[reverseLoop,if_neg h,Ay (x:=d.toList) (by simp only[CK,h1,cond_false])]
   exact⟨rfl,rfl⟩
theorem Ad4 (d:Array Int) (a b:Nat) (ha:a<b) (hb:b<=d.size) (hB:d.size<=1000000000):Ep d.toList (a:Int) (b:Int)=some (reverseRange d a b).toList/\(reverseRange d a b).size=d.size:=by
 obtain⟨r1,r2⟩:=Aak (b-1-a) a (b-1) d (by omega) (by omega) hB (by omega)
 unfold Ep reverseRange
 rw[nM (x:=b) (by omega) (by omega),r1,Bf]
 exact⟨rfl,r2⟩
theorem AbO: ∀(j:Nat) (d:Array Int),j<d.size->d.size<=1000000000->iter Bw (d.toList,(j:Int))=some (Go.Sort.shiftDown ltInt j d).toList/\(Go.Sort.shiftDown ltInt j d).size=d.size:=by
 intro j
 induction j with
 |zero=>
  intro d hj hB
  refine⟨Ay ?_,rfl⟩
  simp only[Bw]
  rfl
 |succ j ih=>
  intro d hj hB
  have hl:(d.toList.length:Int)=d.size:=by simp
  have e1:IntKind.wrap .i64 (((j+1:Nat):Int)-1)=((j:Nat):Int):=by rw[Gy (by omega) (by omega)];omega
  have h1:decide (((j+1:Nat):Int)>=1)=true:=by simp;omega
  cases hq:ltInt d[j+1]! d[j]! with
  |true=>
   obtain⟨r1,r2⟩:=ih (swp d (j+1) j) (by rw[swp_size];omega) (by rw[swp_size];omega)
   rw[Bh (s':=((swp d (j+1) j).toList,(j:Int))) (by
    simp (disch:=omega) only[Bw,h1,cond_true,hl,if_pos,Int.toNat_natCast,X0,stA,e1,DV,Bf,hq,Bool.not_true,cond_false])]
   have:Go.Sort.shiftDown ltInt (j+1) d=Go.Sort.shiftDown ltInt j (swp d (j+1) j):=by simp[Go.Sort.shiftDown,hq]
   rw[this]
   exact⟨r1,by rw[r2,swp_size]⟩
  |false=>
   rw[Ay (x:=d.toList) (by
    simp (disch:=omega) only[Bw,h1,cond_true,hl,if_pos,Int.toNat_natCast,X0,stA,e1,DV,Bf,hq,Bool.not_false])]
   have:Go.Sort.shiftDown ltInt (j+1) d=d:=by simp[Go.Sort.shiftDown,hq]
   rw[this]
   exact⟨rfl,rfl⟩
theorem AgP (b:Nat): ∀(n j:Nat) (d:Array Int),b-j<=n->1<=j->b<=d.size->d.size<=1000000000->iter (Bv (b:Int)) (d.toList,(j:Int))=some (shiftUp ltInt b j d).toList/\(shiftUp ltInt b j d).size=d.size:=by
 intro n
 induction n with
 |zero=>
  intro j d hn hj hb hB
  have h1:decide ((j:Int)<(b:Int))=false:=by simp;omega
  rw[shiftUp,if_neg (by omega),Ay (x:=d.toList) (by simp only[Bv,h1,cond_false])]
  exact⟨rfl,rfl⟩
 |succ n ih=>
  intro j d hn hj hb hB
  have hl:(d.toList.length:Int)=d.size:=by simp
  by_cases h:j<b
  ·have h1:decide ((j:Int)<(b:Int))=true:=by simp;omega
   rw[shiftUp,if_pos h]
   cases hq:ltInt d[j]! d[j-1]! with
   |true=>
    obtain⟨r1,r2⟩:=ih (j+1) (swp d j (j-1)) (by omega) (by omega) (by rw[swp_size];omega) (by rw[swp_size];omega)
    rw[Bh (s':=((swp d j (j-1)).toList,((j+1:Nat):Int))) (by
         simp (disch:=omega) only[Bv,h1,cond_true,hl,if_pos,Int.toNat_natCast,X0,stA,VR,nM,DV,Bf,hq,Bool.not_true,cond_false])]
    simp only[Bool.not_true,Bool.false_eq_true,if_false]
    exact⟨r1,by rw[r2,swp_size]⟩
   |false=>
    rw[Ay (x:=d.toList) (by
         simp (disch:=omega) only[Bv,h1,cond_true,hl,if_pos,Int.toNat_natCast,X0,stA,VR,nM,DV,Bf,hq,Bool.not_false])]
    simp
  ·have h1:decide ((j:Int)<(b:Int))=false:=by simp;omega
   rw[shiftUp,if_neg h,Ay (x:=d.toList) (by simp only[Bv,h1,cond_false])]
   exact⟨rfl,rfl⟩
theorem zY (b:Nat) (d:Array Int) (i0 st:Int): ∀(n i:Nat),b-i<=n->1<=i->i<=b->b<=d.size->d.size<=1000000000->iter (Bz (b:Int) (d.toList,i0,st)) (i:Int)=some (scanSorted ltInt d b i:Int)/\i<=scanSorted ltInt d b i/\scanSorted ltInt d b i<=b:=by
 intro n
 induction n with
 |zero=>
  intro i hn hi hib hb hB
  have h1:decide ((i:Int)<(b:Int))=false:=by simp;omega
  rw[scanSorted,if_neg (by simp;omega),Ay (x:=(i:Int)) (by simp only[Bz,BM,h1,cond_false,Bf])]
  exact⟨rfl,by omega,by omega⟩
 |succ n ih=>
  intro i hn hi hib hb hB
  have hl:(d.toList.length:Int)=d.size:=by simp
  by_cases h:i<b
  ·have h1:decide ((i:Int)<(b:Int))=true:=by simp;omega
   rw[scanSorted]
   cases hq:ltInt d[i]! d[i-1]! with
   |true=>
    rw[if_neg (by simp),Ay (x:=(i:Int)) (by simp (disch:=omega) only[Bz,BM,h1,cond_true,hl,if_pos,Int.toNat_natCast,X0,nM,DV,Bf,hq,Bool.not_true,cond_false])]
    exact⟨rfl,by omega,by omega⟩
   |false=>
    obtain⟨r1,r2,r3⟩:=ih (i+1) (by omega) (by omega) (by omega) hb hB
    rw[if_pos (by simp[h]),Bh (s':=((i+1:Nat):Int)) (by simp (disch:=omega) only[Bz,BM,h1,cond_true,hl,if_pos,Int.toNat_natCast,X0,nM,VR,DV,Bf,hq,Bool.not_false])]
    exact⟨r1,by omega,by omega⟩
  ·have h1:decide ((i:Int)<(b:Int))=false:=by simp;omega
   rw[scanSorted,if_neg (by simp;omega),Ay (x:=(i:Int)) (by simp only[Bz,BM,h1,cond_false,Bf])]
   exact⟨rfl,by omega,by omega⟩
theorem zL (a b:Nat) (hab:a<b): ∀(s i:Nat) (d:Array Int),s<=5->a<i->i<=b->b<=d.size->d.size<=1000000000->
  (∃x,iter (BF (a:Int) (b:Int)) (d.toList,(i:Int),((5-s:Nat):Int))=some x/\(match x with| .inl l=>(l,false)| .inr v=>v)=((partialIns ltInt a b s i d).1.toList,(partialIns ltInt a b s i d).2))/\(partialIns ltInt a b s i d).1.size=d.size:=by
 intro s
 induction s with
 |zero=>
  intro i d hs hi hib hb hB
  refine⟨⟨_,Ay (x:=.inl d.toList) ?_,rfl⟩,rfl⟩
  simp only[BF]
  rfl
 |succ s ih=>
  intro i d hs hi hib hb hB
  have hl:(d.toList.length:Int)=d.size:=by simp
  have h5:decide (((5-(s+1):Nat):Int)<5)=true:=by simp;omega
  have e5:IntKind.wrap .i64 (((5-(s+1):Nat):Int)+1)=((5-s:Nat):Int):=by rw[Gy (by omega) (by omega)];omega
  obtain⟨r1,r2,r3⟩:=zY b d (i:Int) ((5-(s+1):Nat):Int) b i (by omega) (by omega) hib hb hB
  rw[partialIns_succ]
  generalize scanSorted ltInt d b i=k at r1 r2 r3 ⊢
  by_cases hk:k=b
  ·subst hk
   rw[if_pos rfl]
   refine⟨⟨_,Ay (x:=.inr (d.toList,true)) ?_,rfl⟩,rfl⟩
   simp only[BF,h5,cond_true,r1,Bf,Cu,beq_self_eq_true]
  ·rw[if_neg hk]
   have hk':((k:Int)==(b:Int))=false:=by simp;omega
   have e1:IntKind.wrap .i64 ((b:Int)-(a:Int))=((b-a:Nat):Int):=ws (by omega) (by omega)
   by_cases h50:b-a<50
   ·have Aba:decide (((b-a:Nat):Int)<50)=true:=by simp;omega
    rw[if_pos h50]
    refine⟨⟨_,Ay (x:=.inr (d.toList,false)) ?_,rfl⟩,rfl⟩
    simp only[BF,h5,cond_true,r1,Bf,Cu,hk',cond_false,e1,Aba]
   ·have Aba:decide (((b-a:Nat):Int)<50)=false:=by simp;omega
    rw[if_neg h50]
    have hz:(swp d k (k-1)).size=d.size:=swp_size _ _ _
    have A: ∃d1:Array Int,d1=fixDown ltInt a k (swp d k (k-1))/\d1.size=d.size/\(bif (decide (((k-a:Nat):Int)>=(2:Int)))then Option.bind (iter (Bw) ((swp d k (k-1)).toList,((k-1:Nat):Int))) fun s24=>some s24 else some (swp d k (k-1)).toList)=some d1.toList:=by
         refine⟨_,rfl,?_⟩
         unfold fixDown
         obtain⟨q1,q2⟩:=AbO (k-1) (swp d k (k-1)) (by omega) (by omega)
         by_cases h2:k-a>=2
         ·have h2':decide (((k-a:Nat):Int)>=(2:Int))=true:=by simp;omega
          rw[if_pos h2,h2',cond_true,q1]
          exact⟨by omega,rfl⟩
         ·have h2':decide (((k-a:Nat):Int)>=(2:Int))=false:=by simp;omega
          rw[if_neg h2,h2',cond_false]
          exact⟨hz,rfl⟩
    obtain⟨d1,hd1,hz1,hA⟩:=A
    rw[<- hd1]
    have C: ∃d2:Array Int,d2=fixUp ltInt b k d1/\d2.size=d.size/\Cv (b:Int) (k:Int) d1.toList=some (.inl (d2.toList,(k:Int))):=by
         refine⟨_,rfl,?_⟩
         unfold fixUp
         obtain⟨q1,q2⟩:=AgP b b (k+1) d1 (by omega) (by omega) (by omega) (by omega)
         by_cases h2:b-k>=2
         ·have h2':decide (((b-k:Nat):Int)>=(2:Int))=true:=by simp;omega
          rw[if_pos h2]
          refine⟨by omega,?_⟩
          simp (disch:=omega) only[Cv,ws,h2',cond_true,VR,q1,Bf]
         ·have h2':decide (((b-k:Nat):Int)>=(2:Int))=false:=by simp;omega
          rw[if_neg h2]
          refine⟨hz1,?_⟩
          simp (disch:=omega) only[Cv,ws,h2',cond_false]
    obtain⟨d2,hd2,hz2,hC⟩:=C
    rw[<- hd2]
    obtain⟨q1,q2⟩:=ih k d2 (by omega) (by omega) r3 (by omega) (by omega)
    rw[Bh (s':=(d2.toList,(k:Int),((5-s:Nat):Int)))]
    ·exact⟨q1,by omega⟩
    ·simp (disch:=omega) only[BF,h5,cond_true,r1,Bf,Cu,hk',cond_false,e1,Aba,hl,if_pos,Int.toNat_natCast,X0,stA,nM,ws,hA,hC,e5]
theorem vH (d:Array Int) (a b:Nat) (ha:a<b) (hb:b<=d.size) (hB:d.size<=1000000000):Da d.toList (a:Int) (b:Int)=some ((partialInsertionSort ltInt d a b).1.toList,(partialInsertionSort ltInt d a b).2)/\(partialInsertionSort ltInt d a b).1.size=d.size:=by
 obtain⟨⟨x,r1,r2⟩,r3⟩:=zL a b ha 5 (a+1) d (by omega) (by omega) (by omega) hb hB
 refine⟨?_,r3⟩
 unfold Da partialInsertionSort
 rw[show((5-5:Nat):Int)=0 from rfl]at r1
 rw[VR (by omega),r1,Bf]
 cases x with
 |inl l=>simp only at r2;rw[<- r2]
 |inr v=>simp only at r2;rw[<- r2]
theorem wK {body:Int->Option (Stp Int Int)} (p:Int->Bool) (d:Array Int) (j:Nat) (hb: ∀i:Nat,i<=1000000002->1<=i->body (i:Int)=some (bif decide (i<=j)&&p d[i]! then .next ((i+1:Nat):Int)else .done (i:Int))) (hj:j<=1000000000): ∀(n i:Nat),j+1-i<=n->1<=i->i<=1000000002->iter body (i:Int)=some (scanUp p d j i:Int):=by
 intro n
 induction n with
 |zero=>
  intro i hn h1 h2
  have h:=hb i h2 h1
  rw[decide_eq_false (by omega),Bool.false_and,cond_false]at h
  rw[Ay h,scanUp,if_neg (by simp;omega)]
 |succ n ih=>
  intro i hn h1 h2
  have h:=hb i h2 h1
  rw[scanUp]
  cases hc:(decide (i<=j)&&p d[i]!)with
  |true=>
   rw[hc,cond_true]at h
   have:i<=j:=by simp at hc;omega
   rw[Bh h,if_pos rfl]
   exact ih (i+1) (by omega) (by omega) (by omega)
  |false=>
   rw[hc,cond_false]at h
   rw[Ay h,if_neg (by simp)]
theorem aG {body:Int->Option (Stp Int Int)} (p:Int->Bool) (d:Array Int) (i:Nat) (hi:1<=i) (J:Nat) (hb: ∀j:Nat,j<=J->body (j:Int)=some (bif decide (i<=j)&&p d[j]! then .next ((j:Int)-1)else .done (j:Int))): ∀j:Nat,j<=J->iter body (j:Int)=some (scanDown p d i j:Int):=by
 intro j
 induction j with
 |zero=>
  intro hj
  have h:=hb 0 hj
  rw[decide_eq_false (by omega),Bool.false_and,cond_false]at h
  rw[Ay h]
  rfl
 |succ j ih=>
  intro hj
  have h:=hb (j+1) hj
  rw[scanDown]
  cases hc:(decide (i<=j+1)&&p d[j+1]!)with
  |true=>
   rw[hc,cond_true,show((j+1:Nat):Int)-1=(j:Int) by omega]at h
   rw[Bh h,if_pos rfl]
   exact ih (by omega)
  |false=>
   rw[hc,cond_false]at h
   rw[Ay h,if_neg (by simp)]
theorem AiP (a j:Nat) (d:Array Int) (i0:Int) (ha:a<d.size) (hj:j<d.size) (hB:d.size<=1000000000) (i:Nat) (h1:1<=i) (h2:i<=1000000002):iter (Dn (a:Int) (d.toList,i0,(j:Int))) (i:Int)=some (scanUp (fun x=> !ltInt d[a]! x) d j i:Int):=by
 have hl:(d.toList.length:Int)=d.size:=by simp
 refine wK _ d j ?_ (by omega) (j+1) i (by omega) h1 h2
 intro i hi hi1
 by_cases h:i<=j
 ·have h':decide ((i:Int)<=(j:Int))=true:=by simp;omega
  cases hq:ltInt d[a]! d[i]! <;>
   simp (disch:=omega) only[Dn,ET,h',h,decide_true,Bool.true_and,cond_true,cond_false,hl,if_pos,DV,Int.toNat_natCast,X0,Bf,hq,Bool.not_true,Bool.not_false,VR]
 ·have h':decide ((i:Int)<=(j:Int))=false:=by simp;omega
  simp only[Dn,ET,h',h,decide_false,Bool.false_and,cond_false,Bf]
theorem Ach (a i J:Nat) (d:Array Int) (i0 j0:Int) (ha:a<d.size) (hj:J<d.size) (hB:d.size<=1000000000) (h1:1<=i):iter (Dm (a:Int) (d.toList,i0,j0) (i:Int)) (J:Int)=some (scanDown (fun x=>ltInt d[a]! x) d i J:Int):=by
 have hl:(d.toList.length:Int)=d.size:=by simp
 refine aG _ d i h1 J ?_ J (Nat.le_refl _)
 intro j hjJ
 by_cases h:i<=j
 ·have h':decide ((i:Int)<=(j:Int))=true:=by simp;omega
  have e:IntKind.wrap .i64 ((j:Int)-1)=(j:Int)-1:=Gy (by omega) (by omega)
  cases hq:ltInt d[a]! d[j]! <;>
   simp (disch:=omega) only[Dm,ES,h',h,decide_true,Bool.true_and,cond_true,cond_false,hl,if_pos,DV,Int.toNat_natCast,X0,Bf,hq,e]
 ·have h':decide ((i:Int)<=(j:Int))=false:=by simp;omega
  simp only[Dm,ES,h',h,decide_false,Bool.false_and,cond_false,Bf]
theorem Ai3 (a j:Nat) (d:Array Int) (i0:Int) (ha:a<d.size) (hj:j<d.size) (hB:d.size<=1000000000) (i:Nat) (h1:1<=i) (h2:i<=1000000002):iter (Ee (a:Int) (d.toList,i0,(j:Int))) (i:Int)=some (scanUp (fun x=>ltInt x d[a]!) d j i:Int):=by
 have hl:(d.toList.length:Int)=d.size:=by simp
 refine wK _ d j ?_ (by omega) (j+1) i (by omega) h1 h2
 intro i hi hi1
 by_cases h:i<=j
 ·have h':decide ((i:Int)<=(j:Int))=true:=by simp;omega
  cases hq:ltInt d[i]! d[a]! <;>
   simp (disch:=omega) only[Ee,FQ,h',h,decide_true,Bool.true_and,cond_true,cond_false,hl,if_pos,DV,Int.toNat_natCast,X0,Bf,hq,VR]
 ·have h':decide ((i:Int)<=(j:Int))=false:=by simp;omega
  simp only[Ee,FQ,h',h,decide_false,Bool.false_and,cond_false,Bf]
theorem AcJ (a i J:Nat) (d:Array Int) (i0 j0:Int) (ha:a<d.size) (hj:J<d.size) (hB:d.size<=1000000000) (h1:1<=i):iter (Ed (a:Int) (d.toList,i0,j0) (i:Int)) (J:Int)=some (scanDown (fun x=> !ltInt x d[a]!) d i J:Int):=by
 have hl:(d.toList.length:Int)=d.size:=by simp
 refine aG _ d i h1 J ?_ J (Nat.le_refl _)
 intro j hjJ
 by_cases h:i<=j
 ·have h':decide ((i:Int)<=(j:Int))=true:=by simp;omega
  have e:IntKind.wrap .i64 ((j:Int)-1)=(j:Int)-1:=Gy (by omega) (by omega)
  cases hq:ltInt d[j]! d[a]! <;>
   simp (disch:=omega) only[Ed,FP,h',h,decide_true,Bool.true_and,cond_true,cond_false,hl,if_pos,DV,Int.toNat_natCast,X0,Bf,hq,e,Bool.not_true,Bool.not_false]
 ·have h':decide ((i:Int)<=(j:Int))=false:=by simp;omega
  simp only[Ed,FP,h',h,decide_false,Bool.false_and,cond_false,Bf]
theorem AhD (a b:Nat): ∀(n i j:Nat) (d:Array Int),j+1-i<=n->a<i->i<=1000000002->j<d.size->a<d.size->d.size<=1000000000->iter (Co (a:Int)) (d.toList,(i:Int),(j:Int))=some ((partEqLoop ltInt a i j d).2.toList,((partEqLoop ltInt a i j d).1:Int))/\(partEqLoop ltInt a i j d).2.size=d.size:=by
 intro n
 induction n with
 |zero=>
  intro i j d hn ha hi hj had hB
  have q1:=AiP a j d (i:Int) had hj hB i (by omega) hi
  have hg:=scanUp_ge (fun x=> !ltInt d[a]! x) d j i
  rw[partEqLoop_eq]
  have hs:=(scanUp_spec (fun x=> !ltInt d[a]! x) d j _ i rfl).2.1
  have hz:scanUp (fun x=> !ltInt d[a]! x) d j i<=1000000002:=by
   by_cases h:i<=j+1
   ·have:=hs h;omega
   ·rw[scanUp,if_neg (by simp;omega)];omega
  generalize scanUp (fun x=> !ltInt d[a]! x) d j i=i2 at q1 hg hz ⊢
  have q2:=Ach a i2 j d (i:Int) (j:Int) had hj hB (by omega)
  have hd:=scanDown_le (fun x=>ltInt d[a]! x) d i2 j
  generalize scanDown (fun x=>ltInt d[a]! x) d i2 j=j2 at q2 hd ⊢
  have hc:decide ((i2:Int)>(j2:Int))=true:=by simp;omega
  rw[if_pos (by omega),Ay (x:=(d.toList,(i2:Int))) (by simp only[Co,Dv,Dl,q1,q2,Bf,hc,cond_true])]
  exact⟨rfl,rfl⟩
 |succ n ih=>
  intro i j d hn ha hi hj had hB
  have hl:(d.toList.length:Int)=d.size:=by simp
  have q1:=AiP a j d (i:Int) had hj hB i (by omega) hi
  have hg:=scanUp_ge (fun x=> !ltInt d[a]! x) d j i
  rw[partEqLoop_eq]
  have hs:=(scanUp_spec (fun x=> !ltInt d[a]! x) d j _ i rfl).2.1
  have hz:scanUp (fun x=> !ltInt d[a]! x) d j i<=1000000002:=by
   by_cases h:i<=j+1
   ·have:=hs h;omega
   ·rw[scanUp,if_neg (by simp;omega)];omega
  generalize scanUp (fun x=> !ltInt d[a]! x) d j i=i2 at q1 hg hz ⊢
  have q2:=Ach a i2 j d (i:Int) (j:Int) had hj hB (by omega)
  have hd:=scanDown_le (fun x=>ltInt d[a]! x) d i2 j
  generalize scanDown (fun x=>ltInt d[a]! x) d i2 j=j2 at q2 hd ⊢
  by_cases h:i2>j2
  ·have hc:decide ((i2:Int)>(j2:Int))=true:=by simp;omega
   rw[if_pos h,Ay (x:=(d.toList,(i2:Int))) (by simp only[Co,Dv,Dl,q1,q2,Bf,hc,cond_true])]
   exact⟨rfl,rfl⟩
  ·have hc:decide ((i2:Int)>(j2:Int))=false:=by simp;omega
   obtain⟨r1,r2⟩:=ih (i2+1) (j2-1) (swp d i2 j2) (by omega) (by omega) (by omega) (by rw[swp_size];omega) (by rw[swp_size];omega) (by rw[swp_size];omega)
   rw[if_neg h,Bh (s':=((swp d i2 j2).toList,((i2+1:Nat):Int),((j2-1:Nat):Int))) (by
    simp (disch:=omega) only[Co,Dv,Dl,q1,q2,Bf,hc,cond_false,hl,if_pos,Int.toNat_natCast,X0,stA,VR,nM])]
   exact⟨r1,by rw[r2,swp_size]⟩
theorem AbB (d:Array Int) (a b pivot:Nat) (ha:a<b) (hp:pivot<d.size) (hb:b<=d.size) (hB:d.size<=1000000000):DR d.toList (a:Int) (b:Int) (pivot:Int)=some ((partitionEqual ltInt d a b pivot).2.toList,((partitionEqual ltInt d a b pivot).1:Int))/\(partitionEqual ltInt d a b pivot).2.size=d.size:=by
 have hl:(d.toList.length:Int)=d.size:=by simp
 have hz:(swp d a pivot).size=d.size:=swp_size _ _ _
 obtain⟨r1,r2⟩:=AhD a b b (a+1) (b-1) (swp d a pivot) (by omega) (by omega) (by omega) (by omega) (by omega) (by omega)
 unfold partitionEqual
 refine⟨?_,by rw[r2,hz]⟩
 simp (disch:=omega) only[DR,hl,if_pos,Int.toNat_natCast,X0,stA,VR,nM,r1,Bf]
theorem Zy (d:Array Int) (a b pivot:Nat) (ha:a<b) (hp:pivot<d.size) (hb:b<=d.size):a<(partitionEqual ltInt d a b pivot).1/\(partitionEqual ltInt d a b pivot).1<=b:=by
 have h:=partEqLoop_spec (lt:=ltInt) a b b (a+1) (b-1) (swp d a pivot) (by omega) (by omega) (by omega) (by omega) (by rw[swp_size];omega) (by intro t h1 h2;omega) (by intro t h1 h2;omega)
 exact⟨h.1,h.2.1⟩
theorem Air (a b:Nat): ∀(n i j:Nat) (d:Array Int),j+1-i<=n->a<i->i<=1000000002->j<d.size->a<d.size->d.size<=1000000000->iter (Dg (a:Int)) (d.toList,(i:Int),(j:Int))=some ((partLoop ltInt a i j d).2.toList,((partLoop ltInt a i j d).1:Int))/\(partLoop ltInt a i j d).2.size=d.size:=by
 intro n
 induction n with
 |zero=>
  intro i j d hn ha hi hj had hB
  have q1:=Ai3 a j d (i:Int) had hj hB i (by omega) hi
  have hg:=scanUp_ge (fun x=>ltInt x d[a]!) d j i
  rw[partLoop_eq]
  generalize scanUp (fun x=>ltInt x d[a]!) d j i=i2 at q1 hg ⊢
  have q2:=AcJ a i2 j d (i:Int) (j:Int) had hj hB (by omega)
  have hd:=scanDown_le (fun x=> !ltInt x d[a]!) d i2 j
  generalize scanDown (fun x=> !ltInt x d[a]!) d i2 j=j2 at q2 hd ⊢
  have hc:decide ((i2:Int)>(j2:Int))=true:=by simp;omega
  rw[if_pos (by omega),Ay (x:=(d.toList,(j2:Int))) (by simp only[Dg,D8,D9,q1,q2,Bf,hc,cond_true])]
  exact⟨rfl,rfl⟩
 |succ n ih=>
  intro i j d hn ha hi hj had hB
  have hl:(d.toList.length:Int)=d.size:=by simp
  have q1:=Ai3 a j d (i:Int) had hj hB i (by omega) hi
  have hg:=scanUp_ge (fun x=>ltInt x d[a]!) d j i
  rw[partLoop_eq]
  have hs:=(scanUp_spec (fun x=>ltInt x d[a]!) d j _ i rfl).2.1
  generalize scanUp (fun x=>ltInt x d[a]!) d j i=i2 at q1 hg hs ⊢
  have q2:=AcJ a i2 j d (i:Int) (j:Int) had hj hB (by omega)
  have hd:=scanDown_le (fun x=> !ltInt x d[a]!) d i2 j
  generalize scanDown (fun x=> !ltInt x d[a]!) d i2 j=j2 at q2 hd ⊢
  by_cases h:i2>j2
  ·have hc:decide ((i2:Int)>(j2:Int))=true:=by simp;omega
   rw[if_pos h,Ay (x:=(d.toList,(j2:Int))) (by simp only[Dg,D8,D9,q1,q2,Bf,hc,cond_true])]
   exact⟨rfl,rfl⟩
  ·have hc:decide ((i2:Int)>(j2:Int))=false:=by simp;omega
   obtain⟨r1,r2⟩:=ih (i2+1) (j2-1) (swp d i2 j2) (by omega) (by omega) (by omega) (by rw[swp_size];omega) (by rw[swp_size];omega) (by rw[swp_size];omega)
   rw[if_neg h,Bh (s':=((swp d i2 j2).toList,((i2+1:Nat):Int),((j2-1:Nat):Int))) (by
    simp (disch:=omega) only[Dg,D8,D9,q1,q2,Bf,hc,cond_false,hl,if_pos,Int.toNat_natCast,X0,stA,VR,nM])]
   exact⟨r1,by rw[r2,swp_size]⟩
theorem Afr (a b pivot:Nat) (d:Array Int) (ha:a<b) (hb:b<=d.size) (hp:pivot<d.size) (hB:d.size<=1000000000) (i:Nat) (h1:1<=i) (h2:i<=1000000002):iter (C9 d.toList (a:Int) (b:Int) (pivot:Int)) (i:Int)=some (scanUp (fun x=>ltInt x (swp d a pivot)[a]!) (swp d a pivot) (b-1) i:Int):=by
 have hl:((swp d a pivot).toList.length:Int)=d.size:=by simp[swp]
 refine wK _ (swp d a pivot) (b-1) ?_ (by omega) b i (by omega) h1 h2
 intro i hi hi1
 have eb:IntKind.wrap .i64 ((b:Int)-1)=((b-1:Nat):Int):=nM (by omega) (by omega)
 by_cases h:i<=b-1
 ·have h':decide ((i:Int)<=((b-1:Nat):Int))=true:=by simp;omega
  cases hq:ltInt (swp d a pivot)[i]! (swp d a pivot)[a]! <;>
   simp (disch:=omega) only[C9,FT,eb,h',h,decide_true,Bool.true_and,cond_true,cond_false,Int.toNat_natCast,X0,stA,hl,if_pos,DV,Bf,hq,VR]
 ·have h':decide ((i:Int)<=((b-1:Nat):Int))=false:=by simp;omega
  simp only[C9,FT,eb,h',h,decide_false,Bool.false_and,cond_false,Bf]
theorem Aa4 (a b pivot i:Nat) (d:Array Int) (ha:a<b) (hb:b<=d.size) (hp:pivot<d.size) (hB:d.size<=1000000000) (h1:1<=i):iter (Ef d.toList (a:Int) (pivot:Int) (i:Int)) ((b-1:Nat):Int)=some (scanDown (fun x=> !ltInt x (swp d a pivot)[a]!) (swp d a pivot) i (b-1):Int):=by
 have hl:((swp d a pivot).toList.length:Int)=d.size:=by simp[swp]
 refine aG _ (swp d a pivot) i h1 (b-1) ?_ (b-1) (Nat.le_refl _)
 intro j hjJ
 by_cases h:i<=j
 ·have h':decide ((i:Int)<=(j:Int))=true:=by simp;omega
  have e:IntKind.wrap .i64 ((j:Int)-1)=(j:Int)-1:=Gy (by omega) (by omega)
  cases hq:ltInt (swp d a pivot)[j]! (swp d a pivot)[a]! <;>
   simp (disch:=omega) only[Ef,FR,h',h,decide_true,Bool.true_and,cond_true,cond_false,Int.toNat_natCast,X0,stA,hl,if_pos,DV,Bf,hq,e,Bool.not_true,Bool.not_false]
 ·have h':decide ((i:Int)<=(j:Int))=false:=by simp;omega
  simp only[Ef,FR,h',h,decide_false,Bool.false_and,cond_false,Bf]
theorem vI (d:Array Int) (a b pivot:Nat) (ha:a<b) (hp:pivot<d.size) (hb:b<=d.size) (hB:d.size<=1000000000):DI d.toList (a:Int) (b:Int) (pivot:Int)=some ((Go.Sort.partition ltInt d a b pivot).2.2.toList,((Go.Sort.partition ltInt d a b pivot).1:Int),(Go.Sort.partition ltInt d a b pivot).2.1)/\(Go.Sort.partition ltInt d a b pivot).2.2.size=d.size:=by
 have hl:(d.toList.length:Int)=d.size:=by simp
 have hz:(swp d a pivot).size=d.size:=swp_size _ _ _
 have eb:IntKind.wrap .i64 ((b:Int)-1)=((b-1:Nat):Int):=nM (by omega) (by omega)
 have q1:=Afr a b pivot d ha hb hp hB (a+1) (by omega) (by omega)
 have hg:=scanUp_ge (fun x=>ltInt x (swp d a pivot)[a]!) (swp d a pivot) (b-1) (a+1)
 have hs:=(scanUp_spec (fun x=>ltInt x (swp d a pivot)[a]!) (swp d a pivot) (b-1) _ (a+1) rfl).2.1 (by omega)
 unfold Go.Sort.partition
 simp only
 have hm:DI d.toList (a:Int) (b:Int) (pivot:Int)=Option.bind (iter (C9 d.toList (a:Int) (b:Int) (pivot:Int)) ((a+1:Nat):Int)) fun s1=>F8 d.toList (a:Int) (b:Int) (pivot:Int) s1:=by
  simp (disch:=omega) only[DI,hl,if_pos,VR]
 rw[hm,q1,Bf]
 generalize scanUp (fun x=>ltInt x (swp d a pivot)[a]!) (swp d a pivot) (b-1) (a+1)=i at hg hs ⊢
 have q2:=Aa4 a b pivot i d ha hb hp hB (by omega)
 have hd:=scanDown_le (fun x=> !ltInt x (swp d a pivot)[a]!) (swp d a pivot) i (b-1)
 unfold F8
 rw[eb,q2,Bf]
 generalize scanDown (fun x=> !ltInt x (swp d a pivot)[a]!) (swp d a pivot) i (b-1)=j at hd ⊢
 have hl1:((swp d a pivot).toList.length:Int)=d.size:=by simp[swp]
 by_cases h:i>j
 ·have hc:decide ((i:Int)>(j:Int))=true:=by simp;omega
  rw[if_pos h]
  refine⟨?_,by simp[swp]⟩
  simp (disch:=omega) only[F9,hc,cond_true,Int.toNat_natCast,X0,stA,hl1,if_pos]
 ·have hc:decide ((i:Int)>(j:Int))=false:=by simp;omega
  rw[if_neg h]
  have hz2:(swp (swp d a pivot) i j).size=d.size:=by simp[swp]
  obtain⟨r1,r2⟩:=Air a b b (i+1) (j-1) (swp (swp d a pivot) i j) (by omega) (by omega) (by omega) (by omega) (by omega) (by omega)
  have hR:=partition_fst (lt:=ltInt) d a b pivot
  have hle: ∀(n i j:Nat) (d:Array Int),j+1-i<=n->(partLoop ltInt a i j d).1<=j:=by
   intro n
   induction n with
   |zero=>
    intro i j d hn
    rw[partLoop_eq]
    split
    ·exact scanDown_le _ _ _ _
    ·rename_i hh
     have h1:=scanUp_ge (fun x=>ltInt x d[a]!) d j i
     have h2:=scanDown_le (fun x=> !ltInt x d[a]!) d (scanUp (fun x=>ltInt x d[a]!) d j i) j
     omega
   |succ n ih=>
    intro i j d hn
    rw[partLoop_eq]
    split
    ·exact scanDown_le _ _ _ _
    ·rename_i hh
     have h1:=scanUp_ge (fun x=>ltInt x d[a]!) d j i
     have h2:=scanDown_le (fun x=> !ltInt x d[a]!) d (scanUp (fun x=>ltInt x d[a]!) d j i) j
     refine Nat.le_trans (ih _ _ _ ?_) ?_<;>omega
  have hk:=hle b (i+1) (j-1) (swp (swp d a pivot) i j) (by omega)
  generalize partLoop ltInt a (i+1) (j-1) (swp (swp d a pivot) i j)=R at r1 r2 hk ⊢
  obtain⟨k,e⟩:=R
  simp only at r1 r2 hk ⊢
  have hle2:(e.toList.length:Int)=d.size:=by simp;omega
  refine⟨?_,by simp only[swp_size];omega⟩
  simp (disch:=omega) only[F9,Ga,hc,cond_false,Int.toNat_natCast,X0,stA,hl1,if_pos,VR,nM,r1,Bf,hle2]
theorem lN (d:Array Int) (a b pivot:Nat) (ha:a<b) (hb:b<=d.size):a<=(Go.Sort.partition ltInt d a b pivot).1/\(Go.Sort.partition ltInt d a b pivot).1<b:=by
 have h:=partLoop_spec (lt:=ltInt) a b b (a+1) (b-1) (swp d a pivot) (by omega) (by omega) (by omega) (by omega) (by rw[swp_size];omega) (by intro t h1 h2;omega) (by intro t h1 h2;omega)
 rw[partition_fst]
 exact⟨h.1,h.2.1⟩
set_option maxRecDepth 10000
theorem Agh (x:Nat) (h:x<256):bt (ByteArray.mk #[0,1,2,2,3,3,3,3,4,4,4,4,4,4,4,4,5,5,5,5,5,5,5,5,5,5,5,5,5,5,5,5,6,6,6,6,6,6,6,6,6,6,6,6,6,6,6,6,6,6,6,6,6,6,6,6,6,6,6,6,6,6,6,6,7,7,7,7,7,7,7,7,7,7,7,7,7,7,7,7,7,7,7,7,7,7,7,7,7,7,7,7,7,7,7,7,7,7,7,7,7,7,7,7,7,7,7,7,7,7,7,7,7,7,7,7,7,7,7,7,7,7,7,7,7,7,7,7,8,8,8,8,8,8,8,8,8,8,8,8,8,8,8,8,8,8,8,8,8,8,8,8,8,8,8,8,8,8,8,8,8,8,8,8,8,8,8,8,8,8,8,8,8,8,8,8,8,8,8,8,8,8,8,8,8,8,8,8,8,8,8,8,8,8,8,8,8,8,8,8,8,8,8,8,8,8,8,8,8,8,8,8,8,8,8,8,8,8,8,8,8,8,8,8,8,8,8,8,8,8,8,8,8,8,8,8,8,8,8,8,8,8,8,8,8,8,8,8,8,8,8,8,8,8,8,8]) (x:Int)=(bitsLen x:Int):=by
 have e: ∀y:Fin 256,bt (ByteArray.mk #[0,1,2,2,3,3,3,3,4,4,4,4,4,4,4,4,5,5,5,5,5,5,5,5,5,5,5,5,5,5,5,5,6,6,6,6,6,6,6,6,6,6,6,6,6,6,6,6,6,6,6,6,6,6,6,6,6,6,6,6,6,6,6,6,7,7,7,7,7,7,7,7,7,7,7,7,7,7,7,7,7,7,7,7,7,7,7,7,7,7,7,7,7,7,7,7,7,7,7,7,7,7,7,7,7,7,7,7,7,7,7,7,7,7,7,7,7,7,7,7,7,7,7,7,7,7,7,7,8,8,8,8,8,8,8,8,8,8,8,8,8,8,8,8,8,8,8,8,8,8,8,8,8,8,8,8,8,8,8,8,8,8,8,8,8,8,8,8,8,8,8,8,8,8,8,8,8,8,8,8,8,8,8,8,8,8,8,8,8,8,8,8,8,8,8,8,8,8,8,8,8,8,8,8,8,8,8,8,8,8,8,8,8,8,8,8,8,8,8,8,8,8,8,8,8,8,8,8,8,8,8,8,8,8,8,8,8,8,8,8,8,8,8,8,8,8,8,8,8,8,8,8,8,8,8,8]) ((y.val:Nat):Int)=(bitsLen y.val:Int):=by decide+kernel
 exact e ⟨x,h⟩
theorem AcA:(ByteArray.mk #[0,1,2,2,3,3,3,3,4,4,4,4,4,4,4,4,5,5,5,5,5,5,5,5,5,5,5,5,5,5,5,5,6,6,6,6,6,6,6,6,6,6,6,6,6,6,6,6,6,6,6,6,6,6,6,6,6,6,6,6,6,6,6,6,7,7,7,7,7,7,7,7,7,7,7,7,7,7,7,7,7,7,7,7,7,7,7,7,7,7,7,7,7,7,7,7,7,7,7,7,7,7,7,7,7,7,7,7,7,7,7,7,7,7,7,7,7,7,7,7,7,7,7,7,7,7,7,7,8,8,8,8,8,8,8,8,8,8,8,8,8,8,8,8,8,8,8,8,8,8,8,8,8,8,8,8,8,8,8,8,8,8,8,8,8,8,8,8,8,8,8,8,8,8,8,8,8,8,8,8,8,8,8,8,8,8,8,8,8,8,8,8,8,8,8,8,8,8,8,8,8,8,8,8,8,8,8,8,8,8,8,8,8,8,8,8,8,8,8,8,8,8,8,8,8,8,8,8,8,8,8,8,8,8,8,8,8,8,8,8,8,8,8,8,8,8,8,8,8,8,8,8,8,8,8,8]).size=256:=rfl
theorem Ab8 (n k:Nat) (h:2 ^ k<=n):bitsLen n=bitsLen (n/2 ^ k)+k:=by
 have hp:0<2 ^ k:=Nat.two_pow_pos k
 apply Nat.le_antisymm
 ·rw[bitsLen_le_iff,Nat.pow_add]
  exact(Nat.div_lt_iff_lt_mul hp).1 (lt_two_pow_bitsLen _)
 ·have h1: ¬bitsLen n<=k:=by rw[bitsLen_le_iff];omega
  have h2:bitsLen (n/2 ^ k)<=bitsLen n-k:=by
   rw[bitsLen_le_iff,Nat.div_lt_iff_lt_mul hp,<- Nat.pow_add]
   rw[show bitsLen n-k+k=bitsLen n by omega]
   exact lt_two_pow_bitsLen n
  omega
theorem AgU {x:Int} (h:0<=x) (h':x<=255):IntKind.wrap .u8 x=x:=by
 have e1:(IntKind.u8).bits=8:=rfl
 have e2:(IntKind.u8).signed=false:=rfl
 simp only[IntKind.wrap,e1,e2,Bool.false_and]
 simp
 omega
theorem Ab7 (n k:Nat) (h:n<2 ^ k):bitsLen n<=k:=(bitsLen_le_iff n k).2 h
theorem Agi (x:Nat) (n:Nat) (h:x<65536) (hn:n<=1000):MW ((x:Int),(n:Int))=some ((n+bitsLen x:Nat):Int):=by
 unfold MW
 simp only
 by_cases hx:256<=x
 ·have h1:decide ((x:Int)>=256)=true:=by simp;omega
  have e1:Int.fdiv (x:Int) 256=((x/256:Nat):Int):=by rw[Int.fdiv_eq_ediv_of_nonneg _ (by omega)];rfl
  have h2:x/256<256:=by omega
  have hb:=Ab8 x 8 (by omega)
  have hl:=Ab7 (x/256) 8 (by omega)
  rw[show(2:Nat) ^ 8=256 from rfl]at hb
  rw[h1,cond_true,e1,AgU (by omega) (by omega),Agh _ h2,hb]
  rw[if_pos (by rw[AcA];omega),Gy (x:=(n:Int)+8) (by omega) (by omega),Gy (x:=(bitsLen (x/256):Int)) (by omega) (by omega),Gy (by omega) (by omega)]
  congr 1;omega
 ·have h1:decide ((x:Int)>=256)=false:=by simp;omega
  have hl:=Ab7 x 8 (by omega)
  rw[h1,cond_false,AgU (by omega) (by omega),Agh _ (by omega)]
  rw[if_pos (by rw[AcA];omega),Gy (x:=(bitsLen x:Int)) (by omega) (by omega),Gy (by omega) (by omega)]
  rfl
theorem len_eq (x:Nat) (h:x<=4000000000):L6 (x:Int)=some (bitsLen x:Int):=by
 unfold L6 Pt QO
 have h1:decide ((x:Int)>=4294967296)=false:=by simp;omega
 rw[h1,cond_false,Bf]
 by_cases hx:65536<=x
 ·have h2:decide ((x:Int)>=65536)=true:=by simp;omega
  have e1:Int.fdiv (x:Int) 65536=((x/65536:Nat):Int):=by rw[Int.fdiv_eq_ediv_of_nonneg _ (by omega)];rfl
  have e2:IntKind.wrap .i64 ((0:Int)+16)=((16:Nat):Int):=Gy (by omega) (by omega)
  have hb:=Ab8 x 16 (by omega)
  rw[show(2:Nat) ^ 16=65536 from rfl]at hb
  simp only[h2,cond_true,e1,e2,Bf]
  rw[Agi _ _ (by omega) (by omega),Bf,hb]
  congr 1;omega
 ·have h2:decide ((x:Int)>=65536)=false:=by simp;omega
  have:=Agi x 0 (by omega) (by omega)
  rw[show((0:Nat):Int)=0 from rfl]at this
  simp only[h2,cond_false,Bf]
  rw[this,Bf]
  congr 1;omega
theorem Ago (l:Nat) (h:l<=1000000000) (h0:0<l):IQ (l:Int)=some ((1<<<bitsLen l:Nat):Int)/\1<<<bitsLen l<=2*l:=by
 have h2:=two_pow_bitsLen_le h0
 rw[<- Nat.one_shiftLeft]at h2
 refine⟨?_,h2⟩
 have hb:=Ab7 l 32 (by omega)
 have hm:min ((bitsLen l:Int)).toNat (IntKind.bits .u64)=bitsLen l:=by
  rw[Int.toNat_natCast]
  exact Nat.min_eq_left (Nat.le_trans hb (by decide))
 unfold IQ
 rw[wu64 (by omega) (by omega),len_eq _ (by omega),Bf,if_pos (by omega),hm]
 rw[Nat.one_shiftLeft]at h2 ⊢
 have e:(1:Int)*2 ^ bitsLen l=((2 ^ bitsLen l:Nat):Int):=by rw[Int.one_mul];simp
 rw[e]
 generalize 2 ^ bitsLen l=q at h2
 rw[wu64 (by omega) (by omega)]
theorem bvN (n:Nat) (h:n<18446744073709551616):(BitVec.ofInt (IntKind.bits .u64) (n:Int)).toNat=n:=by
 have e:2 ^ (IntKind.bits .u64)=18446744073709551616:=rfl
 rw[BitVec.toNat_ofInt,e]
 omega
theorem AlU (a b:Nat) (ha:a<18446744073709551616) (hb:b<18446744073709551616):Wv .u64 (a:Int) (b:Int)=((a ^^^ b:Nat):Int):=by
 have hx:a ^^^ b<2 ^ 64:=Nat.xor_lt_two_pow ha hb
 unfold Wv
 rw[BitVec.toNat_xor,bvN a ha,bvN b hb,wu64 (by omega) (by omega)]
theorem AlS (a b:Nat) (ha:a<18446744073709551616) (hb:b<18446744073709551616):XI .u64 (a:Int) (b:Int)=((a&&& b:Nat):Int):=by
 have hx:a&&& b<=b:=Nat.and_le_right
 unfold XI
 rw[BitVec.toNat_and,bvN a ha,bvN b hb,wu64 (by omega) (by omega)]
theorem uLt (r:UInt64):r.toNat<18446744073709551616:=r.toNat_lt
theorem Aoe (a b:UInt64):Wv .u64 (a.toNat:Int) (b.toNat:Int)=((a ^^^ b).toNat:Int):=by
 rw[AlU _ _ (uLt a) (uLt b),UInt64.toNat_xor]
theorem Ai9 (x:Nat):IntKind.wrap .u64 (x:Int)=((x%18446744073709551616:Nat):Int):=by
 have e1:(IntKind.u64).bits=64:=rfl
 have e2:(IntKind.u64).signed=false:=rfl
 simp only[IntKind.wrap,e1,e2,Bool.false_and]
 simp
theorem Al6 (r:UInt64):IntKind.wrap .u64 ((r.toNat:Int)*8192)=((r<<<13).toNat:Int):=by
 have e:((r.toNat:Int)*8192)=((r.toNat*8192:Nat):Int):=by omega
 rw[e,Ai9,UInt64.toNat_shiftLeft,show(UInt64.toNat 13%64)=13 from rfl,Nat.shiftLeft_eq]
theorem Al7 (r:UInt64):IntKind.wrap .u64 ((r.toNat:Int)*131072)=((r<<<17).toNat:Int):=by
 have e:((r.toNat:Int)*131072)=((r.toNat*131072:Nat):Int):=by omega
 rw[e,Ai9,UInt64.toNat_shiftLeft,show(UInt64.toNat 17%64)=17 from rfl,Nat.shiftLeft_eq]
theorem AnY (r:UInt64):Int.fdiv (r.toNat:Int) 128=((r>>>7).toNat:Int):=by
 rw[Int.fdiv_eq_ediv_of_nonneg _ (by omega),UInt64.toNat_shiftRight,show(UInt64.toNat 7%64)=7 from rfl,Nat.shiftRight_eq_div_pow]
 rfl
theorem Amj (r:UInt64):FU (r.toNat:Int)=some (((xorNext r).toNat:Int),((xorNext r).toNat:Int)):=by
 unfold FU xorNext
 simp only[Al6,Aoe,AnY,Al7]
theorem iN (a b m:Nat) (d:Array Int) (r:UInt64) (idx:Nat) (h8:8<=b-a) (hb:b<=d.size) (hB:d.size<=1000000000) (hm:m<=2*(b-a)) (hm0:0<m) (h1:idx<=a+(b-a)/4*2+1):
  Cy (a:Int) (b:Int) (m:Int) (d.toList,(r.toNat:Int),(idx:Int))=some (.next ((breakStep a (b-a) m (r,d) idx).2.toList,((breakStep a (b-a) m (r,d) idx).1.toNat:Int),((idx+1:Nat):Int)))/\(breakStep a (b-a) m (r,d) idx).2.size=d.size:=by
 refine⟨?_,by unfold breakStep;simp only[swp_size]⟩
 have hl:(d.toList.length:Int)=d.size:=by simp
 have e1:IntKind.wrap .i64 ((b:Int)-(a:Int))=((b-a:Nat):Int):=ws (by omega) (by omega)
 have e4:IntKind.wrap .i64 (Int.tdiv ((b-a:Nat):Int) (4:Int))=(((b-a)/4:Nat):Int):=wd4 (by omega)
 have em:IntKind.wrap .u64 ((m:Int)-1)=((m-1:Nat):Int):=by rw[wu64 (by omega) (by omega)];omega
 have hc:decide ((idx:Int)<=((a+(b-a)/4*2+1:Nat):Int))=true:=by simp;omega
 have hand:(xorNext r).toNat&&& (m-1)<=m-1:=Nat.and_le_right
 have eo:IntKind.wrap .i64 (((xorNext r).toNat&&& (m-1):Nat):Int)=(((xorNext r).toNat&&& (m-1):Nat):Int):=Gy (by omega) (by omega)
 unfold breakStep
 simp (disch:=omega) only[Cy,e1,e4,wq2,wa,VR,hc,cond_true,Amj,Bf,em,AlS _ _ (uLt (xorNext r)) (show m-1<18446744073709551616 by omega),eo]
 generalize (xorNext r).toNat&&& (m-1)=o at hand eo ⊢
 by_cases h:o>=b-a
 ·have h':decide ((o:Int)>=((b-a:Nat):Int))=true:=by simp;omega
  have e5:IntKind.wrap .i64 ((o:Int)-((b-a:Nat):Int))=((o-(b-a):Nat):Int):=ws h (by omega)
  rw[if_pos h,h',cond_true,Bf,e5]
  simp (disch:=omega) only[Dy,wa,VR,hl,if_pos,Int.toNat_natCast,X0,stA]
 ·have h':decide ((o:Int)>=((b-a:Nat):Int))=false:=by simp;omega
  rw[if_neg h,h',cond_false,Bf]
  simp (disch:=omega) only[Dy,wa,VR,hl,if_pos,Int.toNat_natCast,X0,stA]
theorem Ajo (a b m:Nat) (d:Array Int) (r:UInt64) (h8:8<=b-a) (hb:b<=1000000000):Cy (a:Int) (b:Int) (m:Int) (d.toList,(r.toNat:Int),((a+(b-a)/4*2+2:Nat):Int))=some (.done d.toList):=by
 have e1:IntKind.wrap .i64 ((b:Int)-(a:Int))=((b-a:Nat):Int):=ws (by omega) (by omega)
 have e4:IntKind.wrap .i64 (Int.tdiv ((b-a:Nat):Int) (4:Int))=(((b-a)/4:Nat):Int):=wd4 (by omega)
 have hc:decide (((a+(b-a)/4*2+2:Nat):Int)<=((a+(b-a)/4*2+1:Nat):Int))=false:=by simp
 simp (disch:=omega) only[Cy,e1,e4,wq2,wa,VR,hc,cond_false]
theorem AeT (d:Array Int) (a b:Nat) (ha:a<=b) (hb:b<=d.size) (hB:d.size<=1000000000):D6 d.toList (a:Int) (b:Int)=some (breakPatterns d a b).toList/\(breakPatterns d a b).size=d.size:=by
 refine⟨?_,(breakPatterns_holds d a b ha hb).1⟩
 have e1:IntKind.wrap .i64 ((b:Int)-(a:Int))=((b-a:Nat):Int):=ws (by omega) (by omega)
 have e4:IntKind.wrap .i64 (Int.tdiv ((b-a:Nat):Int) (4:Int))=(((b-a)/4:Nat):Int):=wd4 (by omega)
 unfold D6 breakPatterns
 simp only
 by_cases h8:b-a>=8
 ·have h8':decide (((b-a:Nat):Int)>=8)=true:=by simp;omega
  obtain⟨p1,p2⟩:=Ago (b-a) (by omega) (by omega)
  have hm0:0<1<<<bitsLen (b-a):=by rw[Nat.one_shiftLeft];exact Nat.two_pow_pos _
  rw[if_pos h8,e1,h8',cond_true,p1,Bf]
  generalize 1<<<bitsLen (b-a)=m at p2 hm0 ⊢
  have eu:IntKind.wrap .u64 ((b-a:Nat):Int)=((UInt64.ofNat (b-a)).toNat:Int):=by
   rw[wu64 (by omega) (by omega),UInt64.toNat_ofNat_of_lt' (show b-a<18446744073709551616 by omega)]
  have ei:IntKind.wrap .i64 (IntKind.wrap .i64 ((a:Int)+IntKind.wrap .i64 (IntKind.wrap .i64 (Int.tdiv ((b-a:Nat):Int) (4:Int))*2))-1)=((a+(b-a)/4*2-1:Nat):Int):=by
   simp (disch:=omega) only[e4,wq2,wa,nM]
  rw[eu,ei]
  obtain⟨r1,s1⟩:=iN a b m d (UInt64.ofNat (b-a)) (a+(b-a)/4*2-1) h8 hb hB p2 hm0 (by omega)
  obtain⟨r2,s2⟩:=iN a b m _ (breakStep a (b-a) m (UInt64.ofNat (b-a),d) (a+(b-a)/4*2-1)).1 (a+(b-a)/4*2-1+1) h8 (by rw[s1];exact hb) (by rw[s1];exact hB) p2 hm0 (by omega)
  obtain⟨r3,s3⟩:=iN a b m _ (breakStep a (b-a) m (breakStep a (b-a) m (UInt64.ofNat (b-a),d) (a+(b-a)/4*2-1)) (a+(b-a)/4*2-1+1)).1 (a+(b-a)/4*2-1+2) h8 (by rw[s2,s1];exact hb) (by rw[s2,s1];exact hB) p2 hm0 (by omega)
  have e6:a+(b-a)/4*2-1+2+1=a+(b-a)/4*2+2:=by omega
  rw[Bh r1,Bh r2,Bh r3,e6,Ay (Ajo a b m _ _ h8 (by omega)),Bf]
 ·have h8':decide (((b-a:Nat):Int)>=8)=false:=by simp;omega
  rw[if_neg h8,e1,h8',cond_false]
def Ans (o:Option (List Int)) (l:List Int) (few:Prop):Prop:=o=some l∨(o=none/\few)
def Zz (d3:Array Int) (a b pivot limit:Nat) (wb wp:Bool):Array Int:=
 if a>0&& !ltInt d3[a-1]! d3[pivot]! then
  pdq ltInt (partitionEqual ltInt d3 a b pivot).2 (partitionEqual ltInt d3 a b pivot).1 b limit wb wp
 else
  if(Go.Sort.partition ltInt d3 a b pivot).1-a<b-(Go.Sort.partition ltInt d3 a b pivot).1 then
     pdq ltInt (pdq ltInt (Go.Sort.partition ltInt d3 a b pivot).2.2 a (Go.Sort.partition ltInt d3 a b pivot).1 limit true true) ((Go.Sort.partition ltInt d3 a b pivot).1+1) b limit (decide ((Go.Sort.partition ltInt d3 a b pivot).1-a>=(b-a)/8)) (Go.Sort.partition ltInt d3 a b pivot).2.1
  else
     pdq ltInt (pdq ltInt (Go.Sort.partition ltInt d3 a b pivot).2.2 ((Go.Sort.partition ltInt d3 a b pivot).1+1) b limit true true) a (Go.Sort.partition ltInt d3 a b pivot).1 limit (decide (b-(Go.Sort.partition ltInt d3 a b pivot).1>=(b-a)/8)) (Go.Sort.partition ltInt d3 a b pivot).2.1
theorem szI (d:Array Int): ∀(j a:Nat),(Go.Sort.shiftDown ltInt j d).size=d.size:=by
 intro j
 induction j generalizing d with
 |zero=>intro a;rfl
 |succ j ih=>
  intro a
  unfold Go.Sort.shiftDown
  split
  ·rfl
  ·rw[ih _ a,swp_size]
theorem szU (b:Nat): ∀(n j:Nat) (d:Array Int),b-j<=n->(shiftUp ltInt b j d).size=d.size:=by
 intro n
 induction n with
 |zero=>intro j d h;rw[shiftUp,if_neg (by omega)]
 |succ n ih=>
  intro j d h
  rw[shiftUp]
  split
  ·split
   ·rfl
   ·rw[ih _ _ (by omega),swp_size]
  ·rfl
theorem szP (a b:Nat): ∀(s i:Nat) (d:Array Int),(partialIns ltInt a b s i d).1.size=d.size:=by
 intro s
 induction s with
 |zero=>intro i d;rfl
 |succ s ih=>
  intro i d
  rw[partialIns_succ]
  split
  ·rfl
  ·split
   ·rfl
   ·rw[ih]
    unfold fixUp fixDown
    split
    ·rw[szU b _ _ _ (Nat.le_refl _)]
     split
     ·rw[szI _ _ 0,swp_size]
     ·rw[swp_size]
    ·split
     ·rw[szI _ _ 0,swp_size]
     ·rw[swp_size]
theorem AbC (d:Array Int) (a b:Nat) (ha:a<b) (hb:b<=d.size):(partialInsertionSort ltInt d a b).1.size=d.size:=szP a b 5 (a+1) d
theorem AdX (d:Array Int) (a b limit:Nat) (wb wp:Bool) (h12: ¬b-a<=12) (hl0: ¬limit=0) (hb:b<=d.size):
  pdq ltInt d a b limit wb wp=
   let d1:=if !wb then breakPatterns d a b else d
   let lim:=if !wb then limit-1 else limit
   let c:=choosePivot ltInt d1 a b
   let d2:=if c.2=.decreasing then reverseRange d1 a b else d1
   let pivot:=if c.2=.decreasing then(b-1)-(c.1-a)else c.1
   let hint:=if c.2=.decreasing then Hint.increasing else c.2
   let pi:=if wb&&wp&&hint=.increasing then partialInsertionSort ltInt d2 a b else(d2,false)
   if pi.2 then pi.1 else Zz pi.1 a b pivot lim wb wp:=by
 rw[pdq,if_neg h12,if_neg hl0]
 simp only
 have hz1:(if(!wb)=true then breakPatterns d a b else d).size=d.size:=by
  split
  ·exact(breakPatterns_holds d a b (by omega) hb).1
  ·rfl
 generalize (if(!wb)=true then breakPatterns d a b else d)=d1 at hz1
 have hc:=choosePivot_holds ltInt d1 a b (by omega)
 generalize choosePivot ltInt d1 a b=c at hc
 have hz2:(if c.2=.decreasing then reverseRange d1 a b else d1).size=d.size:=by
  split
  ·rw[(reverseRange_holds d1 a b (by omega) (by omega)).1,hz1]
  ·exact hz1
 generalize (if c.2=.decreasing then reverseRange d1 a b else d1)=d2 at hz2
 have hp:(if c.2=.decreasing then(b-1)-(c.1-a)else c.1)<b:=by split<;>omega
 generalize (if c.2=.decreasing then(b-1)-(c.1-a)else c.1)=pivot at hp
 generalize (if c.2=.decreasing then Hint.increasing else c.2)=hint
 have hz3:(if(wb&&wp&&decide (hint=Hint.increasing))=true then partialInsertionSort ltInt d2 a b else(d2,false)).1.size=d.size:=by
  split
  ·rw[AbC d2 a b (by omega) (by omega),hz2]
  ·exact hz2
 generalize (if(wb&&wp&&decide (hint=Hint.increasing))=true then partialInsertionSort ltInt d2 a b else(d2,false))=pi at hz3
 congr 1
 unfold Zz
 have r1:=Zy pi.1 a b pivot (by omega) (by omega) (by omega)
 have r2:=lN pi.1 a b pivot (by omega) (by omega)
 congr 1
 ·simp only[r1.1,r1.2,and_self,dif_pos]
 ·simp only[r2.1,r2.2,and_self,dif_pos]
def AeF (n:Nat):Prop:= ∀(k:Nat) (d:Array Int) (a b limit:Nat) (wb wp:Bool),b-a<=n->a<=b->b<=d.size->d.size<=1000000000->limit<=1000->
 Ans (iter (AY (Ah k)) (d.toList,(a:Int),(b:Int),(limit:Int),wb,wp)) (pdq ltInt d a b limit wb wp).toList (k<=n)/\(pdq ltInt d a b limit wb wp).size=d.size
theorem vM {n:Nat} (ih: ∀m,m<n->AeF m) (k:Nat) (d:Array Int) (a b limit:Nat) (h:b-a<n) (hab:a<=b) (hb:b<=d.size) (hB:d.size<=1000000000) (hl:limit<=1000):
  Ans (Ah k d.toList (a:Int) (b:Int) (limit:Int)) (pdq ltInt d a b limit true true).toList (k<=n)/\(pdq ltInt d a b limit true true).size=d.size:=by
 cases k with
 |zero=>exact⟨.inr ⟨rfl,Nat.zero_le _⟩,(ih (b-a) h 0 d a b limit true true (Nat.le_refl _) hab hb hB hl).2⟩
 |succ k=>
  obtain⟨r1,r2⟩:=ih (b-a) h k d a b limit true true (Nat.le_refl _) hab hb hB hl
  refine⟨?_,r2⟩
  have hm:Ah (k+1) d.toList (a:Int) (b:Int) (limit:Int)=Option.bind (iter (AY (Ah k)) (d.toList,(a:Int),(b:Int),(limit:Int),true,true)) fun v28=>some v28:=rfl
  rw[hm]
  rcases r1 with r1|⟨r1,r3⟩
  ·rw[r1];exact .inl rfl
  ·rw[r1];exact .inr ⟨rfl,by omega⟩
noncomputable def onward (k:Nat) (o:Option (Stp ((List Int)×Int×Int×Int×Bool×Bool) (List Int))):Option (List Int):=
 match o with|some (.next s')=>iter (AY (Ah k)) s'|some (.done x)=>some x|none=>none
theorem zH (k:Nat) (s):iter (AY (Ah k)) s=onward k (AY (Ah k) s):=by
 rw[BL]
 unfold onward
 cases AY (Ah k) s with
 |none=>rfl
 |some st=>cases st<;>rfl
theorem Aao {n:Nat} (ih: ∀m,m<n->AeF m) (k:Nat) (l0 l1 l2:List Int) (zA hint:Int) (d3:Array Int) (a b pivot limit:Nat) (wb wp:Bool) (h:b-a<=n) (hab:a<b) (hb:b<=d3.size) (hB:d3.size<=1000000000) (hl:limit<=1000) (hp:pivot<b):
  Ans (onward k (BQ (Ah k) (l0,(a:Int),(b:Int),zA,wb,wp) (l1,(limit:Int)) (l2,(pivot:Int),hint) d3.toList)) (Zz d3 a b pivot limit wb wp).toList (k<=n)/\(Zz d3 a b pivot limit wb wp).size=d3.size:=by
 have hlen:(d3.toList.length:Int)=d3.size:=by simp
 have hs:BQ (Ah k) (l0,(a:Int),(b:Int),zA,wb,wp) (l1,(limit:Int)) (l2,(pivot:Int),hint) d3.toList=
   Ba (Ah k) (l0,(a:Int),(b:Int),zA,wb,wp) (l1,(limit:Int)) (l2,(pivot:Int),hint) d3.toList (decide (a>0)&& !ltInt d3[a-1]! d3[pivot]!):=by
  by_cases ha:a>0
  ·have h1:decide ((a:Int)>0)=true:=by simp;omega
   simp (disch:=omega) only[BQ,h1,ha,decide_true,Bool.true_and,cond_true,nM,hlen,if_pos,DV,Int.toNat_natCast,X0,Bf]
  ·have h1:decide ((a:Int)>0)=false:=by simp;omega
   simp only[BQ,h1,ha,decide_false,Bool.false_and,cond_false,Bf]
 rw[hs]
 unfold Zz
 cases hc:(decide (a>0)&& !ltInt d3[a-1]! d3[pivot]!)with
 |true=>
  obtain⟨p1,p2⟩:=AbB d3 a b pivot hab (by omega) hb hB
  have p3:=Zy d3 a b pivot hab (by omega) hb
  rw[if_pos rfl]
  generalize partitionEqual ltInt d3 a b pivot=R at p1 p2 p3 ⊢
  obtain⟨mid,d4⟩:=R
  simp only at p1 p2 p3 ⊢
  obtain⟨q1,q2⟩:=ih (b-mid) (by omega) k d4 mid b limit wb wp (Nat.le_refl _) (by omega) (by omega) (by omega) hl
  refine⟨?_,by omega⟩
  have e:Ba (Ah k) (l0,(a:Int),(b:Int),zA,wb,wp) (l1,(limit:Int)) (l2,(pivot:Int),hint) d3.toList true=some (.next (d4.toList,(mid:Int),(b:Int),(limit:Int),wb,wp)):=by
   simp only[Ba,cond_true,p1,Bf,Array.length_toList,p2,if_true]
  rw[e]
  show Ans (iter _ _) _ _
  rcases q1 with q1|⟨q1,q3⟩
  ·exact .inl q1
  ·exact .inr ⟨q1,by omega⟩
 |false=>
  obtain⟨p1,p2⟩:=vI d3 a b pivot hab (by omega) hb hB
  have p3:=lN d3 a b pivot hab hb
  rw[if_neg (by simp)]
  generalize Go.Sort.partition ltInt d3 a b pivot=R at p1 p2 p3 ⊢
  obtain⟨mid,ap,d4⟩:=R
  simp only at p1 p2 p3 ⊢
  have e1:IntKind.wrap .i64 ((mid:Int)-(a:Int))=((mid-a:Nat):Int):=ws (by omega) (by omega)
  have e2:IntKind.wrap .i64 ((b:Int)-(mid:Int))=((b-mid:Nat):Int):=ws (by omega) (by omega)
  have e3:IntKind.wrap .i64 ((b:Int)-(a:Int))=((b-a:Nat):Int):=ws (by omega) (by omega)
  have e4:IntKind.wrap .i64 (Int.tdiv ((b-a:Nat):Int) (8:Int))=(((b-a)/8:Nat):Int):=wd8 (by omega)
  have e5:IntKind.wrap .i64 ((mid:Int)+1)=((mid+1:Nat):Int):=VR (by omega)
  by_cases hlt:mid-a<b-mid
  ·have c1:decide (((mid-a:Nat):Int)<((b-mid:Nat):Int))=true:=by simp;omega
   have c2:decide (((mid-a:Nat):Int)>=(((b-a)/8:Nat):Int))=decide (mid-a>=(b-a)/8):=by
    rw[decide_eq_decide];exact Int.ofNat_le
   rw[if_pos hlt]
   obtain⟨q1,q2⟩:=vM ih k d4 a mid limit (by omega) (by omega) (by omega) (by omega) hl
   generalize pdq ltInt d4 a mid limit true true=d5 at q1 q2 ⊢
   obtain⟨u1,u2⟩:=ih (b-(mid+1)) (by omega) k d5 (mid+1) b limit (decide (mid-a>=(b-a)/8)) ap (Nat.le_refl _) (by omega) (by omega) (by omega) hl
   refine⟨?_,by omega⟩
   rcases q1 with q1|⟨q1,q3⟩
   ·have e:Ba (Ah k) (l0,(a:Int),(b:Int),zA,wb,wp) (l1,(limit:Int)) (l2,(pivot:Int),hint) d3.toList false=some (.next (d5.toList,((mid+1:Nat):Int),(b:Int),(limit:Int),decide (mid-a>=(b-a)/8),ap)):=by
         simp only[Ba,cond_false,p1,Bf,Array.length_toList,p2,if_true,e1,e2,c1,cond_true,q1,q2,e3,e4,e5,c2]
    rw[e]
    show Ans (iter _ _) _ _
    rcases u1 with u1|⟨u1,u3⟩
    ·exact .inl u1
    ·exact .inr ⟨u1,by omega⟩
   ·have e:Ba (Ah k) (l0,(a:Int),(b:Int),zA,wb,wp) (l1,(limit:Int)) (l2,(pivot:Int),hint) d3.toList false=none:=by
         simp only[Ba,cond_false,p1,Bf,Array.length_toList,p2,if_true,e1,e2,c1,cond_true,q1]
         rfl
    rw[e]
    exact .inr ⟨rfl,q3⟩
  ·have c1:decide (((mid-a:Nat):Int)<((b-mid:Nat):Int))=false:=by simp;omega
   have c2:decide (((b-mid:Nat):Int)>=(((b-a)/8:Nat):Int))=decide (b-mid>=(b-a)/8):=by
    rw[decide_eq_decide];exact Int.ofNat_le
   rw[if_neg hlt]
   obtain⟨q1,q2⟩:=vM ih k d4 (mid+1) b limit (by omega) (by omega) (by omega) (by omega) hl
   generalize pdq ltInt d4 (mid+1) b limit true true=d5 at q1 q2 ⊢
   obtain⟨u1,u2⟩:=ih (mid-a) (by omega) k d5 a mid limit (decide (b-mid>=(b-a)/8)) ap (Nat.le_refl _) (by omega) (by omega) (by omega) hl
   refine⟨?_,by omega⟩
   rcases q1 with q1|⟨q1,q3⟩
   ·have e:Ba (Ah k) (l0,(a:Int),(b:Int),zA,wb,wp) (l1,(limit:Int)) (l2,(pivot:Int),hint) d3.toList false=some (.next (d5.toList,(a:Int),(mid:Int),(limit:Int),decide (b-mid>=(b-a)/8),ap)):=by
         simp only[Ba,cond_false,p1,Bf,Array.length_toList,p2,if_true,e1,e2,c1,q1,q2,e3,e4,e5,c2]
    rw[e]
    show Ans (iter _ _) _ _
    rcases u1 with u1|⟨u1,u3⟩
    ·exact .inl u1
    ·exact .inr ⟨u1,by omega⟩
   ·have e:Ba (Ah k) (l0,(a:Int),(b:Int),zA,wb,wp) (l1,(limit:Int)) (l2,(pivot:Int),hint) d3.toList false=none:=by
         simp only[Ba,cond_false,p1,Bf,Array.length_toList,p2,if_true,e1,e2,c1,q1,e5]
         rfl
    rw[e]
    exact .inr ⟨rfl,q3⟩
theorem AiT (h:Hint):(UG h==2)=decide (h=.decreasing):=by cases h<;>rfl
theorem Alp (h:Hint):(UG h==1)=decide (h=.increasing):=by cases h<;>rfl
theorem Akx (n:Nat):AeF n:=by
 induction n using Nat.strongRecOn with
 |ind n ih=>
  intro k d a b limit wb wp h hab hb hB hl
  have e1:IntKind.wrap .i64 ((b:Int)-(a:Int))=((b-a:Nat):Int):=ws (by omega) (by omega)
  rw[zH]
  by_cases h12:b-a<=12
  ·have c12:decide (((b-a:Nat):Int)<=12)=true:=by simp;omega
   obtain⟨p1,p2⟩:=Aga a b d hab hb hB
   rw[pdq,if_pos h12]
   refine⟨.inl ?_,p2⟩
   have e:AY (Ah k) (d.toList,(a:Int),(b:Int),(limit:Int),wb,wp)=some (.done (insertionSort ltInt d a b).toList):=by
    simp only[AY,e1,c12,cond_true,p1,Bf,Array.length_toList,p2,if_true]
   rw[e]
   rfl
  ·have c12:decide (((b-a:Nat):Int)<=12)=false:=by simp;omega
   by_cases hl0:limit=0
   ·obtain⟨p1,p2⟩:=Adz a b d (by omega) hb hB
    rw[pdq,if_neg h12,if_pos hl0]
    refine⟨.inl ?_,p2⟩
    have e:AY (Ah k) (d.toList,(a:Int),(b:Int),(limit:Int),wb,wp)=some (.done (heapSort ltInt d a b).toList):=by
         have c0:((limit:Int)==0)=true:=by simp;omega
         simp only[AY,e1,c12,cond_false,c0,cond_true,p1,Bf,Array.length_toList,p2,if_true]
    rw[e]
    rfl
   ·rw[AdX d a b limit wb wp h12 hl0 hb]
    have c0:((limit:Int)==0)=false:=by simp;omega
    have el:IntKind.wrap .i64 ((limit:Int)-1)=((limit-1:Nat):Int):=nM (by omega) (by omega)
    simp only
    obtain⟨b1,b2⟩:=AeT d a b hab hb hB
    have S1:AY (Ah k) (d.toList,(a:Int),(b:Int),(limit:Int),wb,wp)=Dw (Ah k) (d.toList,(a:Int),(b:Int),(limit:Int),wb,wp) ((if(!wb)=true then breakPatterns d a b else d).toList,((if(!wb)=true then limit-1 else limit:Nat):Int)):=by
         cases wb<;>simp only[AY,e1,c12,cond_false,cond_true,c0,Bool.not_false,Bool.not_true,b1,Bf,Array.length_toList,b2,if_true,el,Bool.false_eq_true,if_false]
    have hz1:(if(!wb)=true then breakPatterns d a b else d).size=d.size:=by
         split
         ·exact b2
         ·rfl
    have hl1:(if(!wb)=true then limit-1 else limit)<=1000:=by split<;>omega
    generalize (if(!wb)=true then breakPatterns d a b else d)=d1 at S1 hz1 ⊢
    generalize (if(!wb)=true then limit-1 else limit)=lim at S1 hl1 ⊢
    have P1:=Agx d1 a b (by omega) (by omega) (by omega)
    have P2:=choosePivot_holds ltInt d1 a b (by omega)
    generalize choosePivot ltInt d1 a b=c at P1 P2 ⊢
    obtain⟨ci,ch⟩:=c
    simp only at P1 P2 ⊢
    obtain⟨v1,v2⟩:=Ad4 d1 a b (by omega) (by omega) (by omega)
    have S2:Dw (Ah k) (d.toList,(a:Int),(b:Int),(limit:Int),wb,wp) (d1.toList,(lim:Int))=Ey (Ah k) (d.toList,(a:Int),(b:Int),(limit:Int),wb,wp) (d1.toList,(lim:Int)) ((if ch=.decreasing then reverseRange d1 a b else d1).toList,((if ch=.decreasing then(b-1)-(ci-a)else ci:Nat):Int),UG (if ch=.decreasing then Hint.increasing else ch)):=by
         by_cases hd:ch=.decreasing
         ·have e5:IntKind.wrap .i64 ((b:Int)-1)=((b-1:Nat):Int):=nM (by omega) (by omega)
          have e6:IntKind.wrap .i64 ((ci:Int)-(a:Int))=((ci-a:Nat):Int):=ws (by omega) (by omega)
          have e7:IntKind.wrap .i64 (((b-1:Nat):Int)-((ci-a:Nat):Int))=((b-1-(ci-a):Nat):Int):=ws (by omega) (by omega)
          simp only[Dw,P1,Bf,AiT,hd,decide_true,cond_true,v1,Array.length_toList,v2,if_true,e5,e6,e7]
          rfl
         ·simp only[Dw,P1,Bf,AiT,hd,decide_false,cond_false,if_false]
    have hz2:(if ch=.decreasing then reverseRange d1 a b else d1).size=d.size:=by
         split
         ·rw[v2,hz1]
         ·exact hz1
    have hp:(if ch=.decreasing then(b-1)-(ci-a)else ci)<b:=by split<;>omega
    generalize (if ch=.decreasing then reverseRange d1 a b else d1)=d2 at S2 hz2 ⊢
    generalize (if ch=.decreasing then(b-1)-(ci-a)else ci)=pivot at S2 hp ⊢
    generalize (if ch=.decreasing then Hint.increasing else ch)=hint at S2 ⊢
    obtain⟨w1,w2⟩:=vH d2 a b (by omega) (by omega) (by omega)
    rw[S1,S2]
    have S3: ∀b2:Bool,b2=(wb&&wp&&decide (hint=.increasing))->Ey (Ah k) (d.toList,(a:Int),(b:Int),(limit:Int),wb,wp) (d1.toList,(lim:Int)) (d2.toList,(pivot:Int),UG hint)=Option.bind (BH (d.toList,(a:Int),(b:Int),(limit:Int),wb,wp) (d2.toList,(pivot:Int),UG hint) b2) fun z=>match z with
           | .inl s13=>BQ (Ah k) (d.toList,(a:Int),(b:Int),(limit:Int),wb,wp) (d1.toList,(lim:Int)) (d2.toList,(pivot:Int),UG hint) s13
           | .inr v25=>some (.done v25):=by
         intro b2 hb2
         subst hb2
         cases wb<;>cases wp<;>simp only[Ey,cond_true,cond_false,Bf,Alp,Bool.true_and,Bool.false_and,Bool.and_false]<;>rfl
    rw[S3 _ rfl]
    cases hcc:(wb&&wp&&decide (hint=.increasing))with
    |false=>
     rw[if_neg (by simp),if_neg (by simp)]
     have e:BH (d.toList,(a:Int),(b:Int),(limit:Int),wb,wp) (d2.toList,(pivot:Int),UG hint) false=some (.inl d2.toList):=by
         simp only[BH,cond_false]
     rw[e,Bf]
     obtain⟨t1,t2⟩:=Aao ih k d.toList d1.toList d2.toList (limit:Int) (UG hint) d2 a b pivot lim wb wp h (by omega) (by omega) (by omega) hl1 hp
     exact⟨t1,t2.trans hz2⟩
    |true=>
     rw[if_pos rfl]
     generalize partialInsertionSort ltInt d2 a b=pi at w1 w2 ⊢
     obtain⟨d3,done⟩:=pi
     simp only at w1 w2 ⊢
     cases done with
     |true=>
      rw[if_pos rfl]
      have e:BH (d.toList,(a:Int),(b:Int),(limit:Int),wb,wp) (d2.toList,(pivot:Int),UG hint) true=some (.inr d3.toList):=by
           simp only[BH,cond_true,w1,Bf,Array.length_toList,w2,if_true]
      rw[e,Bf]
      exact⟨.inl rfl,by omega⟩
     |false=>
      rw[if_neg (by simp)]
      have e:BH (d.toList,(a:Int),(b:Int),(limit:Int),wb,wp) (d2.toList,(pivot:Int),UG hint) true=some (.inl d3.toList):=by
           simp only[BH,cond_true,w1,Bf,Array.length_toList,w2,if_true,cond_false]
      rw[e,Bf]
      obtain⟨t1,t2⟩:=Aao ih k d.toList d1.toList d2.toList (limit:Int) (UG hint) d3 a b pivot lim wb wp h (by omega) (by omega) (by omega) hl1 hp
      exact⟨t1,by omega⟩
theorem AiC (l:List Int) (h:l.length<=1000000000):GJ l=some (l.mergeSort fun x y=>decide (x<=y)):=by
 have hsz:l.toArray.size=l.length:=by simp
 have hbl:=Ab7 l.length 30 (by omega)
 have hM: ∀k,Ans (Ah k l 0 ((l.length:Nat):Int) (bitsLen l.length:Int)) (pdq ltInt l.toArray 0 l.length (bitsLen l.length) true true).toList (k<=l.length+1):=by
  intro k
  have:=(vM (n:=l.length+1) (fun m _=>Akx m) k l.toArray 0 l.length (bitsLen l.length) (by omega) (by omega) (by omega) (by omega) (by omega)).1
  rw[show l.toArray.toList=l by simp]at this
  exact this
 have hs:Eh l 0 ((l.length:Nat):Int) (bitsLen l.length:Int)=some (pdq ltInt l.toArray 0 l.length (bitsLen l.length) true true).toList:=by
  have hx: ∃n,(Ah n l 0 ((l.length:Nat):Int) (bitsLen l.length:Int)).isSome=true:=by
   refine⟨l.length+2,?_⟩
   rcases hM (l.length+2)with h|⟨_,h⟩
   ·rw[h];rfl
   ·omega
  unfold Eh
  split
  ·rename_i y hy
   rcases hM 3 with h|⟨h,_⟩
   ·rw[h]at hy;rw[<- hy]
   ·rw[h]at hy;cases hy
  rw[dif_pos hx]
  have hc:=Classical.choose_spec hx
  generalize Classical.choose hx=n at hc ⊢
  rcases hM n with h|⟨h,_⟩
  ·exact h
  ·rw[h]at hc;cases hc
 have hsort:=sortInt l
 unfold Go.Sort.sort at hsort
 rw[hsz]at hsort
 unfold GJ
 rw[wu64 (by omega) (by omega),len_eq _ (by omega),Bf,hs,Bf,hsort,if_pos (by rw[List.length_mergeSort])]
end Go.Proofs.YtkeokkmhhhhoiaaGreatDoor
