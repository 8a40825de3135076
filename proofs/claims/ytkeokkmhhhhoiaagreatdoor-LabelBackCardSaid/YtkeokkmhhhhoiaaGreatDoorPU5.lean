import Derived.Test.YtkeokkmhhhhoiaaGreatDoorPFit2
import Derived.Laws.Strings
namespace Go.Proofs.YtkeokkmhhhhoiaaGreatDoor
open Go Go.SE
set_option linter.unusedVariables false
set_option linter.unusedSimpArgs false
def KD (r:Int):Int:=
 if r=8204 then 1 else if r=8205 then 2 else if r=183 then 3 else if r=885 then 4 else if r=1523∨r=1524 then 5 else if r=12539 then 6
 else if r>=1632/\r<=1641 then 7 else if r>=1776/\r<=1785 then 8 else 0
theorem AcL (r:Int):LX r=some (KD r):=by
 unfold LX Sn Sq Om KD
 by_cases h1:r=8204
 ·subst h1;rfl
 by_cases h2:r=8205
 ·subst h2;rfl
 by_cases h3:r=183
 ·subst h3;rfl
 by_cases h4:r=885
 ·subst h4;rfl
 by_cases h5:r=1523
 ·subst h5;rfl
 by_cases h6:r=1524
 ·subst h6;rfl
 by_cases h7:r=12539
 ·subst h7;rfl
 rw[beq_false_of_ne h1,beq_false_of_ne h2,beq_false_of_ne h3,beq_false_of_ne h4,beq_false_of_ne h5,beq_false_of_ne h6,beq_false_of_ne h7,if_neg h1,if_neg h2,if_neg h3,if_neg h4,if_neg (by omega),if_neg h7]
 by_cases g1:r>=1632<;>by_cases g2:r<=1641<;>by_cases g3:r>=1776<;>by_cases g4:r<=1785<;>simp[g1,g2,g3,g4]
structure Nw (t:Ag):Prop where
 norm:(VE t.Ca).2=0
 props:(dD t.Ct).2=0
def X6 (t:Ag) (r:Int):Int:=(qJ t.Ct.JY r).1
def M4 (t:Ag) (r:Int):Int:=(qJ t.Ct.J2 r).1
def xE (t:Ag) (r:Int):Int:=KF t.Ca r
theorem Nw.cls {t:Ag} (h:Nw t):ordered t.Ca.Au/\t.Ca.Au.length<=2000:=
 let c:=RX (dB h.norm).cls
 ⟨c.2.1,c.1⟩
theorem join_eq {t:Ag} (h:Nw t) (r:Int):NV t.Ct r=some (X6 t r):=by
 have ho:=Hw h.props (j:=7) (by omega)
 have ho:ordered t.Ct.JY/\t.Ct.JY.length<=2000:=ho
 unfold NV X6
 rw[Iz _ _ (by omega) ho.1];rfl
theorem AiA {t:Ag} (h:Nw t) (r:Int):Nl t.Ct r=some (M4 t r):=by
 have ho:=Hw h.props (j:=8) (by omega)
 have ho:ordered t.Ct.J2/\t.Ct.J2.length<=2000:=ho
 unfold Nl M4
 rw[Iz _ _ (by omega) ho.1];rfl
theorem Aht {t:Ag} (h:Nw t) (r:Int):EF t.Ca r=some (xE t r):=by
 unfold EF xE KF
 have:=h.cls.2
 rw[Iz _ _ (by omega) h.cls.1];rfl
def nS (l:List Int) (i:Int) (p:Int->Bool):Bool:=decide (0<=i/\i<l.length)&&p (l.getD i.toNat 0)
theorem Ajl {t:Ag} (h:Nw t) (l:List Int) (i:Int):EC l i t=some (nS l i fun r=>xE t r==9):=by
 unfold EC Oj nS
 by_cases h1:i>=0
 ·by_cases h2:i<l.length
  ·rw[decide_eq_true h1,decide_eq_true h2,decide_eq_true (show 0<=i/\i<(l.length:Int) from⟨h1,h2⟩),cond_true,cond_true,if_pos ⟨h1,h2⟩,Aht h];rfl
  ·rw[decide_eq_true h1,decide_eq_false h2,decide_eq_false (show ¬(0<=i/\i<(l.length:Int)) by omega)];rfl
 ·rw[decide_eq_false h1,decide_eq_false (show ¬(0<=i/\i<(l.length:Int)) by omega)];rfl
theorem AeP (l:List Int) (i:Int):ED l i=some (nS l i fun r=>r==108):=by
 unfold ED Lr nS
 by_cases h1:i>=0
 ·by_cases h2:i<l.length
  ·rw[decide_eq_true h1,decide_eq_true h2,decide_eq_true (show 0<=i/\i<(l.length:Int) from⟨h1,h2⟩),cond_true,cond_true,if_pos ⟨h1,h2⟩];rfl
  ·rw[decide_eq_true h1,decide_eq_false h2,decide_eq_false (show ¬(0<=i/\i<(l.length:Int)) by omega)];rfl
 ·rw[decide_eq_false h1,decide_eq_false (show ¬(0<=i/\i<(l.length:Int)) by omega)];rfl
theorem Ajm (l:List Int) (i o:Int):F3 l i o=some (nS l i fun r=>KD r==o):=by
 unfold F3 Ol nS
 by_cases h1:i>=0
 ·by_cases h2:i<l.length
  ·rw[decide_eq_true h1,decide_eq_true h2,decide_eq_true (show 0<=i/\i<(l.length:Int) from⟨h1,h2⟩),cond_true,cond_true,if_pos ⟨h1,h2⟩,AcL];rfl
  ·rw[decide_eq_true h1,decide_eq_false h2,decide_eq_false (show ¬(0<=i/\i<(l.length:Int)) by omega)];rfl
 ·rw[decide_eq_false h1,decide_eq_false (show ¬(0<=i/\i<(l.length:Int)) by omega)];rfl
theorem Aei {t:Ag} (h:Nw t) (r:Int) (w:List Int) (hw:w.length<=100):Ki r w t=some (w.any fun x=>M4 t r==x):=by
 unfold Ki
 rw[El w.length (fun i=>if(M4 t r==w.getD i 0)=true then some true else none) (fun i hi _=>?_) (fun _=>?_)]
 ·rw[<- ZX w 0 fun x=>M4 t r==x]
  cases Am (fun i=>if(M4 t r==w.getD i 0)=true then some true else none) w.length 0 with
  |none=>rfl
  |some v=>rfl
 ·unfold K4
  rw[decide_eq_true (by omega),cond_true,if_pos ⟨by omega,by omega⟩,AiA h,Aa,Int.toNat_natCast]
  rcases Bool.eq_false_or_eq_true (M4 t r==w.getD i 0)with h1|h1
  ·simp only[h1,cond_true,if_true]
  ·simp only[h1,cond_false,Bool.false_eq_true,if_false,up (show i<9223372036854775807 by omega)]
 ·unfold K4
  rw[decide_eq_false (by omega)];rfl
theorem AaG {t:Ag} (h:Nw t) (l:List Int) (i:Int) (w:List Int) (hw:w.length<=100):Dc l i w t=some (nS l i fun r=>w.any fun x=>M4 t r==x):=by
 unfold Dc nS
 by_cases h1:i>=0
 ·by_cases h2:i<l.length
  ·rw[decide_eq_true h1,decide_eq_true h2,decide_eq_true (show 0<=i/\i<(l.length:Int) from⟨h1,h2⟩),cond_true,cond_true,if_pos ⟨h1,h2⟩,Aei h _ _ hw];rfl
  ·rw[decide_eq_true h1,decide_eq_false h2,decide_eq_false (show ¬(0<=i/\i<(l.length:Int)) by omega)];rfl
 ·rw[decide_eq_false h1,decide_eq_false (show ¬(0<=i/\i<(l.length:Int)) by omega)];rfl
theorem AeQ {l:List Int} {p:Int->Bool} {i:Nat} (hi:i<l.length):nS l i p=p (l.getD i 0):=by
 unfold nS;rw[decide_eq_true (by omega),Int.toNat_natCast];rfl
theorem AgS {t:Ag} (h:Nw t) (l w:List Int) (hw:w.length<=100) (hl:l.length<=1000):Fa l w t=some (l.any fun r=>w.any fun x=>M4 t r==x):=by
 unfold Fa
 rw[El l.length (fun i=>if(w.any fun x=>M4 t (l.getD i 0)==x)=true then some true else none) (fun i hi _=>?_) (fun _=>?_)]
 ·rw[<- ZX l 0 fun r=>w.any fun x=>M4 t r==x]
  cases Am (fun i=>if(w.any fun x=>M4 t (l.getD i 0)==x)=true then some true else none) l.length 0 with
  |none=>rfl
  |some v=>rfl
 ·unfold F4
  rw[decide_eq_true (by omega),cond_true,AaG h l i w hw,Aa,AeQ hi]
  rcases Bool.eq_false_or_eq_true (w.any fun x=>M4 t (l.getD i 0)==x)with h1|h1
  ·simp only[h1,cond_true,if_true]
  ·simp only[h1,cond_false,Bool.false_eq_true,if_false,up (show i<9223372036854775807 by omega)]
 ·unfold F4
  rw[decide_eq_false (by omega)];rfl
theorem AgT (l:List Int) (o:Int) (hl:l.length<=1000):Fy l o=some (l.any fun r=>KD r==o):=by
 unfold Fy
 rw[El l.length (fun i=>if(KD (l.getD i 0)==o)=true then some true else none) (fun i hi _=>?_) (fun _=>?_)]
 ·rw[<- ZX l 0 fun r=>KD r==o]
  cases Am (fun i=>if(KD (l.getD i 0)==o)=true then some true else none) l.length 0 with
  |none=>rfl
  |some v=>rfl
 ·unfold Gs
  rw[decide_eq_true (by omega),cond_true,Ajm l i o,Aa,AeQ hi]
  rcases Bool.eq_false_or_eq_true (KD (l.getD i 0)==o)with h1|h1
  ·simp only[h1,cond_true,if_true]
  ·simp only[h1,cond_false,Bool.false_eq_true,if_false,up (show i<9223372036854775807 by omega)]
 ·unfold Gs
  rw[decide_eq_false (by omega)];rfl
def MO (t:Ag) (l:List Int) (i:Int):Int:=if 0<=i/\i<l.length then X6 t (l.getD i.toNat 0)else 0
theorem Qg {t:Ag} (h:Nw t) (l:List Int) (i:Int):Ja i l t=some (MO t l i):=by
 unfold Ja O9
 by_cases h1:i<0
 ·have e:MO t l i=0:=if_neg (by omega)
  rw[decide_eq_true h1,e];rfl
 ·by_cases h2:i>=l.length
  ·have e:MO t l i=0:=if_neg (by omega)
   rw[decide_eq_false h1,decide_eq_true h2,e];rfl
  ·have e:MO t l i=X6 t (l.getD i.toNat 0):=if_pos (by omega)
   rw[decide_eq_false h1,decide_eq_false h2,cond_false,Aa,cond_false,if_pos ⟨by omega,by omega⟩,join_eq h,e];rfl
def mO (t:Ag) (l:List Int):Nat->Nat
 |0=>0
 |k+1=>if X6 t (l.getD k 0)=4 then mO t l k else k+1
def rQ (t:Ag) (l:List Int):Nat->Nat->Nat
 |0,i=>i
 |d+1,i=>if X6 t (l.getD i 0)=4 then rQ t l d (i+1)else i
theorem left_eq {t:Ag} (h:Nw t) (l:List Int) (hl:l.length<=1000): ∀k:Nat,k<=l.length->iter (Bo (-1) l t) ((k:Int)-1)=some ((mO t l k:Int)-1)
 |0,hk=>by
  refine Ay ?_
  unfold Bo
  rw[Qg h,Aa,MO,if_neg (by omega)];rfl
 |k+1,hk=>by
  have ih:=left_eq h l hl k (by omega)
  rw[mO]
  have hj:MO t l (((k+1:Nat):Int)-1)=X6 t (l.getD k 0):=by
   rw[show(((k+1:Nat):Int)-1)=(k:Int) by omega,MO,if_pos ⟨by omega,by omega⟩,Int.toNat_natCast]
  by_cases h4:X6 t (l.getD k 0)=4
  ·rw[if_pos h4,<- ih]
   refine Bh ?_
   unfold Bo
   rw[Qg h,Aa,hj,beq_iff_eq.2 h4,cond_true,Gy (by omega) (by omega)]
   rw[show(((k+1:Nat):Int)-1+ -1)=(k:Int)-1 by omega]
  ·rw[if_neg h4]
   refine Ay ?_
   unfold Bo
   rw[Qg h,Aa,hj,beq_false_of_ne h4];rfl
theorem rC {t:Ag} (h:Nw t) (l:List Int) (hl:l.length<=1000): ∀(d i:Nat),i+d=l.length->iter (Bo 1 l t) (i:Int)=some (rQ t l d i:Int)
 |0,i,hd=>by
  refine Ay ?_
  unfold Bo
  rw[Qg h,Aa,MO,if_neg (by omega)];rfl
 |d+1,i,hd=>by
  have ih:=rC h l hl d (i+1) (by omega)
  rw[rQ]
  have hj:MO t l (i:Int)=X6 t (l.getD i 0):=by
   rw[MO,if_pos ⟨by omega,by omega⟩,Int.toNat_natCast]
  by_cases h4:X6 t (l.getD i 0)=4
  ·rw[if_pos h4,<- ih]
   refine Bh ?_
   unfold Bo
   rw[Qg h,Aa,hj,beq_iff_eq.2 h4,cond_true,up (by omega)]
  ·rw[if_neg h4]
   refine Ay ?_
   unfold Bo
   rw[Qg h,Aa,hj,beq_false_of_ne h4];rfl
def gW (t:Ag) (l:List Int) (i:Nat):Bool:=
 (MO t l ((mO t l i:Int)-1)==1||MO t l ((mO t l i:Int)-1)==3)&&(MO t l (rQ t l (l.length-(i+1)) (i+1))==2||MO t l (rQ t l (l.length-(i+1)) (i+1))==3)
theorem AdL {t:Ag} (h:Nw t) (l:List Int) (hl:l.length<=1000) (i:Nat) (hi:i<l.length):Mx t l (i:Int)=some (gW t l i):=by
 unfold Mx Em H9
 rw[up (by omega),rC h l hl (l.length-(i+1)) (i+1) (by omega),Gy (by omega) (by omega),left_eq h l hl i (by omega)]
 simp only[Aa,Qg h]
 unfold gW
 cases (MO t l ((mO t l i:Int)-1)==1)<;>cases (MO t l ((mO t l i:Int)-1)==3)<;>cases (MO t l (rQ t l (l.length-(i+1)) (i+1))==2)<;>rfl
def sH (t:Ag) (r:Int):Bool:=decide (M4 t r>=3)&&decide (M4 t r<=5)
def kE (t:Ag) (l:List Int) (i:Nat):Bool:=
 if KD (l.getD i 0)=1 then gW t l i||nS l ((i:Int)-1) fun r=>xE t r==9
 else if KD (l.getD i 0)=2 then nS l ((i:Int)-1) fun r=>xE t r==9
 else if KD (l.getD i 0)=3 then nS l ((i:Int)-1) (fun r=>r==108)&&nS l ((i+1:Nat):Int) fun r=>r==108
 else if KD (l.getD i 0)=4 then nS l ((i+1:Nat):Int) fun r=>M4 t r==1
 else if KD (l.getD i 0)=5 then nS l ((i:Int)-1) fun r=>M4 t r==2
 else if KD (l.getD i 0)=6 then l.any (sH t)
 else if KD (l.getD i 0)=7 then !l.any fun r=>KD r==8
 else if KD (l.getD i 0)=8 then !l.any fun r=>KD r==7
 else false
theorem AbK (r:Int):KD r=0∨KD r=1∨KD r=2∨KD r=3∨KD r=4∨KD r=5∨KD r=6∨KD r=7∨KD r=8:=by
 unfold KD
 repeat' split
 all_goals simp
theorem sI {α:Type} (x:Option α):(Option.bind x fun y=>some y)=x:=by cases x<;>rfl
theorem Af0 {t:Ag} (h:Nw t) (l:List Int) (hl:l.length<=1000) (i:Nat) (hi:i<l.length):Np t l (i:Int)=some (kE t l i):=by
 unfold Np
 rw[decide_eq_false (by omega),decide_eq_false (by omega),cond_false,Aa]
 unfold Ro QF
 rw[cond_false,if_pos ⟨by omega,by omega⟩,AcL,Aa,AdL h l hl i hi,Ajl h,AeP,AeP,up (by omega),Gy (x:=(i:Int)-1) (by omega) (by omega)]
 simp only[Aa,sI,Ie,AaG h l _ [1] (by decide),AaG h l _ [2] (by decide),AgS h l [3,4,5] (by decide) hl,AgT l _ hl,Int.toNat_natCast]
 unfold kE
 rcases AbK (l.getD i 0)with e|e|e|e|e|e|e|e|e<;>rw[e]
 ·rfl
 ·cases gW t l i<;>rfl
 ·rfl
 ·cases (nS l ((i:Int)-1) fun r=>r==108)<;>rfl
 ·show some (nS l ((i+1:Nat):Int) fun r=> [1].any fun x=>M4 t r==x)=some (nS l ((i+1:Nat):Int) fun r=>M4 t r==1)
  simp only[List.any_cons,List.any_nil,Bool.or_false]
 ·show some (nS l ((i:Int)-1) fun r=> [2].any fun x=>M4 t r==x)=some (nS l ((i:Int)-1) fun r=>M4 t r==2)
  simp only[List.any_cons,List.any_nil,Bool.or_false]
 ·show some (l.any fun r=> [3,4,5].any fun x=>M4 t r==x)=some (l.any (sH t))
  have:(fun r=> [3,4,5].any fun x=>M4 t r==x)=sH t:=by
   funext r
   rw[Bool.eq_iff_iff]
   simp only[sH,List.any_cons,List.any_nil,Bool.or_false,Bool.or_eq_true,beq_iff_eq,Bool.and_eq_true,decide_eq_true_eq]
   omega
  rw[this]
 ·rfl
 ·rfl
def lX (r:Int):Bool:=decide (r>=0)&&decide (r<=1114111)&& !(decide (r>=55296)&&decide (r<=57343))
theorem WW (r:Int):CF r=some (lX r):=by
 unfold CF lX
 by_cases h1:r>=0
 ·by_cases h2:r<=1114111
  ·by_cases h3:r<55296
   ·rw[decide_eq_true h1,decide_eq_true h2,decide_eq_true h3,decide_eq_false (show ¬r>=55296 by omega)];rfl
   ·rw[decide_eq_true h1,decide_eq_true h2,decide_eq_false h3,decide_eq_true (show r>=55296 by omega)]
    by_cases h4:r>57343
    ·rw[decide_eq_true h4,decide_eq_false (show ¬r<=57343 by omega)];rfl
    ·rw[decide_eq_false h4,decide_eq_true (show r<=57343 by omega)];rfl
  ·rw[decide_eq_true h1,decide_eq_false h2];rfl
 ·rw[decide_eq_false h1];rfl
def Akq (r:Int):Bool:=(decide (r>=97)&&decide (r<=122))||((decide (r>=48)&&decide (r<=57))||r==45)
theorem Akr (r:Int):NM r=some (Akq r):=by
 unfold NM Akq
 cases decide (r>=97)<;>cases decide (r<=122)<;>cases decide (r>=48)<;>cases decide (r<=57)<;>rfl
def uI (l:List Ap) (r:Int):Bool:=(qJ l r).2
theorem has_eq {l:List Ap} (ho:ordered l/\l.length<=2000) (r:Int):FV l r=some (uI l r):=by
 unfold FV O8 uI
 rw[Iz _ _ (by omega) ho.1];rfl
def V4 (p:Bb) (r:Int):Int:=
 if(!lX r)=true then 1 else if uI p.Ev r=true then 2 else if uI p.Gt r=true then 3 else if Akq r=true then 4 else if uI p.JX r=true then 5
 else if uI p.Hl r=true then 6 else if uI p.I7 r=true then 7 else if uI p.Hg r=true then 8 else if uI p.JZ r=true then 9 else 10
theorem AkG {p:Bb} (h:R6 p) (r:Int):Qw p r=some (V4 p r):=by
 have o0:ordered p.Ev/\p.Ev.length<=2000:=Hw h (j:=0) (by omega)
 have o1:ordered p.Gt/\p.Gt.length<=2000:=Hw h (j:=1) (by omega)
 have o2:ordered p.JX/\p.JX.length<=2000:=Hw h (j:=2) (by omega)
 have o3:ordered p.Hl/\p.Hl.length<=2000:=Hw h (j:=3) (by omega)
 have o4:ordered p.I7/\p.I7.length<=2000:=Hw h (j:=4) (by omega)
 have o5:ordered p.Hg/\p.Hg.length<=2000:=Hw h (j:=5) (by omega)
 have o6:ordered p.JZ/\p.JZ.length<=2000:=Hw h (j:=6) (by omega)
 unfold Qw V4
 rw[WW,has_eq o0,has_eq o1,has_eq o2,has_eq o3,has_eq o4,has_eq o5,has_eq o6,Akr]
 simp only[Aa,YQ]
 repeat' split
 all_goals rfl
theorem Aev (p:Bb) (r:Int):V4 p r=1∨V4 p r=2∨V4 p r=3∨V4 p r=4∨V4 p r=5∨V4 p r=6∨V4 p r=7∨V4 p r=8∨V4 p r=9∨V4 p r=10:=by
 unfold V4
 repeat' split
 all_goals simp
def ofF (p:Bb) (r:Int):Int:=
 if V4 p r=2 then(qJ p.Ev r).1 else if V4 p r=3 then 5 else if V4 p r=4∨V4 p r=9 then 1 else if V4 p r=5 then 2 else 4
theorem of_eq {p:Bb} (h:R6 p) (r:Int):O6 p r=some (ofF p r):=by
 have o0:ordered p.Ev/\p.Ev.length<=2000:=Hw h (j:=0) (by omega)
 unfold O6 ofF
 rw[AkG h,Aa,Iz _ _ (by omega) o0.1]
 rcases Aev p r with e|e|e|e|e|e|e|e|e|e<;>rw[e]<;>rfl
theorem ofInt64 {a:Nat} :BitVec.ofInt 64 (a:Int)=BitVec.ofNat 64 a:=BitVec.ofInt_natCast ..
theorem Za {a b:Nat} (ha:a<18446744073709551616) (hb:b<18446744073709551616):ior .u64 (a:Int) (b:Int)=((a|||b:Nat):Int):=by
 show IntKind.wrap .u64 (((BitVec.ofInt 64 (a:Int)|||BitVec.ofInt 64 (b:Int)).toNat:Nat):Int)=_
 rw[ofInt64,ofInt64,BitVec.toNat_or,BitVec.toNat_ofNat,BitVec.toNat_ofNat,Nat.mod_eq_of_lt (by simpa using ha),Nat.mod_eq_of_lt (by simpa using hb)]
 have h:a|||b<2 ^ 64:=Nat.or_lt_two_pow (by simpa using ha) (by simpa using hb)
 rw[wu64 (by omega) (by omega)]
theorem Af7 {a:Nat} (ha:a<18446744073709551616):XI .u64 (a:Int) 1=((a&&& 1:Nat):Int):=by
 show IntKind.wrap .u64 (((BitVec.ofInt 64 (a:Int)&&& BitVec.ofInt 64 ((1:Nat):Int)).toNat:Nat):Int)=_
 rw[ofInt64,ofInt64,BitVec.toNat_and,BitVec.toNat_ofNat,BitVec.toNat_ofNat,Nat.mod_eq_of_lt (by simpa using ha)]
 have h:a&&& 1<=1:=Nat.and_le_right
 rw[show(1%2 ^ 64)=1 from rfl,wu64 (by omega) (by omega)]
theorem fdiv_pow (a d:Nat):Int.fdiv (a:Int) (2 ^ d)=((a>>>d:Nat):Int):=by
 rw[Int.fdiv_eq_ediv_of_nonneg _ (Int.pow_nonneg (by omega)),Nat.shiftRight_eq_div_pow]
 simp
def tF (p:Bb) (r:Int):Int:=if(qJ p.DJ r).2=true then(qJ p.DJ r).1 else 1
theorem Ajt {p:Bb} (h:R6 p):ordered p.DJ/\p.DJ.length<=2000:=Hw h (j:=9) (by omega)
theorem Aju {p:Bb} (h:R6 p) (r:Int):KH p r=some (tF p r):=by
 have ho:=Ajt h
 unfold KH tF
 rw[Iz _ _ (by omega) ho.1,Aa]
 cases (qJ p.DJ r).2<;>rfl
theorem qC {p:Bb} (h:R6 p) (r:Int):1<=tF p r/\tF p r<=11:=by
 unfold tF
 by_cases hf:(qJ p.DJ r).2=true
 ·rw[if_pos hf]
  unfold qJ at hf ⊢
  cases hx:p.DJ.find? (XF r)with
  |none=>rw[hx]at hf;cases hf
  |some x=>
   have hm:=List.mem_of_find?_eq_some hx
   obtain⟨i,hi,rfl⟩:=List.getElem_of_mem hm
   have hv:=(dF h 9 (by omega)).2 i hi
   have e:(((tabs p).getD 9 []).getD i Ai)=p.DJ[i]:=by
     show p.DJ.getD i Ai=_
     simp[List.getD_eq_getElem?_getD,hi]
   have e11:mxs.getD 9 0=11:=rfl
   unfold Ab1 at hv
   rw[e,e11]at hv
   split at hv
   ·cases hv
   ·rename_i hc
    simp only[AjB]
    omega
 ·rw[if_neg hf];omega
def dirs (p:Bb) (l:List Int):List Int:=l.map (tF p)
theorem xP (p:Bb) (l:List Int) {i:Nat} (hi:i<l.length):(dirs p l).getD i 0=tF p (l.getD i 0):=by
 simp[dirs,List.getD_eq_getElem?_getD,hi]
theorem QE (p:Bb) (l:List Int):(dirs p l).length=l.length:=by simp[dirs]
def AcR (d:List Int):Prop:= ∀i,i<d.length->1<=d.getD i 0/\d.getD i 0<=11
theorem qD {p:Bb} (h:R6 p) (l:List Int):AcR (dirs p l):=fun i hi=>by
 rw[xP p l (by rwa[QE]at hi)]
 exact qC h _
theorem Ab9 {p:Bb} (h:R6 p) (l:List Int) (hl:l.length<=1000):Sj p l=some (dirs p l):=by
 unfold Sj
 rw[if_pos ⟨by omega,by omega,by omega⟩]
 have key: ∀(k i:Nat),i+k=l.length->iter (NK p l) ((dirs p l).take i++List.replicate k 0,(i:Int))=some (dirs p l):=by
  intro k
  induction k with
  |zero=>
   intro i hi
   rw[Ay (x:=dirs p l)]
   unfold NK
   simp only[decide_eq_false (show ¬(i:Int)<((l.length:Nat):Int) by omega),cond_false,List.replicate_zero,List.append_nil]
   rw[List.take_of_length_le (by rw[QE];omega)]
  |succ k ih=>
   intro i hi
   have hil:i<l.length:=by omega
   rw[Bh (s':=((dirs p l).take (i+1)++List.replicate k 0,((i+1:Nat):Int))),ih (i+1) (by omega)]
   unfold NK
   have hd:=qC h (l.getD i 0)
   have hlen:((dirs p l).take i++List.replicate (k+1) (0:Int)).length=l.length:=by
       rw[List.length_append,List.length_take,List.length_replicate,QE];omega
   simp only[decide_eq_true (show(i:Int)<((l.length:Nat):Int) by omega),cond_true,if_pos (show 0<=(i:Int)/\(i:Int)<((l.length:Nat):Int) by omega),Int.toNat_natCast,Aju h,Aa,hlen,up (show i<9223372036854775807 by omega)]
   rw[show max (0:Int) (min (tF p (l.getD i 0)) 31)=tF p (l.getD i 0) by omega]
   congr 4
   have hti:((dirs p l).take i).length=i:=by rw[List.length_take,QE];omega
   rw[List.set_append,if_neg (by omega),hti,Nat.sub_self,List.replicate_succ,List.set_cons_zero,<- xP p l hil]
   have:(dirs p l).take (i+1)=(dirs p l).take i++ [(dirs p l).getD i 0]:=by
       rw[List.take_succ_eq_append_getElem (by rw[QE];exact hil)]
       simp[List.getD_eq_getElem?_getD,show i<(dirs p l).length by rw[QE];exact hil]
   rw[this,List.append_assoc]
   rfl
 have h0:=key l.length 0 (by omega)
 have h0:iter (NK p l) (List.replicate l.length 0,0)=some (dirs p l):=h0
 rw[h0];rfl
theorem Y4 {n:Nat} (hn:n<18446744073709551616) {d:Int} (h0:0<=d) (hd:d<64):GX (n:Int) d=some (n.testBit d.toNat):=by
 unfold GX
 rw[if_pos h0,show IntKind.bits .u64=64 from rfl,Nat.min_eq_left (by omega),fdiv_pow,Af7 (Nat.lt_of_le_of_lt (Nat.shiftRight_le _ _) hn)]
 congr 1
 rw[Nat.testBit,Nat.and_comm]
 have hle:(1&&& n>>>d.toNat)<=1:=Nat.and_le_left
 by_cases h1:(1&&& n>>>d.toNat)=1
 ·rw[h1];rfl
 ·have h1:(1&&& n>>>d.toNat)=0:=by omega
  rw[h1];rfl
theorem one_pow {d:Int} (h0:0<=d) (hd:d<64):IntKind.wrap .u64 ((1:Int)*2 ^ (min d.toNat (IntKind.bits .u64)))=((2 ^ d.toNat:Nat):Int):=by
 rw[show IntKind.bits .u64=64 from rfl,Nat.min_eq_left (by omega),Int.one_mul]
 have h:(2:Nat) ^ d.toNat<2 ^ 64:=Nat.pow_lt_pow_right (by omega) (by omega)
 have e:((2:Int) ^ d.toNat)=((2 ^ d.toNat:Nat):Int):=by simp
 rw[e]
 generalize (2:Nat) ^ d.toNat=m at h ⊢
 rw[wu64 (by omega) (by omega)]
def bitsOf (l:List Int):Nat:=l.foldl (fun n d=>n|||2 ^ d.toNat) 0
theorem bB (l:List Int) (hl:l.length<=1000) (h: ∀d∈l,0<=d/\d<64):Ic l=some ((bitsOf l:Nat):Int):=by
 unfold Ic
 have key: ∀(k i n:Nat),i+k=l.length->n<2 ^ 64->iter (O5 l) ((n:Int),(i:Int))=some (((l.drop i).foldl (fun n (d:Int)=>n|||2 ^ d.toNat) n:Nat):Int):=by
  intro k
  induction k with
  |zero=>
   intro i n hi hn
   rw[List.drop_of_length_le (by omega)]
   refine Ay ?_
   unfold O5
   rw[decide_eq_false (by omega)];rfl
  |succ k ih=>
   intro i n hi hn
   have hil:i<l.length:=by omega
   have hd:=h _ (Fe (d:=(0:Int)) hil)
   have hp:(2:Nat) ^ (l.getD i 0).toNat<2 ^ 64:=Nat.pow_lt_pow_right (by omega) (by omega)
   rw[Bh (s':=(((n|||2 ^ (l.getD i 0).toNat:Nat):Int),((i+1:Nat):Int))),ih (i+1) _ (by omega) (Nat.or_lt_two_pow hn hp),UD (d:=(0:Int)) hil,List.foldl_cons]
   unfold O5
   simp only[decide_eq_true (show(i:Int)<((l.length:Nat):Int) by omega),cond_true,if_pos (show 0<=(i:Int)/\(i:Int)<((l.length:Nat):Int) by omega),Int.toNat_natCast,if_pos hd.1,up (show i<9223372036854775807 by omega)]
   rw[one_pow hd.1 hd.2,Za (by omega) (by omega)]
 have h0:=key l.length 0 0 (by omega) (by omega)
 have h0:iter (O5 l) (0,0)=some ((bitsOf l:Nat):Int):=h0
 rw[h0];rfl
def Um (d:List Int) (n:Nat) (b:Bool) (i:Nat):Option Int:=if(n.testBit (d.getD i 0).toNat==b)=true then some (i:Int)else none
theorem Z0 {d:List Int} (hD:AcR d) (hl:d.length<=1000) {n:Nat} (hn:n<18446744073709551616) (b:Bool):Nk d (n:Int) b=some ((Am (Um d n b) d.length 0).getD (-1)):=by
 unfold Nk
 rw[El d.length (Um d n b) (fun i hi _=>?_) (fun _=>?_)]
 ·cases Am (Um d n b) d.length 0<;>rfl
 ·have h1:=hD i hi
  unfold QZ Um
  rw[decide_eq_true (by omega),cond_true,if_pos ⟨by omega,by omega⟩,Int.toNat_natCast,Y4 hn (by omega) (by omega),Aa,up (by omega)]
  cases (n.testBit (d.getD i 0).toNat==b)<;>rfl
 ·unfold QZ
  rw[decide_eq_false (by omega)];rfl
def YX (d:List Int):Nat->Option Nat
 |0=>none
 |n+1=>if d.getD n 0≠10 then some n else YX d n
theorem tJ {d:List Int} : ∀ {n e:Nat},YX d n=some e->e<n/\d.getD e 0≠10
 |0,e,h=>by cases h
 |n+1,e,h=>by
  rw[YX]at h
  split at h
  ·cases h;exact⟨by omega,by assumption⟩
  ·have:=tJ h;exact⟨by omega,this.2⟩
theorem aH {d:List Int} (h0:d.getD 0 0≠10): ∀ {n:Nat},0<n-> ∃e,YX d n=some e
 |0,h=>absurd h (Nat.lt_irrefl _)
 |n+1,_=>by
  rw[YX]
  split
  ·exact⟨_,rfl⟩
  ·rename_i hn
   cases n with
   |zero=>exact absurd h0 hn
   |succ n=>exact aH h0 (by omega)
theorem Aie (d:List Int) (hl:d.length<=1000):TL d=some (match YX d d.length with|some e=>(e:Int)|none=> -1):=by
 unfold TL
 have key: ∀n,n<=d.length->iter (O4 d) ((n:Int)-1)=some (match YX d n with|some e=>(e:Int)|none=> -1):=by
  intro n
  induction n with
  |zero=>
   intro _
   refine Ay ?_
   rfl
  |succ n ih=>
   intro hn
   have e0:(((n+1:Nat):Int)-1)=(n:Int):=by omega
   rw[e0]
   by_cases h:d.getD n 0=10
   ·rw[Bh (s':=(n:Int)-1),ih (by omega),YX,if_neg (fun h'=>h' h)]
    unfold O4
    rw[decide_eq_true (by omega),cond_true,if_pos ⟨by omega,by omega⟩,Int.toNat_natCast,h,Aa]
    unfold Wz
    rw[Gy (by omega) (by omega)];rfl
   ·rw[YX,if_pos h]
    refine Ay ?_
    unfold O4
    rw[decide_eq_true (by omega),cond_true,if_pos ⟨by omega,by omega⟩,Int.toNat_natCast,beq_false_of_ne h,Aa]
    rfl
 rw[Gy (by omega) (by omega),key _ (Nat.le_refl _)];rfl
def UU (d:List Int) (k:Int) (i:Nat):Bool:=(d.take i).any (·==k)
theorem mJ (d:List Int) (k:Int) {i:Nat} (hi:i<d.length):UU d k (i+1)=(UU d k i||d.getD i 0==k):=by
 unfold UU
 rw[List.take_succ_eq_append_getElem hi,List.any_append]
 simp[List.getD_eq_getElem?_getD,hi]
def Vy (d:List Int) (i:Nat):Option Int:=if(UU d 4 (i+1)&&UU d 5 (i+1))=true then some (i:Int)else none
theorem Ahr {d:List Int} (hD:AcR d) (hl:d.length<=1000):TK d=some ((Am (Vy d) d.length 0).getD (-1)):=by
 unfold TK
 have key: ∀(k i n:Nat),i+k=d.length->n<2 ^ 64->n.testBit 4=UU d 4 i->n.testBit 5=UU d 5 i->iter (K3 d) ((n:Int),(i:Int))=some (Nv (Am (Vy d) k i)):=by
  intro k
  induction k with
  |zero=>
   intro i n hi hn _ _
   refine Ay ?_
   unfold K3
   rw[decide_eq_false (by omega)];rfl
  |succ k ih=>
   intro i n hi hn h4 h5
   have hil:i<d.length:=by omega
   have hd:=hD i hil
   have hp:(2:Nat) ^ (d.getD i 0).toNat<2 ^ 64:=Nat.pow_lt_pow_right (by omega) (by omega)
   have hn':n|||2 ^ (d.getD i 0).toNat<2 ^ 64:=Nat.or_lt_two_pow hn hp
   have t4:(n|||2 ^ (d.getD i 0).toNat).testBit 4=UU d 4 (i+1):=by
       rw[Nat.testBit_or,h4,mJ d 4 hil,Nat.testBit_two_pow]
       congr 1
       by_cases h:d.getD i 0=4
       ·rw[h];rfl
       ·rw[beq_false_of_ne h];exact decide_eq_false (by omega)
   have t5:(n|||2 ^ (d.getD i 0).toNat).testBit 5=UU d 5 (i+1):=by
       rw[Nat.testBit_or,h5,mJ d 5 hil,Nat.testBit_two_pow]
       congr 1
       by_cases h:d.getD i 0=5
       ·rw[h];rfl
       ·rw[beq_false_of_ne h];exact decide_eq_false (by omega)
   have hof:Ic [d.getD i 0]=some (((2:Nat) ^ (d.getD i 0).toNat:Nat):Int):=by
       rw[bB _ (by simp) (fun x hx=>by have hx:=List.mem_singleton.1 hx;subst hx;omega)]
       simp[bitsOf]
   have hbody:K3 d ((n:Int),(i:Int))=some (match Vy d i with|none=>.next (((n|||2 ^ (d.getD i 0).toNat:Nat):Int),((i+1:Nat):Int))|some v=>.done (.inr v)):=by
       unfold K3
       simp only[decide_eq_true (show(i:Int)<((d.length:Nat):Int) by omega),cond_true,if_pos (show 0<=(i:Int)/\(i:Int)<((d.length:Nat):Int) by omega),Int.toNat_natCast]
       rw[hof,Aa,Za (by omega) (by omega),Y4 (by omega) (by omega) (by omega),Y4 (by omega) (by omega) (by omega)]
       simp only[Aa,show Int.toNat 4=4 from rfl,show Int.toNat 5=5 from rfl,t4,t5,Wy,Vy,up (show i<9223372036854775807 by omega),Za (show n<18446744073709551616 by omega) (show 2 ^ (d.getD i 0).toNat<18446744073709551616 by omega)]
       cases UU d 4 (i+1)<;>cases UU d 5 (i+1)<;>rfl
   rw[Am]
   cases hb:Vy d i with
   |none=>rw[hb]at hbody;rw[Bh hbody];exact ih (i+1) _ (by omega) hn' t4 t5
   |some v=>rw[hb]at hbody;rw[Ay hbody];rfl
 have h0:=key d.length 0 0 (by omega) (by omega) (by simp[UU]) (by simp[UU])
 have h0:iter (K3 d) (0,0)=some (Nv (Am (Vy d) d.length 0)):=h0
 rw[h0]
 cases Am (Vy d) d.length 0<;>rfl
def Agb (x:Int):Bool:=x==2||(x==3||x==5)
def isR (d:List Int) (i:Nat):Option Int:=if Agb (d.getD i 0)=true then some (i:Int)else none
def is1 (d:List Int) (i:Nat):Option Int:=if d.getD i 0=1 then some (i:Int)else none
def brF (d:List Int):Int×Int:=
 if d.length=0 then(1,0)
 else if d.getD 0 0>3 then(1,0)
 else if d.getD 0 0>1 then
  match Am (is1 d) d.length 0 with
  |some i=>(2,i)
  |none=>
   if d.getD ((YX d d.length).getD 0) 0>5 then(3,(((YX d d.length).getD 0:Nat):Int))
   else match Am (Vy d) d.length 0 with
       |some i=>(4,i)
       |none=>(0,0)
 else
  match Am (isR d) d.length 0 with
  |some i=>(5,i)
  |none=>if d.getD ((YX d d.length).getD 0) 0≠1/\d.getD ((YX d d.length).getD 0) 0≠4 then(6,(((YX d d.length).getD 0:Nat):Int))else(0,0)
theorem eleven {x:Int} (h:1<=x/\x<=11):x=1∨x=2∨x=3∨x=4∨x=5∨x=6∨x=7∨x=8∨x=9∨x=10∨x=11:=by omega
theorem AkD {x:Int} (h:1<=x/\x<=11):((4050:Nat).testBit x.toNat==false)=Agb x:=by
 rcases eleven h with rfl|rfl|rfl|rfl|rfl|rfl|rfl|rfl|rfl|rfl|rfl<;>decide
theorem An8 {x:Int} (h:1<=x/\x<=11):((44:Nat).testBit x.toNat==true)=Agb x:=by
 rcases eleven h with rfl|rfl|rfl|rfl|rfl|rfl|rfl|rfl|rfl|rfl|rfl<;>decide
theorem AkE {x:Int} (h:1<=x/\x<=11):((4092:Nat).testBit x.toNat==false)=decide (x=1):=by
 rcases eleven h with rfl|rfl|rfl|rfl|rfl|rfl|rfl|rfl|rfl|rfl|rfl<;>decide
theorem An9 {x:Int} (h:1<=x/\x<=11):(60:Nat).testBit x.toNat=decide (x≠1/\x<=5):=by
 rcases eleven h with rfl|rfl|rfl|rfl|rfl|rfl|rfl|rfl|rfl|rfl|rfl<;>decide
theorem An7 {x:Int} (h:1<=x/\x<=11):(18:Nat).testBit x.toNat=decide (x=1∨x=4):=by
 rcases eleven h with rfl|rfl|rfl|rfl|rfl|rfl|rfl|rfl|rfl|rfl|rfl<;>decide
theorem Adr {d:List Int} (hD:AcR d):Am (Um d 4050 false) d.length 0=Am (isR d) d.length 0:=
 Ho fun j _ hj=>by unfold Um isR;rw[AkD (hD j (by omega))]
theorem AhL {d:List Int} (hD:AcR d):Am (Um d 44 true) d.length 0=Am (isR d) d.length 0:=
 Ho fun j _ hj=>by unfold Um isR;rw[An8 (hD j (by omega))]
theorem Ads {d:List Int} (hD:AcR d):Am (Um d 4092 false) d.length 0=Am (is1 d) d.length 0:=
 Ho fun j _ hj=>by unfold Um is1;rw[AkE (hD j (by omega))];by_cases h:d.getD j 0=1<;>simp[h]
theorem lD:MQ=some 4032:=by
 unfold MQ
 rw[bB _ (by decide) (by decide)];rfl
theorem AnU:Ic [1,4]=some 18:=by rw[bB _ (by decide) (by decide)];rfl
theorem Akv:Ic [2,3,5,4]=some 60:=by rw[bB _ (by decide) (by decide)];rfl
theorem Aku:Ic [2,3,4,5]=some 60:=by rw[bB _ (by decide) (by decide)];rfl
theorem Al0:Ic [2,3,5]=some 44:=by rw[bB _ (by decide) (by decide)];rfl
theorem or1:ior .u64 4032 18=((4050:Nat):Int):=by rw[show(4032:Int)=((4032:Nat):Int) from rfl,show(18:Int)=((18:Nat):Int) from rfl,Za (by omega) (by omega)];rfl
theorem or2:ior .u64 4032 60=((4092:Nat):Int):=by rw[show(4032:Int)=((4032:Nat):Int) from rfl,show(60:Int)=((60:Nat):Int) from rfl,Za (by omega) (by omega)];rfl
theorem Xb {f:Nat->Option Int} (hf: ∀i v,f i=some v->v=(i:Int)) {k i:Nat} {v:Int} (h:Am f k i=some v):0<=v:=by
 obtain⟨j,_,_,hj,_⟩:=Br h
 have:=hf j v hj
 omega
theorem Acw (d:List Int): ∀i v,isR d i=some v->v=(i:Int):=fun i v h=>by unfold isR at h;split at h<;>cases h;rfl
theorem Ah8 (d:List Int): ∀i v,is1 d i=some v->v=(i:Int):=fun i v h=>by unfold is1 at h;split at h<;>cases h;rfl
theorem Ac1 (d:List Int): ∀i v,Vy d i=some v->v=(i:Int):=fun i v h=>by unfold Vy at h;split at h<;>cases h;rfl
theorem Ac3 {p:Bb} (h:R6 p) (l:List Int) (hl:l.length<=1000):Qv p l=some (brF (dirs p l)):=by
 unfold Qv
 rw[Ab9 h l hl,Aa]
 have hD:=qD h l
 have hld:(dirs p l).length<=1000:=by rw[QE];exact hl
 generalize dirs p l=d at hD hld
 unfold brF
 by_cases h0:d.length=0
 ·rw[if_pos h0,h0];rfl
 rw[if_neg h0,show(((d.length:Nat):Int)==0)=false from beq_false_of_ne (by omega),cond_false,Aie d hld,Aa,if_pos ⟨by omega,by omega⟩]
 have ha:=hD 0 (by omega)
 by_cases h1:d.getD 0 0=1
 ·obtain⟨e,he⟩:=aH (d:=d) (by rw[h1];decide) (n:=d.length) (by omega)
  have hel:=(tJ he).1
  have hz:=hD e hel
  rw[he,h1,if_neg (by decide),if_neg (by decide)]
  simp only[Option.getD_some,show((1:Int)==1)=true from rfl,cond_true]
  rw[lD,AnU]
  simp only[Aa]
  rw[or1,Z0 hD hld (by omega),Adr hD,Aa]
  cases hf:Am (isR d) d.length 0 with
  |some v=>
   have:=Xb (Acw d) hf
   simp only[Option.getD_some,decide_eq_true (show v>=0 from this),cond_true,Aa]
  |none=>
   simp only[Option.getD_none,show(decide ((-1:Int)>=0))=false from rfl,cond_false]
   rw[if_pos ⟨by omega,by omega⟩,Int.toNat_natCast,show(18:Int)=((18:Nat):Int) from rfl,Y4 (by omega) (by omega) (by omega),An7 hz,Aa]
   by_cases hc:d.getD e 0=1∨d.getD e 0=4
   ·rw[decide_eq_true hc,if_neg (by omega)];rfl
   ·rw[decide_eq_false hc,if_pos (by omega)];rfl
 ·by_cases h2:d.getD 0 0=2∨d.getD 0 0=3
  ·obtain⟨e,he⟩:=aH (d:=d) (by omega) (n:=d.length) (by omega)
   have hel:=(tJ he).1
   have hz:=hD e hel
   have hK:Nj d (e:Int) ()=some (match Am (is1 d) d.length 0 with
         |some i=>(2,i)
         |none=>if d.getD e 0>5 then(3,(e:Int))else match Am (Vy d) d.length 0 with|some i=>(4,i)|none=>(0,0)):=by
    unfold Nj
    rw[lD,Akv,Aku]
    simp only[Aa]
    rw[or2,Z0 hD hld (by omega),Ads hD,Aa]
    cases hf:Am (is1 d) d.length 0 with
    |some v=>
     have:=Xb (Ah8 d) hf
     simp only[Option.getD_some,decide_eq_true (show v>=0 from this),cond_true]
    |none=>
     have hne:d.getD e 0≠1:=fun hq=>by
         have:=Bl.1 hf e (Nat.zero_le _) (by omega)
         unfold is1 at this
         rw[if_pos hq]at this
         cases this
     simp only[Option.getD_none,show(decide ((-1:Int)>=0))=false from rfl,cond_false]
     rw[if_pos ⟨by omega,by omega⟩,Int.toNat_natCast,show(60:Int)=((60:Nat):Int) from rfl,Y4 (by omega) (by omega) (by omega),An9 hz,Aa]
     by_cases hc:d.getD e 0>5
     ·rw[if_pos hc,decide_eq_false (by omega)];rfl
     ·rw[if_neg hc,decide_eq_true ⟨hne,by omega⟩,Ahr hD hld]
      simp only[Bool.not_true,cond_false,Aa]
      cases hb:Am (Vy d) d.length 0 with
      |some v=>
       have:=Xb (Ac1 d) hb
       simp only[Option.getD_some,decide_eq_true (show v>=0 from this),cond_true]
      |none=>rfl
   rw[he,if_neg (by omega),if_pos (by omega),beq_false_of_ne h1]
   simp only[Option.getD_some,cond_false]
   rw[<- hK]
   rcases h2 with h2|h2<;>rw[h2]<;>rfl
  ·rw[if_pos (by omega),beq_false_of_ne h1,beq_false_of_ne (show d.getD 0 0≠2 by omega),beq_false_of_ne (show d.getD 0 0≠3 by omega)];rfl
def AbH (p:Bb) (l:List Int):Bool:=(dirs p l).any Agb
theorem Ahk (d:List Int):(match Am (isR d) d.length 0 with|none=>false|some _=>true)=d.any Agb:=by
 cases hf:Am (isR d) d.length 0 with
 |none=>
  have h:=Bl.1 hf
  refine Eq.symm (List.any_eq_false.2 fun x hx=>?_)
  obtain⟨i,hi,rfl⟩:=List.getElem_of_mem hx
  have:=h i (Nat.zero_le _) (by omega)
  have e:d.getD i 0=d[i]:=by simp[List.getD_eq_getElem?_getD,hi]
  unfold isR at this
  rw[e]at this
  split at this
  ·cases this
  ·assumption
 |some w=>
  obtain⟨j,_,hj,h,_⟩:=Br hf
  refine Eq.symm (List.any_eq_true.2 ⟨d.getD j 0,Fe (by omega),?_⟩)
  unfold isR at h
  split at h
  ·assumption
  ·cases h
theorem Ac2 {p:Bb} (h:R6 p) (l:List Int) (hl:l.length<=1000):RI p l=some (AbH p l):=by
 unfold RI AbH
 have hD:=qD h l
 have hld:(dirs p l).length<=1000:=by rw[QE];exact hl
 rw[Ab9 h l hl,Aa,Al0,Aa,show(44:Int)=((44:Nat):Int) from rfl,Z0 hD hld (by omega),AhL hD,Aa,<- Ahk]
 cases hf:Am (isR (dirs p l)) (dirs p l).length 0 with
 |none=>rfl
 |some v=>
  have:=Xb (Acw _) hf
  simp only[Option.getD_some,decide_eq_true (show v>=0 from this)]
theorem wu8 {x:Int} (h:0<=x) (h':x<=255):IntKind.wrap .u8 x=x:=by
 have e1:(IntKind.u8).bits=8:=rfl
 have e2:(IntKind.u8).signed=false:=rfl
 simp only[IntKind.wrap,e1,e2,Bool.false_and]
 simp
 omega
def R9 (v:Int):List Int:=
 if v<128 then [v]else if v<2048 then [192+v/64,128+v%64]
 else if v<65536 then [224+v/4096,128+v/64%64,128+v%64]
 else [240+v/262144,128+v/4096%64,128+v/64%64,128+v%64]
theorem AhM {v:Int} (h0:0<=v) (h1:v<=1114111):Ou v=some (strOfNums (R9 v)):=by
 unfold Ou R9
 have d: ∀k:Int,Int.tdiv v k=v/k:=fun k=>Int.tdiv_eq_ediv_of_nonneg h0
 by_cases a:v<128
 ·rw[decide_eq_true a,cond_true,if_pos a,wu8 h0 (by omega)]
 rw[decide_eq_false a,cond_false,if_neg a]
 by_cases b:v<2048
 ·rw[decide_eq_true b,cond_true,if_pos b,d,Int.tmod_eq_emod_of_nonneg h0,w32 (x:=v/64) (by omega) (by omega),w32 (by omega) (by omega),w32 (by omega) (by omega),wu8 (by omega) (by omega),wu8 (by omega) (by omega)]
 rw[decide_eq_false b,cond_false,if_neg b]
 by_cases c:v<65536
 ·rw[decide_eq_true c,cond_true,if_pos c,d,d,w32 (x:=v/64) (by omega) (by omega),w32 (x:=v/4096) (by omega) (by omega),Int.tmod_eq_emod_of_nonneg h0,Int.tmod_eq_emod_of_nonneg (by omega),w32 (by omega) (by omega),w32 (by omega) (by omega),w32 (by omega) (by omega),wu8 (by omega) (by omega),wu8 (by omega) (by omega),wu8 (by omega) (by omega)]
 rw[decide_eq_false c,cond_false,if_neg c,d,d,d,w32 (x:=v/64) (by omega) (by omega),w32 (x:=v/4096) (by omega) (by omega),w32 (x:=v/262144) (by omega) (by omega),Int.tmod_eq_emod_of_nonneg h0,Int.tmod_eq_emod_of_nonneg (a:=v/64) (by omega),Int.tmod_eq_emod_of_nonneg (a:=v/4096) (by omega),w32 (by omega) (by omega),w32 (by omega) (by omega),w32 (by omega) (by omega),w32 (by omega) (by omega),wu8 (by omega) (by omega),wu8 (by omega) (by omega),wu8 (by omega) (by omega),wu8 (by omega) (by omega)]
def Tf (v:Int):Bool:=decide (0<=v/\v<=1114111/\ ¬(55296<=v/\v<=57343))
def AkY (n:Nat) (g:Nat->Int):Prop:=
 if n=1 then g 0<128
 else if n=2 then 194<=g 0/\g 0<224/\128<=g 1/\g 1<=191
 else if n=3 then 224<=g 0/\g 0<240/\(128<=g 1/\g 1<=191)/\(128<=g 2/\g 2<=191)/\(g 0=224->160<=g 1)/\(g 0=237->g 1<=159)
 else 240<=g 0/\g 0<=244/\(128<=g 1/\g 1<=191)/\(128<=g 2/\g 2<=191)/\(128<=g 3/\g 3<=191)/\(g 0=240->144<=g 1)/\(g 0=244->g 1<=143)
instance (n:Nat) (g:Nat->Int):Decidable (AkY n g):=by unfold AkY;infer_instance
def Ai8 (a b n:Int):Prop:=
 (55296<=max a (if n=4 then 65536 else if n=3 then 2048 else 128)/\max a (if n=4 then 65536 else if n=3 then 2048 else 128)<=57343->57344<=min b (if n=4 then 1114111 else if n=3 then 65535 else 2047))/\
 (¬(55296<=max a (if n=4 then 65536 else if n=3 then 2048 else 128)/\max a (if n=4 then 65536 else if n=3 then 2048 else 128)<=57343)->max a (if n=4 then 65536 else if n=3 then 2048 else 128)<=min b (if n=4 then 1114111 else if n=3 then 65535 else 2047))
instance (a b n:Int):Decidable (Ai8 a b n):=by unfold Ai8;infer_instance
def Alb (n R:Nat) (g:Nat->Int):Prop:=
 if n=2 then 194<=g 0/\g 0<224
 else if n=3 then 224<=g 0/\g 0<240/\(2<=R->128<=g 1/\g 1<=191/\(g 0=224->160<=g 1)/\(g 0=237->g 1<=159))
 else 240<=g 0/\g 0<=244/\(2<=R->128<=g 1/\g 1<=191/\(g 0=240->144<=g 1)/\(g 0=244->g 1<=143))/\(3<=R->128<=g 2/\g 2<=191)
instance (n R:Nat) (g:Nat->Int):Decidable (Alb n R g):=by unfold Alb;infer_instance
theorem AlR {b:Int} (h0:0<=b) (h1:b<=255) (k:Nat) (hk:k<=8):XI .u8 b (((2 ^ k-1:Nat):Nat):Int)=b%2 ^ k:=by
 obtain⟨n,rfl⟩: ∃n:Nat,b=n:=⟨b.toNat,by omega⟩
 show IntKind.wrap .u8 (((BitVec.ofInt 8 (n:Int)&&& BitVec.ofInt 8 ((2 ^ k-1:Nat):Int)).toNat:Nat):Int)=_
 have hp:2 ^ k<=2 ^ 8:=Nat.pow_le_pow_right (by omega) hk
 have hp0:0<2 ^ k:=Nat.pow_pos (by omega)
 rw[BitVec.ofInt_natCast,BitVec.ofInt_natCast,BitVec.toNat_and,BitVec.toNat_ofNat,BitVec.toNat_ofNat,Nat.mod_eq_of_lt (by omega),Nat.mod_eq_of_lt (by omega),Nat.and_two_pow_sub_one_eq_mod]
 have hm:n%2 ^ k<2 ^ k:=Nat.mod_lt _ hp0
 rw[wu8 (by omega) (by omega)]
 simp
theorem Ahv (b:Bool) (l:List Int):HZ b l=some true:=by cases b<;>rfl
theorem ZT (b:Bool) (l:List Int) (c:Int) (h:l.length<=1000000):Du b l c=some (true,l++ [c],Er.nil):=by
 unfold Du
 rw[Ahv,Aa,if_pos (by omega)]
theorem Aal (b:Bool) (l:List Int) (h:l.length<=1000000):Gx b l=some (b,l,strOfNums l):=by
 unfold Gx
 rw[if_pos (by omega),List.take_length]
theorem Ah6 {k:Nat} {x y:Int} (hk:k<=8) (h0:0<=x) (h1:x*2 ^ k+y<=255) (y0:0<=y) (y1:y<2 ^ k):ior .u8 (x*2 ^ k) y=x*2 ^ k+y:=by
 obtain⟨n,rfl⟩: ∃n:Nat,x=n:=⟨x.toNat,by omega⟩
 obtain⟨m,rfl⟩: ∃n:Nat,y=n:=⟨y.toNat,by omega⟩
 have e:(n:Int)*2 ^ k=((2 ^ k*n:Nat):Int):=by rw[Nat.mul_comm];simp
 have hm:m<2 ^ k:=by
  have:((2 ^ k:Nat):Int)=2 ^ k:=by simp
  omega
 rw[e]at h1 ⊢
 show IntKind.wrap .u8 (((BitVec.ofInt 8 ((2 ^ k*n:Nat):Int)|||BitVec.ofInt 8 (m:Int)).toNat:Nat):Int)=_
 rw[BitVec.ofInt_natCast,BitVec.ofInt_natCast,BitVec.toNat_or,BitVec.toNat_ofNat,BitVec.toNat_ofNat,Nat.mod_eq_of_lt (by omega),Nat.mod_eq_of_lt (by omega),<- Nat.two_pow_add_eq_or_of_lt hm,wu8 (by omega) (by omega)]
 omega
theorem Aoc {x:Int} (h:0<=x):IntKind.wrap .u8 x=x%256:=by
 have e1:(IntKind.u8).bits=8:=rfl
 have e2:(IntKind.u8).signed=false:=rfl
 simp only[IntKind.wrap,e1,e2,Bool.false_and]
 simp
theorem AiB {r:Int} (h:0<=r) (k:Nat) (hk:k<=3):Int.fdiv r (2 ^ (min (IntKind.wrap .i64 ((6:Int)*(k:Int))).toNat (IntKind.bits .i32)))=r/2 ^ (6*k):=by
 have e:IntKind.wrap .i64 ((6:Int)*(k:Int))=((6*k:Nat):Int):=by rw[Gy (by omega) (by omega)];omega
 have b:IntKind.bits .i32=32:=rfl
 rw[e,Int.toNat_natCast,b,Nat.min_eq_left (by omega),Int.fdiv_eq_ediv_of_nonneg _ (Int.pow_nonneg (by omega))]
theorem Ajq {r:Int} (h:0<=r) (k:Nat) (hk:k<=3):ior .u8 128 (XI .u8 (IntKind.wrap .u8 (r/2 ^ (6*k))) 63)=128+r/2 ^ (6*k)%64:=by
 have hq:0<=r/2 ^ (6*k):=Int.ediv_nonneg h (Int.pow_nonneg (by omega))
 rw[Aoc hq]
 have i63:(63:Int)=((2 ^ 6-1:Nat):Int):=rfl
 rw[i63,AlR (by omega) (by omega) 6 (by omega)]
 generalize r/2 ^ (6*k)=q at hq ⊢
 have e:q%256%2 ^ 6=q%64:=by omega
 rw[e]
 have:=Ah6 (k:=6) (x:=2) (y:=q%64) (by omega) (by omega) (by omega) (by omega) (by omega)
 exact this
theorem UM {r:Int} (h:0<=r) (b:Bool) (out:List Int) (k:Nat) (hk:k<=3) (ho:out.length<=1000000):
  iter (Jv r) (b,out,(k:Int))=iter (Jv r) (true,out++ [128+r/2 ^ (6*k)%64],(k:Int)-1):=by
 refine Bh ?_
 unfold Jv
 simp only
 have e:IntKind.wrap .i64 ((6:Int)*(k:Int))=((6*k:Nat):Int):=by rw[Gy (by omega) (by omega)];omega
 rw[decide_eq_true (by omega),cond_true,if_pos (by rw[e];omega),AiB h k hk,Ajq h k hk,ZT _ _ _ ho,Aa,Gy (x:=(k:Int)-1) (by omega) (by omega)]
theorem vL {r:Int} (b:Bool) (out:List Int):iter (Jv r) (b,out,-1)=some (b,out):=by
 refine Ay ?_
 unfold Jv
 simp only
 rw[decide_eq_false (by omega)];rfl
theorem Ag6 {r:Int} (h:Tf r=true):TY r=some (if r<128 then 1 else if r<2048 then 2 else if r<65536 then 3 else 4):=by
 have hr:CF r=some true:=by
  unfold Tf at h
  rw[decide_eq_true_eq]at h
  unfold CF
  rw[decide_eq_true (show r>=0 from h.1),cond_true,decide_eq_true (show r<=1114111 from h.2.1),cond_true]
  by_cases q:r<55296
  ·rw[decide_eq_true q];rfl
  ·rw[decide_eq_false q,cond_false,decide_eq_true (by omega)]
 unfold TY
 rw[hr,Aa,Bool.not_true,cond_false]
 by_cases a:r<128
 ·rw[decide_eq_true a,if_pos a];rfl
 rw[decide_eq_false a,if_neg a,cond_false]
 by_cases b:r<2048
 ·rw[decide_eq_true b,if_pos b];rfl
 rw[decide_eq_false b,if_neg b,cond_false]
 by_cases c:r<65536
 ·rw[decide_eq_true c,if_pos c];rfl
 ·rw[decide_eq_false c,if_neg c];rfl
theorem put_eq {r:Int} (h:Tf r=true) (b:Bool) (out:List Int) (ho:out.length<=900000):Qy b out r=some (true,out++R9 r):=by
 have hr:=h
 unfold Tf at hr
 rw[decide_eq_true_eq]at hr
 unfold Qy
 rw[Ag6 h,Aa]
 by_cases a:r<128
 ·rw[if_pos a,show((1:Int)==1)=true from rfl,cond_true,wu8 hr.1 (by omega),ZT _ _ _ (by omega),Aa]
  unfold R9
  rw[if_pos a]
 rw[if_neg a]
 by_cases b2:r<2048
 ·have w1:IntKind.wrap .i64 ((4:Int)-2)=2:=by decide
  have w2:IntKind.wrap .i64 ((2:Int)-1)=((1:Nat):Int):=by decide
  have w3:IntKind.wrap .u8 ((240:Int)*2 ^ (min (2:Int).toNat (IntKind.bits .u8)))=3*2 ^ 6:=by decide
  have w4:IntKind.wrap .i64 ((2:Int)-2)=((0:Nat):Int):=by decide
  have w5:0<=IntKind.wrap .i64 ((6:Int)*((1:Nat):Int)):=by decide
  rw[if_pos b2,show((2:Int)==1)=false from rfl,cond_false,w1,if_pos (by omega),w2,if_pos w5,AiB hr.1 1 (by omega),w3,w4,wu8 (x:=r/2 ^ (6*1)) (by omega) (by omega),Ah6 (k:=6) (by omega) (by omega) (by omega) (by omega) (by omega),ZT _ _ _ (by omega),Aa]
  simp only
  rw[UM hr.1 _ _ 0 (by omega) (by simp;omega),show((0:Nat):Int)-1= -1 from rfl,vL,Aa]
  unfold R9
  rw[if_neg a,if_pos b2,List.append_assoc]
  refine congrArg some (Prod.ext rfl ?_)
  show out++ [3*2 ^ 6+r/2 ^ (6*1),128+r/2 ^ (6*0)%64]=out++ [192+r/64,128+r%64]
  congr 2
  ·congr 1
   omega
 rw[if_neg b2]
 by_cases b3:r<65536
 ·have w1:IntKind.wrap .i64 ((4:Int)-3)=1:=by decide
  have w2:IntKind.wrap .i64 ((3:Int)-1)=((2:Nat):Int):=by decide
  have w3:IntKind.wrap .u8 ((240:Int)*2 ^ (min (1:Int).toNat (IntKind.bits .u8)))=14*2 ^ 4:=by decide
  have w4:IntKind.wrap .i64 ((3:Int)-2)=((1:Nat):Int):=by decide
  have w5:0<=IntKind.wrap .i64 ((6:Int)*((2:Nat):Int)):=by decide
  rw[if_pos b3,show((3:Int)==1)=false from rfl,cond_false,w1,if_pos (by omega),w2,if_pos w5,AiB hr.1 2 (by omega),w3,w4,wu8 (x:=r/2 ^ (6*2)) (by omega) (by omega),Ah6 (k:=4) (by omega) (by omega) (by omega) (by omega) (by omega),ZT _ _ _ (by omega),Aa]
  simp only
  rw[UM hr.1 _ _ 1 (by omega) (by simp;omega),show((1:Nat):Int)-1=((0:Nat):Int) from rfl,UM hr.1 _ _ 0 (by omega) (by simp;omega),show((0:Nat):Int)-1= -1 from rfl,vL,Aa]
  unfold R9
  rw[if_neg a,if_neg b2,if_pos b3,List.append_assoc,List.append_assoc]
  refine congrArg some (Prod.ext rfl ?_)
  show out++ [14*2 ^ 4+r/2 ^ (6*2),128+r/2 ^ (6*1)%64,128+r/2 ^ (6*0)%64]=out++ [224+r/4096,128+r/64%64,128+r%64]
  have e0:r/2 ^ (6*0)=r:=by omega
  have e1:r/2 ^ (6*1)=r/64:=by omega
  have e2:(14:Int)*2 ^ 4+r/2 ^ (6*2)=224+r/4096:=by omega
  rw[e0,e1,e2]
 ·have w1:IntKind.wrap .i64 ((4:Int)-4)=0:=by decide
  have w2:IntKind.wrap .i64 ((4:Int)-1)=((3:Nat):Int):=by decide
  have w3:IntKind.wrap .u8 ((240:Int)*2 ^ (min (0:Int).toNat (IntKind.bits .u8)))=30*2 ^ 3:=by decide
  have w4:IntKind.wrap .i64 ((4:Int)-2)=((2:Nat):Int):=by decide
  have w5:0<=IntKind.wrap .i64 ((6:Int)*((3:Nat):Int)):=by decide
  rw[if_neg b3,show((4:Int)==1)=false from rfl,cond_false,w1,if_pos (by omega),w2,if_pos w5,AiB hr.1 3 (by omega),w3,w4,wu8 (x:=r/2 ^ (6*3)) (by omega) (by omega),Ah6 (k:=3) (by omega) (by omega) (by omega) (by omega) (by omega),ZT _ _ _ (by omega),Aa]
  simp only
  rw[UM hr.1 _ _ 2 (by omega) (by simp;omega),show((2:Nat):Int)-1=((1:Nat):Int) from rfl,UM hr.1 _ _ 1 (by omega) (by simp;omega),show((1:Nat):Int)-1=((0:Nat):Int) from rfl,UM hr.1 _ _ 0 (by omega) (by simp;omega),show((0:Nat):Int)-1= -1 from rfl,vL,Aa]
  unfold R9
  rw[if_neg a,if_neg b2,if_neg b3,List.append_assoc,List.append_assoc,List.append_assoc]
  refine congrArg some (Prod.ext rfl ?_)
  show out++ [30*2 ^ 3+r/2 ^ (6*3),128+r/2 ^ (6*2)%64,128+r/2 ^ (6*1)%64,128+r/2 ^ (6*0)%64]=out++ [240+r/262144,128+r/4096%64,128+r/64%64,128+r%64]
  have e0:r/2 ^ (6*0)=r:=by omega
  have e1:r/2 ^ (6*1)=r/64:=by omega
  have e2:r/2 ^ (6*2)=r/4096:=by omega
  have e3:(30:Int)*2 ^ 3+r/2 ^ (6*3)=240+r/262144:=by omega
  rw[e0,e1,e2,e3]
def encS (l:List Int):List Int:=l.flatMap R9
theorem aL (v:Int):(R9 v).length<=4:=by
 unfold R9
 split
 ·simp
 ·split
  ·simp
  ·split<;>simp
theorem xS (l:List Int):(encS l).length<=4*l.length:=by
 induction l with
 |nil=>simp[encS]
 |cons x l ih=>
  have:=aL x
  unfold encS at ih ⊢
  rw[List.flatMap_cons,List.length_append,List.length_cons]
  omega
theorem iC (a b:List Int):strOfNums a++strOfNums b=strOfNums (a++b):=by
 apply ByteArray.ext
 rw[ByteArray.data_append]
 simp[strOfNums]
theorem ZO (a:List Int):(strOfNums a).size=a.length:=by
 rw[<- ByteArray.size_data,<- Array.length_toList,strOfNums_data]
 simp
theorem xU (l:List Int) (hl:l.length<=200000) (hr: ∀x∈l,Tf x=true):LJ l=some (strOfNums (encS l),Er.nil)/\QK l=some (strOfNums (encS l)):=by
 have mem: ∀i,i<l.length->Tf (l.getD i 0)=true:=fun i hi=>hr _ (Fe hi)
 have snoc: ∀i,i<l.length->encS (l.take (i+1))=encS (l.take i)++R9 (l.getD i 0):=fun i hi=>by
  unfold encS
  rw[List.take_add_one,List.flatMap_append,List.getElem?_eq_getElem hi,List.getD_eq_getElem?_getD,List.getElem?_eq_getElem hi]
  simp
 have tl: ∀i,i<=l.length->(encS (l.take i)).length<=4*l.length:=fun i hi=>by
  have:=xS (l.take i)
  rw[List.length_take]at this
  omega
 constructor
 ·have key: ∀(k i:Nat) (b:Bool),i+k=l.length-> ∃b',iter (Hr l) (b,encS (l.take i),(i:Int))=some (.inl (b',encS l)):=by
   intro k
   induction k with
   |zero=>
    intro i b hi
    refine⟨b,?_⟩
    have:l.take i=l:=List.take_of_length_le (by omega)
    rw[this]
    refine Ay ?_
    unfold Hr
    simp only
    rw[decide_eq_false (by omega)];rfl
   |succ k ih=>
    intro i b hi
    have hi':i<l.length:=by omega
    obtain⟨b',hb'⟩:=ih (i+1) true (by omega)
    refine⟨b',?_⟩
    rw[Bh (s':=(true,encS (l.take (i+1)),((i+1:Nat):Int)))]
    ·exact hb'
    ·have hright:CF (l.getD i 0)=some true:=by
         have h:=mem i hi'
         unfold Tf at h
         rw[decide_eq_true_eq]at h
         unfold CF
         rw[decide_eq_true (show l.getD i 0>=0 from h.1),cond_true,decide_eq_true (show l.getD i 0<=1114111 from h.2.1),cond_true]
         by_cases q:l.getD i 0<55296
         ·rw[decide_eq_true q];rfl
         ·rw[decide_eq_false q,cond_false,decide_eq_true (by omega)]
     unfold Hr
     simp only[Int.toNat_natCast]
     rw[decide_eq_true (by omega),cond_true,if_pos ⟨by omega,by omega⟩,hright,Aa,Bool.not_true,cond_false,put_eq (mem i hi') _ _ (by have:=tl i (by omega);omega),Aa,up (by omega),<- snoc i hi']
  obtain⟨b',h⟩:=key l.length 0 false (by omega)
  unfold LJ
  have e0:encS (l.take 0)= []:=rfl
  rw[e0]at h
  rw[show(0:Int)=((0:Nat):Int) from rfl,h,Aa]
  simp only
  unfold Ob
  have:=xS l
  rw[Aal _ _ (by show(encS l).length<=_;omega),Aa,if_pos rfl]
 ·have key: ∀(k i:Nat),i+k=l.length->iter (IG l) (strOfNums (encS (l.take i)),(i:Int))=some (strOfNums (encS l)):=by
   intro k
   induction k with
   |zero=>
    intro i hi
    have:l.take i=l:=List.take_of_length_le (by omega)
    rw[this]
    refine Ay ?_
    unfold IG
    simp only
    rw[decide_eq_false (by omega)];rfl
   |succ k ih=>
    intro i hi
    have hi':i<l.length:=by omega
    rw[Bh (s':=(strOfNums (encS (l.take (i+1))),((i+1:Nat):Int)))]
    ·exact ih (i+1) (by omega)
    ·have h:=mem i hi'
     unfold Tf at h
     rw[decide_eq_true_eq]at h
     unfold IG
     simp only[Int.toNat_natCast]
     have t1:=tl i (by omega)
     have t2:=aL (l.getD i 0)
     rw[decide_eq_true (by omega),cond_true,if_pos ⟨by omega,by omega⟩,AhM h.1 h.2.1,Aa,ZO,ZO,if_pos (by omega),up (by omega),iC,<- snoc i hi']
  unfold QK
  have e0:ByteArray.mk #[]=strOfNums (encS (l.take 0)):=rfl
  rw[e0,show(0:Int)=((0:Nat):Int) from rfl,key l.length 0 (by omega)];rfl
end Go.Proofs.YtkeokkmhhhhoiaaGreatDoor
