import Derived.Test.YtkeokkmhhhhoiaaGreatDoorPFit2
import Derived.Test.YtkeokkmhhhhoiaaGreatDoorPPutRA
import Derived.Test.YtkeokkmhhhhoiaaGreatDoorPU5
import Derived.Test.YtkeokkmhhhhoiaaGreatDoorPPbE
namespace Go.Proofs.YtkeokkmhhhhoiaaGreatDoor
open Go Go.SE
set_option linter.unusedVariables false
set_option linter.unusedSimpArgs false
def gY (r:Int):Bool:=decide (0<=r)&&decide (r<128)
theorem ZA (r:Int):Fu r=some (gY r):=by
 unfold Fu gY
 by_cases h:0<=r
 ·rw[decide_eq_true (show r>=0 from h),cond_true,Bool.true_and]
 ·rw[decide_eq_false (show ¬r>=0 from h),cond_false,Bool.false_and]
theorem vJ {r:Int} (h:gY r=true):0<=r/\r<128:=by
 unfold gY at h;simpa using h
def pxI (l:List Int) (i:Nat):Option Int:=if gY (l.getD i 0)=true then none else some (i:Int)
theorem AiS (l:List Int) (hl:l.length<=100000):Df l=some (!(l.all gY)):=by
 unfold Df Fj
 rw[El l.length (pxI l) (fun i hi _=>?_) (fun _=>?_)]
 ·cases h:Am (pxI l) l.length 0 with
  |some v=>
   obtain⟨j,_,hj,hv,_⟩:=Br h
   unfold pxI at hv
   split at hv
   ·cases hv
   ·rename_i hp
    cases hv
    have:l.all gY=false:=by
         rw[List.all_eq_false]
         exact⟨_,Fe (by omega),hp⟩
    rw[this]
    simp[Nv]
  |none=>
   have:l.all gY=true:=by
    rw[List.all_eq_true]
    intro x hx
    obtain⟨j,hj,rfl⟩:=List.mem_iff_getElem.1 hx
    have:=Bl.1 h j (Nat.zero_le _) (by omega)
    unfold pxI at this
    split at this
    ·rename_i hp
     rwa[List.getD_eq_getElem?_getD,List.getElem?_eq_getElem hj]at hp
    ·cases this
   rw[this]
   simp[Nv]
 ·unfold EG SG pxI
  rw[decide_eq_true (by omega),cond_true,if_pos ⟨by omega,by omega⟩,Int.toNat_natCast,ZA,Aa,Aa,up (by omega)]
  cases gY (l.getD i 0)<;>rfl
 ·unfold EG
  rw[decide_eq_false (by omega)];rfl
theorem AhB (l:List Int) (hl:l.length<=100000): ∃s e,LJ l=some (s,e):=by
 have key: ∀(k i:Nat) (b:Bool) (o:List Int),i+k=l.length->o.length<=4*i-> ∃z,iter (Hr l) (b,o,(i:Int))=some z/\ ∀b' o',z=.inl (b',o')->o'.length<=4*l.length:=by
  intro k
  induction k with
  |zero=>
   intro i b o hi ho
   refine⟨.inl (b,o),Ay ?_,fun b' o' h=>by cases h;omega⟩
   unfold Hr
   simp only
   rw[decide_eq_false (by omega)];rfl
  |succ k ih=>
   intro i b o hi ho
   have hi':i<l.length:=by omega
   cases hr:lX (l.getD i 0)with
   |false=>
    refine⟨.inr (ByteArray.mk #[], .box 70 (i:Int) (.sent 12)),Ay ?_,fun b' o' h=>by cases h⟩
    unfold Hr
    simp only[Int.toNat_natCast]
    rw[decide_eq_true (by omega),cond_true,if_pos ⟨by omega,by omega⟩,WW,hr,Aa]
    rfl
   |true=>
    have hS:Tf (l.getD i 0)=true:=by
         unfold lX at hr
         unfold Tf
         simp at hr ⊢
         omega
    obtain⟨z,hz,hz'⟩:=ih (i+1) true (o++R9 (l.getD i 0)) (by omega) (by
         have:=aL (l.getD i 0)
         rw[List.length_append];omega)
    refine⟨z,?_,hz'⟩
    rw[Bh (s':=(true,o++R9 (l.getD i 0),((i+1:Nat):Int)))]
    ·exact hz
    ·unfold Hr
     simp only[Int.toNat_natCast]
     rw[decide_eq_true (by omega),cond_true,if_pos ⟨by omega,by omega⟩,WW,hr,Aa,Bool.not_true,cond_false,put_eq hS _ _ (by omega),Aa,up (by omega)]
 obtain⟨z,hz,hz'⟩:=key l.length 0 false [] (by omega) (by simp)
 unfold LJ
 rw[show(0:Int)=((0:Nat):Int) from rfl,hz,Aa]
 cases z with
 |inr v=>exact⟨_,_,rfl⟩
 |inl v=>
  obtain⟨b,o⟩:=v
  have:=hz' b o rfl
  simp only
  unfold Ob
  rw[Aal _ _ (by show o.length<=_;omega),Aa,if_pos rfl]
  exact⟨_,_,rfl⟩
theorem AdZ {l:List Int} (h: ∀x∈l,gY x=true):encS l=l:=by
 induction l with
 |nil=>rfl
 |cons x l ih=>
  have hx:=vJ (h x (by simp))
  have:R9 x= [x]:=by unfold R9;rw[if_pos hx.2]
  have ih:=ih fun y hy=>h y (by simp[hy])
  unfold encS at ih ⊢
  rw[List.flatMap_cons,this,ih];rfl
theorem Aa7 {l:List Int} (hl:l.length<=100000) (h: ∀x∈l,gY x=true):Gv l=some (strOfNums l, .nil):=by
 unfold Gv
 rw[(xU l (by omega) fun x hx=>by have:=vJ (h x hx);unfold Tf;simp;omega).1,Aa,AiS l hl,List.all_eq_true.2 h,Aa,AdZ h]
 rfl
theorem Afu {l:List Int} (hl:l.length<=120) (h:l.all gY=false):
  ((∀x∈l,V5 x=true)/\(KV l).o.length<=120/\Gv l=some (strOfNums ([120,110,45,45]++(KV l).o), .nil))∨ ∃n g,(g=12∨g=6)/\Gv l=some (.mk #[], .box 70 n (.sent g)):=by
 obtain⟨s,e,hs⟩:=AhB l (by omega)
 unfold Gv
 rw[hs,Aa,AiS l (by omega),h,Aa]
 simp only[Bool.not_false,Bool.not_true,cond_false]
 rcases xV l (by omega)with ⟨h1,h2⟩|⟨j,h1,h2,h3,h4⟩
 ·rw[h2,Aa]
  unfold Ajv
  rw[if_neg (by omega)]
  by_cases hO:120<(KV l).o.length
  ·rw[if_pos hO]
   exact .inr ⟨_,_, .inr rfl,rfl⟩
  ·rw[if_neg hO]
   refine .inl ⟨h1,by omega,?_⟩
   simp only[Er.isNil,Bool.not_true,cond_false]
   rw[if_pos (by rw[ZO];show 4+_<=_;omega),<- iC]
   rfl
 ·rw[h4,Aa]
  exact .inr ⟨_,_, .inl rfl,rfl⟩
theorem yA {l:List Int} (hl:l.length<=120): ∃s e,Gv l=some (s,e)/\(e=.nil∨ ∃n g,(g=12∨g=6)/\e=.box 70 n (.sent g)):=by
 cases h:l.all gY with
 |true=>exact⟨_,_,Aa7 (by omega) (List.all_eq_true.1 h), .inl rfl⟩
 |false=>
  rcases Afu hl h with ⟨_,_,h3⟩|⟨n,g,h2,h3⟩
  ·exact⟨_,_,h3, .inl rfl⟩
  ·exact⟨_,_,h3, .inr ⟨n,g,h2,rfl⟩⟩
structure Uv (t:Ag):Prop where
 good:Good t.Ca
 rt:Nw t
 low:t.EL.length<=2000
 rise: ∀j i,i<j->j<t.EL.length->fr t.EL i<fr t.EL j
theorem Uv.of {t:Ag} (h:(xH t).2=0):Uv t:=by
 unfold xH at h
 by_cases h0:(U3 t).2=0
 ·rw[if_pos h0]at h
  have hb:=h0
  unfold U3 at hb
  by_cases h4:(VE t.Ca).2=0
  ·rw[if_pos h4]at hb
   cases hf:Am (Ad7 t) t.Ca.Ad.length 0 with
   |some v=>
    rw[hf]at h
    obtain⟨j,_,_,hj,_⟩:=Br hf
    unfold Ad7 at hj
    split at hj
    ·cases hj;cases h
    ·cases hj
   |none=>
    rw[hf]at h
    simp only at h
    cases hg:Am (Ac8 t) t.Ca.Au.length 0 with
    |some v=>
     rw[hg]at h
     obtain⟨j,_,_,hj,_⟩:=Br hg
     unfold Ac8 at hj
     split at hj
     ·cases hj;cases h
     ·cases hj
    |none=>
     rw[hg]at h
     simp only at h
     by_cases hl:2000<t.EL.length
     ·rw[if_pos hl]at h;cases h
     ·rw[if_neg hl]at h
      cases hp:Am (zD t.EL) t.EL.length 0 with
      |some v=>
       rw[hp]at h
       obtain⟨j,_,_,hj,_⟩:=Br hp
       unfold zD at hj
       split at hj
       ·cases hj;cases h
       ·split at hj
        ·cases hj;cases h
        ·cases hj
      |none=>
       refine⟨Good.of (dB h4),⟨h4,hb⟩,by omega,vO (l:=t.EL) fun i h0 hi=>?_⟩
       have:=Bl.1 hp i (Nat.zero_le _) (by omega)
       unfold zD at this
       split at this
       ·cases this
       ·split at this
        ·cases this
        ·rename_i hn;omega
  ·rw[if_neg h4]at hb;exact absurd hb h4
 ·rw[if_neg h0]at h;exact absurd h h0
theorem Uv.rp {t:Ag} (h:Uv t):R6 t.Ct:=h.rt.props
def AiW (l:List Int):Prop:= ¬(3<l.length/\l.getD 2 0=45/\l.getD 3 0=45)
theorem Af6 {l:List Int} (h0:l≠ []) (hl:l.length<=100000): ∃y,NZ l=some y/\(¬y>=0->AiW l):=by
 have h1:0<l.length:=List.length_pos_iff.2 h0
 have hw:IntKind.wrap .i64 (((l.length:Nat):Int)-1)=(l.length:Int)-1:=Gy (by omega) (by omega)
 unfold NZ Q6
 rw[if_pos ⟨by omega,by omega⟩]
 by_cases a:l.getD 0 0=45
 ·rw[a];exact⟨0,rfl,fun h=>absurd (by decide) h⟩
 ·rw[iL a,cond_false,hw,if_pos ⟨by omega,by omega⟩]
  by_cases b:l.getD ((l.length:Int)-1).toNat 0=45
  ·rw[b];exact⟨(l.length:Int)-1,rfl,fun h=>absurd (by omega) h⟩
  ·rw[iL b,cond_false]
   by_cases c:3<l.length
   ·rw[decide_eq_true (show((l.length:Nat):Int)>3 by omega),cond_true,if_pos ⟨by omega,by omega⟩]
    by_cases d:l.getD 2 0=45
    ·rw[d,beq_self_eq_true,cond_true,if_pos ⟨by omega,by omega⟩,Aa]
     by_cases e:l.getD 3 0=45
     ·rw[e];exact⟨2,rfl,fun h=>absurd (by decide) h⟩
     ·rw[iL e];exact⟨-1,rfl,fun _ h=>e h.2.2⟩
    ·rw[iL d,cond_false,Aa];exact⟨-1,rfl,fun _ h=>d h.2.1⟩
   ·rw[decide_eq_false (show ¬((l.length:Nat):Int)>3 by omega),cond_false,Aa]
    exact⟨-1,rfl,fun _ h=>c h.1⟩
theorem Ab0 (a b:List Int) (ha:a.length<=1000000): ∃y,Pp a b=some y:=by
 have key: ∀(k i:Nat),i+k=a.length-> ∃n,iter (II a b) (i:Int)=some n:=by
  intro k
  induction k with
  |zero=>
   intro i hi
   refine⟨(i:Int),Ay ?_⟩
   unfold II
   rw[decide_eq_false (by omega)];rfl
  |succ k ih=>
   intro i hi
   by_cases hb:i<b.length
   ·by_cases he:a.getD i 0=b.getD i 0
    ·obtain⟨n,hn⟩:=ih (i+1) (by omega)
     refine⟨n,?_⟩
     rw[Bh (s':=((i+1:Nat):Int))]
     ·exact hn
     ·unfold II
      rw[decide_eq_true (by omega),cond_true,decide_eq_true (by omega),cond_true,if_pos ⟨by omega,by omega⟩,if_pos ⟨by omega,by omega⟩,Int.toNat_natCast,he,beq_self_eq_true,Aa]
      unfold SI
      rw[cond_true,up (by omega)]
    ·refine⟨(i:Int),Ay ?_⟩
     unfold II
     rw[decide_eq_true (by omega),cond_true,decide_eq_true (by omega),cond_true,if_pos ⟨by omega,by omega⟩,if_pos ⟨by omega,by omega⟩,Int.toNat_natCast,iL he,Aa]
     rfl
   ·refine⟨(i:Int),Ay ?_⟩
    unfold II
    rw[decide_eq_true (by omega),cond_true,decide_eq_false (by omega)]
    rfl
 obtain⟨n,hn⟩:=key a.length 0 (by omega)
 unfold Pp
 rw[show(0:Int)=((0:Nat):Int) from rfl,hn,Aa]
 unfold TV Pq
 by_cases h:n=((a.length:Nat):Int)
 ·rw[h,beq_self_eq_true,cond_true,Aa]
  cases (((a.length:Nat):Int)==((b.length:Nat):Int))<;>exact⟨_,rfl⟩
 ·rw[iL h,cond_false,Aa];exact⟨_,rfl⟩
theorem Agp {t:Ag} (h:Uv t) {l:List Int} (hl:l.length<=120) (hr: ∀x∈l,r32 x): ∃y,NY l t=some y:=by
 unfold NY
 rw[oI h.good l (by omega) hr,Aa]
 obtain⟨y,hy⟩:=Ab0 l (Ae6 t.Ca l) (by omega)
 rw[hy,Aa]
 exact⟨y,rfl⟩
theorem Aik (r:Int): ∃b,TU r=some b:=by
 unfold TU
 rw[ZA,Aa]
 cases gY r with
 |true=>
  rw[cond_true]
  cases decide (r<97)<;>cases decide (r<48)<;>cases decide (r>57)<;>cases decide (r>122)<;>exact⟨_,rfl⟩
 |false=>
  rw[cond_false]
  cases (r==12290)<;>cases (r==65294)<;>exact⟨_,rfl⟩
theorem AeS {t:Ag} (h:Uv t) (r:Int): ∃b,Mi r t=some b:=by
 obtain⟨x,hx⟩:=kV t.EL r h.low h.rise
 obtain⟨b,hb⟩:=Aik r
 unfold Mi
 rw[hx,Aa,of_eq h.rp,Aa,hb,Aa]
 cases b with
 |true=>exact⟨_,rfl⟩
 |false=>
  rw[cond_false]
  cases Yd t.EL r with
  |true=>exact⟨_,rfl⟩
  |false=>
   simp only[cond_false]
   cases (ofF t.Ct r==4)<;>exact⟨_,rfl⟩
noncomputable def Aho (t:Ag) (r:Int):Bool:=(Mi r t).getD false
theorem Ahn {t:Ag} (h:Uv t) (r:Int):Mi r t=some (Aho t r):=by
 obtain⟨b,hb⟩:=AeS h r
 unfold Aho;rw[hb];rfl
noncomputable def Ajn (t:Ag) (l:List Int) (i:Nat):Option Int:=if Aho t (l.getD i 0)=true then some (i:Int)else none
theorem Ahp {t:Ag} (h:Uv t) {l:List Int} (h0:l≠ []) (hl:l.length<=100000): ∃y,N7 t l=some y:=by
 have h1:0<l.length:=List.length_pos_iff.2 h0
 have o:ordered t.Ct.NT/\t.Ct.NT.length<=2000:=Hw h.rp (j:=10) (by omega)
 unfold N7 WC Sk O8
 rw[if_pos ⟨by omega,by omega⟩,Iz _ _ (by omega) o.1,Aa,Aa,Aa]
 cases (qJ t.Ct.NT (l.getD 0 0)).2 with
 |true=>exact⟨_,rfl⟩
 |false=>
  rw[cond_false]
  unfold Fx
  rw[El l.length (Ajn t l) (fun i hi _=>?_) (fun _=>?_)]
  ·cases Am (Ajn t l) l.length 0<;>exact⟨_,rfl⟩
  ·unfold ER Ajn
   rw[decide_eq_true (by omega),cond_true,if_pos ⟨by omega,by omega⟩,Int.toNat_natCast,Ahn h,Aa,up (by omega)]
   cases Aho t (l.getD i 0)<;>rfl
  ·unfold ER
   rw[decide_eq_false (by omega)];rfl
def Ajr (t:Ag) (l:List Int) (i:Nat):Option Int:=if(ofF t.Ct (l.getD i 0)=2∨ofF t.Ct (l.getD i 0)=3)/\kE t l i=false then some (i:Int)else none
theorem Ahx {t:Ag} (h:Nw t) (l:List Int) (hl:l.length<=1000): ∃y,N8 t l=some y:=by
 unfold N8 Qi
 rw[El l.length (Ajr t l) (fun i hi _=>?_) (fun _=>?_)]
 ·cases Am (Ajr t l) l.length 0<;>exact⟨_,rfl⟩
 ·unfold Nz Rn Ajr
  rw[decide_eq_true (by omega),cond_true,if_pos ⟨by omega,by omega⟩,Int.toNat_natCast,of_eq h.props,Aa,Af0 h l hl i hi,up (by omega)]
  by_cases c2:ofF t.Ct (l.getD i 0)=2
  ·rw[c2];cases hh:kE t l i<;>simp
  ·by_cases c3:ofF t.Ct (l.getD i 0)=3
   ·rw[c3];cases hh:kE t l i<;>simp
   ·rw[beq_false_of_ne c2,beq_false_of_ne c3,if_neg (fun h=>h.1.elim c2 c3)];rfl
 ·unfold Nz
  rw[decide_eq_false (by omega)];rfl
theorem AgQ {t:Ag} (h:R6 t.Ct) (l:List Int) (hl:l.length<=1000): ∃y,NW t l=some y:=by
 unfold NW Ow
 rw[Ac3 h l hl,Aa,Ac2 h l hl,Aa]
 cases ((brF (dirs t.Ct l)).1==0)with
 |true=>exact⟨_,rfl⟩
 |false=>
  rw[cond_false,Aa]
  cases AbH t.Ct l<;>exact⟨_,rfl⟩
theorem Aia {e:Er} (h:e=.nil∨ ∃n g,(g=12∨g=6)/\e=.box 70 n (.sent g)): ∃b,QL e (.sent 6)=some b:=by
 rcases h with rfl|⟨n,g,rfl|rfl,rfl⟩
 ·exact⟨false,by rfl⟩
 ·exact⟨false,by rfl⟩
 ·exact⟨true,by rfl⟩
theorem pV {t:Ag} (h:Uv t) {l:List Int} (hl:l.length<=120) (hr: ∀x∈l,r32 x):
  ∃e,NQ t l=some e/\(e.isNil=true->l≠ []/\AiW l/\ ∀s e',Gv l=some (s,e')->s.size<=63):=by
 unfold NQ
 by_cases h0:l= []
 ·subst h0;exact⟨_,rfl,fun h=>by cases h⟩
 ·have hp:0<l.length:=List.length_pos_iff.2 h0
  obtain⟨y1,q1⟩:=Agp h hl hr
  obtain⟨y2,q2,hy⟩:=Af6 h0 (by omega)
  obtain⟨y3,q3⟩:=Ahp h h0 (by omega)
  obtain⟨y4,q4⟩:=Ahx h.rt l (by omega)
  obtain⟨y5,q5⟩:=AgQ h.rp l (by omega)
  rw[iL (show((l.length:Nat):Int)≠0 by omega),cond_false,q1,Aa,q2,q3,q4,q5]
  simp only[Aa]
  by_cases c1:y1>=0
  ·rw[decide_eq_true c1];exact⟨_,rfl,fun h=>by cases h⟩
  rw[decide_eq_false c1,cond_false]
  by_cases c2:y2>=0
  ·rw[decide_eq_true c2];exact⟨_,rfl,fun h=>by cases h⟩
  rw[decide_eq_false c2,cond_false]
  by_cases c3:y3>=0
  ·rw[decide_eq_true c3];exact⟨_,rfl,fun h=>by cases h⟩
  rw[decide_eq_false c3,cond_false]
  by_cases c4:y4>=0
  ·rw[decide_eq_true c4];exact⟨_,rfl,fun h=>by cases h⟩
  rw[decide_eq_false c4,cond_false]
  by_cases c5:y5>=0
  ·rw[decide_eq_true c5];exact⟨_,rfl,fun h=>by cases h⟩
  rw[decide_eq_false c5,cond_false]
  obtain⟨s,e,hf,he⟩:=yA hl
  obtain⟨b,hb⟩:=Aia he
  rw[Aa]
  simp only
  unfold Qj
  rw[hf,Aa]
  simp only
  rw[hb,Aa]
  by_cases c6:((s.size:Nat):Int)>63
  ·rw[decide_eq_true c6,cond_true,Aa];exact⟨_,rfl,fun h=>by cases h⟩
  ·rw[decide_eq_false c6,cond_false,Aa]
   cases b with
   |true=>exact⟨_,rfl,fun h=>by cases h⟩
   |false=>exact⟨_,rfl,fun _=>⟨h0,hy c2,fun s' e' h'=>by cases h';omega⟩⟩
theorem Aiv {x:Int} (h:V5 x=true):r32 x:=by
 unfold V5 at h
 unfold r32
 simp at h
 omega
theorem Aiu {x:Int} (h:0<=x/\x<128):V5 x=true:=by
 unfold V5
 simp
 omega
theorem AeO (s:ByteArray):asc s s.size∨ ∃j:Nat,j<s.size/\asc s j/\128<=bt s (j:Int):=by
 have key: ∀n:Nat,n<=s.size->asc s n∨ ∃j:Nat,j<s.size/\asc s j/\128<=bt s (j:Int):=by
  intro n
  induction n with
  |zero=>intro _;exact .inl fun j hj=>absurd hj (Nat.not_lt_zero _)
  |succ n ih=>
   intro hn
   rcases ih (by omega)with h|h
   ·by_cases hb:bt s (n:Int)<128
    ·refine .inl fun j hj=>?_
     by_cases e:j=n
     ·subst e;exact hb
     ·exact h j (by omega)
    ·exact .inr ⟨n,by omega,h,by omega⟩
   ·exact .inr h
 exact key s.size (Nat.le_refl _)
theorem AaX (s:ByteArray) (hs:s.size<=120): ∃l e,Im s=some (l,e)/\((e=.nil/\l.length<=120/\ ∀x∈l,V5 x=true)∨bx e=true):=by
 rcases AeO s with ha|⟨j,hj,ha,hb⟩
 ·have hin:=kN s s.size
  by_cases hp:lastH s s.size>0
  ·obtain⟨y,hyy⟩: ∃y:Nat,lastH s s.size=(y:Int):=⟨(lastH s s.size).toNat,by omega⟩
   have hd:=decode_at s hs ha y hyy (by omega)
   rcases Abt s hs (y+1) ((List.range y).map fun j=>bt s ((j:Nat):Int)) (by omega) (by simp)with ⟨l,h1,h2⟩|⟨_,e,h1,h2⟩
   ·refine⟨l, .nil,hd.trans h2, .inl ⟨rfl,?_,AcN h1 fun x hx=>?_⟩⟩
    ·have:=rH h1
     rw[Tj,List.length_map,List.length_range]at this
     omega
    ·obtain⟨j,hj,rfl⟩:=List.mem_map.1 hx
     have:=List.mem_range.1 hj
     exact Aiu ⟨(pU s _).1,ha j (by omega)⟩
   ·exact⟨[],e,hd.trans h2, .inr h1⟩
  ·have hd:=qA s hs ha hp
   rcases Abt s hs 0 [] (by omega) (by simp)with ⟨l,h1,h2⟩|⟨_,e,h1,h2⟩
   ·refine⟨l, .nil,hd.trans h2, .inl ⟨rfl,?_,AcN h1 fun x hx=>by cases hx⟩⟩
    have:=rH h1
    rw[Tj]at this
    simp at this
    omega
   ·exact⟨[],e,hd.trans h2, .inr h1⟩
 ·refine⟨[], .box 70 (j:Int) (.sent 7),?_, .inr (by rfl)⟩
  unfold Im
  rw[show decide (((s.size:Nat):Int)>120)=false from decide_eq_false (by omega),cond_false,show iter (Fz s) 0=_ from Acb s (by omega) j hj ha hb j 0 (by omega),Aa]
theorem Agr (s:ByteArray):strOfNums ((List.range s.size).map fun j=>bt s ((j:Nat):Int))=s:=by
 have h:=AhK s s.size (Nat.le_refl _)
 rw[<- h]
 apply ByteArray.ext
 rw[ByteArray.data_extract]
 exact Array.extract_size
theorem Am4 (a b:List Int):(strOfNums (a++b)).extract a.length (strOfNums (a++b)).size=strOfNums b:=by
 rw[<- iC]
 apply ByteArray.ext
 rw[ByteArray.data_extract,ByteArray.data_append]
 have e1:(strOfNums a).data.size=a.length:=ZO a
 have e2:(strOfNums a++strOfNums b).size=(strOfNums a).data.size+(strOfNums b).data.size:=ByteArray.size_append
 rw[e2,<- e1]
 generalize (strOfNums a).data=x
 generalize (strOfNums b).data=y
 apply Array.ext'
 rw[Array.toList_extract,Array.toList_append]
 simp
 exact List.take_of_length_le (by simp)
theorem wT {a b:ByteArray} (h:(a.toList==b.toList)=true):a=b:=by
 have e:=eq_of_beq h
 apply ByteArray.ext
 apply Array.ext'
 have q: ∀x:ByteArray,x.data.toList=x.toList:=fun x=>by
  rw[ByteArray.toList_eq]
 rw[q,q,e]
abbrev pxB:ByteArray:=ByteArray.mk #[120,110,45,45]
def preB (s:ByteArray):Bool:=decide (4<=s.size)&&(s.extract 0 4).toList==pxB.toList
theorem AaT (s:ByteArray):KO s pxB=some (if preB s=true then(s.extract 4 s.size,true)else(s,false)):=by
 have hz:pxB.size=4:=rfl
 unfold KO G6 DZ preB
 rw[hz]
 by_cases h:4<=s.size
 ·rw[decide_eq_true (show((s.size:Nat):Int)>=((4:Nat):Int) by omega),cond_true,if_pos ⟨by omega,by omega,by omega⟩,Aa,decide_eq_true h,Bool.true_and]
  cases (s.extract 0 4).toList==pxB.toList with
  |true=>rw[Bool.not_true,cond_false,if_pos ⟨by omega,by omega,by omega⟩,Aa];rfl
  |false=>rfl
 ·rw[decide_eq_false (show ¬((s.size:Nat):Int)>=((4:Nat):Int) by omega),cond_false,Aa,decide_eq_false h];rfl
theorem mH (s:ByteArray) (hs:s.size<=1000) (ha:asc s s.size):iter (Gm s) 0=some (.inl ()):=by
 rw[El (V:=List Int×Er) s.size (fun _=>none) (fun i hi _=>?_) (fun _=>?_)]
 ·have:Am (fun _:Nat=>(none:Option (List Int×Er))) s.size 0=none:=Bl.2 fun j _ _=>rfl
  rw[this];rfl
 ·have hb:=pU s (i:Int)
  have:=ha i hi
  unfold Gm
  rw[decide_eq_true (by omega),cond_true,if_pos ⟨by omega,by omega⟩,w32 (by omega) (by omega),ZA,Aa,show gY (bt s (i:Int))=true by unfold gY;simp;omega,Bool.not_true,cond_false,up (by omega)]
 ·unfold Gm
  rw[decide_eq_false (by omega)];rfl
theorem Aec (s:ByteArray) (hs:s.size<=1000) {j:Nat} (hj:j<s.size) (ha:asc s j) (hb:128<=bt s (j:Int)): ∃e,bx e=true/\iter (Gm s) 0=some (.inr ([],e)):=by
 refine⟨.box 70 (j:Int) (.sent 7),by rfl,?_⟩
 have key: ∀(k i:Nat),i+k=j->iter (Gm s) (i:Int)=some (.inr ([], .box 70 (j:Int) (.sent 7))):=by
  intro k
  induction k with
  |zero=>
   intro i hi
   have:i=j:=by omega
   subst this
   have h2:=pU s (i:Int)
   refine Ay ?_
   unfold Gm
   rw[decide_eq_true (by omega),cond_true,if_pos ⟨by omega,by omega⟩,w32 (by omega) (by omega),ZA,Aa,show gY (bt s (i:Int))=false by unfold gY;simp;omega]
   rfl
  |succ k ih=>
   intro i hi
   have h2:=pU s (i:Int)
   have:=ha i (by omega)
   rw[Bh (s':=((i+1:Nat):Int))]
   ·exact ih (i+1) (by omega)
   ·unfold Gm
    rw[decide_eq_true (by omega),cond_true,if_pos ⟨by omega,by omega⟩,w32 (by omega) (by omega),ZA,Aa,show gY (bt s (i:Int))=true by unfold gY;simp;omega,Bool.not_true,cond_false,up (by omega)]
 exact key j 0 (by omega)
theorem sG {l:List Int} (h: ∀x∈l,0<=x/\x<=127):asc (strOfNums l) (strOfNums l).size:=fun j hj=>by
 rw[Lb]at hj
 rw[Z4 l (fun x hx=>by have:=h x hx;omega) j hj]
 have:=h _ (Fe (d:=0) hj)
 omega
theorem Aed {l:List Int} (h: ∀x∈l,0<=x/\x<=127):runesL (strOfNums l)=l:=by
 rw[YB _ (sG h),Lb]
 apply List.ext_getElem?
 intro j
 by_cases hj:j<l.length
 ·rw[List.getElem?_map,List.getElem?_range hj,Option.map_some,Z4 l (fun x hx=>by have:=h x hx;omega) j hj,List.getD_eq_getElem?_getD,List.getElem?_eq_getElem hj]
  rfl
 ·rw[List.getElem?_eq_none (by simp;omega),List.getElem?_eq_none (by omega)]
theorem zV {s:ByteArray} (h:asc s s.size):(∀x∈runesL s,gY x=true)/\(runesL s).length=s.size/\strOfNums (runesL s)=s:=by
 rw[YB s h]
 refine⟨fun x hx=>?_,by simp,Agr s⟩
 obtain⟨j,hj,rfl⟩:=List.mem_map.1 hx
 have:=List.mem_range.1 hj
 have h1:=(pU s (j:Int)).1
 have h2:=h j (by omega)
 unfold gY
 simp
 omega
theorem Aiq {x:Int} (h:gY x=true):r32 x:=by
 have:=vJ h
 unfold r32;omega
theorem Agf {t:Ag} (h:Uv t) {m:List Int} (hl:m.length<=120) (hr: ∀x∈m,r32 x) (s:ByteArray) (hf:Gv m=some (s, .nil)):
  ∃m' e,Ju t m=some (m',e)/\(e.isNil=true->Ik t m'=some (s, .nil)):=by
 obtain⟨e,he,_⟩:=pV h hl hr
 unfold Ju
 rw[he,Aa]
 cases hn:e.isNil with
 |false=>exact⟨[],e,rfl,fun h=>by rw[hn]at h;cases h⟩
 |true=>
  refine⟨m, .nil,rfl,fun _=>?_⟩
  unfold Ik
  rw[he,Aa,hn,Bool.not_true,cond_false,hf,Aa]
theorem Aeb {t:Ag} (h:Uv t) (s:ByteArray) (hs:s.size<=70): ∃m e,Il t s=some (m,e)/\(e.isNil=true->Ik t m=some (s, .nil)):=by
 unfold Il
 rcases AeO s with ha|⟨j,hj,ha,hb⟩
 ·rw[mH s (by omega) ha,Aa]
  simp only
  unfold K8
  rw[if_pos (by omega),AaT]
  cases hp:preB s with
  |false=>
   rw[if_neg (by simp),Aa]
   simp only[cond_false,Aa]
   obtain⟨h1,h2,h3⟩:=zV ha
   exact Agf h (by omega) (fun x hx=>Aiq (h1 x hx)) s (by rw[Aa7 (by omega) h1,h3])
  |true=>
   rw[if_pos rfl,Aa]
   simp only[cond_true]
   have hz:(s.extract 4 s.size).size<=120:=by rw[ByteArray.size_extract];omega
   obtain⟨l,e,hd,hc⟩:=AaX _ hz
   rw[hd,Aa]
   rcases hc with ⟨rfl,h1,h2⟩|hc
   ·simp only[Er.isNil,cond_true]
    obtain⟨s2,e2,hf,he⟩:=yA h1
    rw[hf,Aa]
    rcases he with rfl|⟨n,g,_,rfl⟩
    ·simp only[Er.isNil,Bool.not_true,cond_false,Aa]
     unfold Po
     cases hq:(s2.toList==s.toList)with
     |false=>exact⟨_,_,rfl,fun h=>by cases h⟩
     |true=>
      have:=wT hq
      subst this
      simp only[Bool.not_true,cond_false,Aa]
      exact Agf h h1 (fun x hx=>Aiv (h2 x hx)) s2 hf
    ·exact⟨_,_,rfl,fun h=>by cases h⟩
   ·rw[AaK hc]
    cases e with
    |nil=>cases hc
    |sent g=>cases hc
    |box tt n e=>
     have ht:tt=70:=by
         cases e<;>first|(cases hc;done)|simpa[bx]using hc
     subst ht
     exact⟨_,_,rfl,fun h=>by cases h⟩
 ·obtain⟨e,he,hi⟩:=Aec s (by omega) hj ha hb
  rw[hi,Aa]
  exact⟨[],e,rfl,fun h=>by rw[AaK he]at h;cases h⟩
theorem AdY {t:Ag} (h:Uv t) {l:List Int} (hl:l.length<=30) (hr: ∀x∈l,r32 x): ∃a e,Ik t l=some (a,e)/\(e.isNil=true->a.size<=63/\Il t a=some (l, .nil)):=by
 obtain⟨e,he,hk⟩:=pV h (by omega) hr
 unfold Ik
 rw[he,Aa]
 cases hn:e.isNil with
 |false=>exact⟨_,e,rfl,fun h=>by rw[hn]at h;cases h⟩
 |true=>
  rw[Bool.not_true,cond_false]
  obtain⟨hne,hhy,hsz⟩:=hk hn
  have hk4:Ju t l=some (l, .nil):=by
   unfold Ju
   rw[he,Aa,hn]
   rfl
  cases hp:l.all gY with
  |true=>
   have hpl:=List.all_eq_true.1 hp
   have hb: ∀x∈l,0<=x/\x<=127:=fun x hx=>by have:=vJ (hpl x hx);omega
   have hf:=Aa7 (by omega) hpl
   have h63:=hsz _ _ hf
   rw[hf,Aa]
   refine⟨_,_,rfl,fun _=>⟨h63,?_⟩⟩
   unfold Il
   rw[mH _ (by omega) (sG hb),Aa]
   simp only
   unfold K8
   have hpre:preB (strOfNums l)=false:=by
    cases hq:preB (strOfNums l)with
    |false=>rfl
    |true=>
     exfalso
     unfold preB at hq
     rw[Bool.and_eq_true,decide_eq_true_eq]at hq
     obtain⟨h4,hq⟩:=hq
     have hq:=wT hq
     rw[Lb]at h4
     have hb4: ∀j:Nat,j<4->bt (strOfNums l) (j:Int)=bt pxB (j:Int):=fun j hj=>by
         rw[<- hq]
         unfold bt
         simp only[Int.toNat_natCast,List.getD_eq_getElem?_getD,Array.getElem?_toList,ByteArray.data_extract]
         rw[Array.getElem?_extract,if_pos (by have:(strOfNums l).data.size=l.length:=Lb l;omega),Nat.zero_add]
     have g2:=hb4 2 (by omega)
     have g3:=hb4 3 (by omega)
     rw[Z4 l (fun x hx=>by have:=hb x hx;omega) 2 (by omega)]at g2
     rw[Z4 l (fun x hx=>by have:=hb x hx;omega) 3 (by omega)]at g3
     exact hhy ⟨by omega,g2,g3⟩
   rw[if_pos (by omega),AaT,hpre,if_neg (by simp),Aa]
   simp only[cond_false,Aa]
   rw[Aed hb]
   exact hk4
  |false=>
   rcases Afu (by omega) hp with ⟨h1,h2,hf⟩|⟨n,g,_,hf⟩
   ·have h63:=hsz _ _ hf
    rw[hf,Aa]
    refine⟨_,_,rfl,fun _=>⟨h63,?_⟩⟩
    have hb: ∀x∈ [120,110,45,45]++(KV l).o,0<=x/\x<=127:=fun x hx=>by
         rcases List.mem_append.1 hx with hx|hx
         ·simp at hx;omega
         ·rw[Acg]at hx
          rcases List.mem_append.1 hx with hx|hx
          ·unfold Oz at hx
           split at hx
           ·rcases List.mem_append.1 hx with hx|hx
            ·exact AaH h1 x hx
            ·rw[List.mem_singleton]at hx;omega
           ·exact AaH h1 x hx
          ·obtain⟨v,hv,rfl⟩:=List.mem_map.1 hx
           have:=Aar (by omega) h1 v hv
           have:=rP this.1 this.2
           omega
    have hz:(strOfNums ([120,110,45,45]++(KV l).o)).size=4+(KV l).o.length:=by rw[Lb,List.length_append];rfl
    unfold Il
    rw[mH _ (by omega) (sG hb),Aa]
    simp only
    unfold K8
    have hcut:(strOfNums ([120,110,45,45]++(KV l).o)).extract 4 (strOfNums ([120,110,45,45]++(KV l).o)).size=strOfNums (KV l).o:=Am4 [120,110,45,45] _
    have hpre:preB (strOfNums ([120,110,45,45]++(KV l).o))=true:=by
         unfold preB
         rw[Bool.and_eq_true,decide_eq_true_eq]
         refine⟨by omega,?_⟩
         have:(strOfNums ([120,110,45,45]++(KV l).o)).extract 0 4=pxB:=by
          rw[<- iC]
          apply ByteArray.ext
          rw[ByteArray.data_extract,ByteArray.data_append]
          apply Array.ext'
          rw[Array.toList_extract,Array.toList_append]
          have e1:(strOfNums [120,110,45,45]).data.toList=pxB.data.toList:=by rfl
          have e2:pxB.data.toList.length=4:=rfl
          rw[e1]
          simp
         rw[this,beq_self_eq_true]
    rw[if_pos (by omega),AaT,hpre,if_pos rfl,Aa,hcut]
    simp only[cond_true]
    rw[AhC l (by omega) h1 h2,Aa]
    simp only[Er.isNil,cond_true]
    rw[hf,Aa]
    simp only[Er.isNil,Bool.not_true,cond_false,Aa]
    rw[beq_self_eq_true,Bool.not_true]
    unfold Po
    simp only[cond_false,Aa]
    exact hk4
   ·rw[hf,Aa]
    exact⟨_,_,rfl,fun h=>by cases h⟩
theorem oU (t:Ag) (l:List Int) (s:ByteArray) (hr: ∀x∈l,r32 x):K7 t l s=some true:=by
 unfold K7
 rw[Ahm,Aa,Bool.not_true,cond_false]
 obtain⟨g,hg,_⟩:=AhT t
 rw[hg,Aa]
 cases g with
 |true=>rfl
 |false=>
  rw[cond_false]
  by_cases h1:((l.length:Nat):Int)>30
  ·rw[decide_eq_true h1];rfl
  ·rw[decide_eq_false h1,cond_false]
   by_cases h2:((s.size:Nat):Int)>70
   ·rw[decide_eq_true h2];rfl
   ·rw[decide_eq_false h2,cond_false,Afs,Aa,Aa,Wo]
    by_cases h3:(xH t).2=0
    ·have hF:=Uv.of h3
     rw[decide_eq_true h3]
     unfold MR
     simp only[Bool.not_true,cond_false]
     have last:G5 t s ()=some true:=by
         obtain⟨m,e,hm,hk⟩:=Aeb hF s (by omega)
         unfold G5
         rw[hm,Aa]
         cases hn:e.isNil with
         |false=>rfl
         |true=>
          rw[cond_true,hk hn,Aa]
          simp only[Er.isNil,Bool.not_true,cond_false,Aa]
          rw[beq_self_eq_true]
          rfl
     obtain⟨a,e,ha,hk⟩:=AdY hF (by omega) hr
     rw[ha,Aa]
     cases hn:e.isNil with
     |false=>exact last
     |true=>
      obtain⟨k1,k2⟩:=hk hn
      rw[cond_true,k2,Aa]
      simp only[Er.isNil,Bool.not_true,cond_false]
      rw[AbM l (by omega),Aa,decide_eq_false (show ¬((a.size:Nat):Int)>63 by omega)]
      exact last
    ·rw[decide_eq_false h3];rfl
theorem wfZ1 {a:Int} (h:(Lit.int .i32 a).wf=true):r32 a:=by
 have e:(Lit.int .i32 a).wf=(decide (-2147483648<=a) && decide (a<=2147483647)):=rfl
 rw[e,Bool.and_eq_true,decide_eq_true_eq,decide_eq_true_eq]at h
 exact h
theorem wfZ2 {l:List Int} (hw: ∀j,j<l.length->(Lit.int .i32 (l.getD j 0)).wf=true): ∀x∈l,r32 x:=fun x hx=>by
 obtain⟨i,hi,rfl⟩:=List.mem_iff_getElem.1 hx
 have q:=wfZ1 (hw i hi)
 rwa[List.getD_eq_getElem?_getD,List.getElem?_eq_getElem hi]at q
end Go.Proofs.YtkeokkmhhhhoiaaGreatDoor
