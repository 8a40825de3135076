import Derived.Test.YtkeokkmhhhhoiaaGreatDoorE
import Derived.Test.YtkeokkmhhhhoiaaGreatDoorProg
import Derived.KernelRfl
namespace Go.Proofs.YtkeokkmhhhhoiaaGreatDoor
open Go Go.SE
set_option linter.unusedVariables false
set_option linter.unusedSimpArgs false
set_option maxRecDepth 10000
set_option maxHeartbeats 2000000
attribute [local irreducible] Contract iter
theorem mix:pl.follows .mixedOrders=true:=by kernel_rfl
theorem gOf {α:Type} {c:Prop} [Decidable c] {X:Option α} {r:α} (h:(if c then X else none)=some r):c:=by
 by_cases hc:c
 ·exact hc
 ·rw[if_neg hc]at h;cases h
theorem Aif: ∀(l:List Int) (j:Nat),j<l.length->(l.map (AV.int .u8)).getD j .unk=.int .u8 (l.getD j 0):=fun l j hj=>by simp[List.getD_eq_getElem?_getD,hj]
theorem gO {P Q:Prop} (k:Q) (w:Q->P:=by
 intro q
 ((conv=>whnf);repeat((first|apply TT mix|apply sE rfl|apply dG (by kernel_rfl)|fail);(conv=>whnf)))
 exact q):P:=w k
theorem cl {p:Prop} (h:p:=by repeat' first
 |exact FD.nil
 |exact Kt.nil
 |exact FZ.nil
 |exact Lc.nil
 |exact AP.nil
 |exact sQ rfl rfl
 |refine Kt.cons ?_ ?_
 |refine sK rfl ?_ ?_
 |refine FD.cons rfl (VO.mk (by first|exact id|exact(fun _=>rfl)|(intro hf;first|exact hf|rfl)) (by first|exact id|exact(fun _=>rfl)|(intro hf;first|exact hf|rfl)) ?_) ?_
 |exact Ll rfl
 |refine Lc.cons ?_ ?_
 |refine FZ.cons ?_ ?_
 |exact cR rfl rfl
 |exact l9 (by first|rfl|(simp;done)|(rw[List.take_of_length_le (by simp<;>omega)];first|rfl|(rw[List.take_take,Nat.min_self];done)|(simp;done)))
 |exact AbJ (by first|rfl|(simp;done)|(rw[List.take_of_length_le (by simp<;>omega)];first|rfl|(rw[List.take_take,Nat.min_self];done)|(simp;done)))
 |exact zQ (by first|rfl|(simp;done)|(rw[List.take_of_length_le (by simp<;>omega)];first|rfl|(rw[List.take_take,Nat.min_self];done)|(simp;done)))
 |refine Qp ?_
 |exact Tg (fun h i hi=>by rfl)
 |exact Tg (fun _ _ _=>rfl)
 |exact l8 (by simp) (fun i hi=>by first|(rcases j with _|_|_|_|_|j<;>first|rfl|(exfalso;simp at hj;done)|(exfalso;simp at hj;omega)))
 |exact zR (by first|rfl|simp) (fun i hi=>by first|exact⟨rfl,rfl,rfl,AV.Le.refl _⟩|exact Ail (fun _=>⟨rfl,rfl⟩) hi|exact one_set (fun _=>⟨rfl,rfl⟩) rfl rfl (by first|exact AV.Le.refl _|exact AV.Le.mP) hi|exact Ags ⟨rfl,rfl,rfl,AV.Le.list rfl fun j hj=>absurd hj (Nat.not_lt_zero _)⟩)
 |refine And.intro rfl ?_
 |exact AV.Le.refl _
 |exact AV.Le.mP
 |exact AV.Le.AhH
 |exact AV.Le.Agm
 |exact AV.Le.Aij
 |exact AV.Le.of_eq (congrArg (AV.ms _) (by first|rfl|omega|(simp;omega)|(simp;done)|(simp only[List.length_set]at*;omega)))
 |refine AV.Le.AhG ?_
 |refine AV.Le.GU ?_
 |refine AV.Le.agg ?_
 |refine AP.cons ?_ ?_
 |exact AV.Le.list rfl (fun j hj=>absurd hj (Nat.not_lt_zero _))
 |exact AV.Le.list (by simp;try omega) (fun j hj=>by first|rfl|rw[KW hj]|(rw[getD_take hj];simp)|simp)):p:=h
theorem wG {m n:Nat} {t:List AV} {s s':Store} {kv:List (Nat×AV)} (ps:List Nat) (hq:(Rq ps&&ps.all (fun i=>Nat.blt i s.length)&&aK m ps)=true:=by rfl) (hn:t.length=n:=by rfl) (hs:FD ps s ps s':=by exact cl) (h:Kt ps t kv:=by exact cl):Weak m ⟨t,s⟩ (BS n kv s'):=WX ps hq hn hs h
theorem oC {m:Nat} {P:PL} {f:FuncId} {args args':List AV} {s objs Dz:Store} {r:AV} (ids:List Nat) (hC:Bc m P f args' objs r Dz) (hs:FD ids s ids objs:=by exact cl) (ha:FZ ids args args':=by exact cl)
 (hq:(Rq ids&&ids.all (fun i=>Nat.blt i s.length))=true:=by rfl) (hle:(Nat.ble m Dz.length&&Nat.ble m ids.length)=true:=by rfl):
 Contract P f args s (r.ren (Abx (ids.take m) s.length)) (KP (Abx (ids.take m) s.length) (ids.take m) Dz (Vp s (ids.drop m))):=WH ids hC hq hs ha hle
theorem aI {x y:AV} {a b:Store} (h:x.Le y:=by exact cl) (e:a=b:=by rfl):x.Le y/\a=b:=⟨h,e⟩
theorem bR {α:Type} {r:α} {P A B:Prop} {c c':Bool} {X Y:Option α} (h:(bif c' then X else Y)=some r) (h1:c=true->X=some r->A) (h2:c=false->Y=some r->B) (w:brP c A B->P:=by
 intro q
 ((conv=>whnf);repeat((first|apply TT mix|apply sE rfl|apply dG (by kernel_rfl)|fail);(conv=>whnf)))
 exact q) (hc:c=c':=by rfl):P:=w (Ahs hc h h1 h2)
theorem gD1 {α:Type} {r:α} {P A:Prop} {p p':Prop} [Decidable p] {X:Option α} (h:(if p then X else none)=some r) (k:X=some r->A) (w:p'/\A->P:=by
 intro q
 ((conv=>whnf);repeat((first|apply TT mix|apply sE rfl|apply dG (by kernel_rfl)|fail);(conv=>whnf)))
 exact q) (hp:p=p':=by rfl):P:=w (AhO hp h k)
theorem GH {α:Type} {r:α} {P A:Prop} {p q p' q':Prop} [Decidable (p/\q)] {X:Option α} (h:(if p/\q then X else none)=some r) (k:X=some r->A) (w:p'/\q'/\A->P:=by
 intro q
 ((conv=>whnf);repeat((first|apply TT mix|apply sE rfl|apply dG (by kernel_rfl)|fail);(conv=>whnf)))
 exact q) (hp:p=p':=by rfl) (hq:q=q':=by rfl):P:=w (AhP hp hq h k)
theorem gD3 {α:Type} {r:α} {P A:Prop} {p q s p' q' s':Prop} [Decidable (p/\q/\s)] {X:Option α} (h:(if p/\q/\s then X else none)=some r) (k:X=some r->A) (w:p'/\q'/\s'/\A->P:=by
 intro q
 ((conv=>whnf);repeat((first|apply TT mix|apply sE rfl|apply dG (by kernel_rfl)|fail);(conv=>whnf)))
 exact q) (hp:p=p':=by rfl) (hq:q=q':=by rfl) (hs:s=s':=by rfl):P:=w (AhQ hp hq hs h k)
theorem lB {S X α:Type} {m:Nat} {dS:Fr->(Ex->Fr->Prop)->Prop} {fr:Fr} {K:Ex->Fr->Prop} {body:S->Option (Stp S X)} {s0:S} {f:X->Option α} {r:α} {P:Prop} (F:S->Fr) (h:(iter body s0).bind f=some r) (hw:Weak m fr (F s0)) (step: ∀x,f x=some r-> ∀(k:Nat) (s:S) (st:Stp S X) (Kn:Fr->Prop),(∀XZ s',Lh body k s'=some x->Weak m XZ (F s')->Kn XZ)->body s=some st->AgW body k x st->dS (F s) (gK (fun XZ _=>Kn XZ) K)) (w:X7 m dS fr K->P:=by
 intro q
 ((conv=>whnf);repeat((first|apply TT mix|apply sE rfl|apply dG (by kernel_rfl)|fail);(conv=>whnf)))
 exact q):P:=
 w (bnd h fun x hx h=>AO F hx hw (step x h))
theorem cB {S α:Type} {m:Nat} {AA:(Ex->Fr->Prop)->Prop} {BB:Fr->(Ex->Fr->Prop)->Prop} {K:Ex->Fr->Prop} {x:Option S} {f:S->Option α} {r:α} {P:Prop} (F:S->Fr) (h:x.bind f=some r) (h1: ∀Kn:Fr->Prop,(∀fr' s,f s=some r->Weak m fr' (F s)->Kn fr')-> ∀y,x=some y->f y=some r->AA (gK (fun fr' _=>Kn fr') K)) (h2: ∀s,f s=some r->BB (F s) K) (w:Adc m AA BB K->P:=by
 intro q
 ((conv=>whnf);repeat((first|apply TT mix|apply sE rfl|apply dG (by kernel_rfl)|fail);(conv=>whnf)))
 exact q):P:=
 w (bnd h fun y hy h=>DT F (fun s=>f s=some r) (fun Kn hn=>h1 Kn hn y hy h) h2)
theorem cL {α β:Type} {x:Option β} {f:β->Option α} {r:α} {P B:Prop} {Q:AV->Prop} {PP:PL} {g:FuncId} {args:List AV} {R:β->AV} (h:x.bind f=some r) (c: ∀y,x=some y->Contract PP g args [] (R y) []) (k: ∀y,f y=some r->Q (R y)) (w:(∃r,Contract PP g args [] r []/\r.Lm=true/\Q r)∨B->P:=by
 intro q
 ((conv=>whnf);repeat((first|apply TT mix|apply sE rfl|apply dG (by kernel_rfl)|fail);(conv=>whnf)))
 exact q) (hi: ∀y,(R y).Lm=true:=by intro y;rfl):P:=
 w (bnd h fun y hy h=>Or.inl ⟨_,c y hy,hi y,k y h⟩)
theorem Akm {α:Type} {x r:α} (h:some x=some r):True:=trivial
theorem Akk {α:Type} {c:Bool} {X Y:Option α} {r:α} (h:(bif c then X else Y)=some r):True:=trivial
theorem isIt {α:Type} {c:Prop} [Decidable c] {X:Option α} {r:α} (h:(if c then X else none)=some r):True:=trivial
def Pi (ps:List Nat):Prop:=True
theorem pI (ps:List Nat):Pi ps:=trivial
theorem wQ {m n:Nat} {t:List AV} {s s':Store} {kv:List (Nat×AV)} {ps:List Nat} (i:Pi ps) (hq:(Rq ps&&ps.all (fun i=>Nat.blt i s.length)&&aK m ps)=true:=by rfl) (hn:t.length=n:=by rfl) (hs:FD ps s ps s':=by exact cl) (h:Kt ps t kv:=by exact cl):Weak m ⟨t,s⟩ (BS n kv s'):=WX ps hq hn hs h
theorem BP {α:Type} {M:Option α} {r:α} {P:Prop} (h:M=some r) (p:M=some r->P:=by
 intro h
 repeat' (((conv=>whnf);repeat((first|apply TT mix|apply sE rfl|apply dG (by kernel_rfl)|fail);(conv=>whnf)));first
  |((with_reducible have q:=Akm h);have e:=Option.some.inj h;subst e;((conv=>whnf);repeat((first|apply TT mix|apply sE rfl|apply dG (by kernel_rfl)|fail);(conv=>whnf)));exact aI)
  |((with_reducible have q:=Akk h);refine Ahs rfl h (fun _ h=>?_) (fun _ h=>?_))
  |((with_reducible have q:=isIt h);have gh:=gOf h;first|refine AhQ rfl rfl rfl h (fun h=>?_)|refine AhP rfl rfl h (fun h=>?_)|refine AhO rfl h (fun h=>?_))
  |cases h)):P:=p h
theorem Oc {α:Type} {M:Option α} {r:α} {P:Prop} {ps:List Nat} (i:Pi ps) (h:M=some r) (p:Pi ps->M=some r->P:=by
 intro i h
 repeat' (((conv=>whnf);repeat((first|apply TT mix|apply sE rfl|apply dG (by kernel_rfl)|fail);(conv=>whnf)));first
  |((with_reducible have q:=Akm h);have e:=Option.some.inj h;subst e;((conv=>whnf);repeat((first|apply TT mix|apply sE rfl|apply dG (by kernel_rfl)|fail);(conv=>whnf)));exact Or.inr (Or.inr (wQ i)))
  |((with_reducible have q:=Akk h);refine Ahs rfl h (fun _ h=>?_) (fun _ h=>?_))
  |((with_reducible have q:=isIt h);have gh:=gOf h;first|refine AhQ rfl rfl rfl h (fun h=>?_)|refine AhP rfl rfl h (fun h=>?_)|refine AhO rfl h (fun h=>?_))
  |cases h)):P:=p i h
theorem Cg {α:Type} {S:Type} {M:Option α} {x:α} {P:Prop} {ps:List Nat} {m:Nat} {F:S->Fr} {I:S->Prop} {J:Prop} {Kn:Fr->Prop} (i:Pi ps) (hn: ∀fr' s,I s->Weak m fr' (F s)->Kn fr') (hj:J) (h:M=some x) (p:Pi ps->(∀fr' s,I s->Weak m fr' (F s)->Kn fr')->J->M=some x->P:=by
 intro i hn hj h
 repeat' (((conv=>whnf);repeat((first|apply TT mix|apply sE rfl|apply dG (by kernel_rfl)|fail);(conv=>whnf)));first
  |((with_reducible have q:=Akm h);have e:=Option.some.inj h;subst e;((conv=>whnf);repeat((first|apply TT mix|apply sE rfl|apply dG (by kernel_rfl)|fail);(conv=>whnf)));first|exact hn _ _ hj (wQ i)|exact hn _ () hj (wQ i))
  |((with_reducible have q:=Akk h);refine Ahs rfl h (fun _ h=>?_) (fun _ h=>?_))
  |((with_reducible have q:=isIt h);have gh:=gOf h;first|refine AhQ rfl rfl rfl h (fun h=>?_)|refine AhP rfl rfl h (fun h=>?_)|refine AhO rfl h (fun h=>?_))
  |cases h)):P:=p i hn hj h
theorem Yc:Same pl 216:=⟨_,rfl,by kernel_rfl,by kernel_rfl,by kernel_rfl,by kernel_rfl⟩
theorem Rj (r) (h:ND=some r):Contract pl 28 [] [] (AB r) []:=by
 refine Af .z Tryz.func28 rfl (by kernel_rfl) ?_
 have e:=Option.some.inj h;subst e
 refine gO ?_
 exact And.intro (AV.Le.agg (AP.cons (AV.Le.list rfl (fun j hj=>absurd hj (Nat.not_lt_zero _))) (AP.cons (AV.Le.list rfl (fun j hj=>absurd hj (Nat.not_lt_zero _))) (AP.cons (AV.Le.list rfl (fun j hj=>absurd hj (Nat.not_lt_zero _))) (AP.cons (AV.Le.list rfl (fun j hj=>absurd hj (Nat.not_lt_zero _))) (AP.cons (AV.Le.list rfl (fun j hj=>absurd hj (Nat.not_lt_zero _))) (AP.cons (AV.Le.list rfl (fun j hj=>absurd hj (Nat.not_lt_zero _))) (AP.cons (AV.Le.list rfl (fun j hj=>absurd hj (Nat.not_lt_zero _))) (AP.cons (AV.Le.list rfl (fun j hj=>absurd hj (Nat.not_lt_zero _))) (AP.cons (AV.Le.list rfl (fun j hj=>absurd hj (Nat.not_lt_zero _))) (AP.cons (AV.Le.lits (enc:=fun x=>(Lg x)) Ai rfl (Ji.cons (AP.cons (AV.Le.refl _) (AP.cons (AV.Le.refl _) (AP.cons (AV.Le.refl _) AP.nil))) rfl Ji.nil)) (AP.cons (AV.Le.list rfl (fun j hj=>absurd hj (Nat.not_lt_zero _))) (AP.cons (AV.Le.list rfl (fun j hj=>absurd hj (Nat.not_lt_zero _))) (AP.cons (AV.Le.list rfl (fun j hj=>absurd hj (Nat.not_lt_zero _))) (AP.cons (AV.Le.list rfl (fun j hj=>absurd hj (Nat.not_lt_zero _))) (AP.cons (AV.Le.lits (enc:=fun x=>(Vd x)) E9 rfl (Ji.cons (AP.cons (AV.Le.refl _) (AP.cons (AV.Le.refl _) AP.nil)) rfl Ji.nil)) AP.nil)))))))))))))))) rfl
theorem QD (FX ZV) (r) (h:MZ FX ZV=some r):Contract pl 117 [(AV.int .i64 FX),(AV.err ZV)] [] (AV.err r) []:=by
 refine Af .z Tryz.func117 rfl (by kernel_rfl) ?_
 unfold MZ at h
 exact BP h
theorem xD (Bq) (r) (h:dV Bq=some r):Contract pl 167 [(AV.int .u8 Bq)] [] (AV.GU [(AV.int .i64 r.1),(AV.int .i32 r.2.1),(AV.int .u8 r.2.2.1),(AV.int .u8 r.2.2.2)]) []:=by
 refine Af (.t false .z (.t false .z (.t true .z .z))) Tryz.func167 rfl (by kernel_rfl) ?_
 refine gO ?_
 refine bnd h (fun x4 h4 h=>?_)
 refine DT (fun s1:Int=>BS 52 [(0,(.int .u8 Bq)),(2,(.int .i64 s1)),(4,(.int .u8 (128:Int))),(5,(.int .u8 (191:Int)))] []) (fun s1:Int=>SN Bq s1=some r) ?_ ?_
 ·intro Kn4 aS
  refine bR h4 ?_ ?_
  ·intro _ h4
   have e:=Option.some.inj h4;subst e
   exact BP h
  ·intro _ h4
   refine bR h4 ?_ ?_
   ·intro _ h4
    exact Cg (pI []) aS h h4
   ·intro _ h4
    refine bR h4 ?_ ?_
    ·intro _ h4
     exact Cg (pI []) aS h h4
    ·intro _ h4
     refine bR h4 ?_ ?_
     ·intro _ h4
      exact Cg (pI []) aS h h4
     ·intro _ h4
      refine bR h4 ?_ ?_
      ·intro _ h4
       have e:=Option.some.inj h4;subst e
       exact BP h
      ·intro _ h4
       have e:=Option.some.inj h4;subst e
       exact BP h
 ·clear h h4
  intro s1 aQ
  unfold SN at aQ
  exact BP aQ
theorem AaM (BA FX) (r) (h:kX BA FX=some r):Contract pl 115 [(AV.str BA),(AV.int .i64 FX)] [] (AV.GU [(AV.int .i32 r.1),(AV.int .i64 r.2.1),(AV.err r.2.2)]) []:=by
 refine Af (.t false .z (.t false (.t true .z .z) (.t false .z (.t false .z (.t true (.t false .z (.t false (.t false (.t false .z (.t false (.t false (.t false .z (.t false .z (.t false (.t true .z .z) .z))) .z) .z)) .z) .z)) .z))))) Tryz.func115 rfl (by kernel_rfl) ?_
 refine cB (fun s1:Bool=>BS 76 [(0,(.str BA)),(1,(.int .i64 FX)),(19,(.bool s1))] []) h ?_ ?_
 ·intro AkQ AdA x19 h19 h
  exact Cg (pI []) AdA h h19
 ·clear h
  intro s1 JR
  refine bR JR ?_ ?_
  ·intro _ JR
   refine cL JR (QD _ _) ?_
   intro y3 JR
   exact BP JR
  ·intro _ JR
   refine GH JR fun JR=>?_
   refine cL JR (xD _) ?_
   intro y4 JR
   refine bR JR ?_ ?_
   ·intro _ JR
    refine cL JR (QD _ _) ?_
    intro y5 JR
    exact BP JR
   ·intro _ JR
    refine gO ?_
    refine bnd JR (fun x21 h21 JR=>?_)
    refine DT (fun s6:Int=>BS 76 [(4,(.int .i32 s6)),(7,(.int .i64 y4.1))] []) (fun s6:Int=>some (s6,(IntKind.wrap .i64 (y4.1+(1:Int))),Er.nil)=some r) ?_ ?_
    ·intro Ahg oQ
     refine gO ?_
     refine AO (fun s9:Int×Int×Int×Int=>BS 76 [(0,(.str BA)),(1,(.int .i64 FX)),(4,(.int .i32 s9.1)),(7,(.int .i64 y4.1)),(8,(.int .u8 s9.2.1)),(9,(.int .u8 s9.2.2.1)),(10,(.int .i64 s9.2.2.2))] []) h21 (wG []) ?_
     intro k11 s9 An1 U0 KX PI yP
     refine bR PI ?_ ?_
     ·intro _ PI
      refine bR PI ?_ ?_
      ·intro _ PI
       refine cL PI (QD _ _) ?_
       intro P5 PI
       have e:=Option.some.inj PI;subst e
       have e:=Ao yP;subst e
       exact BP JR
      ·intro _ PI
       refine GH PI fun PI=>?_
       refine cB (fun s13:Bool=>BS 76 [(0,(.str BA)),(1,(.int .i64 FX)),(4,(.int .i32 s9.1)),(7,(.int .i64 y4.1)),(10,(.int .i64 s9.2.2.2)),(11,(.int .u8 (bt BA (IntKind.wrap .i64 (FX+s9.2.2.2))))),(63,(.bool s13))] []) PI ?_ ?_
       ·intro AcT XH x22 h22 PI
        exact Cg (pI []) XH PI h22
       ·clear PI
        intro s13 Iu
        refine bR Iu ?_ ?_
        ·intro _ Iu
         refine cL Iu (QD _ _) ?_
         intro rW Iu
         have e:=Option.some.inj Iu;subst e
         have e:=Ao yP;subst e
         exact BP JR
        ·intro _ Iu
         refine gO ?_
         refine And.intro (by decide) ?_
         exact Cg (pI []) KX yP Iu
     ·intro _ PI
      have e:=Option.some.inj PI;subst e
      have e:=Ao yP;subst e
      refine gO ?_
      exact oQ _ s9.1 JR (wG [])
    ·clear JR h21
     intro s6 hc24
     exact BP hc24
theorem sV (BA) (r) (h:Zg BA=some r):Contract pl 62 [(AV.str BA)] [] (AV.GU [(Az r.1),(AV.err r.2)]) []:=by
 refine Af (.t false .z (.t false .z (.t true .z .z))) Tryz.func62 rfl (by kernel_rfl) ?_
 refine gO ?_
 refine bnd h (fun x11 h11 h=>?_)
 refine DT (fun s1:(List Int)=>BS 31 [(4,(.ms 0 s1.length))] [some ⟨1,21,(.ints .i32 s1),false,true⟩]) (fun s1:(List Int)=>some (s1,Er.nil)=some r) ?_ ?_
 ·intro U0 KX
  refine gO ?_
  refine AO (fun s4:(List Int)×Int=>BS 31 [(0,(.str BA)),(4,(.ms 0 s4.1.length)),(5,(.int .i64 s4.2))] [some ⟨1,21,(.ints .i32 s4.1),false,true⟩]) h11 (JK (UW 4 1 21 (.ints .i32 []) _ rfl rfl trivial (by first|exact Nat.zero_le _|(simp;done)|decide)) (wG [0])) ?_
  intro k6 s4 eU eZ QU Ce hs6
  refine bR Ce ?_ ?_
  ·intro _ Ce
   refine cL Ce (AaM _ _) ?_
   intro y7 Ce
   refine bR Ce ?_ ?_
   ·intro _ Ce
    have e:=Option.some.inj Ce;subst e
    have e:=Ao hs6;subst e
    exact BP h
   ·intro _ Ce
    refine gO ?_
    obtain⟨p12,Ce⟩:=Jq Ce
    refine⟨[],1,(.ints .i32 [y7.1]),⟨by simp[Row.len]<;>omega,rfl,_,rfl,by simp[Row.len]<;>omega,fun j hj=>.inl rfl⟩,trivial,fun j hj=>rfl,?_⟩
    conv=>whnf
    refine⟨by simp[Row.len];try omega,p12,by omega,?_⟩
    exact Cg (pI [2]) QU hs6 Ce
  ·intro _ Ce
   have e:=Option.some.inj Ce;subst e
   have e:=Ao hs6;subst e
   refine gO ?_
   exact KX _ s4.1 h (wG [0])
 ·clear h h11
  intro s1 Jr
  exact BP Jr
theorem VB (p_r) (r) (h:J6 p_r=some r):Contract pl 55 [(AV.int .i32 p_r)] [] (AV.bool r) []:=by
 refine Af .z Tryz.func55 rfl (by kernel_rfl) ?_
 unfold J6 at h
 exact BP h
theorem fK (YF DW EX) (r) (h:LZ YF DW EX=some r):Contract pl 107 [(AV.int .i64 YF),(AV.ip (DY DW) 0),(AV.ip (AV.int .i32 EX) 0)] [] (AV.bool r) []:=by
 refine Af .z Tryz.func107 rfl (by kernel_rfl) ?_
 unfold LZ at h
 exact BP h
theorem Ry (p_n Ua EX) (r) (h:GL p_n Ua EX=some r):Contract pl 106 [(AV.int .i64 p_n),(AV.fn (.func 107) [] [(AV.ip (DY Ua) 0),(AV.ip (AV.int .i32 EX) 0)])] [] (AV.int .i64 r) []:=by
 refine Af (.t false .z (.t false .z (.t true .z .z))) Tryz.func106 rfl (by kernel_rfl) ?_
 refine cB (fun s1:Int=>BS 26 [(5,(.int .i64 s1))] []) h ?_ ?_
 ·intro Kn9 kC x9 h9 h
  refine gO ?_
  refine AO (fun s4:Int×Int=>BS 26 [(1,(.fn (.func 107) [] [(.ip (DY Ua) 0),(.ip (.int .i32 EX) 0)])),(5,(.int .i64 s4.1)),(6,(.int .i64 s4.2))] []) h9 (wG []) ?_
  intro k6 s4 eU eZ QU Ce hs6
  refine bR Ce ?_ ?_
  ·intro _ Ce
   refine gO ?_
   refine And.intro (by decide) ?_
   refine cL Ce (fK _ _ _) ?_
   intro y7 Ce
   exact Cg (pI []) QU hs6 Ce
  ·intro _ Ce
   have e:=Option.some.inj Ce;subst e
   have e:=Ao hs6;subst e
   refine gO ?_
   exact kC _ s4.1 h (wG [])
 ·clear h
  intro s1 FW
  exact BP FW
theorem Uk (AZ p_r) (r) (h:Mj AZ p_r=some r):Contract pl 56 [(DY AZ),(AV.int .i32 p_r)] [] (AV.GU [(AV.int .i32 r.1),(AV.bool r.2)]) []:=by
 refine Af (.t false .z (.t false .z (.t false (.t true .z .z) .z))) Tryz.func56 rfl (by kernel_rfl) ?_
 refine cL h (Ry _ _ _) ?_
 intro y1 h
 refine cB (fun s2:Bool=>BS 30 [(2,(.mp 0 0 0)),(3,(.mp 1 0 0)),(6,(.int .i64 y1)),(23,(.bool s2))] [some ⟨1,29,(.vals [(DY AZ)]),false,false⟩,some ⟨1,21,(.vals [(.int .i32 p_r)]),false,false⟩]) h ?_ ?_
 ·intro Kn4 aS x4 h4 h
  exact Cg (pI [0,1]) aS h h4
 ·clear h
  intro s2 aQ
  unfold Ql at aQ
  exact BP aQ
theorem QW (p_r) (r) (h:J5 p_r=some r):Contract pl 191 [(AV.int .i32 p_r)] [] (AV.int .i64 r) []:=by
 refine Af (.t false .z (.t false (.t false (.t true .z (.t false .z (.t true .z (.t false .z (.t true .z (.t false .z (.t true .z .z))))))) .z) .z)) Tryz.func191 rfl (by kernel_rfl) ?_
 refine cB (fun s1:Bool=>BS 31 [(0,(.int .i32 p_r)),(3,(.bool s1))] []) h ?_ ?_
 ·intro Kn9 kC x9 h9 h
  exact Cg (pI []) kC h h9
 ·clear h
  intro s1 FW
  refine bR FW ?_ ?_
  ·intro _ FW
   exact BP FW
  ·intro _ FW
   refine cB (fun s3:Bool=>BS 31 [(0,(.int .i32 p_r)),(10,(.bool s3))] []) FW ?_ ?_
   ·intro U0 KX x11 h11 FW
    exact Cg (pI []) KX FW h11
   ·clear FW
    intro s3 Gq
    refine bR Gq ?_ ?_
    ·intro _ Gq
     exact BP Gq
    ·intro _ Gq
     refine cB (fun s5:Bool=>BS 31 [(0,(.int .i32 p_r)),(17,(.bool s5))] []) Gq ?_ ?_
     ·intro Ajd yL x13 h13 Gq
      exact Cg (pI []) yL Gq h13
     ·clear Gq
      intro s5 RD
      refine bR RD ?_ ?_
      ·intro _ RD
       exact BP RD
      ·intro _ RD
       refine cB (fun s7:Bool=>BS 31 [(24,(.bool s7))] []) RD ?_ ?_
       ·intro Ahe gD x15 ZU RD
        exact Cg (pI []) gD RD ZU
       ·clear RD
        intro s7 hc16
        unfold Ot at hc16
        exact BP hc16
theorem fC (YF DW EX) (r) (h:LY YF DW EX=some r):Contract pl 231 [(AV.int .i64 YF),(AV.ip (Aq DW) 0),(AV.ip (AV.int .i32 EX) 0)] [] (AV.bool r) []:=by
 refine Af .z Tryz.func231 rfl (by kernel_rfl) ?_
 unfold LY at h
 exact BP h
theorem Rx (p_n Ua EX) (r) (h:GK p_n Ua EX=some r):Contract pl 106 [(AV.int .i64 p_n),(AV.fn (.func 231) [] [(AV.ip (Aq Ua) 0),(AV.ip (AV.int .i32 EX) 0)])] [] (AV.int .i64 r) []:=by
 refine Af (.t false .z (.t false .z (.t true .z .z))) Tryz.func106 rfl (by kernel_rfl) ?_
 refine cB (fun s1:Int=>BS 26 [(5,(.int .i64 s1))] []) h ?_ ?_
 ·intro Kn9 kC x9 h9 h
  refine gO ?_
  refine AO (fun s4:Int×Int=>BS 26 [(1,(.fn (.func 231) [] [(.ip (Aq Ua) 0),(.ip (.int .i32 EX) 0)])),(5,(.int .i64 s4.1)),(6,(.int .i64 s4.2))] []) h9 (wG []) ?_
  intro k6 s4 eU eZ QU Ce hs6
  refine bR Ce ?_ ?_
  ·intro _ Ce
   refine gO ?_
   refine And.intro (by decide) ?_
   refine cL Ce (fC _ _ _) ?_
   intro y7 Ce
   exact Cg (pI []) QU hs6 Ce
  ·intro _ Ce
   have e:=Option.some.inj Ce;subst e
   have e:=Ao hs6;subst e
   refine gO ?_
   exact kC _ s4.1 h (wG [])
 ·clear h
  intro s1 FW
  exact BP FW
theorem XP (AQ p_r) (r) (h:NP AQ p_r=some r):Contract pl 192 [(Aq AQ),(AV.int .i32 p_r)] [] (AV.int .i64 r) []:=by
 refine Af (.t false .z (.t false .z (.t false (.t true .z .z) .z))) Tryz.func192 rfl (by kernel_rfl) ?_
 refine cL h (Rx _ _ _) ?_
 intro y1 h
 refine cB (fun s2:Bool=>BS 27 [(5,(.int .i64 y1)),(25,(.bool s2))] []) h ?_ ?_
 ·intro Kn4 aS x4 h4 h
  exact Cg (pI []) aS h h4
 ·clear h
  intro s2 aQ
  unfold Nr at aQ
  exact BP aQ
theorem P9 (BA) (r) (h:F7 BA=some r):Bc 1 pl 193 [(.ms 0 BA.length)] [some ⟨1,21,(.ints .i32 BA),false,true⟩] (.GU []) [some ⟨1,21,(.ints .i32 r),false,true⟩]:=by
 refine A8 1 .z rfl Tryz.func193 rfl (by kernel_rfl) ?_
 refine lB (fun s2:(List Int)×Int×Int=>BS 28 [(0,(.ms 0 s2.1.length)),(2,(.int .i64 s2.2.1)),(3,(.int .i64 s2.2.2))] [some ⟨1,21,(.ints .i32 s2.1),false,true⟩]) h ?_ ?_
 ·exact wG [0]
 intro x4 h k4 s2 st4 Kn4 aS h4 hs4
 refine bR h4 ?_ ?_
 ·intro _ h4
  exact Cg (pI [0]) aS hs4 h4
 ·intro _ h4
  have e:=Option.some.inj h4;subst e
  have e:=Ao hs4;subst e
  exact Oc (pI [0]) h
theorem sO (AQ p_r) (r) (h:Lx AQ p_r=some r):Contract pl 146 [(Aq AQ),(AV.int .i32 p_r)] [] (Az r) []:=by
 refine Af (.t false .z (.t false .z (.t false .z (.t true (.t false .z (.t false (.t false (.t false .z (.t false (.t false (.t false .z (.t false (.t true .z .z) .z)) .z) .z)) .z) .z)) .z)))) Tryz.func146 rfl (by kernel_rfl) ?_
 refine cL h (QW _) ?_
 intro y1 h
 refine bR h ?_ ?_
 ·intro _ h
  refine gO ?_
  refine And.intro (by decide) ?_
  refine gO ?_
  refine And.intro (by decide) ?_
  refine gO ?_
  refine And.intro (by decide) ?_
  refine gO ?_
  refine And.intro (by decide) ?_
  refine bR h ?_ ?_
  ·intro _ h
   refine gO ?_
   refine And.intro (by decide) ?_
   refine gO ?_
   refine⟨[],1,(.ints .i32 [(IntKind.wrap .i32 (IntKind.wrap .i64 ((4519:Int)+(Int.tmod (IntKind.wrap .i64 ((IntKind.wrap .i64 p_r)-(44032:Int))) (28:Int)))))]),⟨by simp[Row.len]<;>omega,rfl,_,rfl,by simp[Row.len]<;>omega,fun j hj=>.inl rfl⟩,trivial,fun j hj=>rfl,?_⟩
   conv=>whnf
   refine⟨by simp[Row.len];try omega,by decide,by decide,?_⟩
   exact BP h
  ·intro _ h
   exact BP h
 ·intro _ h
  refine cB (fun s2:Int×(List Int)=>BS 81 [(1,(.int .i32 s2.1)),(7,(.ms 0 s2.2.length))] [some ⟨1,21,(.ints .i32 s2.2),false,true⟩]) h ?_ ?_
  ·intro Ajd yL x13 h13 h
   refine gO ?_
   refine AO (fun s6:Int×(List Int)×Int=>BS 81 [(1,(.int .i32 s6.1)),(2,(.mp 0 0 0)),(7,(.ms 1 s6.2.1.length)),(8,(.int .i64 s6.2.2))] [some ⟨3,26,(.vals [(Aq AQ)]),false,false⟩,some ⟨1,21,(.ints .i32 s6.2.1),false,true⟩]) h13 (JK (UW 7 1 21 (.ints .i32 []) _ rfl rfl trivial (by first|exact Nat.zero_le _|(simp;done)|decide)) (wG [0,1])) ?_
   intro k8 s6 st8 Kn8 qQ VY hs8
   refine bR VY ?_ ?_
   ·intro _ VY
    refine cL VY (XP _ _) ?_
    intro y9 VY
    refine cB (fun s10:Bool=>BS 81 [(1,(.int .i32 s6.1)),(2,(.mp 0 0 0)),(7,(.ms 1 s6.2.1.length)),(8,(.int .i64 s6.2.2)),(9,(.int .i64 y9)),(56,(.bool s10))] [some ⟨3,26,(.vals [(Aq AQ)]),false,false⟩,some ⟨1,21,(.ints .i32 s6.2.1),false,true⟩]) VY ?_ ?_
    ·intro iE RG x14 VH VY
     exact Cg (pI [0,1]) RG VY VH
    ·clear VY
     intro s10 Nf
     refine bR Nf ?_ ?_
     ·intro _ Nf
      have e:=Option.some.inj Nf;subst e
      have e:=Ao hs8;subst e
      refine gO ?_
      exact yL _ (s6.1,s6.2.1) h (wG [1])
     ·intro _ Nf
      refine GH Nf fun Nf=>?_
      refine bR Nf ?_ ?_
      ·intro _ Nf
       refine GH Nf fun Nf=>?_
       refine gO ?_
       obtain⟨p16,Nf⟩:=Jq Nf
       refine⟨[],1,(.ints .i32 [((AQ.Ad.getD (y9.toNat) Ac).Bp.getD 1 0)]),⟨by simp[Row.len]<;>omega,rfl,_,rfl,by simp[Row.len]<;>omega,fun j hj=>.inl rfl⟩,trivial,fun j hj=>rfl,?_⟩
       conv=>whnf
       refine⟨by simp[Row.len];try omega,p16,by omega,?_⟩
       exact Cg (pI [0,3]) qQ hs8 Nf
      ·intro _ Nf
       exact Cg (pI [0,1]) qQ hs8 Nf
   ·intro _ VY
    have e:=Option.some.inj VY;subst e
    have e:=Ao hs8;subst e
    refine gO ?_
    exact yL _ (s6.1,s6.2.1) h (wG [1])
  ·clear h
   intro s2 hc17
   refine gO ?_
   refine bnd hc17 (fun y4 hy4 hc17=>?_)
   refine Or.inr (AX (oC [0] (P9 _ _ hy4)) ?_)
   refine gO ?_
   obtain⟨p18,hc17⟩:=Jq hc17
   refine gO ?_
   obtain⟨p19,hc17⟩:=Jq hc17
   refine⟨[],s2.2.length,(.ints .i32 y4),⟨by simp[Row.len]<;>omega,rfl,_,rfl,by simp[Row.len]<;>omega,fun j hj=>.inl rfl⟩,trivial,fun j hj=>rfl,?_⟩
   conv=>whnf
   refine⟨by simp[Row.len];try omega,p19,by omega,?_⟩
   exact BP hc17
theorem OU (BA) (r) (h:FB BA=some r):Bc 0 pl 194 [(.sl (some false) BA.length fun j=>(AV.int .i32 (BA.getD j 0)))] [] (.ms 0 r.length) [some ⟨1,21,(.ints .i32 r),false,true⟩]:=by
 refine A8 0 .z rfl Tryz.func194 rfl (by kernel_rfl) ?_
 refine gO ?_
 obtain⟨p1,h⟩:=Jq h
 refine⟨[],BA.length,(.ints .i32 BA),⟨rfl,rfl,fun j hj=>rfl⟩,trivial,fun j hj=>rfl,?_⟩
 conv=>whnf
 refine⟨by simp[Row.len];try omega,p1,by omega,?_⟩
 exact Oc (pI [1]) h
theorem OT (r) (h:Pw=some r):Bc 0 pl 194 [(.sl (some true) 0 fun _=>.unk)] [] (.ms 0 r.length) [some ⟨1,21,(.ints .i32 r),false,true⟩]:=by
 refine A8 0 .z rfl Tryz.func194 rfl (by kernel_rfl) ?_
 have e:=Option.some.inj h;subst e
 refine gO ?_
 exact Or.inr (Or.inr (JK (UW 0 1 21 (.ints .i32 []) _ rfl rfl trivial (by first|exact Nat.zero_le _|(simp;done)|decide)) (wG [0])))
theorem QX (BA:(List Int)) (r:(List Int)) (h:Gw BA=some r):Bc 0 pl 194 [(Az BA)] [] (.ms 0 r.length) [some ⟨1,21,(.ints .i32 r),false,true⟩]:=by
 refine oJ (fun hn=>?_) (OU BA r h)
 have hp:BA= []:=List.eq_nil_of_length_eq_zero hn
 subst hp
 have e:r= []:=by simpa[Gw,FB]using h.symm
 subst e
 exact OT [] rfl
theorem fM (YF DW EX) (r) (h:L8 YF DW EX=some r):Contract pl 199 [(AV.int .i64 YF),(AV.ip (Aw DW) 0),(AV.ip (AV.int .i32 EX) 0)] [] (AV.bool r) []:=by
 refine Af .z Tryz.func199 rfl (by kernel_rfl) ?_
 unfold L8 at h
 exact BP h
theorem Rz (p_n Ua EX) (r) (h:GN p_n Ua EX=some r):Contract pl 106 [(AV.int .i64 p_n),(AV.fn (.func 199) [] [(AV.ip (Aw Ua) 0),(AV.ip (AV.int .i32 EX) 0)])] [] (AV.int .i64 r) []:=by
 refine Af (.t false .z (.t false .z (.t true .z .z))) Tryz.func106 rfl (by kernel_rfl) ?_
 refine cB (fun s1:Int=>BS 26 [(5,(.int .i64 s1))] []) h ?_ ?_
 ·intro Kn9 kC x9 h9 h
  refine gO ?_
  refine AO (fun s4:Int×Int=>BS 26 [(1,(.fn (.func 199) [] [(.ip (Aw Ua) 0),(.ip (.int .i32 EX) 0)])),(5,(.int .i64 s4.1)),(6,(.int .i64 s4.2))] []) h9 (wG []) ?_
  intro k6 s4 eU eZ QU Ce hs6
  refine bR Ce ?_ ?_
  ·intro _ Ce
   refine gO ?_
   refine And.intro (by decide) ?_
   refine cL Ce (fM _ _ _) ?_
   intro y7 Ce
   exact Cg (pI []) QU hs6 Ce
  ·intro _ Ce
   have e:=Option.some.inj Ce;subst e
   have e:=Ao hs6;subst e
   refine gO ?_
   exact kC _ s4.1 h (wG [])
 ·clear h
  intro s1 FW
  exact BP FW
theorem Mf (AZ p_r) (r) (h:Io AZ p_r=some r):Contract pl 150 [(Aw AZ),(AV.int .i32 p_r)] [] (AV.GU [(AV.int .i64 r.1),(AV.bool r.2)]) []:=by
 refine Af (.t false .z (.t false .z (.t false (.t true .z .z) .z))) Tryz.func150 rfl (by kernel_rfl) ?_
 refine cL h (Rz _ _ _) ?_
 intro y1 h
 refine cB (fun s2:Bool=>BS 29 [(2,(.mp 0 0 0)),(6,(.int .i64 y1)),(23,(.bool s2))] [some ⟨1,23,(.vals [(Aw AZ)]),false,false⟩]) h ?_ ?_
 ·intro Kn4 aS x4 h4 h
  exact Cg (pI [0]) aS h h4
 ·clear h
  intro s2 aQ
  unfold Nt at aQ
  exact BP aQ
theorem Jz (AQ p_r) (r) (h:EF AQ p_r=some r):Contract pl 158 [(Aq AQ),(AV.int .i32 p_r)] [] (AV.int .i64 r) []:=by
 refine Af .z Tryz.func158 rfl (by kernel_rfl) ?_
 refine cL h (Mf _ _) ?_
 intro y1 h
 exact BP h
theorem M6 (AL Bq EX) (r) (h:Ig AL Bq EX=some r):Contract pl 196 [(AV.int .i32 AL),(AV.int .i32 Bq),(AV.ip (Aq EX) 0)] [] (AV.int .i64 r) []:=by
 refine Af .z Tryz.func196 rfl (by kernel_rfl) ?_
 refine cL h (Jz _ _) ?_
 intro y1 h
 refine cL h (Jz _ _) ?_
 intro y2 h
 exact BP h
theorem Iq (Ae Ak Aj AL Bq Ar) (r) (h:C8 Ae Ak Aj AL Bq Ar=some r):Bc 2 pl 248 [(.LP 0 Ak Aj),(.int .i64 AL),(.int .i64 Bq),(.fn (.func 196) [] [(.mp 1 0 0)])] [some ⟨1,21,(.ints .i32 Ae),false,true⟩,some ⟨3,26,(.vals [(Aq Ar)]),false,false⟩] (.GU []) [some ⟨1,21,(.ints .i32 r),false,true⟩,some ⟨3,26,(.vals [(Aq Ar)]),false,false⟩]:=by
 refine A8 2 (.t false .z (.t false (.t false (.t false .z (.t true (.t false (.t false .z (.t false (.t false (.t false (.t true .z .z) .z) .z) .z)) .z) .z)) .z) .z)) rfl Tryz.func248 rfl (by kernel_rfl) ?_
 refine lB (fun s2:(List Int)×Int=>BS 53 [(0,(.LP 0 Ak Aj)),(1,(.int .i64 AL)),(2,(.int .i64 Bq)),(3,(.fn (.func 196) [] [(.mp 1 0 0)])),(8,(.int .i64 s2.2))] [some ⟨1,21,(.ints .i32 s2.1),false,true⟩,some ⟨3,26,(.vals [(Aq Ar)]),false,false⟩]) h ?_ ?_
 ·exact wG [0,1]
 intro x4 h k4 s2 st4 Kn4 aS h4 hs4
 refine bR h4 ?_ ?_
 ·intro _ h4
  refine cB (fun s5:(List Int)=>BS 53 [(0,(.LP 0 Ak Aj)),(1,(.int .i64 AL)),(2,(.int .i64 Bq)),(3,(.fn (.func 196) [] [(.mp 1 0 0)])),(8,(.int .i64 s2.2))] [some ⟨1,21,(.ints .i32 s5),false,true⟩,some ⟨3,26,(.vals [(Aq Ar)]),false,false⟩]) h4 ?_ ?_
  ·intro Ahf hn16 x16 h16 h4
   refine gO ?_
   refine AO (fun s8:(List Int)×Int=>BS 53 [(0,(.LP 0 Ak Aj)),(1,(.int .i64 AL)),(2,(.int .i64 Bq)),(3,(.fn (.func 196) [] [(.mp 1 0 0)])),(8,(.int .i64 s2.2)),(9,(.int .i64 s8.2))] [some ⟨1,21,(.ints .i32 s8.1),false,true⟩,some ⟨3,26,(.vals [(Aq Ar)]),false,false⟩]) h16 (wG [0,1]) ?_
   intro k10 s8 AgV ZW PK LW VZ
   refine cB (fun s11:Bool=>BS 53 [(0,(.LP 0 Ak Aj)),(1,(.int .i64 AL)),(2,(.int .i64 Bq)),(3,(.fn (.func 196) [] [(.mp 1 0 0)])),(8,(.int .i64 s2.2)),(9,(.int .i64 s8.2)),(34,(.bool s11))] [some ⟨1,21,(.ints .i32 s8.1),false,true⟩,some ⟨3,26,(.vals [(Aq Ar)]),false,false⟩]) LW ?_ ?_
   ·intro AmA AfT x17 jR LW
    refine bR jR ?_ ?_
    ·intro _ jR
     refine GH jR fun jR=>?_
     refine GH jR fun jR=>?_
     refine cL jR (M6 _ _ _) ?_
     intro y13 jR
     exact Cg (pI [0,1]) AfT LW jR
    ·intro _ jR
     exact Cg (pI [0,1]) AfT LW jR
   ·clear LW
    intro s11 hc18
    refine bR hc18 ?_ ?_
    ·intro _ hc18
     exact Cg (pI [0,1]) PK VZ hc18
    ·intro _ hc18
     have e:=Option.some.inj hc18;subst e
     have e:=Ao VZ;subst e
     refine gO ?_
     exact hn16 _ s8.1 h4 (wG [0,1])
  ·clear h4
   intro s5 hc19
   exact Cg (pI [0,1]) aS hs4 hc19
 ·intro _ h4
  have e:=Option.some.inj h4;subst e
  have e:=Ao hs4;subst e
  exact Oc (pI [0,1]) h
theorem GA (Ae Ak Aj AL Bq p_n Ar) (r) (h:CU Ae Ak Aj AL Bq p_n Ar=some r):Bc 2 pl 253 [(.LP 0 Ak Aj),(.int .i64 AL),(.int .i64 Bq),(.int .i64 p_n),(.fn (.func 196) [] [(.mp 1 0 0)])] [some ⟨1,21,(.ints .i32 Ae),false,true⟩,some ⟨3,26,(.vals [(Aq Ar)]),false,false⟩] (.GU []) [some ⟨1,21,(.ints .i32 r),false,true⟩,some ⟨3,26,(.vals [(Aq Ar)]),false,false⟩]:=by
 refine A8 2 .z rfl Tryz.func253 rfl (by kernel_rfl) ?_
 refine lB (fun s2:(List Int)×Int=>BS 38 [(0,(.LP 0 Ak Aj)),(1,(.int .i64 AL)),(2,(.int .i64 Bq)),(3,(.int .i64 p_n)),(10,(.int .i64 s2.2))] [some ⟨1,21,(.ints .i32 s2.1),false,true⟩,some ⟨3,26,(.vals [(Aq Ar)]),false,false⟩]) h ?_ ?_
 ·exact wG [0,1]
 intro x4 h k4 s2 st4 Kn4 aS h4 hs4
 refine bR h4 ?_ ?_
 ·intro _ h4
  exact Cg (pI [0,1]) aS hs4 h4
 ·intro _ h4
  have e:=Option.some.inj h4;subst e
  have e:=Ao hs4;subst e
  exact Oc (pI [0,1]) h
theorem PD (Ae Ak Aj AL Jd Bq Ar) (r) (h:FJ Ae Ak Aj AL Jd Bq Ar=some r):Bc 2 pl 252 [(.LP 0 Ak Aj),(.int .i64 AL),(.int .i64 Jd),(.int .i64 Bq),(.fn (.func 196) [] [(.mp 1 0 0)])] [some ⟨1,21,(.ints .i32 Ae),false,true⟩,some ⟨3,26,(.vals [(Aq Ar)]),false,false⟩] (.GU []) [some ⟨1,21,(.ints .i32 r),false,true⟩,some ⟨3,26,(.vals [(Aq Ar)]),false,false⟩]:=by
 refine A8 2 (.t false .z (.t false .z (.t true .z .z))) rfl Tryz.func252 rfl (by kernel_rfl) ?_
 refine cB (fun s1:(List Int)×Int=>BS 58 [(0,(.LP 0 Ak Aj)),(2,(.int .i64 Jd)),(4,(.fn (.func 196) [] [(.mp 1 0 0)])),(10,(.int .i64 s1.2))] [some ⟨1,21,(.ints .i32 s1.1),false,true⟩,some ⟨3,26,(.vals [(Aq Ar)]),false,false⟩]) h ?_ ?_
 ·intro U0 KX x11 h11 h
  refine gO ?_
  refine AO (fun s5:(List Int)×Int×Int=>BS 58 [(0,(.LP 0 Ak Aj)),(2,(.int .i64 Jd)),(4,(.fn (.func 196) [] [(.mp 1 0 0)])),(10,(.int .i64 s5.2.1)),(11,(.int .i64 s5.2.2))] [some ⟨1,21,(.ints .i32 s5.1),false,true⟩,some ⟨3,26,(.vals [(Aq Ar)]),false,false⟩]) h11 (wG [0,1]) ?_
  intro k7 s5 st7 Kn7 Y5 Hf hs7
  refine bR Hf ?_ ?_
  ·intro _ Hf
   refine bR Hf ?_ ?_
   ·intro _ Hf
    refine gO ?_
    refine bnd Hf (fun y8 hy8 Hf=>?_)
    refine AX (oC [0,1] (GA _ _ _ _ _ _ _ _ hy8)) ?_
    refine gO ?_
    obtain⟨p12,Hf⟩:=Jq Hf
    exact Cg (pI [0,1]) Y5 hs7 Hf
   ·intro _ Hf
    refine gO ?_
    refine bnd Hf (fun y9 hy9 Hf=>?_)
    refine AX (oC [0,1] (GA _ _ _ _ _ _ _ _ hy9)) ?_
    refine gO ?_
    obtain⟨p13,Hf⟩:=Jq Hf
    exact Cg (pI [0,1]) Y5 hs7 Hf
  ·intro _ Hf
   have e:=Option.some.inj Hf;subst e
   have e:=Ao hs7;subst e
   refine gO ?_
   exact KX _ (s5.1,s5.2.1) h (wG [0,1])
 ·clear h
  intro s1 RD
  refine gO ?_
  refine bnd RD (fun y3 hy3 RD=>?_)
  refine AX (oC [0,1] (GA _ _ _ _ _ _ _ _ hy3)) ?_
  refine gO ?_
  obtain⟨p15,RD⟩:=Jq RD
  exact Oc (pI [0,1]) RD
theorem MK (IB:(List Int)->Nat->Nat->Int->Int->Int->Ab->Option (List Int)) (hrec: ∀(Ae:(List Int)) (Ak:Nat) (Aj:Nat) (AL:Int) (Jd:Int) (Bq:Int) (Ar:Ab) (r:(List Int)),IB Ae Ak Aj AL Jd Bq Ar=some r->Bc 2 pl 249 [(.LP 0 Ak Aj),(.int .i64 AL),(.int .i64 Jd),(.int .i64 Bq),(.fn (.func 196) [] [(.mp 1 0 0)])] [some ⟨1,21,(.ints .i32 Ae),false,true⟩,some ⟨3,26,(.vals [(Aq Ar)]),false,false⟩] (.GU []) [some ⟨1,21,(.ints .i32 r),false,true⟩,some ⟨3,26,(.vals [(Aq Ar)]),false,false⟩]) (Ae Ak Aj AL Jd Bq Ar) (r) (h:BD IB Ae Ak Aj AL Jd Bq Ar=some r):Bc 2 pl 249 [(.LP 0 Ak Aj),(.int .i64 AL),(.int .i64 Jd),(.int .i64 Bq),(.fn (.func 196) [] [(.mp 1 0 0)])] [some ⟨1,21,(.ints .i32 Ae),false,true⟩,some ⟨3,26,(.vals [(Aq Ar)]),false,false⟩] (.GU []) [some ⟨1,21,(.ints .i32 r),false,true⟩,some ⟨3,26,(.vals [(Aq Ar)]),false,false⟩]:=by
 refine A8 2 (.t true (.t false .z (.t false (.t false .z (.t false .z (.t true .z .z))) .z)) (.t true (.t false .z (.t false (.t false .z (.t false .z (.t true .z .z))) .z)) (.t false .z (.t false .z (.t false .z (.t true .z (.t false .z (.t true .z (.t false .z (.t true (.t true .z .z) (.t true (.t true .z .z) (.t true .z .z)))))))))))) rfl Tryz.func249 rfl (by kernel_rfl) ?_
 refine gO ?_
 refine bnd h (fun x56 h56 h=>?_)
 refine DT (fun s1:Unit=>BS 220 [(0,(.LP 0 Ak Aj)),(1,(.int .i64 AL)),(2,(.int .i64 Jd)),(3,(.int .i64 Bq)),(4,(.fn (.func 196) [] [(.mp 1 0 0)]))] [some ⟨1,21,(.ints .i32 Ae),false,true⟩,some ⟨3,26,(.vals [(Aq Ar)]),false,false⟩]) (fun s1:Unit=>Ez Ae Ak Aj AL Jd Bq Ar IB s1=some r) ?_ ?_
 ·intro AmM AjY
  refine bR h56 ?_ ?_
  ·intro _ h56
   refine cB (fun s42:Int=>BS 220 [(0,(.LP 0 Ak Aj)),(1,(.int .i64 AL)),(10,(.int .i64 s42))] [some ⟨1,21,(.ints .i32 Ae),false,true⟩,some ⟨3,26,(.vals [(Aq Ar)]),false,false⟩]) h56 ?_ ?_
   ·intro AkV AfX x57 h57 h56
    refine gO ?_
    refine AO (fun rO:Int×Int=>BS 220 [(0,(.LP 0 Ak Aj)),(1,(.int .i64 AL)),(4,(.fn (.func 196) [] [(.mp 1 0 0)])),(10,(.int .i64 rO.1)),(11,(.int .i64 rO.2))] [some ⟨1,21,(.ints .i32 Ae),false,true⟩,some ⟨3,26,(.vals [(Aq Ar)]),false,false⟩]) h57 (wG [0,1]) ?_
    intro k52 rO AqP AmK AjW jT AlJ
    refine bR jT ?_ ?_
    ·intro _ jT
     refine gO ?_
     refine And.intro (by decide) ?_
     refine GH jT fun jT=>?_
     refine GH jT fun jT=>?_
     refine cL jT (M6 _ _ _) ?_
     intro y53 jT
     exact Cg (pI [0,1]) AjW AlJ jT
    ·intro _ jT
     have e:=Option.some.inj jT;subst e
     have e:=Ao AlJ;subst e
     refine gO ?_
     exact AfX _ rO.1 h56 (wG [0,1])
   ·clear h56
    intro s42 AjH
    refine lB (fun nR:(List Int)×Int=>BS 220 [(0,(.LP 0 Ak Aj)),(10,(.int .i64 s42)),(13,(.int .i64 nR.2))] [some ⟨1,21,(.ints .i32 nR.1),false,true⟩,some ⟨3,26,(.vals [(Aq Ar)]),false,false⟩]) AjH ?_ ?_
    ·exact wG [0,1]
    intro x47 AjH k47 nR AqO AoQ hn47 h47 AlI
    refine bR h47 ?_ ?_
    ·intro _ h47
     exact Cg (pI [0,1]) hn47 AlI h47
    ·intro _ h47
     have e:=Option.some.inj h47;subst e
     have e:=Ao AlI;subst e
     have e:=Option.some.inj AjH;subst e
     exact Oc (pI [0,1]) h
  ·intro _ h56
   exact Cg (pI [0,1]) AjY h h56
 ·clear h h56
  intro s1 Vk
  refine gO ?_
  refine bnd Vk (fun x60 h60 Vk=>?_)
  refine DT (fun s3:Unit=>BS 220 [(0,(.LP 0 Ak Aj)),(1,(.int .i64 AL)),(2,(.int .i64 Jd)),(3,(.int .i64 Bq)),(4,(.fn (.func 196) [] [(.mp 1 0 0)]))] [some ⟨1,21,(.ints .i32 Ae),false,true⟩,some ⟨3,26,(.vals [(Aq Ar)]),false,false⟩]) (fun s3:Unit=>Gg Ae Ak Aj AL Jd Bq Ar IB s3=some r) ?_ ?_
  ·intro AoV Anx
   refine bR h60 ?_ ?_
   ·intro _ h60
    refine cB (fun gJ:Int=>BS 220 [(0,(.LP 0 Ak Aj)),(2,(.int .i64 Jd)),(14,(.int .i64 gJ))] [some ⟨1,21,(.ints .i32 Ae),false,true⟩,some ⟨3,26,(.vals [(Aq Ar)]),false,false⟩]) h60 ?_ ?_
    ·intro AkW AfY x61 h61 h60
     refine gO ?_
     refine AO (fun bK:Int×Int=>BS 220 [(0,(.LP 0 Ak Aj)),(2,(.int .i64 Jd)),(4,(.fn (.func 196) [] [(.mp 1 0 0)])),(14,(.int .i64 bK.1)),(15,(.int .i64 bK.2))] [some ⟨1,21,(.ints .i32 Ae),false,true⟩,some ⟨3,26,(.vals [(Aq Ar)]),false,false⟩]) h61 (wG [0,1]) ?_
     intro k38 bK AqL Ajf uS jS AlG
     refine bR jS ?_ ?_
     ·intro _ jS
      refine gO ?_
      refine And.intro (by decide) ?_
      refine GH jS fun jS=>?_
      refine GH jS fun jS=>?_
      refine cL jS (M6 _ _ _) ?_
      intro y39 jS
      exact Cg (pI [0,1]) uS AlG jS
     ·intro _ jS
      have e:=Option.some.inj jS;subst e
      have e:=Ao AlG;subst e
      refine gO ?_
      exact AfY _ bK.1 h60 (wG [0,1])
    ·clear h60
     intro gJ AjI
     refine lB (fun ZH:(List Int)×Int=>BS 220 [(0,(.LP 0 Ak Aj)),(14,(.int .i64 gJ)),(17,(.int .i64 ZH.2))] [some ⟨1,21,(.ints .i32 ZH.1),false,true⟩,some ⟨3,26,(.vals [(Aq Ar)]),false,false⟩]) AjI ?_ ?_
     ·exact wG [0,1]
     intro x33 AjI k33 ZH AqJ AkT yO Y3 AlE
     refine bR Y3 ?_ ?_
     ·intro _ Y3
      exact Cg (pI [0,1]) yO AlE Y3
     ·intro _ Y3
      have e:=Option.some.inj Y3;subst e
      have e:=Ao AlE;subst e
      have e:=Option.some.inj AjI;subst e
      exact Oc (pI [0,1]) Vk
   ·intro _ h60
    exact Cg (pI [0,1]) Anx Vk h60
  ·clear Vk h60
   intro s3 hc63
   refine gO ?_
   refine And.intro (by decide) ?_
   refine cB (fun s5:Int×Int=>BS 220 [(0,(.LP 0 Ak Aj)),(1,(.int .i64 AL)),(2,(.int .i64 Jd)),(3,(.int .i64 Bq)),(4,(.fn (.func 196) [] [(.mp 1 0 0)])),(18,(.int .i64 (IntKind.wrap .i64 (Int.fdiv (IntKind.wrap .u64 (IntKind.wrap .i64 (AL+Bq))) 2)))),(19,(.int .i64 (IntKind.wrap .i64 ((IntKind.wrap .i64 (Int.fdiv (IntKind.wrap .u64 (IntKind.wrap .i64 (AL+Bq))) 2))+Jd)))),(20,(.int .i64 s5.1)),(21,(.int .i64 s5.2))] [some ⟨1,21,(.ints .i32 Ae),false,true⟩,some ⟨3,26,(.vals [(Aq Ar)]),false,false⟩]) hc63 ?_ ?_
   ·intro AoW Anz x64 h64 hc63
    exact Cg (pI [0,1]) Anz hc63 h64
   ·clear hc63
    intro s5 Abf
    refine cB (fun s7:Int=>BS 220 [(0,(.LP 0 Ak Aj)),(1,(.int .i64 AL)),(2,(.int .i64 Jd)),(3,(.int .i64 Bq)),(4,(.fn (.func 196) [] [(.mp 1 0 0)])),(18,(.int .i64 (IntKind.wrap .i64 (Int.fdiv (IntKind.wrap .u64 (IntKind.wrap .i64 (AL+Bq))) 2)))),(19,(.int .i64 (IntKind.wrap .i64 ((IntKind.wrap .i64 (Int.fdiv (IntKind.wrap .u64 (IntKind.wrap .i64 (AL+Bq))) 2))+Jd)))),(20,(.int .i64 s7))] [some ⟨1,21,(.ints .i32 Ae),false,true⟩,some ⟨3,26,(.vals [(Aq Ar)]),false,false⟩]) Abf ?_ ?_
    ·intro AoX AnA x66 h66 Abf
     refine gO ?_
     refine AO (fun Kr:Int×Int=>BS 220 [(0,(.LP 0 Ak Aj)),(1,(.int .i64 AL)),(2,(.int .i64 Jd)),(3,(.int .i64 Bq)),(4,(.fn (.func 196) [] [(.mp 1 0 0)])),(18,(.int .i64 (IntKind.wrap .i64 (Int.fdiv (IntKind.wrap .u64 (IntKind.wrap .i64 (AL+Bq))) 2)))),(19,(.int .i64 (IntKind.wrap .i64 ((IntKind.wrap .i64 (Int.fdiv (IntKind.wrap .u64 (IntKind.wrap .i64 (AL+Bq))) 2))+Jd)))),(20,(.int .i64 Kr.1)),(21,(.int .i64 Kr.2)),(22,(.int .i64 (IntKind.wrap .i64 ((IntKind.wrap .i64 ((IntKind.wrap .i64 (Int.fdiv (IntKind.wrap .u64 (IntKind.wrap .i64 (AL+Bq))) 2))+Jd))-(1:Int)))))] [some ⟨1,21,(.ints .i32 Ae),false,true⟩,some ⟨3,26,(.vals [(Aq Ar)]),false,false⟩]) h66 (wG [0,1]) ?_
     intro k25 Kr An4 Aje yM Qd AdG
     refine bR Qd ?_ ?_
     ·intro _ Qd
      refine gO ?_
      refine And.intro (by decide) ?_
      refine GH Qd fun Qd=>?_
      refine GH Qd fun Qd=>?_
      refine cL Qd (M6 _ _ _) ?_
      intro wL Qd
      exact Cg (pI [0,1]) yM AdG Qd
     ·intro _ Qd
      have e:=Option.some.inj Qd;subst e
      have e:=Ao AdG;subst e
      refine gO ?_
      exact AnA _ Kr.1 Abf (wG [0,1])
    ·clear Abf
     intro s7 AfP
     refine cB (fun s9:(List Int)=>BS 220 [(0,(.LP 0 Ak Aj)),(1,(.int .i64 AL)),(3,(.int .i64 Bq)),(4,(.fn (.func 196) [] [(.mp 1 0 0)])),(18,(.int .i64 (IntKind.wrap .i64 (Int.fdiv (IntKind.wrap .u64 (IntKind.wrap .i64 (AL+Bq))) 2)))),(20,(.int .i64 s7)),(24,(.int .i64 (IntKind.wrap .i64 ((IntKind.wrap .i64 ((IntKind.wrap .i64 (Int.fdiv (IntKind.wrap .u64 (IntKind.wrap .i64 (AL+Bq))) 2))+Jd))-s7))))] [some ⟨1,21,(.ints .i32 s9),false,true⟩,some ⟨3,26,(.vals [(Aq Ar)]),false,false⟩]) AfP ?_ ?_
     ·intro AoY Alv x68 h68 AfP
      refine cB (fun Vv:Bool=>BS 220 [(0,(.LP 0 Ak Aj)),(1,(.int .i64 AL)),(2,(.int .i64 Jd)),(3,(.int .i64 Bq)),(4,(.fn (.func 196) [] [(.mp 1 0 0)])),(18,(.int .i64 (IntKind.wrap .i64 (Int.fdiv (IntKind.wrap .u64 (IntKind.wrap .i64 (AL+Bq))) 2)))),(20,(.int .i64 s7)),(24,(.int .i64 (IntKind.wrap .i64 ((IntKind.wrap .i64 ((IntKind.wrap .i64 (Int.fdiv (IntKind.wrap .u64 (IntKind.wrap .i64 (AL+Bq))) 2))+Jd))-s7)))),(185,(.bool Vv))] [some ⟨1,21,(.ints .i32 Ae),false,true⟩,some ⟨3,26,(.vals [(Aq Ar)]),false,false⟩]) h68 ?_ ?_
      ·intro AoZ AnB x69 h69 h68
       exact Cg (pI [0,1]) AnB h68 h69
      ·clear h68
       intro Vv uK
       refine bR uK ?_ ?_
       ·intro _ uK
        refine gO ?_
        refine bnd uK (fun y21 Ake uK=>?_)
        refine AX (oC [0,1] (PD _ _ _ _ _ _ _ _ Ake)) ?_
        refine gO ?_
        obtain⟨p71,uK⟩:=Jq uK
        exact Cg (pI [0,1]) Alv AfP uK
       ·intro _ uK
        exact Cg (pI [0,1]) Alv AfP uK
     ·clear AfP
      intro s9 AfQ
      refine cB (fun s11:(List Int)=>BS 220 [(0,(.LP 0 Ak Aj)),(3,(.int .i64 Bq)),(4,(.fn (.func 196) [] [(.mp 1 0 0)])),(18,(.int .i64 (IntKind.wrap .i64 (Int.fdiv (IntKind.wrap .u64 (IntKind.wrap .i64 (AL+Bq))) 2)))),(24,(.int .i64 (IntKind.wrap .i64 ((IntKind.wrap .i64 ((IntKind.wrap .i64 (Int.fdiv (IntKind.wrap .u64 (IntKind.wrap .i64 (AL+Bq))) 2))+Jd))-s7))))] [some ⟨1,21,(.ints .i32 s11),false,true⟩,some ⟨3,26,(.vals [(Aq Ar)]),false,false⟩]) AfQ ?_ ?_
      ·intro Ao0 Alw x73 h73 AfQ
       refine cB (fun s16:Bool=>BS 220 [(0,(.LP 0 Ak Aj)),(1,(.int .i64 AL)),(3,(.int .i64 Bq)),(4,(.fn (.func 196) [] [(.mp 1 0 0)])),(18,(.int .i64 (IntKind.wrap .i64 (Int.fdiv (IntKind.wrap .u64 (IntKind.wrap .i64 (AL+Bq))) 2)))),(20,(.int .i64 s7)),(24,(.int .i64 (IntKind.wrap .i64 ((IntKind.wrap .i64 ((IntKind.wrap .i64 (Int.fdiv (IntKind.wrap .u64 (IntKind.wrap .i64 (AL+Bq))) 2))+Jd))-s7)))),(199,(.bool s16))] [some ⟨1,21,(.ints .i32 s9),false,true⟩,some ⟨3,26,(.vals [(Aq Ar)]),false,false⟩]) h73 ?_ ?_
       ·intro Ao1 AnC x74 h74 h73
        exact Cg (pI [0,1]) AnC h73 h74
       ·clear h73
        intro s16 uL
        refine bR uL ?_ ?_
        ·intro _ uL
         refine gO ?_
         refine bnd uL (fun nO Akc uL=>?_)
         refine AX (oC [0,1] (hrec _ _ _ _ _ _ _ _ Akc)) ?_
         refine gO ?_
         obtain⟨p76,uL⟩:=Jq uL
         exact Cg (pI [0,1]) Alw AfQ uL
        ·intro _ uL
         exact Cg (pI [0,1]) Alw AfQ uL
      ·clear AfQ
       intro s11 AhX
       refine cB (fun s13:Bool=>BS 220 [(0,(.LP 0 Ak Aj)),(3,(.int .i64 Bq)),(4,(.fn (.func 196) [] [(.mp 1 0 0)])),(18,(.int .i64 (IntKind.wrap .i64 (Int.fdiv (IntKind.wrap .u64 (IntKind.wrap .i64 (AL+Bq))) 2)))),(24,(.int .i64 (IntKind.wrap .i64 ((IntKind.wrap .i64 ((IntKind.wrap .i64 (Int.fdiv (IntKind.wrap .u64 (IntKind.wrap .i64 (AL+Bq))) 2))+Jd))-s7)))),(213,(.bool s13))] [some ⟨1,21,(.ints .i32 s11),false,true⟩,some ⟨3,26,(.vals [(Aq Ar)]),false,false⟩]) AhX ?_ ?_
       ·intro Ao2 AnD x78 h78 AhX
        exact Cg (pI [0,1]) AnD AhX h78
       ·clear AhX
        intro s13 uM
        refine bR uM ?_ ?_
        ·intro _ uM
         refine gO ?_
         refine bnd uM (fun rW Akb uM=>?_)
         refine AX (oC [0,1] (hrec _ _ _ _ _ _ _ _ Akb)) ?_
         refine gO ?_
         obtain⟨p80,uM⟩:=Jq uM
         exact Oc (pI [0,1]) uM
        ·intro _ uM
         exact Oc (pI [0,1]) uM
theorem Gn: ∀(n:Nat) (Ae:(List Int)) (Ak:Nat) (Aj:Nat) (AL:Int) (Jd:Int) (Bq:Int) (Ar:Ab) (r:(List Int)),Bu n Ae Ak Aj AL Jd Bq Ar=some r->Bc 2 pl 249 [(.LP 0 Ak Aj),(.int .i64 AL),(.int .i64 Jd),(.int .i64 Bq),(.fn (.func 196) [] [(.mp 1 0 0)])] [some ⟨1,21,(.ints .i32 Ae),false,true⟩,some ⟨3,26,(.vals [(Aq Ar)]),false,false⟩] (.GU []) [some ⟨1,21,(.ints .i32 r),false,true⟩,some ⟨3,26,(.vals [(Aq Ar)]),false,false⟩]
 |0,_,_,_,_,_,_,_,_,h=>by cases h
 |n+1,Ae,Ak,Aj,AL,Jd,Bq,Ar,r,h=>MK (Bu n) (Gn n) Ae Ak Aj AL Jd Bq Ar r h
theorem JV (Ae:(List Int)) (Ak:Nat) (Aj:Nat) (AL:Int) (Jd:Int) (Bq:Int) (Ar:Ab) (r:(List Int)) (h:CY Ae Ak Aj AL Jd Bq Ar=some r):Bc 2 pl 249 [(.LP 0 Ak Aj),(.int .i64 AL),(.int .i64 Jd),(.int .i64 Bq),(.fn (.func 196) [] [(.mp 1 0 0)])] [some ⟨1,21,(.ints .i32 Ae),false,true⟩,some ⟨3,26,(.vals [(Aq Ar)]),false,false⟩] (.GU []) [some ⟨1,21,(.ints .i32 r),false,true⟩,some ⟨3,26,(.vals [(Aq Ar)]),false,false⟩]:=by
 unfold CY at h
 split at h
 ·rename_i y hy
  exact Gn _ Ae Ak Aj AL Jd Bq Ar r (hy.trans h)
 ·split at h
  ·exact Gn _ Ae Ak Aj AL Jd Bq Ar r h
  ·cases h
theorem PE (Ae Ak Aj p_n Ar) (r) (h:HY Ae Ak Aj p_n Ar=some r):Bc 2 pl 232 [(.LP 0 Ak Aj),(.int .i64 p_n),(.fn (.func 196) [] [(.mp 1 0 0)])] [some ⟨1,21,(.ints .i32 Ae),false,true⟩,some ⟨3,26,(.vals [(Aq Ar)]),false,false⟩] (.GU []) [some ⟨1,21,(.ints .i32 r),false,true⟩,some ⟨3,26,(.vals [(Aq Ar)]),false,false⟩]:=by
 refine A8 2 (.t false .z (.t false .z (.t true .z (.t false .z (.t false (.t false (.t false .z (.t false (.t false .z (.t true .z .z)) .z)) .z) .z))))) rfl Tryz.func232 rfl (by kernel_rfl) ?_
 refine cB (fun s1:(List Int)×Int=>BS 63 [(0,(.LP 0 Ak Aj)),(1,(.int .i64 p_n)),(2,(.fn (.func 196) [] [(.mp 1 0 0)])),(6,(.int .i64 (20:Int))),(7,(.int .i64 s1.2))] [some ⟨1,21,(.ints .i32 s1.1),false,true⟩,some ⟨3,26,(.vals [(Aq Ar)]),false,false⟩]) h ?_ ?_
 ·intro Ahh uQ x24 nP h
  refine gO ?_
  refine AO (fun Vv:(List Int)×Int×Int=>BS 63 [(0,(.LP 0 Ak Aj)),(1,(.int .i64 p_n)),(2,(.fn (.func 196) [] [(.mp 1 0 0)])),(6,(.int .i64 (20:Int))),(7,(.int .i64 Vv.2.1)),(8,(.int .i64 Vv.2.2))] [some ⟨1,21,(.ints .i32 Vv.1),false,true⟩,some ⟨3,26,(.vals [(Aq Ar)]),false,false⟩]) nP (wG [0,1]) ?_
  intro k21 Vv AqE Ahg oQ uF AlB
  refine bR uF ?_ ?_
  ·intro _ uF
   refine gO ?_
   refine bnd uF (fun y22 AnO uF=>?_)
   refine AX (oC [0,1] (Iq _ _ _ _ _ _ _ AnO)) ?_
   refine gO ?_
   obtain⟨p25,uF⟩:=Jq uF
   exact Cg (pI [0,1]) oQ AlB uF
  ·intro _ uF
   have e:=Option.some.inj uF;subst e
   have e:=Ao AlB;subst e
   refine gO ?_
   exact uQ _ (Vv.1,Vv.2.1) h (wG [0,1])
 ·clear h
  intro s1 Sb
  refine gO ?_
  refine bnd Sb (fun y3 hy3 Sb=>?_)
  refine AX (oC [0,1] (Iq _ _ _ _ _ _ _ hy3)) ?_
  refine gO ?_
  obtain⟨p27,Sb⟩:=Jq Sb
  refine lB (fun s5:(List Int)×Int=>BS 63 [(0,(.LP 0 Ak Aj)),(1,(.int .i64 p_n)),(2,(.fn (.func 196) [] [(.mp 1 0 0)])),(6,(.int .i64 s5.2))] [some ⟨1,21,(.ints .i32 s5.1),false,true⟩,some ⟨3,26,(.vals [(Aq Ar)]),false,false⟩]) Sb ?_ ?_
  ·exact wG [0,1]
  intro x7 Sb k7 s5 st7 Kn7 Y5 h7 hs7
  refine bR h7 ?_ ?_
  ·intro _ h7
   refine cB (fun s8:(List Int)×Int=>BS 63 [(0,(.LP 0 Ak Aj)),(1,(.int .i64 p_n)),(2,(.fn (.func 196) [] [(.mp 1 0 0)])),(6,(.int .i64 s5.2)),(7,(.int .i64 s8.2))] [some ⟨1,21,(.ints .i32 s8.1),false,true⟩,some ⟨3,26,(.vals [(Aq Ar)]),false,false⟩]) h7 ?_ ?_
   ·intro AeE jZ x28 h28 h7
    refine gO ?_
    refine AO (fun s12:(List Int)×Int×Int=>BS 63 [(0,(.LP 0 Ak Aj)),(1,(.int .i64 p_n)),(2,(.fn (.func 196) [] [(.mp 1 0 0)])),(6,(.int .i64 s5.2)),(7,(.int .i64 s12.2.1)),(8,(.int .i64 s12.2.2))] [some ⟨1,21,(.ints .i32 s12.1),false,true⟩,some ⟨3,26,(.vals [(Aq Ar)]),false,false⟩]) h28 (wG [0,1]) ?_
    intro k14 s12 AiD iE RG Qc Yt
    refine bR Qc ?_ ?_
    ·intro _ Qc
     refine gO ?_
     refine bnd Qc (fun rW Akb Qc=>?_)
     refine AX (oC [0,1] (JV _ _ _ _ _ _ _ _ Akb)) ?_
     refine gO ?_
     obtain⟨p29,Qc⟩:=Jq Qc
     exact Cg (pI [0,1]) RG Yt Qc
    ·intro _ Qc
     have e:=Option.some.inj Qc;subst e
     have e:=Ao Yt;subst e
     refine gO ?_
     exact jZ _ (s12.1,s12.2.1) h7 (wG [0,1])
   ·clear h7
    intro s8 Qe
    refine bR Qe ?_ ?_
    ·intro _ Qe
     refine gO ?_
     refine bnd Qe (fun Rf Af2 Qe=>?_)
     refine AX (oC [0,1] (JV _ _ _ _ _ _ _ _ Af2)) ?_
     refine gO ?_
     obtain⟨p31,Qe⟩:=Jq Qe
     exact Cg (pI [0,1]) Y5 hs7 Qe
    ·intro _ Qe
     exact Cg (pI [0,1]) Y5 hs7 Qe
  ·intro _ h7
   have e:=Option.some.inj h7;subst e
   have e:=Ao hs7;subst e
   exact Oc (pI [0,1]) Sb
theorem M7 (KA AcI zJ Ar) (r) (h:En KA AcI zJ Ar=some r):Bc 2 pl 195 [(.LP 0 AcI zJ),(.fn (.func 196) [] [(.mp 1 0 0)])] [some ⟨1,21,(.ints .i32 KA),false,true⟩,some ⟨3,26,(.vals [(Aq Ar)]),false,false⟩] (.GU []) [some ⟨1,21,(.ints .i32 r),false,true⟩,some ⟨3,26,(.vals [(Aq Ar)]),false,false⟩]:=by
 refine A8 2 .z rfl Tryz.func195 rfl (by kernel_rfl) ?_
 refine gO ?_
 refine bnd h (fun y1 hy1 h=>?_)
 refine AX (oC [0,1] (PE _ _ _ _ _ _ hy1)) ?_
 refine gO ?_
 obtain⟨p2,h⟩:=Jq h
 exact Oc (pI [0,1]) h
theorem iU (AQ AZ) (r) (h:Pg AQ AZ=some r):Contract pl 147 [(Aq AQ),(Az AZ)] [] (Az r) []:=by
 refine Af (.t false .z (.t false .z (.t true (.t false .z (.t false (.t false (.t false .z (.t false (.t false .z (.t true (.t false (.t false (.t false (.t true .z .z) .z) .z) .z) .z)) .z)) .z) .z)) .z))) Tryz.func147 rfl (by kernel_rfl) ?_
 refine gO ?_
 refine bnd h (fun y1 hy1 h=>?_)
 refine Or.inr (AX (oC [] (QX _ _ hy1)) ?_)
 refine cB (fun s2:(List Int)=>BS 39 [(5,(.ms 0 s2.length))] [some ⟨1,21,(.ints .i32 s2),false,true⟩]) h ?_ ?_
 ·intro AeD gF x20 h20 h
  refine gO ?_
  refine AO (fun s5:(List Int)×Int=>BS 39 [(2,(.mp 0 0 0)),(5,(.ms 1 s5.1.length)),(6,(.int .i64 s5.2))] [some ⟨3,26,(.vals [(Aq AQ)]),false,false⟩,some ⟨1,21,(.ints .i32 s5.1),false,true⟩]) h20 (wG [0,1]) ?_
  intro k7 s5 st7 Kn7 Y5 Hf hs7
  refine bR Hf ?_ ?_
  ·intro _ Hf
   refine cB (fun s8:Int=>BS 39 [(2,(.mp 0 0 0)),(5,(.ms 1 s5.1.length)),(6,(.int .i64 s5.2)),(7,(.int .i64 s8))] [some ⟨3,26,(.vals [(Aq AQ)]),false,false⟩,some ⟨1,21,(.ints .i32 s5.1),false,true⟩]) Hf ?_ ?_
   ·intro Ahg oQ x21 h21 Hf
    refine gO ?_
    refine AO (fun s12:Int=>BS 39 [(2,(.mp 0 0 0)),(5,(.ms 1 s5.1.length)),(6,(.int .i64 s5.2)),(7,(.int .i64 s12))] [some ⟨3,26,(.vals [(Aq AQ)]),false,false⟩,some ⟨1,21,(.ints .i32 s5.1),false,true⟩]) h21 (wG [0,1]) ?_
    intro k14 s12 AiD iE RG Qc Yt
    refine cB (fun s15:Bool=>BS 39 [(2,(.mp 0 0 0)),(5,(.ms 1 s5.1.length)),(6,(.int .i64 s5.2)),(7,(.int .i64 s12)),(27,(.bool s15))] [some ⟨3,26,(.vals [(Aq AQ)]),false,false⟩,some ⟨1,21,(.ints .i32 s5.1),false,true⟩]) Qc ?_ ?_
    ·intro AcT XH x22 h22 Qc
     refine bR h22 ?_ ?_
     ·intro _ h22
      refine GH h22 fun h22=>?_
      refine cL h22 (Jz _ _) ?_
      intro nN h22
      exact Cg (pI [0,1]) XH Qc h22
     ·intro _ h22
      exact Cg (pI [0,1]) XH Qc h22
    ·clear Qc
     intro s15 Iu
     refine bR Iu ?_ ?_
     ·intro _ Iu
      exact Cg (pI [0,1]) RG Yt Iu
     ·intro _ Iu
      have e:=Option.some.inj Iu;subst e
      have e:=Ao Yt;subst e
      refine gO ?_
      exact oQ _ s12 Hf (wG [0,1])
   ·clear Hf
    intro s8 hc24
    have Aoi:=gOf hc24
    refine gD3 hc24 fun hc24=>?_
    refine gO ?_
    refine bnd hc24 (fun Rf Af2 hc24=>?_)
    refine AX (oC [1,0] (M7 _ _ _ _ _ Af2)) ?_
    refine gO ?_
    obtain⟨p25,hc24⟩:=Jq hc24
    exact Cg (pI [0,1]) Y5 hs7 hc24
  ·intro _ Hf
   have e:=Option.some.inj Hf;subst e
   have e:=Ao hs7;subst e
   refine gO ?_
   exact gF _ s5.1 h (wG [1])
 ·clear h
  intro s2 Sb
  exact BP Sb
theorem sM (AQ AZ) (r) (h:RJ AQ AZ=some r):Contract pl 99 [(Aq AQ),(Az AZ)] [] (Az r) []:=by
 refine Af (.t false .z (.t false .z (.t true .z .z))) Tryz.func99 rfl (by kernel_rfl) ?_
 refine cB (fun s1:(List Int)=>BS 23 [(2,(.mp 0 0 0)),(5,(.ms 1 s1.length))] [some ⟨3,26,(.vals [(Aq AQ)]),false,false⟩,some ⟨1,21,(.ints .i32 s1),false,true⟩]) h ?_ ?_
 ·intro ZW PK x10 h10 h
  refine gO ?_
  refine AO (fun s5:(List Int)×Int=>BS 23 [(2,(.mp 0 0 0)),(5,(.ms 1 s5.1.length)),(8,(Az AZ)),(9,(.int .i64 ((AZ.length:Nat):Int))),(10,(.int .i64 s5.2))] [some ⟨3,26,(.vals [(Aq AQ)]),false,false⟩,some ⟨1,21,(.ints .i32 s5.1),false,true⟩]) h10 (JK (UW 5 1 21 (.ints .i32 []) _ rfl rfl trivial (by first|exact Nat.zero_le _|(simp;done)|decide)) (wG [0,1])) ?_
  intro k7 s5 st7 Kn7 Y5 Hf hs7
  refine bR Hf ?_ ?_
  ·intro _ Hf
   refine GH Hf fun Hf=>?_
   refine cL Hf (sO _ _) ?_
   intro y8 Hf
   refine gO ?_
   obtain⟨p11,Hf⟩:=Jq Hf
   refine⟨[],y8.length,(.ints .i32 y8),⟨rfl,rfl,fun j hj=>rfl⟩,trivial,fun j hj=>rfl,?_⟩
   conv=>whnf
   refine⟨by simp[Row.len];try omega,p11,by omega,?_⟩
   exact Cg (pI [0,2]) Y5 hs7 Hf
  ·intro _ Hf
   have e:=Option.some.inj Hf;subst e
   have e:=Ao hs7;subst e
   refine gO ?_
   exact PK _ s5.1 h (wG [0,1])
 ·clear h
  intro s1 Gq
  refine cL Gq (iU _ _) ?_
  intro y3 Gq
  exact BP Gq
theorem Qt (p_r lK Ky) (r) (h:Jo p_r lK Ky=some r):Contract pl 246 [(AV.int .i32 p_r),(AV.int .i32 lK),(AV.int .i64 Ky)] [] (AV.bool r) []:=by
 refine Af .z Tryz.func246 rfl (by kernel_rfl) ?_
 unfold Jo at h
 exact BP h
theorem wZ (p_r) (r) (h:WB p_r=some r):Contract pl 247 [(AV.int .i32 p_r)] [] (AV.bool r) []:=by
 refine Af .z Tryz.func247 rfl (by kernel_rfl) ?_
 refine cL h (Qt _ _ _) ?_
 intro y1 h
 refine bR h ?_ ?_
 ·intro _ h
  refine gO ?_
  refine And.intro (by decide) ?_
  exact BP h
 ·intro _ h
  exact BP h
theorem nX (AL Bq) (r) (h:Qx AL Bq=some r):Contract pl 230 [(AV.int .i32 AL),(AV.int .i32 Bq)] [] (AV.GU [(AV.int .i32 r.1),(AV.bool r.2)]) []:=by
 refine Af (.t false .z (.t false (.t false (.t true .z (.t false .z (.t true .z .z))) .z) .z)) Tryz.func230 rfl (by kernel_rfl) ?_
 refine cB (fun s1:Bool=>BS 32 [(0,(.int .i32 AL)),(1,(.int .i32 Bq)),(6,(.bool s1))] []) h ?_ ?_
 ·intro Kn9 kC x9 h9 h
  refine cL h9 (Qt _ _ _) ?_
  intro y7 h9
  refine bR h9 ?_ ?_
  ·intro _ h9
   refine cL h9 (Qt _ _ _) ?_
   intro y8 h9
   exact Cg (pI []) kC h h9
  ·intro _ h9
   exact Cg (pI []) kC h h9
 ·clear h
  intro s1 FW
  refine bR FW ?_ ?_
  ·intro _ FW
   exact BP FW
  ·intro _ FW
   refine cB (fun s3:Bool=>BS 32 [(0,(.int .i32 AL)),(1,(.int .i32 Bq)),(21,(.bool s3))] []) FW ?_ ?_
   ·intro U0 KX x11 h11 FW
    refine cL h11 (wZ _) ?_
    intro y5 h11
    refine bR h11 ?_ ?_
    ·intro _ h11
     refine cL h11 (Qt _ _ _) ?_
     intro y6 h11
     exact Cg (pI []) KX FW h11
    ·intro _ h11
     exact Cg (pI []) KX FW h11
   ·clear FW
    intro s3 Gq
    unfold Qh at Gq
    exact BP Gq
theorem Uw (KA) (r) (h:Jt KA=some r):Contract pl 244 [(AV.int .i32 KA)] [] (AV.bool r) []:=by
 refine Af .z Tryz.func244 rfl (by kernel_rfl) ?_
 unfold Jt at h
 exact BP h
theorem Dk (KA p_y) (r) (h:BN KA p_y=some r):Contract pl 223 [(AV.int .i32 KA),(AV.int .i32 p_y)] [] (AV.bool r) []:=by
 refine Af .z Tryz.func223 rfl (by kernel_rfl) ?_
 refine cL h (Uw _) ?_
 intro y1 h
 refine bR h ?_ ?_
 ·intro _ h
  refine cL h (Uw _) ?_
  intro y2 h
  exact BP h
 ·intro _ h
  exact BP h
theorem Rk (KA) (r) (h:Jc KA=some r):Contract pl 250 [(AV.int .i32 KA)] [] (AV.bool r) []:=by
 refine Af .z Tryz.func250 rfl (by kernel_rfl) ?_
 unfold Jc at h
 exact BP h
theorem Pz (KA L9) (r) (h:FI KA L9=some r):Contract pl 238 [(Az KA),(AV.int .i32 L9)] [] (AV.GU [(AV.int .i64 r.1),(AV.bool r.2)]) []:=by
 refine Af (.t false .z (.t false .z (.t false .z (.t true .z .z)))) Tryz.func238 rfl (by kernel_rfl) ?_
 refine cB (fun s1:Int=>BS 54 [(0,(Az KA)),(1,(.int .i32 L9)),(6,(.int .i64 ((KA.length:Nat):Int))),(7,(.int .i64 s1))] []) h ?_ ?_
 ·intro U0 KX x11 h11 h
  refine gO ?_
  refine AO (fun s6:Int×Int=>BS 54 [(0,(Az KA)),(1,(.int .i32 L9)),(6,(.int .i64 ((KA.length:Nat):Int))),(7,(.int .i64 s6.1)),(8,(.int .i64 s6.2))] []) h11 (wG []) ?_
  intro k8 s6 st8 Kn8 qQ VY hs8
  refine bR VY ?_ ?_
  ·intro _ VY
   refine gO ?_
   refine And.intro (by decide) ?_
   refine GH VY fun VY=>?_
   refine cL VY (Dk _ _) ?_
   intro y9 VY
   exact Cg (pI []) qQ hs8 VY
  ·intro _ VY
   have e:=Option.some.inj VY;subst e
   have e:=Ao hs8;subst e
   refine gO ?_
   exact KX _ s6.1 h (wG [])
 ·clear h
  intro s1 Gq
  refine bR Gq ?_ ?_
  ·intro _ Gq
   refine GH Gq fun Gq=>?_
   refine bR Gq ?_ ?_
   ·intro _ Gq
    exact BP Gq
   ·intro _ Gq
    refine GH Gq fun Gq=>?_
    refine cL Gq (Rk _) ?_
    intro y3 Gq
    refine bR Gq ?_ ?_
    ·intro _ Gq
     refine cL Gq (Rk _) ?_
     intro y4 Gq
     exact BP Gq
    ·intro _ Gq
     exact BP Gq
  ·intro _ Gq
   exact BP Gq
theorem Tx (AQ Nu) (r) (h:Gl AQ Nu=some r):Contract pl 215 [(Aq AQ),(AV.int .i64 Nu)] [] (AV.bool r) []:=by
 refine Af (.t false .z (.t false (.t true .z .z) .z)) Tryz.func215 rfl (by kernel_rfl) ?_
 refine cB (fun s1:Bool=>BS 58 [(1,(.int .i64 Nu)),(2,(.mp 0 0 0)),(26,(.bool s1))] [some ⟨3,26,(.vals [(Aq AQ)]),false,false⟩]) h ?_ ?_
 ·intro eZ QU x6 h6 h
  exact Cg (pI [0]) QU h h6
 ·clear h
  intro s1 jY
  refine bR jY ?_ ?_
  ·intro _ jY
   exact BP jY
  ·intro _ jY
   refine GH jY fun jY=>?_
   refine cL jY (Pz _ _) ?_
   intro y3 jY
   refine bR jY ?_ ?_
   ·intro _ jY
    refine cL jY (Jz _ _) ?_
    intro y4 jY
    refine bR jY ?_ ?_
    ·intro _ jY
     refine GH jY fun jY=>?_
     refine cL jY (Jz _ _) ?_
     intro y5 jY
     exact BP jY
    ·intro _ jY
     exact BP jY
   ·intro _ jY
    exact BP jY
theorem wY (AQ AL Bq) (r) (h:TM AQ AL Bq=some r):Contract pl 190 [(Aq AQ),(AV.int .i32 AL),(AV.int .i32 Bq)] [] (AV.GU [(AV.int .i32 r.1),(AV.bool r.2)]) []:=by
 refine Af (.t false .z (.t false .z (.t true (.t false .z (.t false (.t false (.t false .z (.t false .z (.t false (.t false (.t false .z (.t true .z .z)) .z) .z))) .z) .z)) .z))) Tryz.func190 rfl (by kernel_rfl) ?_
 refine cL h (nX _ _) ?_
 intro y1 h
 refine bR h ?_ ?_
 ·intro _ h
  exact BP h
 ·intro _ h
  refine gO ?_
  refine bnd h (fun x14 VH h=>?_)
  refine DT (fun s2:Unit=>BS 56 [] []) (fun s2:Unit=>some ((0:Int),false)=some r) ?_ ?_
  ·intro iE RG
   refine gO ?_
   refine AO (fun s5:Int=>BS 56 [(1,(.int .i32 AL)),(2,(.int .i32 Bq)),(3,(.mp 0 0 0)),(21,(Eu AQ.Ad)),(22,(.int .i64 ((AQ.Ad.length:Nat):Int))),(23,(.int .i64 s5))] [some ⟨3,26,(.vals [(Aq AQ)]),false,false⟩]) VH (wG [0]) ?_
   intro k7 s5 st7 Kn7 Y5 Hf hs7
   refine bR Hf ?_ ?_
   ·intro _ Hf
    refine GH Hf fun Hf=>?_
    refine cB (fun s8:Bool=>BS 56 [(1,(.int .i32 AL)),(2,(.int .i32 Bq)),(3,(.mp 0 0 0)),(11,(.mp 1 0 0)),(21,(Eu AQ.Ad)),(22,(.int .i64 ((AQ.Ad.length:Nat):Int))),(23,(.int .i64 s5)),(52,(.bool s8))] [some ⟨3,26,(.vals [(Aq AQ)]),false,false⟩,some ⟨2,96,(.vals [(Nb (AQ.Ad.getD (s5.toNat) Ac))]),false,false⟩]) Hf ?_ ?_
    ·intro Ahe gD x15 ZU Hf
     refine bR ZU ?_ ?_
     ·intro _ ZU
      refine GH ZU fun ZU=>?_
      refine bR ZU ?_ ?_
      ·intro _ ZU
       refine GH ZU fun ZU=>?_
       refine bR ZU ?_ ?_
       ·intro _ ZU
        refine cL ZU (Tx _ _) ?_
        intro Rf ZU
        exact Cg (pI [0,1]) gD Hf ZU
       ·intro _ ZU
        exact Cg (pI [0,1]) gD Hf ZU
      ·intro _ ZU
       exact Cg (pI [0,1]) gD Hf ZU
     ·intro _ ZU
      exact Cg (pI [0,1]) gD Hf ZU
    ·clear Hf
     intro s8 hc16
     refine bR hc16 ?_ ?_
     ·intro _ hc16
      have e:=Option.some.inj hc16;subst e
      have e:=Ao hs7;subst e
      exact BP h
     ·intro _ hc16
      exact Cg (pI [0]) Y5 hs7 hc16
   ·intro _ Hf
    have e:=Option.some.inj Hf;subst e
    have e:=Ao hs7;subst e
    refine gO ?_
    exact RG _ () h (wG [])
  ·clear h VH
   intro s2 hc17
   exact BP hc17
theorem Yi (Ma Mc Md Iy Jp Me p_r) (r) (h:Lp Ma Mc Md Iy Jp Me p_r=some r):Bc 1 pl 145 [(.mp 0 0 0),(.int .i32 p_r)] [some ⟨6,193,(.vals [(.agg [(Eu Ma),(Aw Mc),(Az Md),(.ms 1 Iy.length),(.int .i64 Jp),(.int .i64 Me)])]),false,false⟩,some ⟨1,21,(.ints .i32 Iy),false,true⟩] (.GU []) [some ⟨6,193,(.vals [(.agg [(Eu r.1),(Aw r.2.1),(Az r.2.2.1),(.ms 1 r.2.2.2.1.length),(.int .i64 r.2.2.2.2.1),(.int .i64 r.2.2.2.2.2)])]),false,false⟩,some ⟨1,21,(.ints .i32 r.2.2.2.1),false,true⟩]:=by
 refine A8 1 (.t false .z (.t false .z (.t true (.t true .z .z) .z))) rfl Tryz.func145 rfl (by kernel_rfl) ?_
 refine cL h (Jz _ _) ?_
 intro y1 h
 refine gO ?_
 refine bnd h (fun x8 h8 h=>?_)
 refine DT (fun s2:Unit=>BS 104 [(0,(.mp 0 0 0)),(1,(.int .i32 p_r)),(4,(.int .i64 y1))] [some ⟨6,193,(.vals [(.agg [(Eu Ma),(Aw Mc),(Az Md),(.ms 1 Iy.length),(.int .i64 Jp),(.int .i64 Me)])]),false,false⟩,some ⟨1,21,(.ints .i32 Iy),false,true⟩]) (fun s2:Unit=>JL Ma Mc Md Iy Jp Me p_r y1 s2=some r) ?_ ?_
 ·intro Kn8 qQ
  refine cB (fun s4:Bool=>BS 104 [(0,(.mp 0 0 0)),(1,(.int .i32 p_r)),(4,(.int .i64 y1)),(40,(.bool s4))] [some ⟨6,193,(.vals [(.agg [(Eu Ma),(Aw Mc),(Az Md),(.ms 1 Iy.length),(.int .i64 Jp),(.int .i64 Me)])]),false,false⟩,some ⟨1,21,(.ints .i32 Iy),false,true⟩]) h8 ?_ ?_
  ·intro Kn9 kC x9 h9 h8
   exact Cg (pI [0,1]) kC h8 h9
  ·clear h8
   intro s4 FW
   refine bR FW ?_ ?_
   ·intro _ FW
    refine GH FW fun FW=>?_
    refine cL FW (wY _ _ _) ?_
    intro y6 FW
    refine bR FW ?_ ?_
    ·intro _ FW
     refine GH FW fun FW=>?_
     have e:=Option.some.inj FW;subst e
     exact Oc (pI [0,1]) h
    ·intro _ FW
     exact Cg (pI [0,1]) qQ h FW
   ·intro _ FW
    exact Cg (pI [0,1]) qQ h FW
 ·clear h h8
  intro s2 Vi
  refine gO ?_
  obtain⟨p12,Vi⟩:=Jq Vi
  refine⟨[],1,(.ints .i32 [p_r]),⟨by simp[Row.len]<;>omega,rfl,_,rfl,by simp[Row.len]<;>omega,fun j hj=>.inl rfl⟩,trivial,fun j hj=>rfl,?_⟩
  conv=>whnf
  refine⟨by simp[Row.len];try omega,p12,by omega,?_⟩
  exact Oc (pI [0,3]) Vi
theorem AaL (AQ AZ) (r) (h:Vr AQ AZ=some r):Contract pl 98 [(Aq AQ),(Az AZ)] [] (Az r) []:=by
 refine Af (.t false .z (.t false .z (.t false .z (.t true .z .z)))) Tryz.func98 rfl (by kernel_rfl) ?_
 refine cB (fun s1:(List EB)×(List Ap)×(List Int)×(List Int)×Int×Int=>BS 28 [(5,(.mp 0 0 0))] [some ⟨6,193,(.vals [(.agg [(Eu s1.1),(Aw s1.2.1),(Az s1.2.2.1),(.ms 1 s1.2.2.2.1.length),(.int .i64 s1.2.2.2.2.1),(.int .i64 s1.2.2.2.2.2)])]),false,false⟩,some ⟨1,21,(.ints .i32 s1.2.2.2.1),false,true⟩]) h ?_ ?_
 ·intro Kn9 kC x9 h9 h
  refine gO ?_
  refine AO (fun s4:(List EB)×(List Ap)×(List Int)×(List Int)×Int×Int×Int=>BS 28 [(5,(.mp 0 0 0)),(6,(.fn (.func 145) [(.mp 0 0 0)] [])),(14,(Az AZ)),(15,(.int .i64 ((AZ.length:Nat):Int))),(16,(.int .i64 s4.2.2.2.2.2.2))] [some ⟨6,193,(.vals [(.agg [(Eu s4.1),(Aw s4.2.1),(Az s4.2.2.1),(.ms 1 s4.2.2.2.1.length),(.int .i64 s4.2.2.2.2.1),(.int .i64 s4.2.2.2.2.2.1)])]),false,false⟩,some ⟨1,21,(.ints .i32 s4.2.2.2.1),false,true⟩]) h9 (JK (Xp 1 0 3 _ [(.agg [(Eu AQ.Ad),(Aw AQ.Au),(Az AQ.AJ),(.sl (some true) 0 fun _=>.unk),(.int .i64 (-1:Int)),(.int .i64 (0:Int))])] [(Eu AQ.Ad),(Aw AQ.Au),(Az AQ.AJ),(.sl (some true) 0 fun _=>.unk),(.int .i64 (-1:Int)),(.int .i64 (0:Int))] 1 21 (.ints .i32 []) _ rfl rfl rfl rfl rfl trivial (by first|exact Nat.zero_le _|simp)) (wG [1,2])) ?_
  intro k6 s4 eU eZ QU Ce hs6
  refine bR Ce ?_ ?_
  ·intro _ Ce
   refine GH Ce fun Ce=>?_
   refine gO ?_
   refine bnd Ce (fun y7 hy7 Ce=>?_)
   refine Or.inr (AX (oC [0,1] (Yi _ _ _ _ _ _ _ _ hy7)) ?_)
   exact Cg (pI [0,2]) QU hs6 Ce
  ·intro _ Ce
   have e:=Option.some.inj Ce;subst e
   have e:=Ao hs6;subst e
   refine gO ?_
   exact kC _ (s4.1,s4.2.1,s4.2.2.1,s4.2.2.2.1,s4.2.2.2.2.1,s4.2.2.2.2.2.1) h (wG [0,1])
 ·clear h
  intro s1 FW
  exact BP FW
theorem iR (AQ AZ) (r) (h:Sl AQ AZ=some r):Contract pl 48 [(Aq AQ),(Az AZ)] [] (Az r) []:=by
 refine Af .z Tryz.func48 rfl (by kernel_rfl) ?_
 refine cL h (sM _ _) ?_
 intro y1 h
 refine cL h (AaL _ _) ?_
 intro y2 h
 exact BP h
theorem nY (AQ AZ) (r) (h:X8 AQ AZ=some r):Contract pl 18 [(AB AQ),(Az AZ)] [] (Az r) []:=by
 refine Af (.t false .z (.t false .z (.t true .z .z))) Tryz.func18 rfl (by kernel_rfl) ?_
 refine gO ?_
 obtain⟨p11,h⟩:=Jq h
 refine⟨rfl,p11.1,p11.2.1,p11.2.2,?_⟩
 refine cB (fun s1:(List Int)=>BS 41 [(2,(.mp 0 0 0)),(5,(.ms 1 s1.length))] [some ⟨15,31,(.vals [(AB AQ)]),false,false⟩,some ⟨1,21,(.ints .i32 s1),false,false⟩]) h ?_ ?_
 ·intro AaC Ws x12 h12 h
  refine gO ?_
  refine AO (fun s5:(List Int)×Int=>BS 41 [(2,(.mp 0 0 0)),(5,(.ms 1 s5.1.length)),(11,(Az AZ)),(12,(.int .i64 ((AZ.length:Nat):Int))),(13,(.int .i64 s5.2))] [some ⟨15,31,(.vals [(AB AQ)]),false,false⟩,some ⟨1,21,(.ints .i32 s5.1),false,false⟩]) h12 (wG [0,1]) ?_
  intro k7 s5 st7 Kn7 Y5 Hf hs7
  refine bR Hf ?_ ?_
  ·intro _ Hf
   refine GH Hf fun Hf=>?_
   refine cL Hf (VB _) ?_
   intro y8 Hf
   refine bR Hf ?_ ?_
   ·intro _ Hf
    exact Cg (pI [0,1]) Y5 hs7 Hf
   ·intro _ Hf
    refine cL Hf (Uk _ _) ?_
    intro y9 Hf
    exact Cg (pI [0,1]) Y5 hs7 Hf
  ·intro _ Hf
   have e:=Option.some.inj Hf;subst e
   have e:=Ao hs7;subst e
   refine gO ?_
   exact Ws _ s5.1 h (wG [0,1])
 ·clear h
  intro s1 Jr
  refine gO ?_
  refine bnd Jr (fun y3 hy3 Jr=>?_)
  refine Or.inl ⟨_,GI (iR _ _ _ hy3) (AP.cons (AV.Le.refl _) (AP.cons (AV.Le.mP) AP.nil)),rfl,?_⟩
  exact BP Jr
theorem Jm (p_r) (r) (h:CF p_r=some r):Contract pl 116 [(AV.int .i32 p_r)] [] (AV.bool r) []:=by
 refine Af .z Tryz.func116 rfl (by kernel_rfl) ?_
 unfold CF at h
 exact BP h
theorem xC (p_r) (r) (h:TY p_r=some r):Contract pl 168 [(AV.int .i32 p_r)] [] (AV.int .i64 r) []:=by
 refine Af .z Tryz.func168 rfl (by kernel_rfl) ?_
 refine cL h (Jm _) ?_
 intro y1 h
 exact BP h
theorem PG (CV Ci) (r) (h:HZ CV Ci=some r):Bc 2 pl 186 [(.mp 0 0 0)] [some ⟨2,151,(.vals [(.agg [(.PN 0 0 0 CV),(.ms 1 Ci.length)])]),false,false⟩,some ⟨1,5,(.ints .u8 Ci),false,true⟩] (.GU []) [some ⟨2,151,(.vals [(.agg [(.PN 0 0 0 r),(.ms 1 Ci.length)])]),false,false⟩,some ⟨1,5,(.ints .u8 Ci),false,true⟩]:=by
 refine A8 2 .z rfl Tryz.func186 rfl (by kernel_rfl) ?_
 refine bR h ?_ ?_
 ·intro _ h
  refine gO ?_
  refine And.intro Yc ?_
  exact Oc (pI [0,1]) h
 ·intro _ h
  exact Oc (pI [0,1]) h
theorem HV (CV Ci Zp) (r) (h:Du CV Ci Zp=some r):Bc 1 pl 137 [(.mp 0 0 0),(.int .u8 Zp)] [some ⟨2,151,(.vals [(.agg [(.PN 0 0 0 CV),(.ms 1 Ci.length)])]),false,false⟩,some ⟨1,5,(.ints .u8 Ci),false,true⟩] (.err r.2.2) [some ⟨2,151,(.vals [(.agg [(.PN 0 0 0 r.1),(.ms 1 r.2.1.length)])]),false,false⟩,some ⟨1,5,(.ints .u8 r.2.1),false,true⟩]:=by
 refine A8 1 .z rfl Tryz.func137 rfl (by kernel_rfl) ?_
 refine gO ?_
 refine bnd h (fun y1 hy1 h=>?_)
 refine AX (oC [0,1] (PG _ _ _ hy1)) ?_
 refine gO ?_
 obtain⟨p2,h⟩:=Jq h
 refine⟨[],1,(.ints .u8 [Zp]),⟨by simp[Row.len]<;>omega,rfl,_,rfl,by simp[Row.len]<;>omega,fun j hj=>.inl rfl⟩,trivial,fun j hj=>rfl,?_⟩
 conv=>whnf
 refine⟨by simp[Row.len];try omega,p2,by omega,?_⟩
 exact Oc (pI [0,3]) h
theorem oG (CV Ci p_r) (r) (h:Qy CV Ci p_r=some r):Bc 1 pl 118 [(.mp 0 0 0),(.int .i32 p_r)] [some ⟨2,151,(.vals [(.agg [(.PN 0 0 0 CV),(.ms 1 Ci.length)])]),false,false⟩,some ⟨1,5,(.ints .u8 Ci),false,true⟩] (.GU []) [some ⟨2,151,(.vals [(.agg [(.PN 0 0 0 r.1),(.ms 1 r.2.length)])]),false,false⟩,some ⟨1,5,(.ints .u8 r.2),false,true⟩]:=by
 refine A8 1 .z rfl Tryz.func118 rfl (by kernel_rfl) ?_
 refine cL h (xC _) ?_
 intro y4 h
 refine bR h ?_ ?_
 ·intro _ h
  refine gO ?_
  refine bnd h (fun y5 hy5 h=>?_)
  refine AX (oC [0,1] (HV _ _ _ _ hy5)) ?_
  exact Oc (pI [0,2]) h
 ·intro _ h
  refine gD1 h fun h=>?_
  refine gD1 h fun h=>?_
  refine gO ?_
  refine bnd h (fun y6 hy6 h=>?_)
  refine AX (oC [0,1] (HV _ _ _ _ hy6)) ?_
  refine lB (fun s8:Bool×(List Int)×Int=>BS 41 [(0,(.mp 0 0 0)),(1,(.int .i32 p_r)),(5,(.int .i64 s8.2.2))] [some ⟨2,151,(.vals [(.agg [(.PN 0 0 0 s8.1),(.ms 1 s8.2.1.length)])]),false,false⟩,some ⟨1,5,(.ints .u8 s8.2.1),false,true⟩]) h ?_ ?_
  ·exact wG [0,2]
  intro x10 h k10 s8 AgV ZW PK h10 VZ
  refine bR h10 ?_ ?_
  ·intro _ h10
   refine gD1 h10 fun h10=>?_
   refine gO ?_
   refine bnd h10 (fun Vw Abo h10=>?_)
   refine AX (oC [0,1] (HV _ _ _ _ Abo)) ?_
   exact Cg (pI [0,2]) PK VZ h10
  ·intro _ h10
   have e:=Option.some.inj h10;subst e
   have e:=Ao VZ;subst e
   exact Oc (pI [0,1]) h
theorem QY (CV Ci) (r) (h:Gx CV Ci=some r):Bc 2 pl 119 [(.mp 0 0 0)] [some ⟨2,151,(.vals [(.agg [(.PN 0 0 0 CV),(.ms 1 Ci.length)])]),false,false⟩,some ⟨1,5,(.ints .u8 Ci),false,true⟩] (.str r.2.2) [some ⟨2,151,(.vals [(.agg [(.PN 0 0 0 r.1),(.ms 1 r.2.1.length)])]),false,false⟩,some ⟨1,5,(.ints .u8 r.2.1),true,true⟩]:=by
 refine A8 2 .z rfl Tryz.func119 rfl (by kernel_rfl) ?_
 refine gO ?_
 refine And.intro (by first|exact Nat.le_refl _|(simp[Row.len];try omega)) ?_
 refine gO ?_
 obtain⟨p1,h⟩:=Jq h
 refine And.intro (by first|rfl|simp) (And.intro (by simp) (And.intro p1 ?_))
 exact Oc (pI [0,1]) h
theorem YM (AZ) (r) (h:LJ AZ=some r):Contract pl 63 [(Az AZ)] [] (AV.GU [(AV.str r.1),(AV.err r.2)]) []:=by
 refine Af (.t false .z (.t false .z (.t true .z .z))) Tryz.func63 rfl (by kernel_rfl) ?_
 refine gO ?_
 refine bnd h (fun x14 VH h=>?_)
 refine DT (fun s1:Bool×(List Int)=>BS 24 [(4,(.mp 0 0 0))] [some ⟨2,151,(.vals [(.agg [(.PN 0 0 0 s1.1),(.ms 1 s1.2.length)])]),false,false⟩,some ⟨1,5,(.ints .u8 s1.2),false,true⟩]) (fun s1:Bool×(List Int)=>Ob s1=some r) ?_ ?_
 ·intro iE RG
  refine gO ?_
  refine AO (fun s5:Bool×(List Int)×Int=>BS 24 [(4,(.mp 0 0 0)),(7,(Az AZ)),(8,(.int .i64 ((AZ.length:Nat):Int))),(9,(.int .i64 s5.2.2))] [some ⟨2,151,(.vals [(.agg [(.PN 0 0 0 s5.1),(.ms 1 s5.2.1.length)])]),false,false⟩,some ⟨1,5,(.ints .u8 s5.2.1),false,true⟩]) VH (JK (Xp 0 0 1 _ [(.agg [.Lf,(.sl (some true) 0 fun _=>.unk)])] [.Lf,(.sl (some true) 0 fun _=>.unk)] 1 5 (.ints .u8 []) _ rfl rfl rfl rfl rfl trivial (by first|exact Nat.zero_le _|simp)) (wG [0,1])) ?_
  intro k7 s5 st7 Kn7 Y5 Hf hs7
  refine bR Hf ?_ ?_
  ·intro _ Hf
   refine GH Hf fun Hf=>?_
   refine cL Hf (Jm _) ?_
   intro y8 Hf
   refine bR Hf ?_ ?_
   ·intro _ Hf
    refine cL Hf (QD _ _) ?_
    intro y9 Hf
    have e:=Option.some.inj Hf;subst e
    have e:=Ao hs7;subst e
    exact BP h
   ·intro _ Hf
    refine gO ?_
    refine bnd Hf (fun Rf Af2 Hf=>?_)
    refine AX (oC [0,1] (oG _ _ _ _ Af2)) ?_
    exact Cg (pI [0,2]) Y5 hs7 Hf
  ·intro _ Hf
   have e:=Option.some.inj Hf;subst e
   have e:=Ao hs7;subst e
   refine gO ?_
   exact RG _ (s5.1,s5.2.1) h (wG [0,1])
 ·clear h VH
  intro s1 Nf
  refine gO ?_
  refine bnd Nf (fun y3 hy3 Nf=>?_)
  refine AX (oC [0,1] (QY _ _ _ hy3)) ?_
  refine gO ?_
  obtain⟨p16,Nf⟩:=Jq Nf
  exact BP Nf
theorem J9 (BA EZ) (r) (h:DZ BA EZ=some r):Contract pl 120 [(AV.str BA),(AV.str EZ)] [] (AV.bool r) []:=by
 refine Af .z Tryz.func120 rfl (by kernel_rfl) ?_
 unfold DZ at h
 exact BP h
theorem XB (BA EZ) (r) (h:Rp BA EZ=some r):Contract pl 64 [(AV.str BA),(AV.str EZ)] [] (AV.bool r) []:=by
 refine Af .z Tryz.func64 rfl (by kernel_rfl) ?_
 refine cL h (J9 _ _) ?_
 intro y1 h
 exact BP h
theorem Kv (p_r) (r) (h:Fu p_r=some r):Contract pl 57 [(AV.int .i32 p_r)] [] (AV.bool r) []:=by
 refine Af .z Tryz.func57 rfl (by kernel_rfl) ?_
 unfold Fu at h
 exact BP h
theorem DL (FX ZV) (r) (h:Dj FX ZV=some r):Contract pl 42 [(AV.int .i64 FX),(AV.err ZV)] [] (AV.err r) []:=by
 refine Af .z Tryz.func42 rfl (by kernel_rfl) ?_
 unfold Dj at h
 exact BP h
theorem OQ (BA EZ) (r) (h:G6 BA EZ=some r):Contract pl 108 [(AV.str BA),(AV.str EZ)] [] (AV.GU [(AV.str r.1),(AV.bool r.2)]) []:=by
 refine Af .z Tryz.func108 rfl (by kernel_rfl) ?_
 refine cL h (J9 _ _) ?_
 intro y1 h
 exact BP h
theorem XA (BA EZ) (r) (h:KO BA EZ=some r):Contract pl 58 [(AV.str BA),(AV.str EZ)] [] (AV.GU [(AV.str r.1),(AV.bool r.2)]) []:=by
 refine Af .z Tryz.func58 rfl (by kernel_rfl) ?_
 refine cL h (OQ _ _) ?_
 intro y1 h
 exact BP h
theorem Jf (FX ZV) (r) (h:G7 FX ZV=some r):Contract pl 109 [(AV.int .i64 FX),(AV.err ZV)] [] (AV.err r) []:=by
 refine Af .z Tryz.func109 rfl (by kernel_rfl) ?_
 unfold G7 at h
 exact BP h
theorem MH (BA Zp) (r) (h:FN BA Zp=some r):Contract pl 162 [(AV.str BA),(AV.int .u8 Zp)] [] (AV.int .i64 r) []:=by
 refine Af (.t false .z (.t true .z .z)) Tryz.func162 rfl (by kernel_rfl) ?_
 refine gO ?_
 refine bnd h (fun x10 h10 h=>?_)
 refine DT (fun s1:Unit=>BS 19 [] []) (fun s1:Unit=>some (-1:Int)=some r) ?_ ?_
 ·intro ZW PK
  refine gO ?_
  refine AO (fun s4:Int=>BS 19 [(0,(.str BA)),(1,(.int .u8 Zp)),(5,(.int .i64 s4))] []) h10 (wG []) ?_
  intro k6 s4 eU eZ QU Ce hs6
  refine bR Ce ?_ ?_
  ·intro _ Ce
   refine GH Ce fun Ce=>?_
   refine bR Ce ?_ ?_
   ·intro _ Ce
    have e:=Option.some.inj Ce;subst e
    have e:=Ao hs6;subst e
    exact BP h
   ·intro _ Ce
    exact Cg (pI []) QU hs6 Ce
  ·intro _ Ce
   have e:=Option.some.inj Ce;subst e
   have e:=Ao hs6;subst e
   refine gO ?_
   exact PK _ () h (wG [])
 ·clear h h10
  intro s1 Vi
  exact BP Vi
theorem UA (BA Zp) (r) (h:I4 BA Zp=some r):Contract pl 110 [(AV.str BA),(AV.int .u8 Zp)] [] (AV.int .i64 r) []:=by
 refine Af .z Tryz.func110 rfl (by kernel_rfl) ?_
 refine cL h (MH _ _) ?_
 intro y1 h
 exact BP h
theorem sS (Bq) (r) (h:RP Bq=some r):Contract pl 203 [(AV.int .u8 Bq)] [] (AV.int .i64 r) []:=by
 refine Af (.t false .z (.t false (.t false (.t true .z (.t false .z (.t true .z (.t false .z (.t true .z .z))))) .z) .z)) Tryz.func203 rfl (by kernel_rfl) ?_
 refine cB (fun s1:Bool=>BS 34 [(0,(.int .u8 Bq)),(3,(.bool s1))] []) h ?_ ?_
 ·intro Kn7 Y5 x7 h7 h
  exact Cg (pI []) Y5 h h7
 ·clear h
  intro s1 hc8
  refine bR hc8 ?_ ?_
  ·intro _ hc8
   exact BP hc8
  ·intro _ hc8
   refine cB (fun s3:Bool=>BS 34 [(0,(.int .u8 Bq)),(13,(.bool s3))] []) hc8 ?_ ?_
   ·intro Kn9 kC x9 h9 hc8
    exact Cg (pI []) kC hc8 h9
   ·clear hc8
    intro s3 FW
    refine bR FW ?_ ?_
    ·intro _ FW
     exact BP FW
    ·intro _ FW
     refine cB (fun s5:Bool=>BS 34 [(0,(.int .u8 Bq)),(23,(.bool s5))] []) FW ?_ ?_
     ·intro U0 KX x11 h11 FW
      exact Cg (pI []) KX FW h11
     ·clear FW
      intro s5 Gq
      unfold Q7 at Gq
      exact BP Gq
theorem Qu (p_n lM Yz) (r) (h:Kw p_n lM Yz=some r):Contract pl 233 [(AV.int .i64 p_n),(AV.int .i64 lM),(AV.int .i64 Yz)] [] (AV.int .i64 r) []:=by
 refine Af .z Tryz.func233 rfl (by kernel_rfl) ?_
 unfold Kw at h
 exact BP h
theorem U7 (CV Ci Fp CO Fv Fw EP YF) (r) (h:LG CV Ci Fp CO Fv Fw EP YF=some r):Bc 2 pl 204 [(.mp 0 0 0),(.int .i64 YF)] [some ⟨7,140,(.vals [(.agg [(.int .i64 CV),(.bool Ci),(.str Fp),(.int .i64 CO),(.int .i64 Fv),(.int .i64 Fw),(.ms 1 EP.length)])]),false,false⟩,some ⟨1,21,(.ints .i32 EP),false,true⟩] (.int .i64 r.2.2.2.2.2.2) [some ⟨7,140,(.vals [(.agg [(.int .i64 r.1),(.bool r.2.1),(.str r.2.2.1),(.int .i64 r.2.2.2.1),(.int .i64 r.2.2.2.2.1),(.int .i64 r.2.2.2.2.2.1),(.ms 1 EP.length)])]),false,false⟩,some ⟨1,21,(.ints .i32 EP),false,true⟩]:=by
 refine A8 2 .z rfl Tryz.func204 rfl (by kernel_rfl) ?_
 refine cL h (Qu _ _ _) ?_
 intro y1 h
 exact Oc (pI [0,1]) h
theorem Tm (Zq Zr Zt Zu Zv Zw Ht) (r) (h:JW Zq Zr Zt Zu Zv Zw Ht=some r):Bc 2 pl 163 [(.mp 0 0 0)] [some ⟨7,140,(.vals [(.agg [(.int .i64 Zq),(.bool Zr),(.str Zt),(.int .i64 Zu),(.int .i64 Zv),(.int .i64 Zw),(.ms 1 Ht.length)])]),false,false⟩,some ⟨1,21,(.ints .i32 Ht),false,true⟩] (.GU [(.int .i64 r.2.2.2.2.2.2.1),(.err r.2.2.2.2.2.2.2)]) [some ⟨7,140,(.vals [(.agg [(.int .i64 r.1),(.bool r.2.1),(.str r.2.2.1),(.int .i64 r.2.2.2.1),(.int .i64 r.2.2.2.2.1),(.int .i64 r.2.2.2.2.2.1),(.ms 1 Ht.length)])]),false,false⟩,some ⟨1,21,(.ints .i32 Ht),false,true⟩]:=by
 refine A8 2 .z rfl Tryz.func163 rfl (by kernel_rfl) ?_
 refine lB (fun s2:Int×Bool×ByteArray×Int×Int×Int×Int×Int×Int=>BS 78 [(0,(.mp 0 0 0)),(4,(.int .i64 s2.2.2.2.2.2.2.1)),(5,(.int .i64 s2.2.2.2.2.2.2.2.1)),(6,(.int .i64 s2.2.2.2.2.2.2.2.2))] [some ⟨7,140,(.vals [(.agg [(.int .i64 s2.1),(.bool s2.2.1),(.str s2.2.2.1),(.int .i64 s2.2.2.2.1),(.int .i64 s2.2.2.2.2.1),(.int .i64 s2.2.2.2.2.2.1),(.ms 1 Ht.length)])]),false,false⟩,some ⟨1,21,(.ints .i32 Ht),false,true⟩]) h ?_ ?_
 ·exact wG [0,1]
 intro x4 h k4 s2 st4 Kn4 aS h4 hs4
 refine bR h4 ?_ ?_
 ·intro _ h4
  refine cL h4 (Jf _ _) ?_
  intro y5 h4
  have e:=Option.some.inj h4;subst e
  have e:=Ao hs4;subst e
  exact Oc (pI [0,1]) h
 ·intro _ h4
  refine GH h4 fun h4=>?_
  refine cL h4 (sS _) ?_
  intro y6 h4
  refine bR h4 ?_ ?_
  ·intro _ h4
   refine cL h4 (Jf _ _) ?_
   intro y7 h4
   have e:=Option.some.inj h4;subst e
   have e:=Ao hs4;subst e
   exact Oc (pI [0,1]) h
  ·intro _ h4
   refine bR h4 ?_ ?_
   ·intro _ h4
    refine cL h4 (Jf _ _) ?_
    intro y8 h4
    have e:=Option.some.inj h4;subst e
    have e:=Ao hs4;subst e
    exact Oc (pI [0,1]) h
   ·intro _ h4
    refine gO ?_
    refine bnd h4 (fun y9 hy9 h4=>?_)
    refine Or.inr (AX (oC [0,1] (U7 _ _ _ _ _ _ _ _ _ hy9)) ?_)
    refine bR h4 ?_ ?_
    ·intro _ h4
     have e:=Option.some.inj h4;subst e
     have e:=Ao hs4;subst e
     exact Oc (pI [0,1]) h
    ·intro _ h4
     exact Cg (pI [0,1]) aS hs4 h4
theorem cZ (bE Ky Di) (r) (h:MX bE Ky Di=some r):Contract pl 205 [(AV.int .i64 bE),(AV.int .i64 Ky),(AV.bool Di)] [] (AV.int .i64 r) []:=by
 refine Af (.t false .z (.t false .z (.t true .z (.t false .z (.t false .z (.t true .z .z)))))) Tryz.func205 rfl (by kernel_rfl) ?_
 refine cL h (Qu _ _ _) ?_
 intro y1 h
 refine cL h (Qu _ _ _) ?_
 intro y2 h
 refine cB (fun s3:Int=>BS 35 [(0,(.int .i64 s3)),(1,(.int .i64 y2))] []) h ?_ ?_
 ·intro AaC Ws x12 h12 h
  refine bR h12 ?_ ?_
  ·intro _ h12
   refine gO ?_
   refine And.intro (by decide) ?_
   exact Cg (pI []) Ws h h12
  ·intro _ h12
   refine gO ?_
   refine And.intro (by decide) ?_
   exact Cg (pI []) Ws h h12
 ·clear h
  intro s3 Jr
  refine gD1 Jr fun Jr=>?_
  refine cB (fun s5:Int×Int=>BS 35 [(0,(.int .i64 s5.1)),(7,(.int .i64 s5.2))] []) Jr ?_ ?_
  ·intro iE RG x14 VH Jr
   refine gO ?_
   refine AO (fun s8:Int×Int=>BS 35 [(0,(.int .i64 s8.1)),(7,(.int .i64 s8.2))] []) VH (wG []) ?_
   intro k10 s8 AgV ZW PK LW VZ
   refine bR LW ?_ ?_
   ·intro _ LW
    refine gO ?_
    refine And.intro (by decide) ?_
    exact Cg (pI []) PK VZ LW
   ·intro _ LW
    have e:=Option.some.inj LW;subst e
    have e:=Ao VZ;subst e
    refine gO ?_
    exact RG _ (s8.1,s8.2) Jr (wG [])
  ·clear Jr
   intro s5 Nf
   unfold SL at Nf
   exact BP Nf
theorem U6 (CV Ci Fp CO Fv Fw EP bE Ky) (r) (h:Jj CV Ci Fp CO Fv Fw EP bE Ky=some r):Bc 2 pl 164 [(.mp 0 0 0),(.int .i64 bE),(.int .i64 Ky)] [some ⟨7,140,(.vals [(.agg [(.int .i64 CV),(.bool Ci),(.str Fp),(.int .i64 CO),(.int .i64 Fv),(.int .i64 Fw),(.ms 1 EP.length)])]),false,false⟩,some ⟨1,21,(.ints .i32 EP),false,true⟩] (.GU []) [some ⟨7,140,(.vals [(.agg [(.int .i64 r.1),(.bool r.2.1),(.str r.2.2.1),(.int .i64 r.2.2.2.1),(.int .i64 r.2.2.2.2.1),(.int .i64 r.2.2.2.2.2),(.ms 1 EP.length)])]),false,false⟩,some ⟨1,21,(.ints .i32 EP),false,true⟩]:=by
 refine A8 2 .z rfl Tryz.func164 rfl (by kernel_rfl) ?_
 refine cL h (cZ _ _ _) ?_
 intro y1 h
 exact Oc (pI [0,1]) h
end Go.Proofs.YtkeokkmhhhhoiaaGreatDoor
