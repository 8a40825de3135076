import Derived.Test.YtkeokkmhhhhoiaaGreatDoorK1
import Derived.Test.YtkeokkmhhhhoiaaGreatDoorRCheck
import Derived.Test.YtkeokkmhhhhoiaaGreatDoorKorean
import Derived.Test.YtkeokkmhhhhoiaaGreatDoorTwice
import Derived.Test.YtkeokkmhhhhoiaaGreatDoorProg
import Derived.KernelRfl
namespace Go.Proofs.YtkeokkmhhhhoiaaGreatDoor
open Go Go.SE
set_option linter.unusedVariables false
set_option linter.unusedSimpArgs false
set_option maxRecDepth 10000
set_option maxHeartbeats 2000000
attribute [local irreducible] Contract iter
theorem iT (AQ) (r) (h:Pb AQ=some r):Contract pl 124 [(Aq AQ)] [] (AV.err r) []:=by
 refine Af (.t false .z (.t false (.t true .z .z) (.t false .z (.t false .z (.t true (.t false .z (.t false (.t false (.t false .z (.t false .z (.t false (.t false (.t false .z (.t false .z (.t true .z .z))) .z) .z))) .z) .z)) (.t false .z (.t false .z (.t true (.t false .z (.t false (.t false (.t false .z (.t false .z (.t false (.t false (.t false .z (.t true .z .z)) .z) .z))) .z) .z)) (.t true (.t false .z (.t false (.t false (.t false .z (.t false .z (.t false (.t false (.t false .z (.t false (.t false .z (.t false .z (.t true .z .z))) .z)) .z) .z))) .z) .z)) .z))))))))) Tryz.func124 rfl (by kernel_rfl) ?_
 refine cB (fun s1:Bool=>BS 136 [(1,(.mp 0 0 0)),(21,(.bool s1))] [some ⟨3,26,(.vals [(Aq AQ)]),false,false⟩]) h ?_ ?_
 ·intro AoT Anw x51 h51 h
  exact Cg (pI [0]) Anw h h51
 ·clear h
  intro s1 XE
  refine bR XE ?_ ?_
  ·intro _ XE
   refine cL XE (KS _ _) ?_
   intro y3 XE
   exact BP XE
  ·intro _ XE
   refine cL XE (iW _) ?_
   intro y4 XE
   have Aoj:=gOf XE
   refine gD3 XE fun XE=>?_
   refine gO ?_
   refine bnd XE (fun x53 h53 XE=>?_)
   refine DT (fun s5:Unit=>BS 136 [(1,(.mp 0 0 0)),(3,(.int .i64 y4))] [some ⟨3,26,(.vals [(Aq AQ)]),false,false⟩]) (fun s5:Unit=>Pf AQ y4 s5=some r) ?_ ?_
   ·intro AmL Ah0
    refine gO ?_
    refine AO (fun zW:Int=>BS 136 [(1,(.mp 0 0 0)),(3,(.int .i64 y4)),(4,(.mp 1 0 0)),(31,(.int .i64 y4)),(32,(.int .i64 zW))] [some ⟨3,26,(.vals [(Aq AQ)]),false,false⟩,some ⟨3,26,(.vals [(.agg [(.sl none ((y4.toNat)-0) fun j=>(Nb (AQ.Ad.getD (0+j) Ac))),(.sl (some true) 0 fun _=>.unk),(.sl (some true) 0 fun _=>.unk)])]),false,false⟩]) h53 (wG [0,1]) ?_
    intro k41 zW AqM AoO Anu gB Aj7
    refine bR gB ?_ ?_
    ·intro _ gB
     refine GH gB fun gB=>?_
     refine cB (fun s42:Bool=>BS 136 [(1,(.mp 0 0 0)),(3,(.int .i64 y4)),(4,(.mp 1 0 0)),(5,(.int .i64 zW)),(31,(.int .i64 y4)),(32,(.int .i64 zW)),(57,(.bool s42))] [some ⟨3,26,(.vals [(Aq AQ)]),false,false⟩,some ⟨3,26,(.vals [(.agg [(.sl none ((y4.toNat)-0) fun j=>(Nb (AQ.Ad.getD (0+j) Ac))),(.sl (some true) 0 fun _=>.unk),(.sl (some true) 0 fun _=>.unk)])]),false,false⟩]) gB ?_ ?_
     ·intro AoU AjX x54 yD gB
      refine bR yD ?_ ?_
      ·intro _ yD
       refine GH yD fun yD=>?_
       refine cL yD (sP _ _) ?_
       intro y45 yD
       refine bR yD ?_ ?_
       ·intro _ yD
        exact Cg (pI [0,1]) AjX gB yD
       ·intro _ yD
        refine gO ?_
        refine bnd yD (fun y46 AnP yD=>?_)
        refine Or.inl ⟨_,GI (Wd _ _ _ AnP) (AP.cons (AV.Le.agg (AP.cons (AV.Le.list (by simp;try omega) (fun j hj=>by first|rfl|rw[KW hj]|(rw[getD_take hj];simp)|simp)) (AP.cons (AV.Le.list rfl (fun j hj=>absurd hj (Nat.not_lt_zero _))) (AP.cons (AV.Le.list rfl (fun j hj=>absurd hj (Nat.not_lt_zero _))) AP.nil)))) (AP.cons (AV.Le.refl _) AP.nil)),rfl,?_⟩
        exact Cg (pI [0,1]) AjX gB yD
      ·intro _ yD
       refine gO ?_
       refine bnd yD (fun y47 hy47 yD=>?_)
       refine Or.inl ⟨_,GI (Wd _ _ _ hy47) (AP.cons (AV.Le.agg (AP.cons (AV.Le.list (by simp;try omega) (fun j hj=>by first|rfl|rw[KW hj]|(rw[getD_take hj];simp)|simp)) (AP.cons (AV.Le.list rfl (fun j hj=>absurd hj (Nat.not_lt_zero _))) (AP.cons (AV.Le.list rfl (fun j hj=>absurd hj (Nat.not_lt_zero _))) AP.nil)))) (AP.cons (AV.Le.refl _) AP.nil)),rfl,?_⟩
       exact Cg (pI [0,1]) AjX gB yD
     ·clear gB
      intro s42 RF
      refine bR RF ?_ ?_
      ·intro _ RF
       refine cL RF (KS _ _) ?_
       intro y44 RF
       have e:=Option.some.inj RF;subst e
       have e:=Ao Aj7;subst e
       exact BP XE
      ·intro _ RF
       exact Cg (pI [0,1]) Anu Aj7 RF
    ·intro _ gB
     have e:=Option.some.inj gB;subst e
     have e:=Ao Aj7;subst e
     refine gO ?_
     exact Ah0 _ () XE (wG [0])
   ·clear XE h53
    intro s5 Vj
    refine bR Vj ?_ ?_
    ·intro _ Vj
     refine cL Vj (TA _ _) ?_
     intro y7 Vj
     refine cL Vj (KS _ _) ?_
     intro y8 Vj
     exact BP Vj
    ·intro _ Vj
     refine cL Vj (Wi _) ?_
     intro y9 Vj
     refine bR Vj ?_ ?_
     ·intro _ Vj
      exact BP Vj
     ·intro _ Vj
      refine gO ?_
      refine bnd Vj (fun x57 h57 Vj=>?_)
      refine DT (fun s10:Unit=>BS 136 [(1,(.mp 0 0 0))] [some ⟨3,26,(.vals [(Aq AQ)]),false,false⟩]) (fun s10:Unit=>Oo AQ s10=some r) ?_ ?_
      ·intro AkV AfX
       refine gO ?_
       refine AO (fun gJ:Int=>BS 136 [(1,(.mp 0 0 0)),(79,(Aw AQ.Au)),(80,(.int .i64 ((AQ.Au.length:Nat):Int))),(81,(.int .i64 gJ))] [some ⟨3,26,(.vals [(Aq AQ)]),false,false⟩]) h57 (wG [0]) ?_
       intro k30 gJ AqH AkS AdB fZ Aj5
       refine bR fZ ?_ ?_
       ·intro _ fZ
        refine GH fZ fun fZ=>?_
        refine cB (fun ZH:Bool=>BS 136 [(1,(.mp 0 0 0)),(8,(.int .i64 gJ)),(79,(Aw AQ.Au)),(80,(.int .i64 ((AQ.Au.length:Nat):Int))),(81,(.int .i64 gJ)),(97,(.bool ZH))] [some ⟨3,26,(.vals [(Aq AQ)]),false,false⟩]) fZ ?_ ?_
        ·intro AmN AdE x58 jU fZ
         refine bR jU ?_ ?_
         ·intro _ jU
          exact Cg (pI [0]) AdE fZ jU
         ·intro _ jU
          refine bR jU ?_ ?_
          ·intro _ jU
           exact Cg (pI [0]) AdE fZ jU
          ·intro _ jU
           refine cL jU (fD _) ?_
           intro y34 jU
           exact Cg (pI [0]) AdE fZ jU
        ·clear fZ
         intro ZH Vk
         refine bR Vk ?_ ?_
         ·intro _ Vk
          refine cL Vk (KS _ _) ?_
          intro y33 Vk
          have e:=Option.some.inj Vk;subst e
          have e:=Ao Aj5;subst e
          exact BP Vj
         ·intro _ Vk
          exact Cg (pI [0]) AdB Aj5 Vk
       ·intro _ fZ
        have e:=Option.some.inj fZ;subst e
        have e:=Ao Aj5;subst e
        refine gO ?_
        exact AfX _ () Vj (wG [0])
      ·clear Vj h57
       intro s10 jX
       refine gO ?_
       refine bnd jX (fun x61 h61 jX=>?_)
       refine DT (fun s12:Unit=>BS 136 [(1,(.mp 0 0 0))] [some ⟨3,26,(.vals [(Aq AQ)]),false,false⟩]) (fun s12:Unit=>Oq AQ s12=some r) ?_ ?_
       ·intro AkW AfY
        refine gO ?_
        refine AO (fun s16:Int=>BS 136 [(1,(.mp 0 0 0)),(103,(Az AQ.AJ)),(104,(.int .i64 ((AQ.AJ.length:Nat):Int))),(105,(.int .i64 s16))] [some ⟨3,26,(.vals [(Aq AQ)]),false,false⟩]) h61 (wG [0]) ?_
        intro k18 s16 AiE AcS XG Gu Vl
        refine bR Gu ?_ ?_
        ·intro _ Gu
         refine GH Gu fun Gu=>?_
         refine cL Gu (Jm _) ?_
         intro wO Gu
         refine bR Gu ?_ ?_
         ·intro _ Gu
          refine cL Gu (KS _ _) ?_
          intro y20 Gu
          have e:=Option.some.inj Gu;subst e
          have e:=Ao Vl;subst e
          exact BP jX
         ·intro _ Gu
          refine cB (fun s21:Bool=>BS 136 [(1,(.mp 0 0 0)),(10,(.int .i64 s16)),(103,(Az AQ.AJ)),(104,(.int .i64 ((AQ.AJ.length:Nat):Int))),(105,(.int .i64 s16)),(117,(.bool s21))] [some ⟨3,26,(.vals [(Aq AQ)]),false,false⟩]) Gu ?_ ?_
          ·intro AmO Ah1 x62 h62 Gu
           exact Cg (pI [0]) Ah1 Gu h62
          ·clear Gu
           intro s21 hc63
           refine bR hc63 ?_ ?_
           ·intro _ hc63
            refine cL hc63 (KS _ _) ?_
            intro y23 hc63
            have e:=Option.some.inj hc63;subst e
            have e:=Ao Vl;subst e
            exact BP jX
           ·intro _ hc63
            exact Cg (pI [0]) XG Vl hc63
        ·intro _ Gu
         have e:=Option.some.inj Gu;subst e
         have e:=Ao Vl;subst e
         refine gO ?_
         exact AfY _ () jX (wG [0])
       ·clear jX h61
        intro s12 uJ
        refine cL uJ (iX _) ?_
        intro gN uJ
        exact BP uJ
theorem YI (JQ) (r) (h:O7 JQ=some r):Contract pl 183 [(FL JQ)] [] (JB r) []:=by
 refine Af .z Tryz.func183 rfl (by kernel_rfl) ?_
 have e:=Option.some.inj h;subst e
 refine gO ?_
 exact And.intro (AV.Le.lits (enc:=fun x=>(Nc x)) Cr rfl (Ji.cons (AP.cons (AV.Le.refl _) (AP.cons (AV.Le.refl _) AP.nil)) rfl (Ji.cons (AP.cons (AV.Le.refl _) (AP.cons (AV.Le.refl _) AP.nil)) rfl (Ji.cons (AP.cons (AV.Le.refl _) (AP.cons (AV.Le.refl _) AP.nil)) rfl (Ji.cons (AP.cons (AV.Le.refl _) (AP.cons (AV.Le.refl _) AP.nil)) rfl (Ji.cons (AP.cons (AV.Le.refl _) (AP.cons (AV.Le.refl _) AP.nil)) rfl (Ji.cons (AP.cons (AV.Le.refl _) (AP.cons (AV.Le.refl _) AP.nil)) rfl (Ji.cons (AP.cons (AV.Le.refl _) (AP.cons (AV.Le.refl _) AP.nil)) rfl (Ji.cons (AP.cons (AV.Le.refl _) (AP.cons (AV.Le.refl _) AP.nil)) rfl (Ji.cons (AP.cons (AV.Le.refl _) (AP.cons (AV.Le.refl _) AP.nil)) rfl (Ji.cons (AP.cons (AV.Le.refl _) (AP.cons (AV.Le.refl _) AP.nil)) rfl (Ji.cons (AP.cons (AV.Le.refl _) (AP.cons (AV.Le.refl _) AP.nil)) rfl Ji.nil)))))))))))) rfl
theorem fA (JQ) (r) (h:NU JQ=some r):Contract pl 125 [(FL JQ)] [] (AV.err r) []:=by
 refine Af (.t false .z (.t true (.t false .z (.t false (.t false (.t false .z (.t false .z (.t true (.t false (.t false .z (.t false .z (.t false .z (.t false (.t false (.t false .z (.t false .z (.t false (.t false (.t false .z (.t true .z .z)) .z) .z))) .z) .z)))) .z) .z))) .z) .z)) .z)) Tryz.func125 rfl (by kernel_rfl) ?_
 refine gO ?_
 refine bnd h (fun x23 h23 h=>?_)
 refine DT (fun s1:Unit=>BS 51 [] []) (fun s1:Unit=>some Er.nil=some r) ?_ ?_
 ·intro AoM Ant
  refine cL h23 (YI _) ?_
  intro y3 h23
  refine gO ?_
  refine AO (fun s5:Int=>BS 51 [(9,(JB y3)),(10,(.int .i64 ((y3.length:Nat):Int))),(11,(.int .i64 s5))] []) h23 (wG []) ?_
  intro k7 s5 st7 Kn7 Y5 Hf hs7
  refine bR Hf ?_ ?_
  ·intro _ Hf
   refine gO ?_
   refine bnd Hf (fun x24 nP Hf=>?_)
   refine DT (fun s8:Unit=>BS 51 [(9,(JB y3)),(10,(.int .i64 ((y3.length:Nat):Int))),(11,(.int .i64 s5))] []) (fun s8:Unit=>some (.next (IntKind.wrap .i64 (s5+(1:Int))))=some st7) ?_ ?_
   ·intro Ahh uQ
    refine GH nP fun nP=>?_
    refine cL nP (Wi _) ?_
    intro Rf nP
    refine bR nP ?_ ?_
    ·intro _ nP
     have e:=Option.some.inj nP;subst e
     have e:=Option.some.inj Hf;subst e
     have e:=Ao hs7;subst e
     exact BP h
    ·intro _ nP
     refine lB (fun s12:Int=>BS 51 [(4,(.mp 0 0 0)),(9,(JB y3)),(10,(.int .i64 ((y3.length:Nat):Int))),(11,(.int .i64 s5)),(22,(Aw ((y3.getD (s5.toNat) Cr).XD))),(23,(.int .i64 (((y3.getD (s5.toNat) Cr).XD.length:Nat):Int))),(24,(.int .i64 s12))] [some ⟨2,218,(.vals [(Nc (y3.getD (s5.toNat) Cr))]),false,false⟩]) nP ?_ ?_
     ·exact wG [0]
     intro x14 nP k14 s12 AiD iE RG VH Yt
     refine bR VH ?_ ?_
     ·intro _ VH
      refine GH VH fun VH=>?_
      refine cB (fun s15:Bool=>BS 51 [(4,(.mp 0 0 0)),(6,(.int .i64 s12)),(9,(JB y3)),(10,(.int .i64 ((y3.length:Nat):Int))),(11,(.int .i64 s5)),(22,(Aw ((y3.getD (s5.toNat) Cr).XD))),(23,(.int .i64 (((y3.getD (s5.toNat) Cr).XD.length:Nat):Int))),(24,(.int .i64 s12)),(43,(.bool s15))] [some ⟨2,218,(.vals [(Nc (y3.getD (s5.toNat) Cr))]),false,false⟩]) VH ?_ ?_
      ·intro Aje yM x25 h25 VH
       exact Cg (pI [0]) yM VH h25
      ·clear VH
       intro s15 Sb
       refine bR Sb ?_ ?_
       ·intro _ Sb
        have e:=Option.some.inj Sb;subst e
        have e:=Ao Yt;subst e
        have e:=Option.some.inj nP;subst e
        have e:=Option.some.inj Hf;subst e
        have e:=Ao hs7;subst e
        exact BP h
       ·intro _ Sb
        exact Cg (pI [0]) RG Yt Sb
     ·intro _ VH
      have e:=Option.some.inj VH;subst e
      have e:=Ao Yt;subst e
      exact Cg (pI []) uQ Hf nP
   ·clear Hf nP
    intro s8 hc27
    exact Cg (pI []) Y5 hs7 hc27
  ·intro _ Hf
   have e:=Option.some.inj Hf;subst e
   have e:=Ao hs7;subst e
   refine gO ?_
   exact Ant _ () h (wG [])
 ·clear h h23
  intro s1 hc28
  exact BP hc28
theorem Z6 (AQ) (r) (h:Nn AQ=some r):Contract pl 69 [(AB AQ)] [] (AV.err r) []:=by
 refine Af .z Tryz.func69 rfl (by kernel_rfl) ?_
 refine cL h (iT _) ?_
 intro y1 h
 refine bR h ?_ ?_
 ·intro _ h
  exact BP h
 ·intro _ h
  refine cL h (fA _) ?_
  intro y2 h
  exact BP h
theorem aA (AZ) (r) (h:Qk AZ=some r):Contract pl 70 [(DY AZ)] [] (AV.err r) []:=by
 refine Af (.t false .z (.t false .z (.t true (.t false .z (.t false (.t false (.t false .z (.t false .z (.t false (.t false (.t false .z (.t false (.t true .z (.t false .z (.t true .z .z))) .z)) .z) .z))) .z) .z)) (.t true .z .z)))) Tryz.func70 rfl (by kernel_rfl) ?_
 refine bR h ?_ ?_
 ·intro _ h
  refine cL h (DL _ _) ?_
  intro y1 h
  exact BP h
 ·intro _ h
  refine gO ?_
  refine bnd h (fun x32 h32 h=>?_)
  refine DT (fun s2:Unit=>BS 76 [(0,(DY AZ))] []) (fun s2:Unit=>NH AZ s2=some r) ?_ ?_
  ·intro AmE hn32
   refine gO ?_
   refine AO (fun s16:Int=>BS 76 [(0,(DY AZ)),(14,(DY AZ)),(15,(.int .i64 ((AZ.length:Nat):Int))),(16,(.int .i64 s16))] []) h32 (wG []) ?_
   intro k18 s16 AiE AcS XG Gu Vl
   refine bR Gu ?_ ?_
   ·intro _ Gu
    refine GH Gu fun Gu=>?_
    refine cB (fun Vv:Bool=>BS 76 [(0,(DY AZ)),(3,(.int .i64 s16)),(4,(.mp 0 0 0)),(14,(DY AZ)),(15,(.int .i64 ((AZ.length:Nat):Int))),(16,(.int .i64 s16)),(21,(.bool Vv))] [some ⟨2,88,(.vals [(Vd (AZ.getD (s16.toNat) E9))]),false,false⟩]) Gu ?_ ?_
    ·intro AkT yO x33 Y3 Gu
     refine cL Y3 (Jm _) ?_
     intro y25 Y3
     refine bR Y3 ?_ ?_
     ·intro _ Y3
      exact Cg (pI [0]) yO Gu Y3
     ·intro _ Y3
      refine cL Y3 (Kv _) ?_
      intro wL Y3
      refine bR Y3 ?_ ?_
      ·intro _ Y3
       exact Cg (pI [0]) yO Gu Y3
      ·intro _ Y3
       refine cL Y3 (Jm _) ?_
       intro y27 Y3
       refine bR Y3 ?_ ?_
       ·intro _ Y3
        exact Cg (pI [0]) yO Gu Y3
       ·intro _ Y3
        refine cL Y3 (VB _) ?_
        intro y28 Y3
        exact Cg (pI [0]) yO Gu Y3
    ·clear Gu
     intro Vv hc34
     refine bR hc34 ?_ ?_
     ·intro _ hc34
      refine cL hc34 (DL _ _) ?_
      intro y21 hc34
      have e:=Option.some.inj hc34;subst e
      have e:=Ao Vl;subst e
      exact BP h
     ·intro _ hc34
      refine cB (fun s22:Bool=>BS 76 [(0,(DY AZ)),(3,(.int .i64 s16)),(14,(DY AZ)),(15,(.int .i64 ((AZ.length:Nat):Int))),(16,(.int .i64 s16)),(39,(.bool s22))] []) hc34 ?_ ?_
      ·intro AmG AjU x35 h35 hc34
       exact Cg (pI []) AjU hc34 h35
      ·clear hc34
       intro s22 UF
       refine bR UF ?_ ?_
       ·intro _ UF
        refine cL UF (DL _ _) ?_
        intro y24 UF
        have e:=Option.some.inj UF;subst e
        have e:=Ao Vl;subst e
        exact BP h
       ·intro _ UF
        exact Cg (pI []) XG Vl UF
   ·intro _ Gu
    have e:=Option.some.inj Gu;subst e
    have e:=Ao Vl;subst e
    refine gO ?_
    exact hn32 _ () h (wG [])
  ·clear h h32
   intro s2 Abe
   refine gO ?_
   refine bnd Abe (fun x38 h38 Abe=>?_)
   refine DT (fun s4:Unit=>BS 76 [] []) (fun s4:Unit=>some Er.nil=some r) ?_ ?_
   ·intro Ajf uS
    refine gO ?_
    refine AO (fun s7:Int=>BS 76 [(0,(DY AZ)),(57,(DY AZ)),(58,(.int .i64 ((AZ.length:Nat):Int))),(59,(.int .i64 s7))] []) h38 (wG []) ?_
    intro k9 s7 st9 Kn9 kC h9_ hs9
    refine bR h9_ ?_ ?_
    ·intro _ h9_
     refine GH h9_ fun h9_=>?_
     refine cL h9_ (Uk _ _) ?_
     intro Rf h9_
     refine bR h9_ ?_ ?_
     ·intro _ h9_
      refine cL h9_ (DL _ _) ?_
      intro Vw h9_
      have e:=Option.some.inj h9_;subst e
      have e:=Ao hs9;subst e
      exact BP Abe
     ·intro _ h9_
      exact Cg (pI []) kC hs9 h9_
    ·intro _ h9_
     have e:=Option.some.inj h9_;subst e
     have e:=Ao hs9;subst e
     refine gO ?_
     exact uS _ () Abe (wG [])
   ·clear Abe h38
    intro s4 hc39
    exact BP hc39
theorem w9 (AQ) (r) (h:TS AQ=some r):Contract pl 26 [(AB AQ)] [] (AV.err r) []:=by
 refine Af (.t false .z (.t false .z (.t true (.t false .z (.t false (.t false (.t false .z (.t false .z (.t false (.t false (.t false .z (.t true .z .z)) .z) .z))) .z) .z)) (.t true .z .z)))) Tryz.func26 rfl (by kernel_rfl) ?_
 refine cL h (Z6 _) ?_
 intro y1 h
 refine bR h ?_ ?_
 ·intro _ h
  exact BP h
 ·intro _ h
  refine gO ?_
  refine bnd h (fun x28 h28 h=>?_)
  refine DT (fun s2:Unit=>BS 61 [(1,(.mp 0 0 0))] [some ⟨15,31,(.vals [(AB AQ)]),false,false⟩]) (fun s2:Unit=>SC AQ s2=some r) ?_ ?_
  ·intro AeE jZ
   refine gO ?_
   refine AO (fun rM:Int=>BS 61 [(1,(.mp 0 0 0)),(15,(Eu AQ.Ca.Ad)),(16,(.int .i64 ((AQ.Ca.Ad.length:Nat):Int))),(17,(.int .i64 rM))] [some ⟨15,31,(.vals [(AB AQ)]),false,false⟩]) h28 (wG [0]) ?_
   intro k19 rM AqC AkQ AdA fV Aj3
   refine bR fV ?_ ?_
   ·intro _ fV
    refine GH fV fun fV=>?_
    refine cB (fun s20:Bool=>BS 61 [(1,(.mp 0 0 0)),(4,(.int .i64 rM)),(15,(Eu AQ.Ca.Ad)),(16,(.int .i64 ((AQ.Ca.Ad.length:Nat):Int))),(17,(.int .i64 rM)),(37,(.bool s20))] [some ⟨15,31,(.vals [(AB AQ)]),false,false⟩]) fV ?_ ?_
    ·intro AkR yN x29 aP fV
     refine cL aP (Kv _) ?_
     intro y23 aP
     refine bR aP ?_ ?_
     ·intro _ aP
      exact Cg (pI [0]) yN fV aP
     ·intro _ aP
      refine bR aP ?_ ?_
      ·intro _ aP
       refine GH aP fun aP=>?_
       refine cL aP (Kv _) ?_
       intro y24 aP
       exact Cg (pI [0]) yN fV aP
      ·intro _ aP
       exact Cg (pI [0]) yN fV aP
    ·clear fV
     intro s20 Qe
     refine bR Qe ?_ ?_
     ·intro _ Qe
      refine cL Qe (DL _ _) ?_
      intro y22 Qe
      have e:=Option.some.inj Qe;subst e
      have e:=Ao Aj3;subst e
      exact BP h
     ·intro _ Qe
      exact Cg (pI [0]) AdA Aj3 Qe
   ·intro _ fV
    have e:=Option.some.inj fV;subst e
    have e:=Ao Aj3;subst e
    refine gO ?_
    exact jZ _ () h (wG [0])
  ·clear h h28
   intro s2 hc31
   refine gO ?_
   refine bnd hc31 (fun x32 h32 hc31=>?_)
   refine DT (fun s4:Unit=>BS 61 [(1,(.mp 0 0 0))] [some ⟨15,31,(.vals [(AB AQ)]),false,false⟩]) (fun s4:Unit=>SF AQ s4=some r) ?_ ?_
   ·intro AmE hn32
    refine gO ?_
    refine AO (fun s8:Int=>BS 61 [(1,(.mp 0 0 0)),(44,(Aw AQ.Ca.Au)),(45,(.int .i64 ((AQ.Ca.Au.length:Nat):Int))),(46,(.int .i64 s8))] [some ⟨15,31,(.vals [(AB AQ)]),false,false⟩]) h32 (wG [0]) ?_
    intro k10 s8 AgV ZW PK LW VZ
    refine bR LW ?_ ?_
    ·intro _ LW
     refine GH LW fun LW=>?_
     refine cL LW (Kv _) ?_
     intro Vw LW
     refine bR LW ?_ ?_
     ·intro _ LW
      refine cL LW (DL _ _) ?_
      intro P5 LW
      have e:=Option.some.inj LW;subst e
      have e:=Ao VZ;subst e
      exact BP hc31
     ·intro _ LW
      exact Cg (pI [0]) PK VZ LW
    ·intro _ LW
     have e:=Option.some.inj LW;subst e
     have e:=Ao VZ;subst e
     refine gO ?_
     exact hn32 _ () hc31 (wG [0])
   ·clear hc31 h32
    intro s4 jW
    refine cL jW (aA _) ?_
    intro y6 jW
    exact BP jW
theorem Ym (AL Bq) (r) (h:LB AL Bq=some r):Contract pl 17 [(Az AL),(Az Bq)] [] (AV.bool r) []:=by
 refine Af (.t false .z (.t false .z (.t true .z .z))) Tryz.func17 rfl (by kernel_rfl) ?_
 refine bR h ?_ ?_
 ·intro _ h
  exact BP h
 ·intro _ h
  refine gO ?_
  refine bnd h (fun x10 h10 h=>?_)
  refine DT (fun s1:Unit=>BS 26 [] []) (fun s1:Unit=>some true=some r) ?_ ?_
  ·intro ZW PK
   refine gO ?_
   refine AO (fun s4:Int=>BS 26 [(0,(Az AL)),(1,(Az Bq)),(5,(.int .i64 s4))] []) h10 (wG []) ?_
   intro k6 s4 eU eZ QU Ce hs6
   refine bR Ce ?_ ?_
   ·intro _ Ce
    refine GH Ce fun Ce=>?_
    refine GH Ce fun Ce=>?_
    refine bR Ce ?_ ?_
    ·intro _ Ce
     have e:=Option.some.inj Ce;subst e
     have e:=Ao hs6;subst e
     exact BP h
    ·intro _ Ce
     exact Cg (pI []) QU hs6 Ce
   ·intro _ Ce
    have e:=Option.some.inj Ce;subst e
    have e:=Ao hs6;subst e
    refine gO ?_
    exact PK _ () h (wG [])
  ·clear h h10
   intro s1 Vi
   exact BP Vi
theorem Ux (AQ AZ BA) (r) (h:K7 AQ AZ BA=some r):Contract pl 7 [(AB AQ),(Az AZ),(AV.str BA)] [] (AV.bool r) []:=by
 refine Af (.t false .z (.t false .z (.t false (.t true .z .z) (.t true (.t false .z (.t false .z (.t false (.t false .z (.t true .z .z)) .z))) (.t false (.t false .z (.t false .z (.t false (.t false .z (.t true .z .z)) .z))) .z))))) Tryz.func7 rfl (by kernel_rfl) ?_
 refine gO ?_
 refine bnd h (fun y1 hy1 h=>?_)
 refine Or.inl ⟨_,Xz _ hy1,rfl,?_⟩
 refine bR h ?_ ?_
 ·intro _ h
  exact BP h
 ·intro _ h
  refine cB (fun s2:Bool=>BS 82 [(1,(Az AZ)),(2,(.str BA)),(3,(.mp 0 0 0)),(33,(.bool s2))] [some ⟨15,31,(.vals [(AB AQ)]),false,false⟩]) h ?_ ?_
  ·intro AcS XG x18 h18 h
   refine cL h18 (Xy _) ?_
   intro y16 h18
   refine bR h18 ?_ ?_
   ·intro _ h18
    exact Cg (pI [0]) XG h h18
   ·intro _ h18
    refine bR h18 ?_ ?_
    ·intro _ h18
     exact Cg (pI [0]) XG h h18
    ·intro _ h18
     refine bR h18 ?_ ?_
     ·intro _ h18
      exact Cg (pI [0]) XG h h18
     ·intro _ h18
      refine cL h18 (w9 _) ?_
      intro nN h18
      exact Cg (pI [0]) XG h h18
  ·clear h
   intro s2 hc19
   refine bR hc19 ?_ ?_
   ·intro _ hc19
    exact BP hc19
   ·intro _ hc19
    refine gO ?_
    refine bnd hc19 (fun x20 h20 hc19=>?_)
    refine DT (fun s4:Unit=>BS 82 [(2,(.str BA)),(3,(.mp 0 0 0))] [some ⟨15,31,(.vals [(AB AQ)]),false,false⟩]) (fun s4:Unit=>G5 AQ BA s4=some r) ?_ ?_
    ·intro AeD gF
     refine cL h20 (Ui _ _) ?_
     intro Rf h20
     refine bR h20 ?_ ?_
     ·intro _ h20
      refine cL h20 (Uj _ _) ?_
      intro Vw h20
      refine cB (fun s12:Bool=>BS 82 [(2,(.str BA)),(3,(.mp 0 0 0)),(60,(.bool s12))] [some ⟨15,31,(.vals [(AB AQ)]),false,false⟩]) h20 ?_ ?_
      ·intro Ahg oQ x21 h21 h20
       refine bR h21 ?_ ?_
       ·intro _ h21
        exact Cg (pI [0]) oQ h20 h21
       ·intro _ h21
        refine cL h21 (Ym _ _) ?_
        intro gN h21
        exact Cg (pI [0]) oQ h20 h21
      ·clear h20
       intro s12 hc22
       refine bR hc22 ?_ ?_
       ·intro _ hc22
        have e:=Option.some.inj hc22;subst e
        exact BP hc19
       ·intro _ hc22
        exact Cg (pI [0]) gF hc19 hc22
     ·intro _ h20
      exact Cg (pI [0]) gF hc19 h20
    ·clear hc19 h20
     intro s4 Iu
     refine cL Iu (Uj _ _) ?_
     intro y6 Iu
     refine bR Iu ?_ ?_
     ·intro _ Iu
      refine cL Iu (Ui _ _) ?_
      intro y7 Iu
      refine cB (fun s8:Bool=>BS 82 [(81,(.bool s8))] []) Iu ?_ ?_
      ·intro Ahh uQ x24 nP Iu
       exact Cg (pI []) uQ Iu nP
      ·clear Iu
       intro s8 hc25
       unfold MS at hc25
       exact BP hc25
     ·intro _ Iu
      exact BP Iu
end Go.Proofs.YtkeokkmhhhhoiaaGreatDoor
