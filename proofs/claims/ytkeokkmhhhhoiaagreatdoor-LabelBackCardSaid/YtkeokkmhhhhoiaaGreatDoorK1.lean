import Derived.Test.YtkeokkmhhhhoiaaGreatDoorK0
import Derived.Test.YtkeokkmhhhhoiaaGreatDoorInsI
import Derived.Test.YtkeokkmhhhhoiaaGreatDoorProg
import Derived.KernelRfl
namespace Go.Proofs.YtkeokkmhhhhoiaaGreatDoor
open Go Go.SE
set_option linter.unusedVariables false
set_option linter.unusedSimpArgs false
set_option maxRecDepth 10000
set_option maxHeartbeats 2000000
attribute [local irreducible] Contract iter
theorem Uy (Zq Zr Zt Zu Zv Zw Ht) (r) (h:IL Zq Zr Zt Zu Zv Zw Ht=some r):Bc 1 pl 111 [(.mp 0 0 0)] [some ⟨7,140,(.vals [(.agg [(.int .i64 Zq),(.bool Zr),(.str Zt),(.int .i64 Zu),(.int .i64 Zv),(.int .i64 Zw),(.ms 1 Ht.length)])]),false,false⟩,some ⟨1,21,(.ints .i32 Ht),false,true⟩] (.err r.2.2.2.2.2.2.2) [some ⟨7,140,(.vals [(.agg [(.int .i64 r.1),(.bool r.2.1),(.str r.2.2.1),(.int .i64 r.2.2.2.1),(.int .i64 r.2.2.2.2.1),(.int .i64 r.2.2.2.2.2.1),(.ms 1 r.2.2.2.2.2.2.1.length)])]),false,false⟩,some ⟨1,21,(.ints .i32 r.2.2.2.2.2.2.1),false,true⟩]:=by
 refine A8 1 (.t false .z (.t false .z (.t false .z (.t false .z (.t false .z (.t false .z (.t false .z (.t false (.t true .z .z) .z)))))))) rfl Tryz.func111 rfl (by kernel_rfl) ?_
 refine gO ?_
 refine bnd h (fun y1 hy1 h=>?_)
 refine Or.inr (AX (oC [0,1] (Tm _ _ _ _ _ _ _ _ hy1)) ?_)
 refine bR h ?_ ?_
 ·intro _ h
  exact Oc (pI [0,1]) h
 ·intro _ h
  refine gO ?_
  refine bnd h (fun y2 hy2 h=>?_)
  refine Or.inr (AX (oC [0,1] (U6 _ _ _ _ _ _ _ _ _ _ hy2)) ?_)
  refine gD1 h fun h=>?_
  refine gD1 h fun h=>?_
  refine cB (fun s3:Bool=>BS 98 [(0,(.mp 0 0 0)),(65,(.bool s3))] [some ⟨7,140,(.vals [(.agg [(.int .i64 y2.1),(.bool y2.2.1),(.str y2.2.2.1),(.int .i64 y2.2.2.2.1),(.int .i64 (IntKind.wrap .i64 (y2.2.2.2.2.1+(IntKind.wrap .i64 (Int.tdiv (IntKind.wrap .i64 (y2.2.2.2.2.2+y1.2.2.2.2.2.2.1)) (IntKind.wrap .i64 (((Ht.length:Nat):Int)+(1:Int)))))))),(.int .i64 (Int.tmod (IntKind.wrap .i64 (y2.2.2.2.2.2+y1.2.2.2.2.2.2.1)) (IntKind.wrap .i64 (((Ht.length:Nat):Int)+(1:Int))))),(.ms 1 Ht.length)])]),false,false⟩,some ⟨1,21,(.ints .i32 Ht),false,true⟩]) h ?_ ?_
  ·intro Kn8 qQ x8 h8 h
   refine bR h8 ?_ ?_
   ·intro _ h8
    exact Cg (pI [0,1]) qQ h h8
   ·intro _ h8
    refine cL h8 (Jm _) ?_
    intro y7 h8
    exact Cg (pI [0,1]) qQ h h8
  ·clear h
   intro s3 hc9
   refine bR hc9 ?_ ?_
   ·intro _ hc9
    refine cL hc9 (Jf _ _) ?_
    intro y5 hc9
    exact Oc (pI [0,1]) hc9
   ·intro _ hc9
    refine gO ?_
    refine bnd hc9 (fun y6 hy6 hc9=>?_)
    refine Or.inr (AX (oC [1] (fO _ _ _ _ hy6)) ?_)
    exact Oc (pI [0,2]) hc9
theorem oD (BA) (r) (h:Im BA=some r):Contract pl 59 [(AV.str BA)] [] (AV.GU [(Az r.1),(AV.err r.2)]) []:=by
 refine Af (.t false .z (.t false .z (.t true .z (.t false .z (.t true .z (.t true .z .z)))))) Tryz.func59 rfl (by kernel_rfl) ?_
 refine bR h ?_ ?_
 ·intro _ h
  refine cL h (Jf _ _) ?_
  intro y1 h
  exact BP h
 ·intro _ h
  refine gO ?_
  refine bnd h (fun x25 h25 h=>?_)
  refine DT (fun s2:Unit=>BS 62 [(0,(.str BA))] []) (fun s2:Unit=>Ns BA s2=some r) ?_ ?_
  ·intro Aje yM
   refine gO ?_
   refine AO (fun s18:Int=>BS 62 [(0,(.str BA)),(4,(.int .i64 s18))] []) h25 (wG []) ?_
   intro k20 s18 AqD AeD gF aN Aj4
   refine bR aN ?_ ?_
   ·intro _ aN
    refine GH aN fun aN=>?_
    refine bR aN ?_ ?_
    ·intro _ aN
     refine cL aN (Jf _ _) ?_
     intro y21 aN
     have e:=Option.some.inj aN;subst e
     have e:=Ao Aj4;subst e
     exact BP h
    ·intro _ aN
     exact Cg (pI []) gF Aj4 aN
   ·intro _ aN
    have e:=Option.some.inj aN;subst e
    have e:=Ao Aj4;subst e
    refine gO ?_
    exact yM _ () h (wG [])
  ·clear h h25
   intro s2 Sb
   refine cB (fun s4:Int×(List Int)=>BS 62 [(0,(.str BA)),(5,(.mp 0 0 0))] [some ⟨7,140,(.vals [(.agg [(.int .i64 (72:Int)),(.bool false),(.str BA),(.int .i64 s4.1),(.int .i64 (128:Int)),(.int .i64 (0:Int)),(.ms 1 s4.2.length)])]),false,false⟩,some ⟨1,21,(.ints .i32 s4.2),false,true⟩]) Sb ?_ ?_
   ·intro AmC AfU x27 h27 Sb
    refine cL h27 (UA _ _) ?_
    intro y16 h27
    refine bR h27 ?_ ?_
    ·intro _ h27
     have Apg:=gOf h27
     refine gD3 h27 fun h27=>?_
     refine gO ?_
     obtain⟨p28,h27⟩:=Jq h27
     refine And.intro p28 ?_
     exact Cg (pI [0,1]) AfU Sb h27
    ·intro _ h27
     have e:=Option.some.inj h27;subst e
     refine gO ?_
     exact AfU _ ((0:Int),[]) Sb (JK (Xp 0 0 6 _ [(.agg [(.int .i64 (72:Int)),(.bool false),(.str BA),(.int .i64 (0:Int)),(.int .i64 (128:Int)),(.int .i64 (0:Int)),(.sl (some true) 0 fun _=>.unk)])] [(.int .i64 (72:Int)),(.bool false),(.str BA),(.int .i64 (0:Int)),(.int .i64 (128:Int)),(.int .i64 (0:Int)),(.sl (some true) 0 fun _=>.unk)] 1 21 (.ints .i32 []) _ rfl rfl rfl rfl rfl trivial (by first|exact Nat.zero_le _|simp)) (wG [0,1]))
   ·clear Sb
    intro s4 hc29
    refine gO ?_
    refine bnd hc29 (fun x30 h30 hc29=>?_)
    refine DT (fun s6:Int×Bool×ByteArray×Int×Int×Int×(List Int)=>BS 62 [(5,(.mp 0 0 0))] [some ⟨7,140,(.vals [(.agg [(.int .i64 s6.1),(.bool s6.2.1),(.str s6.2.2.1),(.int .i64 s6.2.2.2.1),(.int .i64 s6.2.2.2.2.1),(.int .i64 s6.2.2.2.2.2.1),(.ms 1 s6.2.2.2.2.2.2.length)])]),false,false⟩,some ⟨1,21,(.ints .i32 s6.2.2.2.2.2.2),false,true⟩]) (fun s6:Int×Bool×ByteArray×Int×Int×Int×(List Int)=>some (s6.2.2.2.2.2.2,Er.nil)=some r) ?_ ?_
    ·intro AkS AdB
     refine gO ?_
     refine AO (fun s9:Int×Bool×ByteArray×Int×Int×Int×(List Int)=>BS 62 [(0,(.str BA)),(5,(.mp 0 0 0))] [some ⟨7,140,(.vals [(.agg [(.int .i64 s9.1),(.bool s9.2.1),(.str s9.2.2.1),(.int .i64 s9.2.2.2.1),(.int .i64 s9.2.2.2.2.1),(.int .i64 s9.2.2.2.2.2.1),(.ms 1 s9.2.2.2.2.2.2.length)])]),false,false⟩,some ⟨1,21,(.ints .i32 s9.2.2.2.2.2.2),false,true⟩]) h30 (wG [0,1]) ?_
     intro k11 s9 An1 U0 KX PI yP
     refine bR PI ?_ ?_
     ·intro _ PI
      refine gO ?_
      refine bnd PI (fun P5 Af3 PI=>?_)
      refine Or.inr (AX (oC [0,1] (Uy _ _ _ _ _ _ _ _ Af3)) ?_)
      refine bR PI ?_ ?_
      ·intro _ PI
       have e:=Option.some.inj PI;subst e
       have e:=Ao yP;subst e
       exact BP hc29
      ·intro _ PI
       exact Cg (pI [0,2]) KX yP PI
     ·intro _ PI
      have e:=Option.some.inj PI;subst e
      have e:=Ao yP;subst e
      refine gO ?_
      exact AdB _ (s9.1,s9.2.1,s9.2.2.1,s9.2.2.2.1,s9.2.2.2.2.1,s9.2.2.2.2.2.1,s9.2.2.2.2.2.2) hc29 (wG [0,1])
    ·clear hc29 h30
     intro s6 hc31
     exact BP hc31
theorem iY (p_r) (r) (h:SG p_r=some r):Contract pl 83 [(AV.int .i32 p_r)] [] (AV.bool r) []:=by
 refine Af .z Tryz.func83 rfl (by kernel_rfl) ?_
 refine cL h (Kv _) ?_
 intro y1 h
 exact BP h
theorem LQ (BA) (r) (h:Fj BA=some r):Contract pl 101 [(Az BA),(AV.fn (.func 83) [] [])] [] (AV.int .i64 r) []:=by
 refine Af (.t false .z (.t true .z .z)) Tryz.func101 rfl (by kernel_rfl) ?_
 refine gO ?_
 refine bnd h (fun x11 h11 h=>?_)
 refine DT (fun s1:Unit=>BS 19 [] []) (fun s1:Unit=>some (-1:Int)=some r) ?_ ?_
 ·intro U0 KX
  refine gO ?_
  refine AO (fun s4:Int=>BS 19 [(0,(Az BA)),(1,(.fn (.func 83) [] [])),(7,(.int .i64 ((BA.length:Nat):Int))),(8,(.int .i64 s4))] []) h11 (wG []) ?_
  intro k6 s4 eU eZ QU Ce hs6
  refine bR Ce ?_ ?_
  ·intro _ Ce
   refine GH Ce fun Ce=>?_
   refine cL Ce (iY _) ?_
   intro y7 Ce
   refine bR Ce ?_ ?_
   ·intro _ Ce
    have e:=Option.some.inj Ce;subst e
    have e:=Ao hs6;subst e
    exact BP h
   ·intro _ Ce
    exact Cg (pI []) QU hs6 Ce
  ·intro _ Ce
   have e:=Option.some.inj Ce;subst e
   have e:=Ao hs6;subst e
   refine gO ?_
   exact KX _ () h (wG [])
 ·clear h h11
  intro s1 Gq
  exact BP Gq
theorem KT (BA) (r) (h:Df BA=some r):Contract pl 82 [(Az BA),(AV.fn (.func 83) [] [])] [] (AV.bool r) []:=by
 refine Af .z Tryz.func82 rfl (by kernel_rfl) ?_
 refine cL h (LQ _) ?_
 intro y1 h
 exact BP h
theorem Ke (CV Ci Fp CO Fv Fw EP) (r) (h:Ej CV Ci Fp CO Fv Fw EP=some r):Bc 2 pl 186 [(.mp 0 0 2)] [some ⟨7,171,(.vals [(.agg [(.int .i64 CV),(.bool Ci),(.PN 0 0 2 Fp),(.ms 1 CO.length),(.int .i32 Fv),(.int .i64 Fw),(.int .i64 EP)])]),false,false⟩,some ⟨1,5,(.ints .u8 CO),false,true⟩] (.GU []) [some ⟨7,171,(.vals [(.agg [(.int .i64 r.1),(.bool r.2.1),(.PN 0 0 2 r.2.2.1),(.ms 1 CO.length),(.int .i32 r.2.2.2.1),(.int .i64 r.2.2.2.2.1),(.int .i64 r.2.2.2.2.2)])]),false,false⟩,some ⟨1,5,(.ints .u8 CO),false,true⟩]:=by
 refine A8 2 .z rfl Tryz.func186 rfl (by kernel_rfl) ?_
 refine bR h ?_ ?_
 ·intro _ h
  refine gO ?_
  refine And.intro Yc ?_
  refine gO ?_
  refine And.intro (Agj (by kernel_rfl)) ?_
  exact Oc (pI [0,1]) h
 ·intro _ h
  exact Oc (pI [0,1]) h
theorem Kc (CV Ci Fp CO Fv Fw EP Zp) (r) (h:Ei CV Ci Fp CO Fv Fw EP Zp=some r):Bc 1 pl 137 [(.mp 0 0 2),(.int .u8 Zp)] [some ⟨7,171,(.vals [(.agg [(.int .i64 CV),(.bool Ci),(.PN 0 0 2 Fp),(.ms 1 CO.length),(.int .i32 Fv),(.int .i64 Fw),(.int .i64 EP)])]),false,false⟩,some ⟨1,5,(.ints .u8 CO),false,true⟩] (.err r.2.2.2.2.2.2.2) [some ⟨7,171,(.vals [(.agg [(.int .i64 r.1),(.bool r.2.1),(.PN 0 0 2 r.2.2.1),(.ms 1 r.2.2.2.1.length),(.int .i32 r.2.2.2.2.1),(.int .i64 r.2.2.2.2.2.1),(.int .i64 r.2.2.2.2.2.2.1)])]),false,false⟩,some ⟨1,5,(.ints .u8 r.2.2.2.1),false,true⟩]:=by
 refine A8 1 .z rfl Tryz.func137 rfl (by kernel_rfl) ?_
 refine gO ?_
 refine bnd h (fun y1 hy1 h=>?_)
 refine AX (oC [0,1] (Ke _ _ _ _ _ _ _ _ hy1)) ?_
 refine gO ?_
 obtain⟨p2,h⟩:=Jq h
 refine⟨[],1,(.ints .u8 [Zp]),⟨by simp[Row.len]<;>omega,rfl,_,rfl,by simp[Row.len]<;>omega,fun j hj=>.inl rfl⟩,trivial,fun j hj=>rfl,?_⟩
 conv=>whnf
 refine⟨by simp[Row.len];try omega,p2,by omega,?_⟩
 exact Oc (pI [0,3]) h
theorem YL (KA) (r) (h:Pt KA=some r):Contract pl 227 [(AV.int .u64 KA)] [] (AV.int .i64 r) []:=by
 refine Af (.t false .z (.t true .z (.t true .z .z))) Tryz.func227 rfl (by kernel_rfl) ?_
 refine cB (fun s1:Int×Int=>BS 25 [(0,(.int .u64 s1.1)),(2,(.int .i64 s1.2))] []) h ?_ ?_
 ·intro Kn5 hn5 x5 h5 h
  refine bR h5 ?_ ?_
  ·intro _ h5
   refine gO ?_
   refine And.intro (by decide) ?_
   exact Cg (pI []) hn5 h h5
  ·intro _ h5
   exact Cg (pI []) hn5 h h5
 ·clear h
  intro s1 hc6
  refine cB (fun s3:Int×Int=>BS 25 [(0,(.int .u64 s3.1)),(2,(.int .i64 s3.2))] []) hc6 ?_ ?_
  ·intro Kn7 Y5 x7 h7 hc6
   refine bR h7 ?_ ?_
   ·intro _ h7
    refine gO ?_
    refine And.intro (by decide) ?_
    exact Cg (pI []) Y5 hc6 h7
   ·intro _ h7
    exact Cg (pI []) Y5 hc6 h7
  ·clear hc6
   intro s3 hc8
   refine bR hc8 ?_ ?_
   ·intro _ hc8
    refine gO ?_
    refine And.intro (by decide) ?_
    exact BP hc8
   ·intro _ hc8
    exact BP hc8
theorem VD (KA) (r) (h:L6 KA=some r):Contract pl 188 [(AV.int .u64 KA)] [] (AV.int .i64 r) []:=by
 refine Af .z Tryz.func188 rfl (by kernel_rfl) ?_
 refine cL h (YL _) ?_
 intro y1 h
 exact BP h
theorem MJ (Ae AL Bq) (r) (h:D7 Ae AL Bq=some r):Bc 1 pl 217 [(.ms 0 Ae.length),(.int .i64 AL),(.int .i64 Bq)] [some ⟨1,21,(.ints .i32 Ae),false,true⟩] (.GU []) [some ⟨1,21,(.ints .i32 r),false,true⟩]:=by
 refine A8 1 (.t false .z (.t false (.t false (.t false .z (.t true (.t false (.t false .z (.t false (.t false (.t false (.t true .z .z) .z) .z) .z)) .z) .z)) .z) .z)) rfl Tryz.func217 rfl (by kernel_rfl) ?_
 refine lB (fun s2:(List Int)×Int=>BS 49 [(0,(.ms 0 s2.1.length)),(1,(.int .i64 AL)),(2,(.int .i64 Bq)),(6,(.int .i64 s2.2))] [some ⟨1,21,(.ints .i32 s2.1),false,true⟩]) h ?_ ?_
 ·exact wG [0]
 intro x4 h k4 s2 st4 Kn4 aS h4 hs4
 refine bR h4 ?_ ?_
 ·intro _ h4
  refine cB (fun s5:(List Int)=>BS 49 [(0,(.ms 0 s5.length)),(1,(.int .i64 AL)),(2,(.int .i64 Bq)),(6,(.int .i64 s2.2))] [some ⟨1,21,(.ints .i32 s5),false,true⟩]) h4 ?_ ?_
  ·intro Ahf hn16 x16 h16 h4
   refine gO ?_
   refine AO (fun s8:(List Int)×Int=>BS 49 [(0,(.ms 0 s8.1.length)),(1,(.int .i64 AL)),(2,(.int .i64 Bq)),(6,(.int .i64 s2.2)),(7,(.int .i64 s8.2))] [some ⟨1,21,(.ints .i32 s8.1),false,true⟩]) h16 (wG [0]) ?_
   intro k10 s8 AgV ZW PK LW VZ
   refine cB (fun s11:Bool=>BS 49 [(0,(.ms 0 s8.1.length)),(1,(.int .i64 AL)),(2,(.int .i64 Bq)),(6,(.int .i64 s2.2)),(7,(.int .i64 s8.2)),(30,(.bool s11))] [some ⟨1,21,(.ints .i32 s8.1),false,true⟩]) LW ?_ ?_
   ·intro AmA AfT x17 jR LW
    refine bR jR ?_ ?_
    ·intro _ jR
     refine GH jR fun jR=>?_
     refine GH jR fun jR=>?_
     refine cL jR (Dk _ _) ?_
     intro y13 jR
     exact Cg (pI [0]) AfT LW jR
    ·intro _ jR
     exact Cg (pI [0]) AfT LW jR
   ·clear LW
    intro s11 hc18
    refine bR hc18 ?_ ?_
    ·intro _ hc18
     exact Cg (pI [0]) PK VZ hc18
    ·intro _ hc18
     have e:=Option.some.inj hc18;subst e
     have e:=Ao VZ;subst e
     refine gO ?_
     exact hn16 _ s8.1 h4 (wG [0])
  ·clear h4
   intro s5 hc19
   exact Cg (pI [0]) aS hs4 hc19
 ·intro _ h4
  have e:=Option.some.inj h4;subst e
  have e:=Ao hs4;subst e
  exact Oc (pI [0]) h
theorem JU (Ae Aio oZ Di) (r) (h:CX Ae Aio oZ Di=some r):Bc 1 pl 239 [(.ms 0 Ae.length),(.int .i64 Aio),(.int .i64 oZ),(.int .i64 Di)] [some ⟨1,21,(.ints .i32 Ae),false,true⟩] (.GU []) [some ⟨1,21,(.ints .i32 r),false,true⟩]:=by
 refine A8 1 (.t false .z (.t false (.t false (.t false (.t false .z (.t false .z (.t true (.t true .z .z) .z))) .z) .z) .z)) rfl Tryz.func239 rfl (by kernel_rfl) ?_
 refine lB (fun s2:(List Int)×Int=>BS 76 [(0,(.ms 0 s2.1.length)),(2,(.int .i64 oZ)),(3,(.int .i64 Di)),(8,(.int .i64 s2.2))] [some ⟨1,21,(.ints .i32 s2.1),false,true⟩]) h ?_ ?_
 ·exact wG [0]
 intro x4 h k4 s2 st4 Kn4 aS h4 hs4
 refine bR h4 ?_ ?_
 ·intro _ h4
  have e:=Option.some.inj h4;subst e
  have e:=Ao hs4;subst e
  exact Oc (pI [0]) h
 ·intro _ h4
  refine cB (fun s5:Int=>BS 76 [(0,(.ms 0 s2.1.length)),(2,(.int .i64 oZ)),(3,(.int .i64 Di)),(8,(.int .i64 s2.2)),(9,(.int .i64 s5))] [some ⟨1,21,(.ints .i32 s2.1),false,true⟩]) h4 ?_ ?_
  ·intro Ajd yL x13 h13 h4
   refine cB (fun s8:Bool=>BS 76 [(0,(.ms 0 s2.1.length)),(2,(.int .i64 oZ)),(3,(.int .i64 Di)),(8,(.int .i64 s2.2)),(9,(.int .i64 (IntKind.wrap .i64 ((IntKind.wrap .i64 ((2:Int)*s2.2))+(1:Int))))),(36,(.bool s8))] [some ⟨1,21,(.ints .i32 s2.1),false,true⟩]) h13 ?_ ?_
   ·intro iE RG x14 VH h13
    refine bR VH ?_ ?_
    ·intro _ VH
     refine GH VH fun VH=>?_
     refine GH VH fun VH=>?_
     refine cL VH (Dk _ _) ?_
     intro Rf VH
     exact Cg (pI [0]) RG h13 VH
    ·intro _ VH
     exact Cg (pI [0]) RG h13 VH
   ·clear h13
    intro s8 Nf
    unfold Dr at Nf
    exact Cg (pI [0]) yL h4 Nf
  ·clear h4
   intro s5 hc16
   refine GH hc16 fun hc16=>?_
   refine GH hc16 fun hc16=>?_
   refine cL hc16 (Dk _ _) ?_
   intro y7 hc16
   refine bR hc16 ?_ ?_
   ·intro _ hc16
    have e:=Option.some.inj hc16;subst e
    have e:=Ao hs4;subst e
    exact Oc (pI [0]) h
   ·intro _ hc16
    exact Cg (pI [0]) aS hs4 hc16
theorem OG (Ae AL Bq) (r) (h:Fq Ae AL Bq=some r):Bc 1 pl 218 [(.ms 0 Ae.length),(.int .i64 AL),(.int .i64 Bq)] [some ⟨1,21,(.ints .i32 Ae),false,true⟩] (.GU []) [some ⟨1,21,(.ints .i32 r),false,true⟩]:=by
 refine A8 1 (.t false .z (.t false .z (.t false .z (.t true .z .z)))) rfl Tryz.func218 rfl (by kernel_rfl) ?_
 refine cB (fun s1:(List Int)=>BS 56 [(0,(.ms 0 s1.length)),(6,(.int .i64 AL)),(7,(.int .i64 (0:Int))),(8,(.int .i64 (IntKind.wrap .i64 (Bq-AL))))] [some ⟨1,21,(.ints .i32 s1),false,true⟩]) h ?_ ?_
 ·intro Ahe gD x15 ZU h
  refine gO ?_
  refine And.intro (by decide) ?_
  refine gO ?_
  refine AO (fun s10:(List Int)×Int=>BS 56 [(0,(.ms 0 s10.1.length)),(6,(.int .i64 AL)),(7,(.int .i64 (0:Int))),(8,(.int .i64 (IntKind.wrap .i64 (Bq-AL)))),(9,(.int .i64 s10.2))] [some ⟨1,21,(.ints .i32 s10.1),false,true⟩]) ZU (wG [0]) ?_
  intro k12 s10 An2 AaC Ws Un Abn
  refine bR Un ?_ ?_
  ·intro _ Un
   refine gO ?_
   refine bnd Un (fun y13 Af4 Un=>?_)
   refine Or.inr (AX (oC [0] (JU _ _ _ _ _ Af4)) ?_)
   refine gO ?_
   obtain⟨p16,Un⟩:=Jq Un
   exact Cg (pI [0]) Ws Abn Un
  ·intro _ Un
   have e:=Option.some.inj Un;subst e
   have e:=Ao Abn;subst e
   refine gO ?_
   exact gD _ s10.1 h (wG [0])
 ·clear h
  intro s1 hc17
  refine lB (fun s4:(List Int)×Int=>BS 56 [(0,(.ms 0 s4.1.length)),(6,(.int .i64 AL)),(7,(.int .i64 (0:Int))),(10,(.int .i64 s4.2))] [some ⟨1,21,(.ints .i32 s4.1),false,true⟩]) hc17 ?_ ?_
  ·exact wG [0]
  intro x6 hc17 k6 s4 eU eZ QU h6 hs6
  refine bR h6 ?_ ?_
  ·intro _ h6
   refine GH h6 fun h6=>?_
   refine GH h6 fun h6=>?_
   refine GH h6 fun h6=>?_
   refine GH h6 fun h6=>?_
   refine gO ?_
   refine bnd h6 (fun y7 hy7 h6=>?_)
   refine Or.inr (AX (oC [0] (JU _ _ _ _ _ hy7)) ?_)
   refine gO ?_
   obtain⟨p18,h6⟩:=Jq h6
   exact Cg (pI [0]) QU hs6 h6
  ·intro _ h6
   have e:=Option.some.inj h6;subst e
   have e:=Ao hs6;subst e
   exact Oc (pI [0]) hc17
theorem Hz (Ae AL Bq LK) (r) (h:CG Ae AL Bq LK=some r):Bc 1 pl 251 [(Az Ae),(.int .i64 AL),(.int .i64 Bq),(.mp 0 0 0)] [some ⟨1,3,(.vals [(.int .i64 LK)]),false,false⟩] (.GU [(.int .i64 r.2.1),(.int .i64 r.2.2)]) [some ⟨1,3,(.vals [(.int .i64 r.1)]),false,false⟩]:=by
 refine A8 1 .z rfl Tryz.func251 rfl (by kernel_rfl) ?_
 refine GH h fun h=>?_
 refine GH h fun h=>?_
 refine cL h (Dk _ _) ?_
 intro y1 h
 exact Oc (pI [0]) h
theorem Hy (Ae AL Bq Zp LK) (r) (h:Dt Ae AL Bq Zp LK=some r):Bc 1 pl 243 [(Az Ae),(.int .i64 AL),(.int .i64 Bq),(.int .i64 Zp),(.mp 0 0 0)] [some ⟨1,3,(.vals [(.int .i64 LK)]),false,false⟩] (.int .i64 r.2) [some ⟨1,3,(.vals [(.int .i64 r.1)]),false,false⟩]:=by
 refine A8 1 .z rfl Tryz.func243 rfl (by kernel_rfl) ?_
 refine gO ?_
 refine bnd h (fun y1 hy1 h=>?_)
 refine Or.inr (AX (oC [0] (Hz _ _ _ _ _ hy1)) ?_)
 refine gO ?_
 refine bnd h (fun y2 hy2 h=>?_)
 refine Or.inr (AX (oC [0] (Hz _ _ _ _ _ hy2)) ?_)
 refine gO ?_
 refine bnd h (fun y3 hy3 h=>?_)
 refine Or.inr (AX (oC [0] (Hz _ _ _ _ _ hy3)) ?_)
 exact Oc (pI [0]) h
theorem FE (Ae AL LK) (r) (h:BZ Ae AL LK=some r):Bc 1 pl 242 [(Az Ae),(.int .i64 AL),(.mp 0 0 0)] [some ⟨1,3,(.vals [(.int .i64 LK)]),false,false⟩] (.int .i64 r.2) [some ⟨1,3,(.vals [(.int .i64 r.1)]),false,false⟩]:=by
 refine A8 1 .z rfl Tryz.func242 rfl (by kernel_rfl) ?_
 refine gO ?_
 refine bnd h (fun y1 hy1 h=>?_)
 refine Or.inr (AX (oC [0] (Hy _ _ _ _ _ _ hy1)) ?_)
 exact Oc (pI [0]) h
theorem OV (Ae AL Bq) (r) (h:FC Ae AL Bq=some r):Contract pl 220 [(Az Ae),(AV.int .i64 AL),(AV.int .i64 Bq)] [] (AV.GU [(AV.int .i64 r.1),(AV.int .i64 r.2)]) []:=by
 refine Af (.t false .z (.t false .z (.t false .z (.t false .z (.t false .z (.t false .z (.t true .z .z))))))) Tryz.func220 rfl (by kernel_rfl) ?_
 refine gO ?_
 refine And.intro (by decide) ?_
 refine gO ?_
 refine And.intro (by decide) ?_
 refine gO ?_
 refine And.intro (by decide) ?_
 refine cB (fun s1:Int×Int=>BS 57 [(9,(.mp 0 0 0)),(11,(.int .i64 s1.2))] [some ⟨1,3,(.vals [(.int .i64 s1.1)]),false,false⟩]) h ?_ ?_
 ·intro Kn8 qQ x8 h8 h
  refine bR h8 ?_ ?_
  ·intro _ h8
   refine bR h8 ?_ ?_
   ·intro _ h8
    refine gO ?_
    refine bnd h8 (fun y3 hy3 h8=>?_)
    refine Or.inr (AX (oC [0] (FE _ _ _ _ hy3)) ?_)
    refine gO ?_
    refine bnd h8 (fun y4 hy4 h8=>?_)
    refine Or.inr (AX (oC [0] (FE _ _ _ _ hy4)) ?_)
    refine gO ?_
    refine bnd h8 (fun y5 hy5 h8=>?_)
    refine Or.inr (AX (oC [0] (FE _ _ _ _ hy5)) ?_)
    refine gO ?_
    refine bnd h8 (fun y6 hy6 h8=>?_)
    refine Or.inr (AX (oC [0] (Hy _ _ _ _ _ _ hy6)) ?_)
    exact Cg (pI [0]) qQ h h8
   ·intro _ h8
    refine gO ?_
    refine bnd h8 (fun y7 hy7 h8=>?_)
    refine Or.inr (AX (oC [0] (Hy _ _ _ _ _ _ hy7)) ?_)
    exact Cg (pI [0]) qQ h h8
  ·intro _ h8
   exact Cg (pI [0]) qQ h h8
 ·clear h
  intro s1 hc9
  unfold EO at hc9
  exact BP hc9
theorem M9 (Ae AL Bq) (r) (h:Ep Ae AL Bq=some r):Bc 1 pl 221 [(.ms 0 Ae.length),(.int .i64 AL),(.int .i64 Bq)] [some ⟨1,21,(.ints .i32 Ae),false,true⟩] (.GU []) [some ⟨1,21,(.ints .i32 r),false,true⟩]:=by
 refine A8 1 .z rfl Tryz.func221 rfl (by kernel_rfl) ?_
 refine lB (fun s2:(List Int)×Int×Int=>BS 32 [(0,(.ms 0 s2.1.length)),(6,(.int .i64 s2.2.1)),(7,(.int .i64 s2.2.2))] [some ⟨1,21,(.ints .i32 s2.1),false,true⟩]) h ?_ ?_
 ·exact wG [0]
 intro x4 h k4 s2 st4 Kn4 aS h4 hs4
 refine bR h4 ?_ ?_
 ·intro _ h4
  exact Cg (pI [0]) aS hs4 h4
 ·intro _ h4
  have e:=Option.some.inj h4;subst e
  have e:=Ao hs4;subst e
  exact Oc (pI [0]) h
theorem KE (Ae AL Bq) (r) (h:Da Ae AL Bq=some r):Bc 1 pl 222 [(.ms 0 Ae.length),(.int .i64 AL),(.int .i64 Bq)] [some ⟨1,21,(.ints .i32 Ae),false,true⟩] (.bool r.2) [some ⟨1,21,(.ints .i32 r.1),false,true⟩]:=by
 refine A8 1 (.t false .z (.t false .z (.t true (.t false .z (.t false (.t false (.t false .z (.t true (.t false (.t true (.t false (.t false (.t false (.t true .z .z) .z) .z) .z) (.t false .z (.t false .z (.t false .z (.t true .z .z))))) .z) .z)) .z) .z)) .z))) rfl Tryz.func222 rfl (by kernel_rfl) ?_
 refine gO ?_
 refine bnd h (fun x37 h37 h=>?_)
 refine DT (fun s1:(List Int)=>BS 133 [] [some ⟨1,21,(.ints .i32 s1),false,true⟩]) (fun s1:(List Int)=>some (s1,false)=some r) ?_ ?_
 ·intro AkU AdC
  refine gO ?_
  refine AO (fun s4:(List Int)×Int×Int=>BS 133 [(0,(.ms 0 s4.1.length)),(1,(.int .i64 AL)),(2,(.int .i64 Bq)),(7,(.int .i64 s4.2.1)),(8,(.int .i64 s4.2.2))] [some ⟨1,21,(.ints .i32 s4.1),false,true⟩]) h37 (wG [0]) ?_
  intro k6 s4 eU eZ QU Ce hs6
  refine bR Ce ?_ ?_
  ·intro _ Ce
   refine gO ?_
   refine bnd Ce (fun x38 h38 Ce=>?_)
   refine DT (fun s7:(List Int)×Int=>BS 133 [(0,(.ms 0 s7.1.length)),(1,(.int .i64 AL)),(2,(.int .i64 Bq)),(7,(.int .i64 s7.2)),(8,(.int .i64 s4.2.2))] [some ⟨1,21,(.ints .i32 s7.1),false,true⟩]) (fun s7:(List Int)×Int=>some (.next (s7.1,s7.2,(IntKind.wrap .i64 (s4.2.2+(1:Int)))))=some eU) ?_ ?_
   ·intro Ajf uS
    refine cB (fun s9:Int=>BS 133 [(0,(.ms 0 s4.1.length)),(1,(.int .i64 AL)),(2,(.int .i64 Bq)),(7,(.int .i64 s9)),(8,(.int .i64 s4.2.2))] [some ⟨1,21,(.ints .i32 s4.1),false,true⟩]) h38 ?_ ?_
    ·intro AmH AjV x39 h39 h38
     refine gO ?_
     refine AO (fun s26:Int=>BS 133 [(0,(.ms 0 s4.1.length)),(1,(.int .i64 AL)),(2,(.int .i64 Bq)),(7,(.int .i64 s26)),(8,(.int .i64 s4.2.2))] [some ⟨1,21,(.ints .i32 s4.1),false,true⟩]) h39 (wG [0]) ?_
     intro k28 s26 AqG AeE jZ AfE AlD
     refine cB (fun s29:Bool=>BS 133 [(0,(.ms 0 s4.1.length)),(1,(.int .i64 AL)),(2,(.int .i64 Bq)),(7,(.int .i64 s26)),(8,(.int .i64 s4.2.2)),(32,(.bool s29))] [some ⟨1,21,(.ints .i32 s4.1),false,true⟩]) AfE ?_ ?_
     ·intro AoN Als x40 h40 AfE
      refine bR h40 ?_ ?_
      ·intro _ h40
       refine GH h40 fun h40=>?_
       refine GH h40 fun h40=>?_
       refine cL h40 (Dk _ _) ?_
       intro y31 h40
       exact Cg (pI [0]) Als AfE h40
      ·intro _ h40
       exact Cg (pI [0]) Als AfE h40
     ·clear AfE
      intro s29 Wq
      refine bR Wq ?_ ?_
      ·intro _ Wq
       exact Cg (pI [0]) jZ AlD Wq
      ·intro _ Wq
       have e:=Option.some.inj Wq;subst e
       have e:=Ao AlD;subst e
       refine gO ?_
       exact AjV _ s26 h38 (wG [0])
    ·clear h38
     intro s9 Tq
     refine bR Tq ?_ ?_
     ·intro _ Tq
      have e:=Option.some.inj Tq;subst e
      have e:=Option.some.inj Ce;subst e
      have e:=Ao hs6;subst e
      exact Oc (pI [0]) h
     ·intro _ Tq
      refine bR Tq ?_ ?_
      ·intro _ Tq
       have e:=Option.some.inj Tq;subst e
       have e:=Option.some.inj Ce;subst e
       have e:=Ao hs6;subst e
       exact Oc (pI [0]) h
      ·intro _ Tq
       refine GH Tq fun Tq=>?_
       refine GH Tq fun Tq=>?_
       refine GH Tq fun Tq=>?_
       refine GH Tq fun Tq=>?_
       refine cB (fun s11:(List Int)=>BS 133 [(0,(.ms 0 s11.length)),(1,(.int .i64 AL)),(2,(.int .i64 Bq)),(7,(.int .i64 s9)),(8,(.int .i64 s4.2.2))] [some ⟨1,21,(.ints .i32 s11),false,true⟩]) Tq ?_ ?_
       ·intro AmJ hn43 x43 h43 Tq
        refine bR h43 ?_ ?_
        ·intro _ h43
         refine lB (fun s20:(List Int)×Int=>BS 133 [(0,(.ms 0 s20.1.length)),(1,(.int .i64 AL)),(2,(.int .i64 Bq)),(7,(.int .i64 s9)),(8,(.int .i64 s4.2.2)),(9,(.int .i64 s20.2))] [some ⟨1,21,(.ints .i32 s20.1),false,true⟩]) h43 ?_ ?_
         ·exact wG [0]
         intro x22 h43 k22 s20 An3 AcT XH h22 AdF
         refine bR h22 ?_ ?_
         ·intro _ h22
          refine GH h22 fun h22=>?_
          refine GH h22 fun h22=>?_
          refine cL h22 (Dk _ _) ?_
          intro y23 h22
          refine bR h22 ?_ ?_
          ·intro _ h22
           have e:=Option.some.inj h22;subst e
           have e:=Ao AdF;subst e
           exact Cg (pI [0]) hn43 Tq h43
          ·intro _ h22
           exact Cg (pI [0]) XH AdF h22
         ·intro _ h22
          have e:=Option.some.inj h22;subst e
          have e:=Ao AdF;subst e
          exact Cg (pI [0]) hn43 Tq h43
        ·intro _ h43
         exact Cg (pI [0]) hn43 Tq h43
       ·clear Tq
        intro s11 yF
        refine bR yF ?_ ?_
        ·intro _ yF
         refine lB (fun VQ:(List Int)×Int=>BS 133 [(0,(.ms 0 VQ.1.length)),(1,(.int .i64 AL)),(2,(.int .i64 Bq)),(7,(.int .i64 s9)),(8,(.int .i64 s4.2.2)),(10,(.int .i64 VQ.2))] [some ⟨1,21,(.ints .i32 VQ.1),false,true⟩]) yF ?_ ?_
         ·exact wG [0]
         intro x16 yF k16 VQ AqB Ahf hn16 h16 Aj2
         refine bR h16 ?_ ?_
         ·intro _ h16
          refine GH h16 fun h16=>?_
          refine GH h16 fun h16=>?_
          refine cL h16 (Dk _ _) ?_
          intro nN h16
          refine bR h16 ?_ ?_
          ·intro _ h16
           have e:=Option.some.inj h16;subst e
           have e:=Ao Aj2;subst e
           exact Cg (pI [0]) uS Ce yF
          ·intro _ h16
           exact Cg (pI [0]) hn16 Aj2 h16
         ·intro _ h16
          have e:=Option.some.inj h16;subst e
          have e:=Ao Aj2;subst e
          exact Cg (pI [0]) uS Ce yF
        ·intro _ yF
         exact Cg (pI [0]) uS Ce yF
   ·clear Ce h38
    intro s7 Anj
    exact Cg (pI [0]) QU hs6 Anj
  ·intro _ Ce
   have e:=Option.some.inj Ce;subst e
   have e:=Ao hs6;subst e
   refine gO ?_
   exact AdC _ s4.1 h (wG [0])
 ·clear h h37
  intro s1 Ank
  exact Oc (pI [0]) Ank
theorem ME (Ae AL Bq AU) (r) (h:DR Ae AL Bq AU=some r):Bc 1 pl 224 [(.ms 0 Ae.length),(.int .i64 AL),(.int .i64 Bq),(.int .i64 AU)] [some ⟨1,21,(.ints .i32 Ae),false,true⟩] (.int .i64 r.2) [some ⟨1,21,(.ints .i32 r.1),false,true⟩]:=by
 refine A8 1 (.t false .z (.t false .z (.t false .z (.t true (.t false (.t false (.t false (.t true (.t false (.t false (.t false (.t true .z .z) .z) .z) .z) (.t true (.t false (.t false (.t false (.t true .z .z) .z) .z) .z) .z)) .z) .z) .z) .z)))) rfl Tryz.func224 rfl (by kernel_rfl) ?_
 refine GH h fun h=>?_
 refine GH h fun h=>?_
 refine GH h fun h=>?_
 refine GH h fun h=>?_
 refine cB (fun s1:(List Int)×Int=>BS 84 [(9,(.int .i64 s1.2))] [some ⟨1,21,(.ints .i32 s1.1),false,true⟩]) h ?_ ?_
 ·intro AeE jZ x28 h28 h
  refine gO ?_
  refine AO (fun s4:(List Int)×Int×Int=>BS 84 [(0,(.ms 0 s4.1.length)),(1,(.int .i64 AL)),(9,(.int .i64 s4.2.1)),(10,(.int .i64 s4.2.2))] [some ⟨1,21,(.ints .i32 s4.1),false,true⟩]) h28 (wG [0]) ?_
  intro k6 s4 eU eZ QU Ce hs6
  refine cB (fun s7:Int=>BS 84 [(0,(.ms 0 s4.1.length)),(1,(.int .i64 AL)),(9,(.int .i64 s7)),(10,(.int .i64 s4.2.2))] [some ⟨1,21,(.ints .i32 s4.1),false,true⟩]) Ce ?_ ?_
  ·intro AkR yN x29 aP Ce
   refine gO ?_
   refine AO (fun s20:Int=>BS 84 [(0,(.ms 0 s4.1.length)),(1,(.int .i64 AL)),(9,(.int .i64 s20)),(10,(.int .i64 s4.2.2))] [some ⟨1,21,(.ints .i32 s4.1),false,true⟩]) aP (wG [0]) ?_
   intro k22 s20 An3 AcT XH AfB AdF
   refine cB (fun Kr:Bool=>BS 84 [(0,(.ms 0 s4.1.length)),(1,(.int .i64 AL)),(9,(.int .i64 s20)),(10,(.int .i64 s4.2.2)),(43,(.bool Kr))] [some ⟨1,21,(.ints .i32 s4.1),false,true⟩]) AfB ?_ ?_
   ·intro AkS AdB x30 h30 AfB
    refine bR h30 ?_ ?_
    ·intro _ h30
     refine GH h30 fun h30=>?_
     refine GH h30 fun h30=>?_
     refine cL h30 (Dk _ _) ?_
     intro y25 h30
     exact Cg (pI [0]) AdB AfB h30
    ·intro _ h30
     exact Cg (pI [0]) AdB AfB h30
   ·clear AfB
    intro Kr hc31
    refine bR hc31 ?_ ?_
    ·intro _ hc31
     exact Cg (pI [0]) XH AdF hc31
    ·intro _ hc31
     have e:=Option.some.inj hc31;subst e
     have e:=Ao AdF;subst e
     refine gO ?_
     exact yN _ s20 Ce (wG [0])
  ·clear Ce
   intro s7 hc32
   refine cB (fun s9:Int=>BS 84 [(0,(.ms 0 s4.1.length)),(1,(.int .i64 AL)),(9,(.int .i64 s7)),(10,(.int .i64 s9))] [some ⟨1,21,(.ints .i32 s4.1),false,true⟩]) hc32 ?_ ?_
   ·intro AkT yO x33 Y3 hc32
    refine gO ?_
    refine AO (fun s12:Int=>BS 84 [(0,(.ms 0 s4.1.length)),(1,(.int .i64 AL)),(9,(.int .i64 s7)),(10,(.int .i64 s12))] [some ⟨1,21,(.ints .i32 s4.1),false,true⟩]) Y3 (wG [0]) ?_
    intro k14 s12 AiD iE RG Qc Yt
    refine cB (fun s15:Bool=>BS 84 [(0,(.ms 0 s4.1.length)),(1,(.int .i64 AL)),(9,(.int .i64 s7)),(10,(.int .i64 s12)),(59,(.bool s15))] [some ⟨1,21,(.ints .i32 s4.1),false,true⟩]) Qc ?_ ?_
    ·intro AmF AfV x34 oP Qc
     refine bR oP ?_ ?_
     ·intro _ oP
      refine GH oP fun oP=>?_
      refine GH oP fun oP=>?_
      refine cL oP (Dk _ _) ?_
      intro nN oP
      exact Cg (pI [0]) AfV Qc oP
     ·intro _ oP
      exact Cg (pI [0]) AfV Qc oP
    ·clear Qc
     intro s15 AfM
     refine bR AfM ?_ ?_
     ·intro _ AfM
      exact Cg (pI [0]) RG Yt AfM
     ·intro _ AfM
      have e:=Option.some.inj AfM;subst e
      have e:=Ao Yt;subst e
      refine gO ?_
      exact yO _ s12 hc32 (wG [0])
   ·clear hc32
    intro s9 UF
    refine bR UF ?_ ?_
    ·intro _ UF
     have e:=Option.some.inj UF;subst e
     have e:=Ao hs6;subst e
     refine gO ?_
     exact jZ _ (s4.1,s7) h (wG [0])
    ·intro _ UF
     exact Cg (pI [0]) QU hs6 UF
 ·clear h
  intro s1 Abe
  exact Oc (pI [0]) Abe
theorem Oh (Ae AL Bq AU) (r) (h:DI Ae AL Bq AU=some r):Bc 1 pl 225 [(.ms 0 Ae.length),(.int .i64 AL),(.int .i64 Bq),(.int .i64 AU)] [some ⟨1,21,(.ints .i32 Ae),false,true⟩] (.GU [(.int .i64 r.2.1),(.bool r.2.2)]) [some ⟨1,21,(.ints .i32 r.1),false,true⟩]:=by
 refine A8 1 (.t false .z (.t false .z (.t false .z (.t true (.t false (.t false (.t false (.t true .z .z) .z) .z) .z) (.t true (.t false (.t false (.t false (.t true .z .z) .z) .z) .z) (.t false .z (.t false .z (.t false .z (.t false .z (.t true (.t false (.t false (.t false (.t true (.t false (.t false (.t false (.t true .z .z) .z) .z) .z) (.t true (.t false (.t false (.t false (.t true .z .z) .z) .z) .z) .z)) .z) .z) .z) .z)))))))))) rfl Tryz.func225 rfl (by kernel_rfl) ?_
 refine GH h fun h=>?_
 refine GH h fun h=>?_
 refine GH h fun h=>?_
 refine GH h fun h=>?_
 refine cB (fun s1:Int=>BS 168 [(0,(.ms 0 (((Ae.set (AL.toNat) (Ae.getD (AU.toNat) 0)).set (AU.toNat) (Ae.getD (AL.toNat) 0)).length))),(1,(.int .i64 AL)),(10,(.int .i64 s1)),(11,(.int .i64 (IntKind.wrap .i64 (Bq-(1:Int)))))] [some ⟨1,21,(.ints .i32 ((Ae.set (AL.toNat) (Ae.getD (AU.toNat) 0)).set (AU.toNat) (Ae.getD (AL.toNat) 0))),false,true⟩]) h ?_ ?_
 ·intro AoR Anv x48 h48 h
  refine gO ?_
  refine AO (fun s41:Int=>BS 168 [(0,(.ms 0 (((Ae.set (AL.toNat) (Ae.getD (AU.toNat) 0)).set (AU.toNat) (Ae.getD (AL.toNat) 0)).length))),(1,(.int .i64 AL)),(10,(.int .i64 s41)),(11,(.int .i64 (IntKind.wrap .i64 (Bq-(1:Int)))))] [some ⟨1,21,(.ints .i32 ((Ae.set (AL.toNat) (Ae.getD (AU.toNat) 0)).set (AU.toNat) (Ae.getD (AL.toNat) 0))),false,true⟩]) h48 (wG [0]) ?_
  intro k43 s41 AqN AmJ hn43 AfI AlH
  refine cB (fun s44:Bool=>BS 168 [(0,(.ms 0 (((Ae.set (AL.toNat) (Ae.getD (AU.toNat) 0)).set (AU.toNat) (Ae.getD (AL.toNat) 0)).length))),(1,(.int .i64 AL)),(10,(.int .i64 s41)),(11,(.int .i64 (IntKind.wrap .i64 (Bq-(1:Int))))),(43,(.bool s44))] [some ⟨1,21,(.ints .i32 ((Ae.set (AL.toNat) (Ae.getD (AU.toNat) 0)).set (AU.toNat) (Ae.getD (AL.toNat) 0))),false,true⟩]) AfI ?_ ?_
  ·intro AoS Alu x49 h49 AfI
   refine bR h49 ?_ ?_
   ·intro _ h49
    refine GH h49 fun h49=>?_
    refine GH h49 fun h49=>?_
    refine cL h49 (Dk _ _) ?_
    intro y46 h49
    exact Cg (pI [0]) Alu AfI h49
   ·intro _ h49
    exact Cg (pI [0]) Alu AfI h49
  ·clear AfI
   intro s44 AfN
   refine bR AfN ?_ ?_
   ·intro _ AfN
    exact Cg (pI [0]) hn43 AlH AfN
   ·intro _ AfN
    have e:=Option.some.inj AfN;subst e
    have e:=Ao AlH;subst e
    refine gO ?_
    exact Anv _ s41 h (wG [0])
 ·clear h
  intro s1 AhW
  refine cB (fun s3:Int=>BS 168 [(0,(.ms 0 (((Ae.set (AL.toNat) (Ae.getD (AU.toNat) 0)).set (AU.toNat) (Ae.getD (AL.toNat) 0)).length))),(1,(.int .i64 AL)),(10,(.int .i64 s1)),(11,(.int .i64 s3))] [some ⟨1,21,(.ints .i32 ((Ae.set (AL.toNat) (Ae.getD (AU.toNat) 0)).set (AU.toNat) (Ae.getD (AL.toNat) 0))),false,true⟩]) AhW ?_ ?_
  ·intro AmK AjW x52 h52 AhW
   refine gO ?_
   refine AO (fun s33:Int=>BS 168 [(0,(.ms 0 (((Ae.set (AL.toNat) (Ae.getD (AU.toNat) 0)).set (AU.toNat) (Ae.getD (AL.toNat) 0)).length))),(1,(.int .i64 AL)),(10,(.int .i64 s1)),(11,(.int .i64 s33))] [some ⟨1,21,(.ints .i32 ((Ae.set (AL.toNat) (Ae.getD (AU.toNat) 0)).set (AU.toNat) (Ae.getD (AL.toNat) 0))),false,true⟩]) h52 (wG [0]) ?_
   intro k35 s33 AqK AmG AjU AfF AlF
   refine cB (fun bK:Bool=>BS 168 [(0,(.ms 0 (((Ae.set (AL.toNat) (Ae.getD (AU.toNat) 0)).set (AU.toNat) (Ae.getD (AL.toNat) 0)).length))),(1,(.int .i64 AL)),(10,(.int .i64 s1)),(11,(.int .i64 s33)),(60,(.bool bK))] [some ⟨1,21,(.ints .i32 ((Ae.set (AL.toNat) (Ae.getD (AU.toNat) 0)).set (AU.toNat) (Ae.getD (AL.toNat) 0))),false,true⟩]) AfF ?_ ?_
   ·intro AmL Ah0 x53 h53 AfF
    refine bR h53 ?_ ?_
    ·intro _ h53
     refine GH h53 fun h53=>?_
     refine GH h53 fun h53=>?_
     refine cL h53 (Dk _ _) ?_
     intro y38 h53
     exact Cg (pI [0]) Ah0 AfF h53
    ·intro _ h53
     exact Cg (pI [0]) Ah0 AfF h53
   ·clear AfF
    intro bK AfO
    refine bR AfO ?_ ?_
    ·intro _ AfO
     exact Cg (pI [0]) AjU AlF AfO
    ·intro _ AfO
     have e:=Option.some.inj AfO;subst e
     have e:=Ao AlF;subst e
     refine gO ?_
     exact AjW _ s33 AhW (wG [0])
  ·clear AhW
   intro s3 RF
   refine bR RF ?_ ?_
   ·intro _ RF
    exact Oc (pI [0]) RF
   ·intro _ RF
    refine GH RF fun RF=>?_
    refine GH RF fun RF=>?_
    refine GH RF fun RF=>?_
    refine GH RF fun RF=>?_
    refine cB (fun s5:(List Int)×Int=>BS 168 [(0,(.ms 0 s5.1.length)),(1,(.int .i64 AL)),(11,(.int .i64 s5.2))] [some ⟨1,21,(.ints .i32 s5.1),false,true⟩]) RF ?_ ?_
    ·intro AmM AjY x56 h56 RF
     refine gO ?_
     refine AO (fun s8:(List Int)×Int×Int=>BS 168 [(0,(.ms 0 s8.1.length)),(1,(.int .i64 AL)),(10,(.int .i64 s8.2.1)),(11,(.int .i64 s8.2.2))] [some ⟨1,21,(.ints .i32 s8.1),false,true⟩]) h56 (wG [0]) ?_
     intro k10 s8 AgV ZW PK LW VZ
     refine cB (fun s11:Int=>BS 168 [(0,(.ms 0 s8.1.length)),(1,(.int .i64 AL)),(10,(.int .i64 s11)),(11,(.int .i64 s8.2.2))] [some ⟨1,21,(.ints .i32 s8.1),false,true⟩]) LW ?_ ?_
     ·intro AkV AfX x57 h57 LW
      refine gO ?_
      refine AO (fun s24:Int=>BS 168 [(0,(.ms 0 s8.1.length)),(1,(.int .i64 AL)),(10,(.int .i64 s24)),(11,(.int .i64 s8.2.2))] [some ⟨1,21,(.ints .i32 s8.1),false,true⟩]) h57 (wG [0]) ?_
      intro k26 s24 AqF AmB AjT AfC AlC
      refine cB (fun s27:Bool=>BS 168 [(0,(.ms 0 s8.1.length)),(1,(.int .i64 AL)),(10,(.int .i64 s24)),(11,(.int .i64 s8.2.2)),(112,(.bool s27))] [some ⟨1,21,(.ints .i32 s8.1),false,true⟩]) AfC ?_ ?_
      ·intro AmN AdE x58 jU AfC
       refine bR jU ?_ ?_
       ·intro _ jU
        refine GH jU fun jU=>?_
        refine GH jU fun jU=>?_
        refine cL jU (Dk _ _) ?_
        intro y29 jU
        exact Cg (pI [0]) AdE AfC jU
       ·intro _ jU
        exact Cg (pI [0]) AdE AfC jU
      ·clear AfC
       intro s27 Vk
       refine bR Vk ?_ ?_
       ·intro _ Vk
        exact Cg (pI [0]) AjT AlC Vk
       ·intro _ Vk
        have e:=Option.some.inj Vk;subst e
        have e:=Ao AlC;subst e
        refine gO ?_
        exact AfX _ s24 LW (wG [0])
     ·clear LW
      intro s11 jX
      refine cB (fun s13:Int=>BS 168 [(0,(.ms 0 s8.1.length)),(1,(.int .i64 AL)),(10,(.int .i64 s11)),(11,(.int .i64 s13))] [some ⟨1,21,(.ints .i32 s8.1),false,true⟩]) jX ?_ ?_
      ·intro AkW AfY x61 h61 jX
       refine gO ?_
       refine AO (fun s16:Int=>BS 168 [(0,(.ms 0 s8.1.length)),(1,(.int .i64 AL)),(10,(.int .i64 s11)),(11,(.int .i64 s16))] [some ⟨1,21,(.ints .i32 s8.1),false,true⟩]) h61 (wG [0]) ?_
       intro k18 s16 AiE AcS XG Gu Vl
       refine cB (fun Vv:Bool=>BS 168 [(0,(.ms 0 s8.1.length)),(1,(.int .i64 AL)),(10,(.int .i64 s11)),(11,(.int .i64 s16)),(129,(.bool Vv))] [some ⟨1,21,(.ints .i32 s8.1),false,true⟩]) Gu ?_ ?_
       ·intro AmO Ah1 x62 h62 Gu
        refine bR h62 ?_ ?_
        ·intro _ h62
         refine GH h62 fun h62=>?_
         refine GH h62 fun h62=>?_
         refine cL h62 (Dk _ _) ?_
         intro y21 h62
         exact Cg (pI [0]) Ah1 Gu h62
        ·intro _ h62
         exact Cg (pI [0]) Ah1 Gu h62
       ·clear Gu
        intro Vv hc63
        refine bR hc63 ?_ ?_
        ·intro _ hc63
         exact Cg (pI [0]) XG Vl hc63
        ·intro _ hc63
         have e:=Option.some.inj hc63;subst e
         have e:=Ao Vl;subst e
         refine gO ?_
         exact AfY _ s16 jX (wG [0])
      ·clear jX
       intro s13 uJ
       refine bR uJ ?_ ?_
       ·intro _ uJ
        have e:=Option.some.inj uJ;subst e
        have e:=Ao VZ;subst e
        refine gO ?_
        exact AjY _ (s8.1,s13) RF (wG [0])
       ·intro _ uJ
        exact Cg (pI [0]) PK VZ uJ
    ·clear RF
     intro s5 Abf
     unfold Ga at Abf
     exact Oc (pI [0]) Abf
theorem Uz (Zx) (r) (h:IQ Zx=some r):Contract pl 240 [(AV.int .i64 Zx)] [] (AV.int .u64 r) []:=by
 refine Af .z Tryz.func240 rfl (by kernel_rfl) ?_
 refine cL h (VD _) ?_
 intro y1 h
 exact BP h
theorem R7 (p_r) (r) (h:FU p_r=some r):Bc 1 pl 241 [(.mp 0 0 0)] [some ⟨1,259,(.vals [(.int .u64 p_r)]),false,false⟩] (.int .u64 r.2) [some ⟨1,259,(.vals [(.int .u64 r.1)]),false,false⟩]:=by
 refine A8 1 .z rfl Tryz.func241 rfl (by kernel_rfl) ?_
 refine gO ?_
 refine And.intro (by decide) ?_
 refine gO ?_
 refine And.intro (by decide) ?_
 refine gO ?_
 refine And.intro (by decide) ?_
 unfold FU at h
 exact Oc (pI [0]) h
theorem MI (Ae AL Bq) (r) (h:D6 Ae AL Bq=some r):Bc 1 pl 219 [(.ms 0 Ae.length),(.int .i64 AL),(.int .i64 Bq)] [some ⟨1,21,(.ints .i32 Ae),false,true⟩] (.GU []) [some ⟨1,21,(.ints .i32 r),false,true⟩]:=by
 refine A8 1 (.t false .z (.t false .z (.t false (.t false .z (.t false .z (.t false .z (.t false (.t false (.t false .z (.t false (.t false (.t false .z (.t true .z .z)) .z) .z)) .z) .z)))) .z))) rfl Tryz.func219 rfl (by kernel_rfl) ?_
 refine bR h ?_ ?_
 ·intro _ h
  refine cL h (Uz _) ?_
  intro y1 h
  refine gO ?_
  refine And.intro (by decide) ?_
  refine lB (fun s3:(List Int)×Int×Int=>BS 65 [(0,(.ms 0 s3.1.length)),(1,(.int .i64 AL)),(6,(.int .i64 (IntKind.wrap .i64 (Bq-AL)))),(7,(.mp 1 0 0)),(8,(.int .u64 y1)),(9,(.int .i64 s3.2.2))] [some ⟨1,21,(.ints .i32 s3.1),false,true⟩,some ⟨1,259,(.vals [(.int .u64 s3.2.1)]),false,false⟩]) h ?_ ?_
  ·exact wG [0,1]
  intro x5 h k5 s3 st5 Kn5 hn5 h5 hs5
  refine gO ?_
  refine And.intro (by decide) ?_
  refine bR h5 ?_ ?_
  ·intro _ h5
   refine gO ?_
   refine bnd h5 (fun y6 hy6 h5=>?_)
   refine Or.inr (AX (oC [1] (R7 _ _ hy6)) ?_)
   refine cB (fun s7:Int=>BS 65 [(0,(.ms 0 s3.1.length)),(1,(.int .i64 AL)),(6,(.int .i64 (IntKind.wrap .i64 (Bq-AL)))),(7,(.mp 1 0 0)),(8,(.int .u64 y1)),(9,(.int .i64 s3.2.2)),(10,(.int .i64 s7))] [some ⟨1,21,(.ints .i32 s3.1),false,true⟩,some ⟨1,259,(.vals [(.int .u64 y6.1)]),false,false⟩]) h5 ?_ ?_
   ·intro ZW PK x10 h10 h5
    exact Cg (pI [0,1]) PK h5 h10
   ·clear h5
    intro s7 Vi
    unfold Dy at Vi
    exact Cg (pI [0,1]) hn5 hs5 Vi
  ·intro _ h5
   have e:=Option.some.inj h5;subst e
   have e:=Ao hs5;subst e
   exact Oc (pI [0]) h
 ·intro _ h
  exact Oc (pI [0]) h
theorem M8 (IB:(List Int)->Int->Int->Int->Option (List Int)) (hrec: ∀(Ae:(List Int)) (AL:Int) (Bq:Int) (Ip:Int) (r:(List Int)),IB Ae AL Bq Ip=some r->Bc 1 pl 187 [(.ms 0 Ae.length),(.int .i64 AL),(.int .i64 Bq),(.int .i64 Ip)] [some ⟨1,21,(.ints .i32 Ae),false,true⟩] (.GU []) [some ⟨1,21,(.ints .i32 r),false,true⟩]) (Ae AL Bq Ip) (r) (h:IU IB Ae AL Bq Ip=some r):Bc 1 pl 187 [(.ms 0 Ae.length),(.int .i64 AL),(.int .i64 Bq),(.int .i64 Ip)] [some ⟨1,21,(.ints .i32 Ae),false,true⟩] (.GU []) [some ⟨1,21,(.ints .i32 r),false,true⟩]:=by
 refine A8 1 (.t false .z (.t false .z (.t false (.t false (.t false (.t false .z (.t false .z (.t false .z (.t true .z (.t false .z (.t true .z (.t true (.t true .z .z) (.t false (.t true .z .z) .z)))))))) .z) .z) .z))) rfl Tryz.func187 rfl (by kernel_rfl) ?_
 refine lB (fun s3:(List Int)×Int×Int×Int×Bool×Bool=>BS 134 [(0,(.ms 0 s3.1.length)),(1,(.int .i64 s3.2.1)),(2,(.int .i64 s3.2.2.1)),(3,(.int .i64 s3.2.2.2.1)),(8,(.bool s3.2.2.2.2.1)),(9,(.bool s3.2.2.2.2.2))] [some ⟨1,21,(.ints .i32 s3.1),false,true⟩]) h ?_ ?_
 ·exact wG [0]
 intro x5 h k5 s3 st5 Kn5 hn5 h5 hs5
 refine bR h5 ?_ ?_
 ·intro _ h5
  refine gO ?_
  refine bnd h5 (fun y6 hy6 h5=>?_)
  refine Or.inr (AX (oC [0] (MJ _ _ _ _ hy6)) ?_)
  refine gO ?_
  obtain⟨p29,h5⟩:=Jq h5
  have e:=Option.some.inj h5;subst e
  have e:=Ao hs5;subst e
  exact Oc (pI [0]) h
 ·intro _ h5
  refine bR h5 ?_ ?_
  ·intro _ h5
   refine gO ?_
   refine bnd h5 (fun y7 hy7 h5=>?_)
   refine Or.inr (AX (oC [0] (OG _ _ _ _ hy7)) ?_)
   refine gO ?_
   obtain⟨p30,h5⟩:=Jq h5
   have e:=Option.some.inj h5;subst e
   have e:=Ao hs5;subst e
   exact Oc (pI [0]) h
  ·intro _ h5
   refine cB (fun s8:(List Int)×Int=>BS 134 [(0,(.ms 0 s8.1.length)),(1,(.int .i64 s3.2.1)),(2,(.int .i64 s3.2.2.1)),(3,(.int .i64 s8.2)),(8,(.bool s3.2.2.2.2.1)),(9,(.bool s3.2.2.2.2.2)),(10,(.int .i64 (IntKind.wrap .i64 (s3.2.2.1-s3.2.1))))] [some ⟨1,21,(.ints .i32 s8.1),false,true⟩]) h5 ?_ ?_
   ·intro AmD AhZ x31 h31 h5
    refine bR h31 ?_ ?_
    ·intro _ h31
     refine gO ?_
     refine bnd h31 (fun y27 hy27 h31=>?_)
     refine Or.inr (AX (oC [0] (MI _ _ _ _ hy27)) ?_)
     refine gO ?_
     obtain⟨p32,h31⟩:=Jq h31
     exact Cg (pI [0]) AhZ h5 h31
    ·intro _ h31
     exact Cg (pI [0]) AhZ h5 h31
   ·clear h5
    intro s8 jW
    refine cL jW (OV _ _ _) ?_
    intro Rf jW
    refine cB (fun s11:(List Int)×Int×Int=>BS 134 [(0,(.ms 0 s11.1.length)),(1,(.int .i64 s3.2.1)),(2,(.int .i64 s3.2.2.1)),(3,(.int .i64 s8.2)),(8,(.bool s3.2.2.2.2.1)),(9,(.bool s3.2.2.2.2.2)),(10,(.int .i64 (IntKind.wrap .i64 (s3.2.2.1-s3.2.1)))),(11,(.int .i64 s11.2.1)),(12,(.int .i64 s11.2.2))] [some ⟨1,21,(.ints .i32 s11.1),false,true⟩]) jW ?_ ?_
    ·intro AmF AfV x34 oP jW
     refine bR oP ?_ ?_
     ·intro _ oP
      refine gO ?_
      refine bnd oP (fun wL Akf oP=>?_)
      refine Or.inr (AX (oC [0] (M9 _ _ _ _ Akf)) ?_)
      refine gO ?_
      obtain⟨p35,oP⟩:=Jq oP
      exact Cg (pI [0]) AfV jW oP
     ·intro _ oP
      exact Cg (pI [0]) AfV jW oP
    ·clear jW
     intro s11 UF
     refine gO ?_
     refine bnd UF (fun x37 h37 UF=>?_)
     refine DT (fun s13:(List Int)=>BS 134 [(0,(.ms 0 s13.length)),(1,(.int .i64 s3.2.1)),(2,(.int .i64 s3.2.2.1)),(3,(.int .i64 s8.2)),(8,(.bool s3.2.2.2.2.1)),(9,(.bool s3.2.2.2.2.2)),(10,(.int .i64 (IntKind.wrap .i64 (s3.2.2.1-s3.2.1)))),(11,(.int .i64 s11.2.1))] [some ⟨1,21,(.ints .i32 s13),false,true⟩]) (fun s13:(List Int)=>BQ IB s3 s8 s11 s13=some st5) ?_ ?_
     ·intro AkU AdC
      refine cB (fun s22:Bool=>BS 134 [(0,(.ms 0 s11.1.length)),(1,(.int .i64 s3.2.1)),(2,(.int .i64 s3.2.2.1)),(3,(.int .i64 s8.2)),(8,(.bool s3.2.2.2.2.1)),(9,(.bool s3.2.2.2.2.2)),(10,(.int .i64 (IntKind.wrap .i64 (s3.2.2.1-s3.2.1)))),(11,(.int .i64 s11.2.1)),(68,(.bool s22))] [some ⟨1,21,(.ints .i32 s11.1),false,true⟩]) h37 ?_ ?_
      ·intro Ajf uS x38 h38 h37
       exact Cg (pI [0]) uS h37 h38
      ·clear h37
       intro s22 hc39
       refine bR hc39 ?_ ?_
       ·intro _ hc39
        refine gO ?_
        refine bnd hc39 (fun y24 hy24 hc39=>?_)
        refine Or.inr (AX (oC [0] (KE _ _ _ _ hy24)) ?_)
        refine gO ?_
        obtain⟨p40,hc39⟩:=Jq hc39
        refine bR hc39 ?_ ?_
        ·intro _ hc39
         have e:=Option.some.inj hc39;subst e
         have e:=Option.some.inj UF;subst e
         have e:=Ao hs5;subst e
         exact Oc (pI [0]) h
        ·intro _ hc39
         exact Cg (pI [0]) AdC UF hc39
       ·intro _ hc39
        exact Cg (pI [0]) AdC UF hc39
     ·clear UF h37
      intro s13 Wq
      refine cB (fun s15:Bool=>BS 134 [(0,(.ms 0 s13.length)),(1,(.int .i64 s3.2.1)),(2,(.int .i64 s3.2.2.1)),(3,(.int .i64 s8.2)),(8,(.bool s3.2.2.2.2.1)),(9,(.bool s3.2.2.2.2.2)),(10,(.int .i64 (IntKind.wrap .i64 (s3.2.2.1-s3.2.1)))),(11,(.int .i64 s11.2.1)),(87,(.bool s15))] [some ⟨1,21,(.ints .i32 s13),false,true⟩]) Wq ?_ ?_
      ·intro AmI AfW x42 uG Wq
       refine bR uG ?_ ?_
       ·intro _ uG
        refine GH uG fun uG=>?_
        refine GH uG fun uG=>?_
        refine cL uG (Dk _ _) ?_
        intro y21 uG
        exact Cg (pI [0]) AfW Wq uG
       ·intro _ uG
        exact Cg (pI [0]) AfW Wq uG
      ·clear Wq
       intro s15 Ng
       refine bR Ng ?_ ?_
       ·intro _ Ng
        refine gO ?_
        refine bnd Ng (fun nN AnM Ng=>?_)
        refine Or.inr (AX (oC [0] (ME _ _ _ _ _ AnM)) ?_)
        refine gO ?_
        obtain⟨p44,Ng⟩:=Jq Ng
        exact Cg (pI [0]) hn5 hs5 Ng
       ·intro _ Ng
        refine gO ?_
        refine bnd Ng (fun nO Akc Ng=>?_)
        refine Or.inr (AX (oC [0] (Oh _ _ _ _ _ Akc)) ?_)
        refine gO ?_
        obtain⟨p45,Ng⟩:=Jq Ng
        refine gO ?_
        refine And.intro (by decide) ?_
        refine bR Ng ?_ ?_
        ·intro _ Ng
         refine gO ?_
         refine bnd Ng (fun wO Akd Ng=>?_)
         refine Or.inr (AX (oC [0] (hrec _ _ _ _ _ Akd)) ?_)
         refine gO ?_
         obtain⟨p46,Ng⟩:=Jq Ng
         exact Cg (pI [0]) hn5 hs5 Ng
        ·intro _ Ng
         refine gO ?_
         refine bnd Ng (fun y20 AnN Ng=>?_)
         refine Or.inr (AX (oC [0] (hrec _ _ _ _ _ AnN)) ?_)
         refine gO ?_
         obtain⟨p47,Ng⟩:=Jq Ng
         exact Cg (pI [0]) hn5 hs5 Ng
theorem Gz: ∀(n:Nat) (Ae:(List Int)) (AL:Int) (Bq:Int) (Ip:Int) (r:(List Int)),Ah n Ae AL Bq Ip=some r->Bc 1 pl 187 [(.ms 0 Ae.length),(.int .i64 AL),(.int .i64 Bq),(.int .i64 Ip)] [some ⟨1,21,(.ints .i32 Ae),false,true⟩] (.GU []) [some ⟨1,21,(.ints .i32 r),false,true⟩]
 |0,_,_,_,_,_,h=>by cases h
 |n+1,Ae,AL,Bq,Ip,r,h=>M8 (Ah n) (Gz n) Ae AL Bq Ip r h
theorem OW (Ae:(List Int)) (AL:Int) (Bq:Int) (Ip:Int) (r:(List Int)) (h:Eh Ae AL Bq Ip=some r):Bc 1 pl 187 [(.ms 0 Ae.length),(.int .i64 AL),(.int .i64 Bq),(.int .i64 Ip)] [some ⟨1,21,(.ints .i32 Ae),false,true⟩] (.GU []) [some ⟨1,21,(.ints .i32 r),false,true⟩]:=by
 unfold Eh at h
 split at h
 ·rename_i y hy
  exact Gz _ Ae AL Bq Ip r (hy.trans h)
 ·split at h
  ·exact Gz _ Ae AL Bq Ip r h
  ·cases h
theorem Rv (KA) (r) (h:GJ KA=some r):Bc 1 pl 138 [(.ms 0 KA.length)] [some ⟨1,21,(.ints .i32 KA),false,true⟩] (.GU []) [some ⟨1,21,(.ints .i32 r),false,true⟩]:=by
 refine A8 1 .z rfl Tryz.func138 rfl (by kernel_rfl) ?_
 refine cL h (VD _) ?_
 intro y1 h
 refine gO ?_
 refine bnd h (fun y2 hy2 h=>?_)
 refine Or.inr (AX (oC [0] (OW _ _ _ _ _ hy2)) ?_)
 refine gO ?_
 obtain⟨p3,h⟩:=Jq h
 exact Oc (pI [0]) h
theorem P8 (BA) (r) (h:F6 BA=some r):Bc 1 pl 139 [(.ms 0 BA.length)] [some ⟨1,21,(.ints .i32 BA),false,true⟩] (.ms 0 r.2) [some ⟨1,21,(.ints .i32 r.1),false,true⟩]:=by
 refine A8 1 (.t false .z (.t false .z (.t true (.t false .z (.t false (.t false (.t false .z (.t true (.t false (.t false .z (.t false (.t false .z (.t true .z .z)) .z)) .z) .z)) .z) .z)) .z))) rfl Tryz.func139 rfl (by kernel_rfl) ?_
 refine bR h ?_ ?_
 ·intro _ h
  exact Oc (pI [0]) h
 ·intro _ h
  refine gO ?_
  refine bnd h (fun x20 h20 h=>?_)
  refine DT (fun s1:Unit=>BS 61 [(0,(.ms 0 BA.length))] [some ⟨1,21,(.ints .i32 BA),false,true⟩]) (fun s1:Unit=>some (BA,BA.length)=some r) ?_ ?_
  ·intro AeD gF
   refine gO ?_
   refine AO (fun s4:Int=>BS 61 [(0,(.ms 0 BA.length)),(3,(.int .i64 s4))] [some ⟨1,21,(.ints .i32 BA),false,true⟩]) h20 (wG [0]) ?_
   intro k6 s4 eU eZ QU Ce hs6
   refine bR Ce ?_ ?_
   ·intro _ Ce
    refine gO ?_
    refine bnd Ce (fun x21 h21 Ce=>?_)
    refine DT (fun s7:Unit=>BS 61 [(0,(.ms 0 BA.length)),(3,(.int .i64 s4))] [some ⟨1,21,(.ints .i32 BA),false,true⟩]) (fun s7:Unit=>some (.next (IntKind.wrap .i64 (s4+(1:Int))))=some eU) ?_ ?_
    ·intro Ahg oQ
     refine GH h21 fun h21=>?_
     refine GH h21 fun h21=>?_
     refine bR h21 ?_ ?_
     ·intro _ h21
      have Apf:=gOf h21
      refine gD3 h21 fun h21=>?_
      refine cB (fun s9:(List Int)×Int=>BS 61 [(0,(.ms 0 s9.1.length)),(3,(.int .i64 s9.2))] [some ⟨1,21,(.ints .i32 s9.1),false,true⟩]) h21 ?_ ?_
      ·intro AcT XH x22 h22 h21
       refine gO ?_
       refine AO (fun s12:(List Int)×Int×Int=>BS 61 [(0,(.ms 0 s12.1.length)),(3,(.int .i64 s12.2.1)),(4,(.LP 0 (s4.toNat) (BA.length-(s4.toNat)))),(5,(.int .i64 s12.2.2))] [some ⟨1,21,(.ints .i32 s12.1),false,true⟩]) h22 (wG [0]) ?_
       intro k14 s12 AiD iE RG Qc Yt
       refine bR Qc ?_ ?_
       ·intro _ Qc
        exact Cg (pI [0]) RG Yt Qc
       ·intro _ Qc
        have e:=Option.some.inj Qc;subst e
        have e:=Ao Yt;subst e
        refine gO ?_
        exact XH _ (s12.1,s12.2.1) h21 (wG [0])
      ·clear h21
       intro s9 Iu
       have Alh:=gOf Iu
       refine gD3 Iu fun Iu=>?_
       refine gO ?_
       obtain⟨p24,Iu⟩:=Jq Iu
       refine And.intro p24 ?_
       have Alh:=gOf Iu
       refine GH Iu fun Iu=>?_
       have e:=Option.some.inj Iu;subst e
       have e:=Option.some.inj Ce;subst e
       have e:=Ao hs6;subst e
       exact Oc (pI [0]) h
     ·intro _ h21
      exact Cg (pI [0]) oQ Ce h21
    ·clear Ce h21
     intro s7 hc25
     exact Cg (pI [0]) QU hs6 hc25
   ·intro _ Ce
    have e:=Option.some.inj Ce;subst e
    have e:=Ao hs6;subst e
    refine gO ?_
    exact gF _ () h (wG [0])
  ·clear h h20
   intro s1 Sb
   exact Oc (pI [0]) Sb
theorem VU (CV Ci Fp CO Fv Fw EP YF) (r) (h:JO CV Ci Fp CO Fv Fw EP YF=some r):Bc 2 pl 204 [(.mp 0 0 0),(.int .i64 YF)] [some ⟨7,171,(.vals [(.agg [(.int .i64 CV),(.bool Ci),(.PN 0 0 2 Fp),(.ms 1 CO.length),(.int .i32 Fv),(.int .i64 Fw),(.int .i64 EP)])]),false,false⟩,some ⟨1,5,(.ints .u8 CO),false,true⟩] (.int .i64 r.2.2.2.2.2.2) [some ⟨7,171,(.vals [(.agg [(.int .i64 r.1),(.bool r.2.1),(.PN 0 0 2 r.2.2.1),(.ms 1 CO.length),(.int .i32 r.2.2.2.1),(.int .i64 r.2.2.2.2.1),(.int .i64 r.2.2.2.2.2.1)])]),false,false⟩,some ⟨1,5,(.ints .u8 CO),false,true⟩]:=by
 refine A8 2 .z rfl Tryz.func204 rfl (by kernel_rfl) ?_
 refine cL h (Qu _ _ _) ?_
 intro y1 h
 exact Oc (pI [0,1]) h
theorem dA (p_n) (r) (h:OB p_n=some r):Contract pl 245 [(AV.int .i64 p_n)] [] (AV.int .u8 r) []:=by
 refine Af .z Tryz.func245 rfl (by kernel_rfl) ?_
 unfold OB at h
 exact BP h
theorem U8 (CV Ci Fp CO Fv Fw EP bE) (r) (h:LH CV Ci Fp CO Fv Fw EP bE=some r):Bc 2 pl 229 [(.mp 0 0 0),(.int .i64 bE)] [some ⟨7,171,(.vals [(.agg [(.int .i64 CV),(.bool Ci),(.PN 0 0 2 Fp),(.ms 1 CO.length),(.int .i32 Fv),(.int .i64 Fw),(.int .i64 EP)])]),false,false⟩,some ⟨1,5,(.ints .u8 CO),false,true⟩] (.str r.2.2.2.2.2.2) [some ⟨7,171,(.vals [(.agg [(.int .i64 r.1),(.bool r.2.1),(.PN 0 0 2 r.2.2.1),(.ms 1 CO.length),(.int .i32 r.2.2.2.1),(.int .i64 r.2.2.2.2.1),(.int .i64 r.2.2.2.2.2.1)])]),false,false⟩,some ⟨1,5,(.ints .u8 CO),false,true⟩]:=by
 refine A8 2 .z rfl Tryz.func229 rfl (by kernel_rfl) ?_
 refine lB (fun s2:Int×Bool×Bool×Int×Int×Int×Int×(List Int)×Int=>BS 40 [(0,(.mp 0 0 0)),(1,(.int .i64 s2.2.2.2.2.2.2.1)),(5,(.ms 2 s2.2.2.2.2.2.2.2.1.length)),(6,(.int .i64 s2.2.2.2.2.2.2.2.2))] [some ⟨7,171,(.vals [(.agg [(.int .i64 s2.1),(.bool s2.2.1),(.PN 0 0 2 s2.2.2.1),(.ms 1 CO.length),(.int .i32 s2.2.2.2.1),(.int .i64 s2.2.2.2.2.1),(.int .i64 s2.2.2.2.2.2.1)])]),false,false⟩,some ⟨1,5,(.ints .u8 CO),false,true⟩,some ⟨1,5,(.ints .u8 s2.2.2.2.2.2.2.2.1),false,true⟩]) h ?_ ?_
 ·exact JK (UW 5 1 5 (.ints .u8 []) _ rfl rfl trivial (by first|exact Nat.zero_le _|(simp;done)|decide)) (wG [0,1,2])
 intro x4 h k4 s2 st4 Kn4 aS h4 hs4
 refine gO ?_
 refine bnd h4 (fun y5 hy5 h4=>?_)
 refine AX (oC [0,1] (VU _ _ _ _ _ _ _ _ _ hy5)) ?_
 refine bR h4 ?_ ?_
 ·intro _ h4
  refine cL h4 (dA _) ?_
  intro y6 h4
  refine gO ?_
  obtain⟨p9,h4⟩:=Jq h4
  refine⟨[],1,(.ints .u8 [y6]),⟨by simp[Row.len]<;>omega,rfl,_,rfl,by simp[Row.len]<;>omega,fun j hj=>.inl rfl⟩,trivial,fun j hj=>rfl,?_⟩
  conv=>whnf
  refine⟨by simp[Row.len];try omega,p9,by omega,?_⟩
  refine gO ?_
  refine⟨(s2.2.2.2.2.2.2.2.1++ [y6]),by first|rfl|simp,fun j hj=>by first|rfl|exact Aif _ j hj|(show AV.int .u8 _=_;simp;done)|(simp[Row.get]),?_⟩
  have e:=Option.some.inj h4;subst e
  have e:=Ao hs4;subst e
  exact Oc (pI [0,1]) h
 ·intro _ h4
  refine gD1 h4 fun h4=>?_
  refine cL h4 (dA _) ?_
  intro y7 h4
  refine gO ?_
  obtain⟨p10,h4⟩:=Jq h4
  refine⟨[],1,(.ints .u8 [y7]),⟨by simp[Row.len]<;>omega,rfl,_,rfl,by simp[Row.len]<;>omega,fun j hj=>.inl rfl⟩,trivial,fun j hj=>rfl,?_⟩
  conv=>whnf
  refine⟨by simp[Row.len];try omega,p10,by omega,?_⟩
  exact Cg (pI [0,1,4]) aS hs4 h4
theorem OH (CV Ci Fp CO Fv Fw EP BA) (r) (h:GR CV Ci Fp CO Fv Fw EP BA=some r):Bc 1 pl 228 [(.mp 0 0 2),(.str BA)] [some ⟨7,171,(.vals [(.agg [(.int .i64 CV),(.bool Ci),(.PN 0 0 2 Fp),(.ms 1 CO.length),(.int .i32 Fv),(.int .i64 Fw),(.int .i64 EP)])]),false,false⟩,some ⟨1,5,(.ints .u8 CO),false,true⟩] (.GU [(.int .i64 r.2.2.2.2.2.2.2), .Ox]) [some ⟨7,171,(.vals [(.agg [(.int .i64 r.1),(.bool r.2.1),(.PN 0 0 2 r.2.2.1),(.ms 1 r.2.2.2.1.length),(.int .i32 r.2.2.2.2.1),(.int .i64 r.2.2.2.2.2.1),(.int .i64 r.2.2.2.2.2.2.1)])]),false,false⟩,some ⟨1,5,(.ints .u8 r.2.2.2.1),false,true⟩]:=by
 refine A8 1 .z rfl Tryz.func228 rfl (by kernel_rfl) ?_
 refine gO ?_
 refine bnd h (fun y1 hy1 h=>?_)
 refine AX (oC [0,1] (Ke _ _ _ _ _ _ _ _ hy1)) ?_
 refine gO ?_
 obtain⟨p2,h⟩:=Jq h
 refine And.intro (by simp[Row.len];try omega) (And.intro p2 ?_)
 exact Oc (pI [0,2]) h
theorem VT (CV Ci Fp CO Fv Fw EP bE Ky) (r) (h:Mw CV Ci Fp CO Fv Fw EP bE Ky=some r):Bc 2 pl 164 [(.mp 0 0 0),(.int .i64 bE),(.int .i64 Ky)] [some ⟨7,171,(.vals [(.agg [(.int .i64 CV),(.bool Ci),(.PN 0 0 2 Fp),(.ms 1 CO.length),(.int .i32 Fv),(.int .i64 Fw),(.int .i64 EP)])]),false,false⟩,some ⟨1,5,(.ints .u8 CO),false,true⟩] (.GU []) [some ⟨7,171,(.vals [(.agg [(.int .i64 r.1),(.bool r.2.1),(.PN 0 0 2 r.2.2.1),(.ms 1 CO.length),(.int .i32 r.2.2.2.1),(.int .i64 r.2.2.2.2.1),(.int .i64 r.2.2.2.2.2)])]),false,false⟩,some ⟨1,5,(.ints .u8 CO),false,true⟩]:=by
 refine A8 2 .z rfl Tryz.func164 rfl (by kernel_rfl) ?_
 refine cL h (cZ _ _ _) ?_
 intro y1 h
 exact Oc (pI [0,1]) h
theorem Va (Ma Mc Md Iy Jp Me WI p_r p_i) (r) (h:Jl Ma Mc Md Iy Jp Me WI p_r p_i=some r):Bc 1 pl 189 [(.mp 0 0 0),(.int .i32 p_r),(.int .i64 p_i)] [some ⟨7,171,(.vals [(.agg [(.int .i64 Ma),(.bool Mc),(.PN 0 0 2 Md),(.ms 1 Iy.length),(.int .i32 Jp),(.int .i64 Me),(.int .i64 WI)])]),false,false⟩,some ⟨1,5,(.ints .u8 Iy),false,true⟩] (.GU []) [some ⟨7,171,(.vals [(.agg [(.int .i64 r.1),(.bool r.2.1),(.PN 0 0 2 r.2.2.1),(.ms 1 r.2.2.2.1.length),(.int .i32 r.2.2.2.2.1),(.int .i64 r.2.2.2.2.2.1),(.int .i64 r.2.2.2.2.2.2)])]),false,false⟩,some ⟨1,5,(.ints .u8 r.2.2.2.1),false,true⟩]:=by
 refine A8 1 .z rfl Tryz.func189 rfl (by kernel_rfl) ?_
 refine gO ?_
 refine bnd h (fun y1 hy1 h=>?_)
 refine AX (oC [0,1] (U8 _ _ _ _ _ _ _ _ _ hy1)) ?_
 refine gO ?_
 refine bnd h (fun y2 hy2 h=>?_)
 refine AX (oC [0,1] (OH _ _ _ _ _ _ _ _ _ hy2)) ?_
 refine gO ?_
 refine bnd h (fun y3 hy3 h=>?_)
 refine AX (oC [0,2] (VT _ _ _ _ _ _ _ _ _ _ hy3)) ?_
 exact Oc (pI [0,2]) h
theorem U9 (Ma Mc Md Iy Jp Me WI AZ p_r) (r) (h:Jk Ma Mc Md Iy Jp Me WI AZ p_r=some r):Bc 1 pl 140 [(.mp 0 0 0),(Az AZ),(.int .i32 p_r)] [some ⟨7,171,(.vals [(.agg [(.int .i64 Ma),(.bool Mc),(.PN 0 0 2 Md),(.ms 1 Iy.length),(.int .i32 Jp),(.int .i64 Me),(.int .i64 WI)])]),false,false⟩,some ⟨1,5,(.ints .u8 Iy),false,true⟩] (.GU []) [some ⟨7,171,(.vals [(.agg [(.int .i64 r.1),(.bool r.2.1),(.PN 0 0 2 r.2.2.1),(.ms 1 r.2.2.2.1.length),(.int .i32 r.2.2.2.2.1),(.int .i64 r.2.2.2.2.2.1),(.int .i64 r.2.2.2.2.2.2)])]),false,false⟩,some ⟨1,5,(.ints .u8 r.2.2.2.1),false,true⟩]:=by
 refine A8 1 (.t false .z (.t false .z (.t false (.t false (.t false .z (.t false .z (.t false (.t false (.t false .z (.t true .z .z)) .z) .z))) .z) .z))) rfl Tryz.func140 rfl (by kernel_rfl) ?_
 refine lB (fun s3:Int×Bool×Bool×(List Int)×Int×Int×Int×Int×Int=>BS 28 [(0,(.mp 0 0 0)),(2,(.int .i32 p_r)),(6,(.int .i64 s3.2.2.2.2.2.2.2.1)),(9,(Az AZ)),(10,(.int .i64 ((AZ.length:Nat):Int))),(11,(.int .i64 s3.2.2.2.2.2.2.2.2))] [some ⟨7,171,(.vals [(.agg [(.int .i64 s3.1),(.bool s3.2.1),(.PN 0 0 2 s3.2.2.1),(.ms 1 s3.2.2.2.1.length),(.int .i32 s3.2.2.2.2.1),(.int .i64 s3.2.2.2.2.2.1),(.int .i64 s3.2.2.2.2.2.2.1)])]),false,false⟩,some ⟨1,5,(.ints .u8 s3.2.2.2.1),false,true⟩]) h ?_ ?_
 ·exact wG [0,1]
 intro x5 h k5 s3 st5 Kn5 hn5 h5 hs5
 refine bR h5 ?_ ?_
 ·intro _ h5
  refine GH h5 fun h5=>?_
  refine cB (fun s6:Int×Bool×Bool×(List Int)×Int×Int×Int=>BS 28 [(0,(.mp 0 0 0)),(2,(.int .i32 p_r)),(6,(.int .i64 s3.2.2.2.2.2.2.2.1)),(8,(.int .i32 (AZ.getD (s3.2.2.2.2.2.2.2.2.toNat) 0))),(9,(Az AZ)),(10,(.int .i64 ((AZ.length:Nat):Int))),(11,(.int .i64 s3.2.2.2.2.2.2.2.2))] [some ⟨7,171,(.vals [(.agg [(.int .i64 s6.1),(.bool s6.2.1),(.PN 0 0 2 s6.2.2.1),(.ms 1 s6.2.2.2.1.length),(.int .i32 s6.2.2.2.2.1),(.int .i64 s6.2.2.2.2.2.1),(.int .i64 s6.2.2.2.2.2.2)])]),false,false⟩,some ⟨1,5,(.ints .u8 s6.2.2.2.1),false,true⟩]) h5 ?_ ?_
  ·intro ZW PK x10 h10 h5
   refine bR h10 ?_ ?_
   ·intro _ h10
    refine gO ?_
    refine bnd h10 (fun y8 hy8 h10=>?_)
    refine AX (oC [0,1] (Va _ _ _ _ _ _ _ _ _ _ hy8)) ?_
    exact Cg (pI [0,2]) PK h5 h10
   ·intro _ h10
    exact Cg (pI [0,1]) PK h5 h10
  ·clear h5
   intro s6 Vi
   unfold Gf at Vi
   exact Cg (pI [0,1]) hn5 hs5 Vi
 ·intro _ h5
  have e:=Option.some.inj h5;subst e
  have e:=Ao hs5;subst e
  exact Oc (pI [0,1]) h
theorem Tn (CV Ci Fp CO Fv Fw EP) (r) (h:H6 CV Ci Fp CO Fv Fw EP=some r):Bc 2 pl 141 [(.mp 0 0 2)] [some ⟨7,171,(.vals [(.agg [(.int .i64 CV),(.bool Ci),(.PN 0 0 2 Fp),(.ms 1 CO.length),(.int .i32 Fv),(.int .i64 Fw),(.int .i64 EP)])]),false,false⟩,some ⟨1,5,(.ints .u8 CO),false,true⟩] (.int .i64 r.2.2.2.2.2.2) [some ⟨7,171,(.vals [(.agg [(.int .i64 r.1),(.bool r.2.1),(.PN 0 0 2 r.2.2.1),(.ms 1 CO.length),(.int .i32 r.2.2.2.1),(.int .i64 r.2.2.2.2.1),(.int .i64 r.2.2.2.2.2.1)])]),false,false⟩,some ⟨1,5,(.ints .u8 CO),false,true⟩]:=by
 refine A8 2 .z rfl Tryz.func141 rfl (by kernel_rfl) ?_
 unfold H6 at h
 exact Oc (pI [0,1]) h
theorem QC (CV Ci Fp CO Fv Fw EP) (r) (h:Iw CV Ci Fp CO Fv Fw EP=some r):Bc 2 pl 119 [(.mp 0 0 2)] [some ⟨7,171,(.vals [(.agg [(.int .i64 CV),(.bool Ci),(.PN 0 0 2 Fp),(.ms 1 CO.length),(.int .i32 Fv),(.int .i64 Fw),(.int .i64 EP)])]),false,false⟩,some ⟨1,5,(.ints .u8 CO),false,true⟩] (.str r.2.2.2.2.2.2.2) [some ⟨7,171,(.vals [(.agg [(.int .i64 r.1),(.bool r.2.1),(.PN 0 0 2 r.2.2.1),(.ms 1 r.2.2.2.1.length),(.int .i32 r.2.2.2.2.1),(.int .i64 r.2.2.2.2.2.1),(.int .i64 r.2.2.2.2.2.2.1)])]),false,false⟩,some ⟨1,5,(.ints .u8 r.2.2.2.1),true,true⟩]:=by
 refine A8 2 .z rfl Tryz.func119 rfl (by kernel_rfl) ?_
 refine gO ?_
 refine And.intro (by first|exact Nat.le_refl _|(simp[Row.len];try omega)) ?_
 refine gO ?_
 obtain⟨p1,h⟩:=Jq h
 refine And.intro (by first|rfl|simp) (And.intro (by simp) (And.intro p1 ?_))
 exact Oc (pI [0,1]) h
theorem oF (AZ) (r) (h:NR AZ=some r):Contract pl 84 [(Az AZ)] [] (AV.GU [(AV.str r.1),(AV.err r.2)]) []:=by
 refine Af (.t false .z (.t true .z (.t false .z (.t false .z (.t false .z (.t true .z (.t true .z (.t false .z (.t true .z .z))))))))) Tryz.func84 rfl (by kernel_rfl) ?_
 refine gO ?_
 refine bnd h (fun x37 h37 h=>?_)
 refine DT (fun s1:Unit=>BS 94 [(0,(Az AZ))] []) (fun s1:Unit=>K9 AZ s1=some r) ?_ ?_
 ·intro AkU AdC
  refine gO ?_
  refine AO (fun s29:Int=>BS 94 [(0,(Az AZ)),(12,(Az AZ)),(13,(.int .i64 ((AZ.length:Nat):Int))),(14,(.int .i64 s29))] []) h37 (wG []) ?_
  intro k31 s29 AqI AmD AhZ Yr Aj6
  refine bR Yr ?_ ?_
  ·intro _ Yr
   refine GH Yr fun Yr=>?_
   refine cL Yr (Jm _) ?_
   intro y32 Yr
   refine bR Yr ?_ ?_
   ·intro _ Yr
    refine cL Yr (Jf _ _) ?_
    intro y33 Yr
    have e:=Option.some.inj Yr;subst e
    have e:=Ao Aj6;subst e
    exact BP h
   ·intro _ Yr
    exact Cg (pI []) AhZ Aj6 Yr
  ·intro _ Yr
   have e:=Option.some.inj Yr;subst e
   have e:=Ao Aj6;subst e
   refine gO ?_
   exact AdC _ () h (wG [])
 ·clear h h37
  intro s1 hc38
  refine bR hc38 ?_ ?_
  ·intro _ hc38
   refine cL hc38 (Jf _ _) ?_
   intro y3 hc38
   exact BP hc38
  ·intro _ hc38
   refine cB (fun s4:Int×Bool×Bool×(List Int)×Int×Int×Int×(List Int)=>BS 94 [(0,(Az AZ)),(6,(.mp 0 0 0)),(7,(.ms 2 s4.2.2.2.2.2.2.2.length))] [some ⟨7,171,(.vals [(.agg [(.int .i64 s4.1),(.bool s4.2.1),(.PN 0 0 2 s4.2.2.1),(.ms 1 s4.2.2.2.1.length),(.int .i32 s4.2.2.2.2.1),(.int .i64 s4.2.2.2.2.2.1),(.int .i64 s4.2.2.2.2.2.2.1)])]),false,false⟩,some ⟨1,5,(.ints .u8 s4.2.2.2.1),false,true⟩,some ⟨1,21,(.ints .i32 s4.2.2.2.2.2.2.2),false,true⟩]) hc38 ?_ ?_
   ·intro AmH AjV x39 h39 hc38
    refine gO ?_
    refine AO (fun Kr:Int×Bool×Bool×(List Int)×Int×Int×Int×(List Int)×Int=>BS 94 [(0,(Az AZ)),(6,(.mp 0 0 0)),(7,(.ms 2 Kr.2.2.2.2.2.2.2.1.length)),(34,(Az AZ)),(35,(.int .i64 ((AZ.length:Nat):Int))),(36,(.int .i64 Kr.2.2.2.2.2.2.2.2))] [some ⟨7,171,(.vals [(.agg [(.int .i64 Kr.1),(.bool Kr.2.1),(.PN 0 0 2 Kr.2.2.1),(.ms 1 Kr.2.2.2.1.length),(.int .i32 Kr.2.2.2.2.1),(.int .i64 Kr.2.2.2.2.2.1),(.int .i64 Kr.2.2.2.2.2.2.1)])]),false,false⟩,some ⟨1,5,(.ints .u8 Kr.2.2.2.1),false,true⟩,some ⟨1,21,(.ints .i32 Kr.2.2.2.2.2.2.2.1),false,true⟩]) h39 (JK (UW 7 1 21 (.ints .i32 []) _ rfl rfl trivial (by first|exact Nat.zero_le _|(simp;done)|decide)) (JK (Xp 0 0 3 _ [(.agg [(.int .i64 (72:Int)),(.bool false), .Lf,(.sl (some true) 0 fun _=>.unk),(.int .i32 (128:Int)),(.int .i64 (0:Int)),(.int .i64 (0:Int))])] [(.int .i64 (72:Int)),(.bool false), .Lf,(.sl (some true) 0 fun _=>.unk),(.int .i32 (128:Int)),(.int .i64 (0:Int)),(.int .i64 (0:Int))] 1 5 (.ints .u8 []) _ rfl rfl rfl rfl rfl trivial (by first|exact Nat.zero_le _|simp)) (wG [0,2,1]))) ?_
    intro k25 Kr An4 Aje yM Qd AdG
    refine bR Qd ?_ ?_
    ·intro _ Qd
     refine GH Qd fun Qd=>?_
     refine bR Qd ?_ ?_
     ·intro _ Qd
      refine gO ?_
      refine bnd Qd (fun wL Akf Qd=>?_)
      refine AX (oC [0,1] (Kc _ _ _ _ _ _ _ _ _ Akf)) ?_
      exact Cg (pI [0,3,2]) yM AdG Qd
     ·intro _ Qd
      refine gO ?_
      obtain⟨p40,Qd⟩:=Jq Qd
      refine⟨[],1,(.ints .i32 [(AZ.getD (Kr.2.2.2.2.2.2.2.2.toNat) 0)]),⟨by simp[Row.len]<;>omega,rfl,_,rfl,by simp[Row.len]<;>omega,fun j hj=>.inl rfl⟩,trivial,fun j hj=>rfl,?_⟩
      conv=>whnf
      refine⟨by simp[Row.len];try omega,p40,by omega,?_⟩
      exact Cg (pI [0,1,4]) yM AdG Qd
    ·intro _ Qd
     have e:=Option.some.inj Qd;subst e
     have e:=Ao AdG;subst e
     refine gO ?_
     exact AjV _ (Kr.1,Kr.2.1,Kr.2.2.1,Kr.2.2.2.1,Kr.2.2.2.2.1,Kr.2.2.2.2.2.1,Kr.2.2.2.2.2.2.1,Kr.2.2.2.2.2.2.2.1) hc38 (wG [0,1,2])
   ·clear hc38
    intro s4 Wq
    refine cB (fun s6:Int×Bool×Bool×(List Int)×Int×Int×Int=>BS 94 [(0,(Az AZ)),(6,(.mp 0 0 0)),(7,(.ms 2 s4.2.2.2.2.2.2.2.length))] [some ⟨7,171,(.vals [(.agg [(.int .i64 s6.1),(.bool s6.2.1),(.PN 0 0 2 s6.2.2.1),(.ms 1 s6.2.2.2.1.length),(.int .i32 s6.2.2.2.2.1),(.int .i64 s6.2.2.2.2.2.1),(.int .i64 s6.2.2.2.2.2.2)])]),false,false⟩,some ⟨1,5,(.ints .u8 s6.2.2.2.1),false,true⟩,some ⟨1,21,(.ints .i32 s4.2.2.2.2.2.2.2),false,true⟩]) Wq ?_ ?_
    ·intro AmI AfW x42 uG Wq
     refine bR uG ?_ ?_
     ·intro _ uG
      refine gO ?_
      refine bnd uG (fun y21 Ake uG=>?_)
      refine AX (oC [0,1] (Kc _ _ _ _ _ _ _ _ _ Ake)) ?_
      exact Cg (pI [0,3,2]) AfW Wq uG
     ·intro _ uG
      exact Cg (pI [0,1,2]) AfW Wq uG
    ·clear Wq
     intro s6 Ng
     refine gO ?_
     refine bnd Ng (fun y8 hy8 Ng=>?_)
     refine Or.inr (AX (oC [2] (Rv _ _ hy8)) ?_)
     refine gO ?_
     obtain⟨p44,Ng⟩:=Jq Ng
     refine cB (fun s9:Int×Bool×Bool×(List Int)×Int×Int×Int=>BS 94 [(6,(.mp 0 0 0))] [some ⟨7,171,(.vals [(.agg [(.int .i64 s9.1),(.bool s9.2.1),(.PN 0 0 2 s9.2.2.1),(.ms 1 s9.2.2.2.1.length),(.int .i32 s9.2.2.2.2.1),(.int .i64 s9.2.2.2.2.2.1),(.int .i64 s9.2.2.2.2.2.2)])]),false,false⟩,some ⟨1,5,(.ints .u8 s9.2.2.2.1),false,true⟩]) Ng ?_ ?_
     ·intro AoP hn45 x45 h45 Ng
      refine gO ?_
      refine bnd h45 (fun gN Aka h45=>?_)
      refine Or.inr (AX (oC [2] (P8 _ _ Aka)) ?_)
      refine gO ?_
      obtain⟨p46,h45⟩:=Jq h45
      refine gO ?_
      refine AO (fun s16:Int×Bool×Bool×(List Int)×Int×Int×Int×Int=>BS 94 [(0,(Az AZ)),(6,(.mp 0 0 0)),(72,(.ms 2 gN.2)),(73,(.int .i64 ((gN.2:Nat):Int))),(74,(.int .i64 s16.2.2.2.2.2.2.2))] [some ⟨7,171,(.vals [(.agg [(.int .i64 s16.1),(.bool s16.2.1),(.PN 0 0 2 s16.2.2.1),(.ms 1 s16.2.2.2.1.length),(.int .i32 s16.2.2.2.2.1),(.int .i64 s16.2.2.2.2.2.1),(.int .i64 s16.2.2.2.2.2.2.1)])]),false,false⟩,some ⟨1,5,(.ints .u8 s16.2.2.2.1),false,true⟩,some ⟨1,21,(.ints .i32 gN.1),false,true⟩]) h45 (wG [0,1,2]) ?_
      intro k18 s16 AiE AcS XG Gu Vl
      refine bR Gu ?_ ?_
      ·intro _ Gu
       refine GH Gu fun Gu=>?_
       refine gO ?_
       refine bnd Gu (fun wO Akd Gu=>?_)
       refine AX (oC [0,1] (U9 _ _ _ _ _ _ _ _ _ _ Akd)) ?_
       exact Cg (pI [0,3,2]) XG Vl Gu
      ·intro _ Gu
       have e:=Option.some.inj Gu;subst e
       have e:=Ao Vl;subst e
       refine gO ?_
       exact hn45 _ (s16.1,s16.2.1,s16.2.2.1,s16.2.2.2.1,s16.2.2.2.2.1,s16.2.2.2.2.2.1,s16.2.2.2.2.2.2.1) Ng (wG [0,1])
     ·clear Ng
      intro s9 hc47
      refine gO ?_
      refine bnd hc47 (fun Vw Abo hc47=>?_)
      refine AX (oC [0,1] (Tn _ _ _ _ _ _ _ _ Abo)) ?_
      refine bR hc47 ?_ ?_
      ·intro _ hc47
       refine cL hc47 (Jf _ _) ?_
       intro P5 hc47
       exact BP hc47
      ·intro _ hc47
       refine gO ?_
       refine bnd hc47 (fun y13 Af4 hc47=>?_)
       refine AX (oC [0,1] (QC _ _ _ _ _ _ _ _ Af4)) ?_
       refine gO ?_
       obtain⟨p48,hc47⟩:=Jq hc47
       exact BP hc47
theorem U5 (AZ) (r) (h:Gv AZ=some r):Contract pl 38 [(Az AZ)] [] (AV.GU [(AV.str r.1),(AV.err r.2)]) []:=by
 refine Af .z Tryz.func38 rfl (by kernel_rfl) ?_
 refine cL h (YM _) ?_
 intro y1 h
 refine cL h (KT _) ?_
 intro y2 h
 refine bR h ?_ ?_
 ·intro _ h
  exact BP h
 ·intro _ h
  refine cL h (oF _) ?_
  intro y3 h
  exact BP h
theorem iZ (AL Bq) (r) (h:Pp AL Bq=some r):Contract pl 47 [(Az AL),(Az Bq)] [] (AV.int .i64 r) []:=by
 refine Af (.t false .z (.t false .z (.t true (.t false (.t false (.t false (.t true .z .z) .z) .z) .z) (.t false (.t true .z .z) .z)))) Tryz.func47 rfl (by kernel_rfl) ?_
 refine cB (fun s1:Int=>BS 40 [(0,(Az AL)),(1,(Az Bq)),(5,(.int .i64 s1))] []) h ?_ ?_
 ·intro AaC Ws x12 h12 h
  refine gO ?_
  refine AO (fun s6:Int=>BS 40 [(0,(Az AL)),(1,(Az Bq)),(5,(.int .i64 s6))] []) h12 (wG []) ?_
  intro k8 s6 st8 Kn8 qQ VY hs8
  refine cB (fun s9:Bool=>BS 40 [(0,(Az AL)),(1,(Az Bq)),(5,(.int .i64 s6)),(26,(.bool s9))] []) VY ?_ ?_
  ·intro Ajd yL x13 h13 VY
   exact Cg (pI []) yL VY h13
  ·clear VY
   intro s9 RD
   refine bR RD ?_ ?_
   ·intro _ RD
    exact Cg (pI []) qQ hs8 RD
   ·intro _ RD
    have e:=Option.some.inj RD;subst e
    have e:=Ao hs8;subst e
    refine gO ?_
    exact Ws _ s6 h (wG [])
 ·clear h
  intro s1 Nf
  refine cB (fun s3:Bool=>BS 40 [(5,(.int .i64 s1)),(38,(.bool s3))] []) Nf ?_ ?_
  ·intro Ahf hn16 x16 h16 Nf
   exact Cg (pI []) hn16 Nf h16
  ·clear Nf
   intro s3 hc17
   unfold Pq at hc17
   exact BP hc17
theorem fF (QS DW) (r) (h:NY QS DW=some r):Contract pl 46 [(AV.ip (Az QS) 0),(AV.ip (AB DW) 0)] [] (AV.int .i64 r) []:=by
 refine Af .z Tryz.func46 rfl (by kernel_rfl) ?_
 refine cL h (iR _ _) ?_
 intro y1 h
 refine cL h (iZ _ _) ?_
 intro y2 h
 exact BP h
theorem fJ (AZ) (r) (h:Q6 AZ=some r):Contract pl 50 [(Az AZ)] [] (AV.int .i64 r) []:=by
 refine Af (.t false .z (.t false (.t false (.t false .z (.t false .z (.t false .z (.t false .z (.t true .z .z))))) .z) .z)) Tryz.func50 rfl (by kernel_rfl) ?_
 refine GH h fun h=>?_
 refine bR h ?_ ?_
 ·intro _ h
  exact BP h
 ·intro _ h
  refine GH h fun h=>?_
  refine bR h ?_ ?_
  ·intro _ h
   exact BP h
  ·intro _ h
   refine cB (fun s1:Bool=>BS 35 [(19,(.bool s1))] []) h ?_ ?_
   ·intro Kn3 hn3 x3 h3 h
    exact Cg (pI []) hn3 h h3
   ·clear h
    intro s1 hc4
    unfold SH at hc4
    exact BP hc4
theorem fG (QS) (r) (h:NZ QS=some r):Contract pl 49 [(AV.ip (Az QS) 0)] [] (AV.int .i64 r) []:=by
 refine Af .z Tryz.func49 rfl (by kernel_rfl) ?_
 refine cL h (fJ _) ?_
 intro y1 h
 exact BP h
theorem YJ (AZ p_r) (r) (h:O8 AZ p_r=some r):Contract pl 148 [(Aw AZ),(AV.int .i32 p_r)] [] (AV.bool r) []:=by
 refine Af .z Tryz.func148 rfl (by kernel_rfl) ?_
 refine cL h (Mf _ _) ?_
 intro y1 h
 exact BP h
theorem iQ (JQ p_r) (r) (h:Sk JQ p_r=some r):Contract pl 100 [(FL JQ),(AV.int .i32 p_r)] [] (AV.bool r) []:=by
 refine Af .z Tryz.func100 rfl (by kernel_rfl) ?_
 refine cL h (YJ _ _) ?_
 intro y1 h
 exact BP h
theorem I6 (AZ DW) (r) (h:FV AZ DW=some r):Contract pl 197 [(Aw AZ),(AV.ip (AV.int .i32 DW) 0)] [] (AV.bool r) []:=by
 refine Af .z Tryz.func197 rfl (by kernel_rfl) ?_
 refine cL h (YJ _ _) ?_
 intro y1 h
 exact BP h
theorem nV (p_r) (r) (h:NM p_r=some r):Contract pl 198 [(AV.int .i32 p_r)] [] (AV.bool r) []:=by
 refine Af .z Tryz.func198 rfl (by kernel_rfl) ?_
 unfold NM at h
 exact BP h
theorem nU (JQ p_r) (r) (h:Qw JQ p_r=some r):Contract pl 149 [(FL JQ),(AV.int .i32 p_r)] [] (AV.int .i64 r) []:=by
 refine Af .z Tryz.func149 rfl (by kernel_rfl) ?_
 refine cL h (Jm _) ?_
 intro y1 h
 refine bR h ?_ ?_
 ·intro _ h
  exact BP h
 ·intro _ h
  refine cL h (I6 _ _) ?_
  intro y2 h
  refine bR h ?_ ?_
  ·intro _ h
   exact BP h
  ·intro _ h
   refine cL h (I6 _ _) ?_
   intro y3 h
   refine bR h ?_ ?_
   ·intro _ h
    exact BP h
   ·intro _ h
    refine cL h (nV _) ?_
    intro y4 h
    refine bR h ?_ ?_
    ·intro _ h
     exact BP h
    ·intro _ h
     refine cL h (I6 _ _) ?_
     intro y5 h
     refine bR h ?_ ?_
     ·intro _ h
      exact BP h
     ·intro _ h
      refine cL h (I6 _ _) ?_
      intro y6 h
      refine bR h ?_ ?_
      ·intro _ h
       exact BP h
      ·intro _ h
       refine cL h (I6 _ _) ?_
       intro y7 h
       refine bR h ?_ ?_
       ·intro _ h
        exact BP h
       ·intro _ h
        refine cL h (I6 _ _) ?_
        intro y8 h
        refine bR h ?_ ?_
        ·intro _ h
         exact BP h
        ·intro _ h
         refine cL h (I6 _ _) ?_
         intro y9 h
         exact BP h
theorem YH (JQ p_r) (r) (h:O6 JQ p_r=some r):Contract pl 103 [(FL JQ),(AV.int .i32 p_r)] [] (AV.int .i64 r) []:=by
 refine Af .z Tryz.func103 rfl (by kernel_rfl) ?_
 refine cL h (nU _ _) ?_
 intro y1 h
 refine bR h ?_ ?_
 ·intro _ h
  refine cL h (Mf _ _) ?_
  intro y2 h
  exact BP h
 ·intro _ h
  exact BP h
theorem xB (p_r) (r) (h:TU p_r=some r):Contract pl 104 [(AV.int .i32 p_r)] [] (AV.bool r) []:=by
 refine Af .z Tryz.func104 rfl (by kernel_rfl) ?_
 refine cL h (Kv _) ?_
 intro y1 h
 exact BP h
theorem nZ (p_r DW) (r) (h:Mi p_r DW=some r):Contract pl 102 [(AV.int .i32 p_r),(AV.ip (AB DW) 0)] [] (AV.bool r) []:=by
 refine Af .z Tryz.func102 rfl (by kernel_rfl) ?_
 refine cL h (Uk _ _) ?_
 intro y1 h
 refine cL h (YH _ _) ?_
 intro y2 h
 refine cL h (xB _) ?_
 intro y3 h
 exact BP h
theorem Mq (BA Ua) (r) (h:Fx BA Ua=some r):Contract pl 101 [(Az BA),(AV.fn (.func 102) [] [(AV.ip (AB Ua) 0)])] [] (AV.int .i64 r) []:=by
 refine Af (.t false .z (.t true .z .z)) Tryz.func101 rfl (by kernel_rfl) ?_
 refine gO ?_
 refine bnd h (fun x11 h11 h=>?_)
 refine DT (fun s1:Unit=>BS 19 [] []) (fun s1:Unit=>some (-1:Int)=some r) ?_ ?_
 ·intro U0 KX
  refine gO ?_
  refine AO (fun s4:Int=>BS 19 [(0,(Az BA)),(1,(.fn (.func 102) [] [(.ip (AB Ua) 0)])),(7,(.int .i64 ((BA.length:Nat):Int))),(8,(.int .i64 s4))] []) h11 (wG []) ?_
  intro k6 s4 eU eZ QU Ce hs6
  refine bR Ce ?_ ?_
  ·intro _ Ce
   refine GH Ce fun Ce=>?_
   refine cL Ce (nZ _ _) ?_
   intro y7 Ce
   refine bR Ce ?_ ?_
   ·intro _ Ce
    have e:=Option.some.inj Ce;subst e
    have e:=Ao hs6;subst e
    exact BP h
   ·intro _ Ce
    exact Cg (pI []) QU hs6 Ce
  ·intro _ Ce
   have e:=Option.some.inj Ce;subst e
   have e:=Ao hs6;subst e
   refine gO ?_
   exact KX _ () h (wG [])
 ·clear h h11
  intro s1 Gq
  exact BP Gq
theorem xA (AQ AZ) (r) (h:WC AQ AZ=some r):Contract pl 52 [(AB AQ),(Az AZ)] [] (AV.int .i64 r) []:=by
 refine Af .z Tryz.func52 rfl (by kernel_rfl) ?_
 refine GH h fun h=>?_
 refine cL h (iQ _ _) ?_
 intro y1 h
 refine bR h ?_ ?_
 ·intro _ h
  exact BP h
 ·intro _ h
  refine cL h (Mq _ _) ?_
  intro y2 h
  exact BP h
theorem fH (QS DW) (r) (h:N7 QS DW=some r):Contract pl 51 [(AV.ip (AB QS) 0),(AV.ip (Az DW) 0)] [] (AV.int .i64 r) []:=by
 refine Af .z Tryz.func51 rfl (by kernel_rfl) ?_
 refine cL h (xA _ _) ?_
 intro y1 h
 exact BP h
theorem Vz (p_r) (r) (h:LX p_r=some r):Contract pl 154 [(AV.int .i32 p_r)] [] (AV.int .i64 r) []:=by
 refine Af (.t false .z (.t false (.t false (.t false .z (.t false .z (.t false .z (.t false .z (.t false .z (.t false .z (.t false .z (.t false .z (.t true .z (.t false .z (.t false .z (.t false .z (.t true .z (.t false .z (.t true .z .z))))))))))))))) .z) .z)) Tryz.func154 rfl (by kernel_rfl) ?_
 refine bR h ?_ ?_
 ·intro _ h
  exact BP h
 ·intro _ h
  refine bR h ?_ ?_
  ·intro _ h
   exact BP h
  ·intro _ h
   refine bR h ?_ ?_
   ·intro _ h
    exact BP h
   ·intro _ h
    refine bR h ?_ ?_
    ·intro _ h
     exact BP h
    ·intro _ h
     refine cB (fun s1:Bool=>BS 37 [(0,(.int .i32 p_r)),(15,(.bool s1))] []) h ?_ ?_
     ·intro Kn7 Y5 x7 h7 h
      exact Cg (pI []) Y5 h h7
     ·clear h
      intro s1 hc8
      refine bR hc8 ?_ ?_
      ·intro _ hc8
       exact BP hc8
      ·intro _ hc8
       refine bR hc8 ?_ ?_
       ·intro _ hc8
        exact BP hc8
       ·intro _ hc8
        refine cB (fun s3:Bool=>BS 37 [(0,(.int .i32 p_r)),(23,(.bool s3))] []) hc8 ?_ ?_
        ·intro Kn9 kC x9 h9 hc8
         exact Cg (pI []) kC hc8 h9
        ·clear hc8
         intro s3 FW
         refine bR FW ?_ ?_
         ·intro _ FW
          exact BP FW
         ·intro _ FW
          refine cB (fun s5:Bool=>BS 37 [(30,(.bool s5))] []) FW ?_ ?_
          ·intro U0 KX x11 h11 FW
           exact Cg (pI []) KX FW h11
          ·clear FW
           intro s5 Gq
           unfold Om at Gq
           exact BP Gq
theorem fB (JQ p_r) (r) (h:NV JQ p_r=some r):Contract pl 201 [(FL JQ),(AV.int .i32 p_r)] [] (AV.int .i64 r) []:=by
 refine Af .z Tryz.func201 rfl (by kernel_rfl) ?_
 refine cL h (Mf _ _) ?_
 intro y1 h
 exact BP h
theorem Ri (FX DW EX) (r) (h:Ja FX DW EX=some r):Contract pl 200 [(AV.int .i64 FX),(AV.ip (Az DW) 0),(AV.ip (AB EX) 0)] [] (AV.int .i64 r) []:=by
 refine Af (.t false .z (.t false (.t true .z .z) .z)) Tryz.func200 rfl (by kernel_rfl) ?_
 refine cB (fun s1:Bool=>BS 20 [(0,(.int .i64 FX)),(1,(.ip (Az DW) 0)),(2,(.ip (AB EX) 0)),(12,(.bool s1))] []) h ?_ ?_
 ·intro Kn4 aS x4 h4 h
  exact Cg (pI []) aS h h4
 ·clear h
  intro s1 aQ
  refine bR aQ ?_ ?_
  ·intro _ aQ
   exact BP aQ
  ·intro _ aQ
   refine GH aQ fun aQ=>?_
   refine cL aQ (fB _ _) ?_
   intro y3 aQ
   exact BP aQ
theorem IC (FX Aby EX XM) (r) (h:Em FX Aby EX XM=some r):Contract pl 202 [(AV.int .i64 FX),(AV.int .i64 Aby),(AV.ip (AV.fn (.func 200) [] [(AV.ip (Az EX) 0),(AV.ip (AB XM) 0)]) 0)] [] (AV.int .i64 r) []:=by
 refine Af (.t false .z (.t true .z .z)) Tryz.func202 rfl (by kernel_rfl) ?_
 refine cB (fun s1:Int=>BS 16 [(0,(.int .i64 s1)),(2,(.ip (.fn (.func 200) [] [(.ip (Az EX) 0),(.ip (AB XM) 0)]) 0))] []) h ?_ ?_
 ·intro ZW PK x10 h10 h
  refine gO ?_
  refine AO (fun s5:Int=>BS 16 [(0,(.int .i64 s5)),(1,(.int .i64 Aby)),(2,(.ip (.fn (.func 200) [] [(.ip (Az EX) 0),(.ip (AB XM) 0)]) 0))] []) h10 (wG []) ?_
  intro k7 s5 st7 Kn7 Y5 Hf hs7
  refine cL Hf (Ri _ _ _) ?_
  intro y8 Hf
  refine bR Hf ?_ ?_
  ·intro _ Hf
   exact Cg (pI []) Y5 hs7 Hf
  ·intro _ Hf
   have e:=Option.some.inj Hf;subst e
   have e:=Ao hs7;subst e
   refine gO ?_
   exact PK _ s5 h (wG [])
 ·clear h
  intro s1 Vi
  refine cL Vi (Ri _ _ _) ?_
  intro y3 Vi
  exact BP Vi
theorem YK (AQ AZ p_i) (r) (h:Mx AQ AZ p_i=some r):Contract pl 155 [(AB AQ),(Az AZ),(AV.int .i64 p_i)] [] (AV.bool r) []:=by
 refine Af .z Tryz.func155 rfl (by kernel_rfl) ?_
 refine cL h (IC _ _ _ _) ?_
 intro y1 h
 refine cL h (IC _ _ _ _) ?_
 intro y2 h
 exact BP h
theorem Yj (p_r DW) (r) (h:Oj p_r DW=some r):Contract pl 157 [(AV.int .i32 p_r),(AV.ip (AB DW) 0)] [] (AV.bool r) []:=by
 refine Af .z Tryz.func157 rfl (by kernel_rfl) ?_
 refine cL h (Jz _ _) ?_
 intro y1 h
 exact BP h
theorem KQ (AZ p_i OI) (r) (h:EC AZ p_i OI=some r):Contract pl 156 [(Az AZ),(AV.int .i64 p_i),(AV.fn (.func 157) [] [(AV.ip (AB OI) 0)])] [] (AV.bool r) []:=by
 refine Af .z Tryz.func156 rfl (by kernel_rfl) ?_
 refine bR h ?_ ?_
 ·intro _ h
  refine bR h ?_ ?_
  ·intro _ h
   refine GH h fun h=>?_
   refine cL h (Yj _ _) ?_
   intro y1 h
   exact BP h
  ·intro _ h
   exact BP h
 ·intro _ h
  exact BP h
theorem Yk (p_r) (r) (h:Lr p_r=some r):Contract pl 159 [(AV.int .i32 p_r)] [] (AV.bool r) []:=by
 refine Af .z Tryz.func159 rfl (by kernel_rfl) ?_
 unfold Lr at h
 exact BP h
theorem KR (AZ p_i) (r) (h:ED AZ p_i=some r):Contract pl 156 [(Az AZ),(AV.int .i64 p_i),(AV.fn (.func 159) [] [])] [] (AV.bool r) []:=by
 refine Af .z Tryz.func156 rfl (by kernel_rfl) ?_
 refine bR h ?_ ?_
 ·intro _ h
  refine bR h ?_ ?_
  ·intro _ h
   refine GH h fun h=>?_
   refine cL h (Yk _) ?_
   intro y1 h
   exact BP h
  ·intro _ h
   exact BP h
 ·intro _ h
  exact BP h
theorem Oe (vG DW) (r) (h:Ie vG DW=some r):Contract pl 151 [(Jg vG),(AV.ip (AB DW) 0)] [] (AV.fn (.func 152) [] [(AV.ip (Jg r.1) 0),(AV.ip (AB r.2) 0)]) []:=by
 refine Af .z Tryz.func151 rfl (by kernel_rfl) ?_
 unfold Ie at h
 exact BP h
theorem Z5 (JQ p_r) (r) (h:Nl JQ p_r=some r):Contract pl 153 [(FL JQ),(AV.int .i32 p_r)] [] (AV.int .i64 r) []:=by
 refine Af .z Tryz.func153 rfl (by kernel_rfl) ?_
 refine cL h (Mf _ _) ?_
 intro y1 h
 exact BP h
theorem V9 (p_r DW EX) (r) (h:Ki p_r DW EX=some r):Contract pl 152 [(AV.int .i32 p_r),(AV.ip (Jg DW) 0),(AV.ip (AB EX) 0)] [] (AV.bool r) []:=by
 refine Af (.t false .z (.t true .z .z)) Tryz.func152 rfl (by kernel_rfl) ?_
 refine gO ?_
 refine bnd h (fun x11 h11 h=>?_)
 refine DT (fun s1:Unit=>BS 20 [] []) (fun s1:Unit=>some false=some r) ?_ ?_
 ·intro U0 KX
  refine gO ?_
  refine AO (fun s4:Int=>BS 20 [(0,(.int .i32 p_r)),(2,(.ip (AB EX) 0)),(7,(Jg DW)),(8,(.int .i64 ((DW.length:Nat):Int))),(9,(.int .i64 s4))] []) h11 (wG []) ?_
  intro k6 s4 eU eZ QU Ce hs6
  refine bR Ce ?_ ?_
  ·intro _ Ce
   refine GH Ce fun Ce=>?_
   refine cL Ce (Z5 _ _) ?_
   intro y7 Ce
   refine bR Ce ?_ ?_
   ·intro _ Ce
    have e:=Option.some.inj Ce;subst e
    have e:=Ao hs6;subst e
    exact BP h
   ·intro _ Ce
    exact Cg (pI []) QU hs6 Ce
  ·intro _ Ce
   have e:=Option.some.inj Ce;subst e
   have e:=Ao hs6;subst e
   refine gO ?_
   exact KX _ () h (wG [])
 ·clear h h11
  intro s1 Gq
  exact BP Gq
theorem GV (AZ p_i OI XM) (r) (h:Dc AZ p_i OI XM=some r):Contract pl 156 [(Az AZ),(AV.int .i64 p_i),(AV.fn (.func 152) [] [(AV.ip (Jg OI) 0),(AV.ip (AB XM) 0)])] [] (AV.bool r) []:=by
 refine Af .z Tryz.func156 rfl (by kernel_rfl) ?_
 refine bR h ?_ ?_
 ·intro _ h
  refine bR h ?_ ?_
  ·intro _ h
   refine GH h fun h=>?_
   refine cL h (V9 _ _ _) ?_
   intro y1 h
   exact BP h
  ·intro _ h
   exact BP h
 ·intro _ h
  exact BP h
theorem Og (AZ OI EX) (r) (h:Fa AZ OI EX=some r):Contract pl 160 [(Az AZ),(AV.fn (.func 152) [] [(AV.ip (Jg OI) 0),(AV.ip (AB EX) 0)])] [] (AV.bool r) []:=by
 refine Af (.t false .z (.t true .z .z)) Tryz.func160 rfl (by kernel_rfl) ?_
 refine gO ?_
 refine bnd h (fun x11 h11 h=>?_)
 refine DT (fun s1:Unit=>BS 16 [] []) (fun s1:Unit=>some false=some r) ?_ ?_
 ·intro U0 KX
  refine gO ?_
  refine AO (fun s4:Int=>BS 16 [(0,(Az AZ)),(1,(.fn (.func 152) [] [(.ip (Jg OI) 0),(.ip (AB EX) 0)])),(7,(.int .i64 ((AZ.length:Nat):Int))),(8,(.int .i64 s4))] []) h11 (wG []) ?_
  intro k6 s4 eU eZ QU Ce hs6
  refine bR Ce ?_ ?_
  ·intro _ Ce
   refine cL Ce (GV _ _ _ _) ?_
   intro y7 Ce
   refine bR Ce ?_ ?_
   ·intro _ Ce
    have e:=Option.some.inj Ce;subst e
    have e:=Ao hs6;subst e
    exact BP h
   ·intro _ Ce
    exact Cg (pI []) QU hs6 Ce
  ·intro _ Ce
   have e:=Option.some.inj Ce;subst e
   have e:=Ao hs6;subst e
   refine gO ?_
   exact KX _ () h (wG [])
 ·clear h h11
  intro s1 Gq
  exact BP Gq
theorem Yl (p_r DW) (r) (h:Ol p_r DW=some r):Contract pl 161 [(AV.int .i32 p_r),(AV.ip (AV.int .i64 DW) 0)] [] (AV.bool r) []:=by
 refine Af .z Tryz.func161 rfl (by kernel_rfl) ?_
 refine cL h (Vz _) ?_
 intro y1 h
 exact BP h
theorem P7 (AZ p_i OI) (r) (h:F3 AZ p_i OI=some r):Contract pl 156 [(Az AZ),(AV.int .i64 p_i),(AV.fn (.func 161) [] [(AV.ip (AV.int .i64 OI) 0)])] [] (AV.bool r) []:=by
 refine Af .z Tryz.func156 rfl (by kernel_rfl) ?_
 refine bR h ?_ ?_
 ·intro _ h
  refine bR h ?_ ?_
  ·intro _ h
   refine GH h fun h=>?_
   refine cL h (Yl _ _) ?_
   intro y1 h
   exact BP h
  ·intro _ h
   exact BP h
 ·intro _ h
  exact BP h
theorem OP (AZ OI) (r) (h:Fy AZ OI=some r):Contract pl 160 [(Az AZ),(AV.fn (.func 161) [] [(AV.ip (AV.int .i64 OI) 0)])] [] (AV.bool r) []:=by
 refine Af (.t false .z (.t true .z .z)) Tryz.func160 rfl (by kernel_rfl) ?_
 refine gO ?_
 refine bnd h (fun x11 h11 h=>?_)
 refine DT (fun s1:Unit=>BS 16 [] []) (fun s1:Unit=>some false=some r) ?_ ?_
 ·intro U0 KX
  refine gO ?_
  refine AO (fun s4:Int=>BS 16 [(0,(Az AZ)),(1,(.fn (.func 161) [] [(.ip (.int .i64 OI) 0)])),(7,(.int .i64 ((AZ.length:Nat):Int))),(8,(.int .i64 s4))] []) h11 (wG []) ?_
  intro k6 s4 eU eZ QU Ce hs6
  refine bR Ce ?_ ?_
  ·intro _ Ce
   refine cL Ce (P7 _ _ _) ?_
   intro y7 Ce
   refine bR Ce ?_ ?_
   ·intro _ Ce
    have e:=Option.some.inj Ce;subst e
    have e:=Ao hs6;subst e
    exact BP h
   ·intro _ Ce
    exact Cg (pI []) QU hs6 Ce
  ·intro _ Ce
   have e:=Option.some.inj Ce;subst e
   have e:=Ao hs6;subst e
   refine gO ?_
   exact KX _ () h (wG [])
 ·clear h h11
  intro s1 Gq
  exact BP Gq
theorem Z8 (AQ AZ p_i) (r) (h:Np AQ AZ p_i=some r):Contract pl 105 [(AB AQ),(Az AZ),(AV.int .i64 p_i)] [] (AV.bool r) []:=by
 refine Af (.t false .z (.t false (.t true .z .z) (.t false .z (.t false .z (.t false (.t false .z (.t false (.t false (.t false (.t false (.t false (.t false (.t false (.t false (.t false (.t false (.t false (.t false (.t false (.t false (.t false (.t false (.t false .z (.t false .z (.t false .z (.t false .z (.t false .z (.t false .z (.t true .z .z))))))) .z) .z) .z) .z) .z) .z) .z) .z) .z) .z) .z) .z) .z) .z) .z) .z)) .z))))) Tryz.func105 rfl (by kernel_rfl) ?_
 refine cB (fun s1:Bool=>BS 87 [(1,(Az AZ)),(2,(.int .i64 p_i)),(3,(.mp 0 0 0)),(18,(.bool s1))] [some ⟨15,31,(.vals [(AB AQ)]),false,false⟩]) h ?_ ?_
 ·intro AcS XG x18 h18 h
  exact Cg (pI [0]) XG h h18
 ·clear h
  intro s1 hc19
  refine bR hc19 ?_ ?_
  ·intro _ hc19
   exact BP hc19
  ·intro _ hc19
   refine GH hc19 fun hc19=>?_
   refine cL hc19 (Vz _) ?_
   intro y3 hc19
   refine bR hc19 ?_ ?_
   ·intro _ hc19
    refine cL hc19 (YK _ _ _) ?_
    intro y4 hc19
    refine bR hc19 ?_ ?_
    ·intro _ hc19
     exact BP hc19
    ·intro _ hc19
     refine cL hc19 (KQ _ _ _) ?_
     intro y5 hc19
     exact BP hc19
   ·intro _ hc19
    refine bR hc19 ?_ ?_
    ·intro _ hc19
     refine cL hc19 (KQ _ _ _) ?_
     intro y6 hc19
     exact BP hc19
    ·intro _ hc19
     refine bR hc19 ?_ ?_
     ·intro _ hc19
      refine cL hc19 (KR _ _) ?_
      intro y7 hc19
      refine bR hc19 ?_ ?_
      ·intro _ hc19
       refine cL hc19 (KR _ _) ?_
       intro y8 hc19
       exact BP hc19
      ·intro _ hc19
       exact BP hc19
     ·intro _ hc19
      refine bR hc19 ?_ ?_
      ·intro _ hc19
       refine gO ?_
       refine bnd hc19 (fun y9 hy9 hc19=>?_)
       refine Or.inl ⟨_,GI (Oe _ _ _ hy9) (AP.cons (AV.Le.list (by simp;try omega) (fun j hj=>by first|rfl|rw[KW hj]|(rw[getD_take hj];simp)|simp)) (AP.cons (AV.Le.refl _) AP.nil)),rfl,?_⟩
       refine cL hc19 (GV _ _ _ _) ?_
       intro Rf hc19
       exact BP hc19
      ·intro _ hc19
       refine bR hc19 ?_ ?_
       ·intro _ hc19
        refine gO ?_
        refine bnd hc19 (fun Vw Abo hc19=>?_)
        refine Or.inl ⟨_,GI (Oe _ _ _ Abo) (AP.cons (AV.Le.list (by simp;try omega) (fun j hj=>by first|rfl|rw[KW hj]|(rw[getD_take hj];simp)|simp)) (AP.cons (AV.Le.refl _) AP.nil)),rfl,?_⟩
        refine cL hc19 (GV _ _ _ _) ?_
        intro P5 hc19
        exact BP hc19
       ·intro _ hc19
        refine bR hc19 ?_ ?_
        ·intro _ hc19
         refine gO ?_
         refine bnd hc19 (fun y13 Af4 hc19=>?_)
         refine Or.inl ⟨_,GI (Oe _ _ _ Af4) (AP.cons (AV.Le.list (by simp;try omega) (fun j hj=>by first|rfl|rw[KW hj]|(rw[getD_take hj];simp)|simp)) (AP.cons (AV.Le.refl _) AP.nil)),rfl,?_⟩
         refine cL hc19 (Og _ _ _) ?_
         intro gN hc19
         exact BP hc19
        ·intro _ hc19
         refine cB (fun s15:Bool=>BS 87 [(1,(Az AZ)),(8,(.int .i64 y3)),(38,(.bool s15))] []) hc19 ?_ ?_
         ·intro AeD gF x20 h20 hc19
          exact Cg (pI []) gF hc19 h20
         ·clear hc19
          intro s15 hc21
          refine bR hc21 ?_ ?_
          ·intro _ hc21
           refine cL hc21 (OP _ _) ?_
           intro nN hc21
           exact BP hc21
          ·intro _ hc21
           exact BP hc21
theorem Z7 (AQ AZ) (r) (h:Qi AQ AZ=some r):Contract pl 54 [(AB AQ),(Az AZ)] [] (AV.int .i64 r) []:=by
 refine Af (.t false .z (.t true (.t false .z (.t false (.t false (.t false .z (.t false .z (.t false (.t false (.t false .z (.t false .z (.t false (.t true .z .z) .z))) .z) .z))) .z) .z)) .z)) Tryz.func54 rfl (by kernel_rfl) ?_
 refine gO ?_
 refine bnd h (fun x14 VH h=>?_)
 refine DT (fun s1:Unit=>BS 28 [] []) (fun s1:Unit=>some (-1:Int)=some r) ?_ ?_
 ·intro iE RG
  refine gO ?_
  refine AO (fun s4:Int=>BS 28 [(1,(Az AZ)),(2,(.mp 0 0 0)),(7,(Az AZ)),(8,(.int .i64 ((AZ.length:Nat):Int))),(9,(.int .i64 s4))] [some ⟨15,31,(.vals [(AB AQ)]),false,false⟩]) VH (wG [0]) ?_
  intro k6 s4 eU eZ QU Ce hs6
  refine bR Ce ?_ ?_
  ·intro _ Ce
   refine GH Ce fun Ce=>?_
   refine cL Ce (YH _ _) ?_
   intro y7 Ce
   refine cB (fun s8:Bool=>BS 28 [(1,(Az AZ)),(2,(.mp 0 0 0)),(5,(.int .i64 s4)),(7,(Az AZ)),(8,(.int .i64 ((AZ.length:Nat):Int))),(9,(.int .i64 s4)),(18,(.bool s8))] [some ⟨15,31,(.vals [(AB AQ)]),false,false⟩]) Ce ?_ ?_
   ·intro Ahe gD x15 ZU Ce
    exact Cg (pI [0]) gD Ce ZU
   ·clear Ce
    intro s8 hc16
    refine bR hc16 ?_ ?_
    ·intro _ hc16
     refine cL hc16 (Z8 _ _ _) ?_
     intro Rf hc16
     refine bR hc16 ?_ ?_
     ·intro _ hc16
      have e:=Option.some.inj hc16;subst e
      have e:=Ao hs6;subst e
      exact BP h
     ·intro _ hc16
      exact Cg (pI [0]) QU hs6 hc16
    ·intro _ hc16
     exact Cg (pI [0]) QU hs6 hc16
  ·intro _ Ce
   have e:=Option.some.inj Ce;subst e
   have e:=Ao hs6;subst e
   refine gO ?_
   exact RG _ () h (wG [])
 ·clear h VH
  intro s1 hc17
  exact BP hc17
theorem fI (QS DW) (r) (h:N8 QS DW=some r):Contract pl 53 [(AV.ip (AB QS) 0),(AV.ip (Az DW) 0)] [] (AV.int .i64 r) []:=by
 refine Af .z Tryz.func53 rfl (by kernel_rfl) ?_
 refine cL h (Z7 _ _) ?_
 intro y1 h
 exact BP h
theorem Xt (JQ p_r) (r) (h:KH JQ p_r=some r):Contract pl 144 [(FL JQ),(AV.int .i32 p_r)] [] (AV.int .i64 r) []:=by
 refine Af .z Tryz.func144 rfl (by kernel_rfl) ?_
 refine cL h (Mf _ _) ?_
 intro y1 h
 exact BP h
theorem iP (JQ AZ) (r) (h:Sj JQ AZ=some r):Contract pl 91 [(FL JQ),(Az AZ)] [] (Jg r) []:=by
 refine Af (.t false .z (.t false .z (.t true .z .z))) Tryz.func91 rfl (by kernel_rfl) ?_
 refine gO ?_
 obtain⟨p9,h⟩:=Jq h
 refine⟨rfl,p9.1,p9.2.1,p9.2.2,?_⟩
 refine cB (fun s1:(List Int)=>BS 28 [(5,(.ms 0 s1.length))] [some ⟨1,3,(.ints .i64 s1),false,false⟩]) h ?_ ?_
 ·intro ZW PK x10 h10 h
  refine gO ?_
  refine AO (fun s4:(List Int)×Int=>BS 28 [(2,(.mp 0 0 0)),(5,(.ms 1 s4.1.length)),(11,(Az AZ)),(12,(.int .i64 ((AZ.length:Nat):Int))),(13,(.int .i64 s4.2))] [some ⟨11,28,(.vals [(FL JQ)]),false,false⟩,some ⟨1,3,(.ints .i64 s4.1),false,false⟩]) h10 (wG [0,1]) ?_
  intro k6 s4 eU eZ QU Ce hs6
  refine bR Ce ?_ ?_
  ·intro _ Ce
   refine GH Ce fun Ce=>?_
   refine cL Ce (Xt _ _) ?_
   intro y7 Ce
   exact Cg (pI [0,1]) QU hs6 Ce
  ·intro _ Ce
   have e:=Option.some.inj Ce;subst e
   have e:=Ao hs6;subst e
   refine gO ?_
   exact PK _ s4.1 h (wG [1])
 ·clear h
  intro s1 Vi
  exact BP Vi
theorem wX (AZ) (r) (h:TL AZ=some r):Contract pl 92 [(Jg AZ)] [] (AV.int .i64 r) []:=by
 refine Af (.t false .z (.t false .z (.t true (.t false (.t false (.t false (.t true .z .z) .z) .z) .z) .z))) Tryz.func92 rfl (by kernel_rfl) ?_
 refine cB (fun s1:Int=>BS 19 [(3,(.int .i64 s1))] []) h ?_ ?_
 ·intro ZW PK x10 h10 h
  refine gO ?_
  refine AO (fun s4:Int=>BS 19 [(0,(Jg AZ)),(3,(.int .i64 s4))] []) h10 (wG []) ?_
  intro k6 s4 eU eZ QU Ce hs6
  refine cB (fun s7:Bool=>BS 19 [(0,(Jg AZ)),(3,(.int .i64 s4)),(15,(.bool s7))] []) Ce ?_ ?_
  ·intro U0 KX x11 h11 Ce
   exact Cg (pI []) KX Ce h11
  ·clear Ce
   intro s7 Gq
   refine bR Gq ?_ ?_
   ·intro _ Gq
    exact Cg (pI []) QU hs6 Gq
   ·intro _ Gq
    have e:=Option.some.inj Gq;subst e
    have e:=Ao hs6;subst e
    refine gO ?_
    exact PK _ s4 h (wG [])
 ·clear h
  intro s1 Jr
  exact BP Jr
theorem P6 (AZ) (r) (h:Ic AZ=some r):Contract pl 95 [(Jg AZ)] [] (AV.int .u64 r) []:=by
 refine Af (.t false .z (.t false .z (.t true .z .z))) Tryz.func95 rfl (by kernel_rfl) ?_
 refine cB (fun s1:Int=>BS 18 [(3,(.int .u64 s1))] []) h ?_ ?_
 ·intro Kn8 qQ x8 h8 h
  refine gO ?_
  refine AO (fun s4:Int×Int=>BS 18 [(3,(.int .u64 s4.1)),(6,(Jg AZ)),(7,(.int .i64 ((AZ.length:Nat):Int))),(8,(.int .i64 s4.2))] []) h8 (wG []) ?_
  intro k6 s4 eU eZ QU Ce hs6
  refine bR Ce ?_ ?_
  ·intro _ Ce
   exact Cg (pI []) QU hs6 Ce
  ·intro _ Ce
   have e:=Option.some.inj Ce;subst e
   have e:=Ao hs6;subst e
   refine gO ?_
   exact qQ _ s4.1 h (wG [])
 ·clear h
  intro s1 hc9
  exact BP hc9
theorem V8 (r) (h:MQ=some r):Contract pl 94 [] [] (AV.int .u64 r) []:=by
 refine Af .z Tryz.func94 rfl (by kernel_rfl) ?_
 refine gO ?_
 refine bnd h (fun y1 hy1 h=>?_)
 refine Or.inl ⟨_,GI (P6 _ _ hy1) (AP.cons (AV.Le.list (by simp;try omega) (fun j hj=>by first|rfl|rw[KW hj]|(rw[getD_take hj];simp)|simp)) AP.nil),rfl,?_⟩
 exact BP h
theorem MG (BA bE) (r) (h:GX BA bE=some r):Contract pl 96 [(AV.int .u64 BA),(AV.int .i64 bE)] [] (AV.bool r) []:=by
 refine Af .z Tryz.func96 rfl (by kernel_rfl) ?_
 unfold GX at h
 exact BP h
theorem U4 (AZ BA Abz) (r) (h:Nk AZ BA Abz=some r):Contract pl 93 [(Jg AZ),(AV.int .u64 BA),(AV.bool Abz)] [] (AV.int .i64 r) []:=by
 refine Af (.t false .z (.t true .z .z)) Tryz.func93 rfl (by kernel_rfl) ?_
 refine gO ?_
 refine bnd h (fun x11 h11 h=>?_)
 refine DT (fun s1:Unit=>BS 23 [] []) (fun s1:Unit=>some (-1:Int)=some r) ?_ ?_
 ·intro U0 KX
  refine gO ?_
  refine AO (fun s4:Int=>BS 23 [(1,(.int .u64 BA)),(2,(.bool Abz)),(9,(Jg AZ)),(10,(.int .i64 ((AZ.length:Nat):Int))),(11,(.int .i64 s4))] []) h11 (wG []) ?_
  intro k6 s4 eU eZ QU Ce hs6
  refine bR Ce ?_ ?_
  ·intro _ Ce
   refine GH Ce fun Ce=>?_
   refine cL Ce (MG _ _) ?_
   intro y7 Ce
   refine bR Ce ?_ ?_
   ·intro _ Ce
    have e:=Option.some.inj Ce;subst e
    have e:=Ao hs6;subst e
    exact BP h
   ·intro _ Ce
    exact Cg (pI []) QU hs6 Ce
  ·intro _ Ce
   have e:=Option.some.inj Ce;subst e
   have e:=Ao hs6;subst e
   refine gO ?_
   exact KX _ () h (wG [])
 ·clear h h11
  intro s1 Gq
  exact BP Gq
theorem wW (AZ) (r) (h:TK AZ=some r):Contract pl 97 [(Jg AZ)] [] (AV.int .i64 r) []:=by
 refine Af (.t false .z (.t false .z (.t true (.t false .z (.t false (.t false (.t false .z (.t false .z (.t false (.t false (.t false .z (.t false .z (.t true .z .z))) .z) .z))) .z) .z)) .z))) Tryz.func97 rfl (by kernel_rfl) ?_
 refine gO ?_
 refine bnd h (fun x15 ZU h=>?_)
 refine DT (fun s1:Unit=>BS 26 [] []) (fun s1:Unit=>some (-1:Int)=some r) ?_ ?_
 ·intro Ahe gD
  refine gO ?_
  refine AO (fun s4:Int×Int=>BS 26 [(3,(.int .u64 s4.1)),(6,(Jg AZ)),(7,(.int .i64 ((AZ.length:Nat):Int))),(8,(.int .i64 s4.2))] []) ZU (wG []) ?_
  intro k6 s4 eU eZ QU Ce hs6
  refine bR Ce ?_ ?_
  ·intro _ Ce
   refine GH Ce fun Ce=>?_
   refine gO ?_
   refine bnd Ce (fun y7 hy7 Ce=>?_)
   refine Or.inl ⟨_,GI (P6 _ _ hy7) (AP.cons (AV.Le.list (by simp;try omega) (fun j hj=>by first|rfl|rw[KW hj]|(rw[getD_take hj];simp)|simp)) AP.nil),rfl,?_⟩
   refine cB (fun s8:Bool=>BS 26 [(3,(.int .u64 (ior .u64 s4.1 y7))),(4,(.int .i64 s4.2)),(6,(Jg AZ)),(7,(.int .i64 ((AZ.length:Nat):Int))),(8,(.int .i64 s4.2)),(23,(.bool s8))] []) Ce ?_ ?_
   ·intro Ahf hn16 x16 h16 Ce
    refine cL h16 (MG _ _) ?_
    intro Rf h16
    refine bR h16 ?_ ?_
    ·intro _ h16
     refine cL h16 (MG _ _) ?_
     intro Vw h16
     exact Cg (pI []) hn16 Ce h16
    ·intro _ h16
     exact Cg (pI []) hn16 Ce h16
   ·clear Ce
    intro s8 hc17
    refine bR hc17 ?_ ?_
    ·intro _ hc17
     have e:=Option.some.inj hc17;subst e
     have e:=Ao hs6;subst e
     exact BP h
    ·intro _ hc17
     exact Cg (pI []) QU hs6 hc17
  ·intro _ Ce
   have e:=Option.some.inj Ce;subst e
   have e:=Ao hs6;subst e
   refine gO ?_
   exact gD _ () h (wG [])
 ·clear h ZU
  intro s1 hc18
  exact BP hc18
theorem nT (JQ AZ) (r) (h:Qv JQ AZ=some r):Contract pl 44 [(FL JQ),(Az AZ)] [] (AV.GU [(AV.int .i64 r.1),(AV.int .i64 r.2)]) []:=by
 refine Af (.t false .z (.t false .z (.t false .z (.t false .z (.t false (.t false .z (.t false (.t false (.t false (.t true .z .z) .z) .z) .z)) .z))))) Tryz.func44 rfl (by kernel_rfl) ?_
 refine cL h (iP _ _) ?_
 intro y1 h
 refine bR h ?_ ?_
 ·intro _ h
  exact BP h
 ·intro _ h
  refine cL h (wX _) ?_
  intro y2 h
  refine GH h fun h=>?_
  refine gO ?_
  refine bnd h (fun x19 h19 h=>?_)
  refine DT (fun s3:Unit=>BS 69 [(6,(Jg y1)),(7,(.int .i64 y2))] []) (fun s3:Unit=>Nj y1 y2 s3=some r) ?_ ?_
  ·intro AkQ AdA
   refine bR h19 ?_ ?_
   ·intro _ h19
    refine gO ?_
    refine bnd h19 (fun Vw Abo h19=>?_)
    refine Or.inl ⟨_,V8 _ Abo,rfl,?_⟩
    refine gO ?_
    refine bnd h19 (fun P5 Af3 h19=>?_)
    refine Or.inl ⟨_,GI (P6 _ _ Af3) (AP.cons (AV.Le.list (by simp;try omega) (fun j hj=>by first|rfl|rw[KW hj]|(rw[getD_take hj];simp)|simp)) AP.nil),rfl,?_⟩
    refine cL h19 (U4 _ _ _) ?_
    intro y13 h19
    refine bR h19 ?_ ?_
    ·intro _ h19
     have e:=Option.some.inj h19;subst e
     exact BP h
    ·intro _ h19
     refine gO ?_
     refine bnd h19 (fun gN Aka h19=>?_)
     refine Or.inl ⟨_,GI (P6 _ _ Aka) (AP.cons (AV.Le.list (by simp;try omega) (fun j hj=>by first|rfl|rw[KW hj]|(rw[getD_take hj];simp)|simp)) AP.nil),rfl,?_⟩
     refine GH h19 fun h19=>?_
     refine cL h19 (MG _ _) ?_
     intro rW h19
     refine bR h19 ?_ ?_
     ·intro _ h19
      have e:=Option.some.inj h19;subst e
      exact BP h
     ·intro _ h19
      have e:=Option.some.inj h19;subst e
      exact BP h
   ·intro _ h19
    refine bR h19 ?_ ?_
    ·intro _ h19
     exact Cg (pI []) AdA h h19
    ·intro _ h19
     refine bR h19 ?_ ?_
     ·intro _ h19
      exact Cg (pI []) AdA h h19
     ·intro _ h19
      have e:=Option.some.inj h19;subst e
      exact BP h
  ·clear h h19
   intro s3 JR
   refine gO ?_
   refine bnd JR (fun y5 hy5 JR=>?_)
   refine Or.inl ⟨_,V8 _ hy5,rfl,?_⟩
   refine gO ?_
   refine bnd JR (fun y6 hy6 JR=>?_)
   refine Or.inl ⟨_,GI (P6 _ _ hy6) (AP.cons (AV.Le.list (by simp;try omega) (fun j hj=>by first|rfl|rw[KW hj]|(rw[getD_take hj];simp)|simp)) AP.nil),rfl,?_⟩
   refine cL JR (U4 _ _ _) ?_
   intro y7 JR
   refine bR JR ?_ ?_
   ·intro _ JR
    exact BP JR
   ·intro _ JR
    refine gO ?_
    refine bnd JR (fun y8 hy8 JR=>?_)
    refine Or.inl ⟨_,GI (P6 _ _ hy8) (AP.cons (AV.Le.list (by simp;try omega) (fun j hj=>by first|rfl|rw[KW hj]|(rw[getD_take hj];simp)|simp)) AP.nil),rfl,?_⟩
    refine GH JR fun JR=>?_
    refine cL JR (MG _ _) ?_
    intro y9 JR
    refine bR JR ?_ ?_
    ·intro _ JR
     exact BP JR
    ·intro _ JR
     refine cL JR (wW _) ?_
     intro Rf JR
     exact BP JR
theorem sJ (JQ AZ) (r) (h:RI JQ AZ=some r):Contract pl 45 [(FL JQ),(Az AZ)] [] (AV.bool r) []:=by
 refine Af .z Tryz.func45 rfl (by kernel_rfl) ?_
 refine cL h (iP _ _) ?_
 intro y1 h
 refine gO ?_
 refine bnd h (fun y2 hy2 h=>?_)
 refine Or.inl ⟨_,GI (P6 _ _ hy2) (AP.cons (AV.Le.list (by simp;try omega) (fun j hj=>by first|rfl|rw[KW hj]|(rw[getD_take hj];simp)|simp)) AP.nil),rfl,?_⟩
 refine cL h (U4 _ _ _) ?_
 intro y3 h
 exact BP h
theorem fE (QS DW) (r) (h:NW QS DW=some r):Contract pl 43 [(AV.ip (AB QS) 0),(AV.ip (Az DW) 0)] [] (AV.int .i64 r) []:=by
 refine Af (.t false .z (.t false .z (.t false (.t true .z .z) .z))) Tryz.func43 rfl (by kernel_rfl) ?_
 refine cL h (nT _ _) ?_
 intro y1 h
 refine cB (fun s2:Bool=>BS 22 [(4,(.int .i64 y1.2)),(20,(.bool s2))] []) h ?_ ?_
 ·intro Kn5 hn5 x5 h5 h
  refine bR h5 ?_ ?_
  ·intro _ h5
   exact Cg (pI []) hn5 h h5
  ·intro _ h5
   refine cL h5 (sJ _ _) ?_
   intro y4 h5
   exact Cg (pI []) hn5 h h5
 ·clear h
  intro s2 hc6
  unfold Ow at hc6
  exact BP hc6
theorem XR (AQ AZ) (r) (h:NQ AQ AZ=some r):Contract pl 16 [(AB AQ),(Az AZ)] [] (AV.err r) []:=by
 refine Af (.t false .z (.t false .z (.t false .z (.t true (.t false .z (.t false (.t false .z .z) .z)) (.t false (.t false .z (.t true .z .z)) .z))))) Tryz.func16 rfl (by kernel_rfl) ?_
 refine bR h ?_ ?_
 ·intro _ h
  refine cL h (DL _ _) ?_
  intro y1 h
  exact BP h
 ·intro _ h
  refine gO ?_
  refine bnd h (fun x20 h20 h=>?_)
  refine DT (fun s2:Unit=>BS 63 [(3,(.mp 0 0 0))] [some ⟨1,24,(.vals [(Az AZ)]),false,false⟩]) (fun s2:Unit=>Qj AZ s2=some r) ?_ ?_
  ·intro AeD gF
   refine gO ?_
   refine zC 6 ?_
   refine gO ?_
   refine And.intro (by decide) (And.intro (by decide) ?_)
   refine cL h20 (fF _ _) ?_
   intro y9 h20
   refine bR h20 ?_ ?_
   ·intro _ h20
    refine cL h20 (DL _ _) ?_
    intro Rf h20
    have e:=Option.some.inj h20;subst e
    exact BP h
   ·intro _ h20
    refine gO ?_
    refine And.intro (by decide) (And.intro (by decide) ?_)
    refine cL h20 (fG _) ?_
    intro Vw h20
    refine bR h20 ?_ ?_
    ·intro _ h20
     refine cL h20 (DL _ _) ?_
     intro P5 h20
     have e:=Option.some.inj h20;subst e
     exact BP h
    ·intro _ h20
     refine gO ?_
     refine And.intro (by decide) (And.intro (by decide) ?_)
     refine cL h20 (fH _ _) ?_
     intro y13 h20
     refine bR h20 ?_ ?_
     ·intro _ h20
      refine cL h20 (DL _ _) ?_
      intro gN h20
      have e:=Option.some.inj h20;subst e
      exact BP h
     ·intro _ h20
      refine gO ?_
      refine And.intro (by decide) (And.intro (by decide) ?_)
      refine cL h20 (fI _ _) ?_
      intro rW h20
      refine bR h20 ?_ ?_
      ·intro _ h20
       refine cL h20 (DL _ _) ?_
       intro y16 h20
       have e:=Option.some.inj h20;subst e
       exact BP h
      ·intro _ h20
       refine gO ?_
       refine And.intro (by decide) (And.intro (by decide) ?_)
       refine cL h20 (fE _ _) ?_
       intro nN h20
       refine bR h20 ?_ ?_
       ·intro _ h20
        refine cL h20 (DL _ _) ?_
        intro nO h20
        have e:=Option.some.inj h20;subst e
        exact BP h
       ·intro _ h20
        exact Cg (pI [1]) gF h h20
  ·clear h h20
   intro s2 hc21
   refine cL hc21 (U5 _) ?_
   intro y4 hc21
   refine cB (fun s5:Bool=>BS 63 [(60,(.bool s5))] []) hc21 ?_ ?_
   ·intro AcT XH x22 h22 hc21
    refine bR h22 ?_ ?_
    ·intro _ h22
     exact Cg (pI []) XH hc21 h22
    ·intro _ h22
     refine cL h22 (cO _ _) ?_
     intro y8 h22
     exact Cg (pI []) XH hc21 h22
   ·clear hc21
    intro s5 Iu
    refine bR Iu ?_ ?_
    ·intro _ Iu
     refine cL Iu (DL _ _) ?_
     intro y7 Iu
     exact BP Iu
    ·intro _ Iu
     exact BP Iu
theorem Uj (AQ BA) (r) (h:Il AQ BA=some r):Contract pl 20 [(AB AQ),(AV.str BA)] [] (AV.GU [(Az r.1),(AV.err r.2)]) []:=by
 refine Af (.t false .z (.t true .z (.t false .z (.t true (.t false .z (.t false .z (.t false (.t false .z (.t false .z (.t false .z (.t false (.t false .z (.t true .z .z)) .z)))) .z))) .z)))) Tryz.func20 rfl (by kernel_rfl) ?_
 refine gO ?_
 refine bnd h (fun x24 nP h=>?_)
 refine DT (fun s1:Unit=>BS 79 [(1,(.str BA)),(2,(.mp 0 0 0))] [some ⟨15,31,(.vals [(AB AQ)]),false,false⟩]) (fun s1:Unit=>K8 AQ BA s1=some r) ?_ ?_
 ·intro Ahh uQ
  refine gO ?_
  refine AO (fun s16:Int=>BS 79 [(1,(.str BA)),(2,(.mp 0 0 0)),(6,(.int .i64 s16))] [some ⟨15,31,(.vals [(AB AQ)]),false,false⟩]) nP (wG [0]) ?_
  intro k18 s16 AiE AcS XG Gu Vl
  refine bR Gu ?_ ?_
  ·intro _ Gu
   refine GH Gu fun Gu=>?_
   refine cL Gu (Kv _) ?_
   intro wO Gu
   refine bR Gu ?_ ?_
   ·intro _ Gu
    refine cL Gu (DL _ _) ?_
    intro y20 Gu
    have e:=Option.some.inj Gu;subst e
    have e:=Ao Vl;subst e
    exact BP h
   ·intro _ Gu
    exact Cg (pI [0]) XG Vl Gu
  ·intro _ Gu
   have e:=Option.some.inj Gu;subst e
   have e:=Ao Vl;subst e
   refine gO ?_
   exact uQ _ () h (wG [0])
 ·clear h nP
  intro s1 hc25
  refine gO ?_
  obtain⟨p26,hc25⟩:=Jq hc25
  refine And.intro p26 ?_
  refine gO ?_
  refine bnd hc25 (fun x27 h27 hc25=>?_)
  refine DT (fun s3:(List Int)=>BS 79 [(2,(.mp 0 0 0)),(7,(Az s3))] [some ⟨15,31,(.vals [(AB AQ)]),false,false⟩]) (fun s3:(List Int)=>Ju AQ s3=some r) ?_ ?_
  ·intro AmC AfU
   refine cL h27 (XA _ _) ?_
   intro y6 h27
   refine bR h27 ?_ ?_
   ·intro _ h27
    refine cL h27 (oD _) ?_
    intro y7 h27
    refine gO ?_
    refine Ak1 h27 (fun hx h27=>?_) (fun hx h27=>?_)
    ·refine Or.inr (AX (WH [2] (VA _ hx) rfl (FD.cons rfl (VO.mk (by intro hf;first|exact hf|rfl) (by intro hf;first|exact hf|rfl) (Qp (Lc.cons (Ll rfl) Lc.nil))) FD.nil) (FZ.cons (And.intro rfl (AV.Le.refl _)) (FZ.cons (And.intro rfl (AV.Le.refl _)) FZ.nil)) rfl) ?_)
     refine cL h27 (U5 _) ?_
     intro y8 h27
     refine cB (fun s9:Bool=>BS 79 [(2,(.mp 0 0 0)),(10,(Az y7.1)),(68,(.bool s9))] [some ⟨15,31,(.vals [(AB AQ)]),false,false⟩]) h27 ?_ ?_
     ·intro AeE jZ x28 h28 h27
      exact Cg (pI [0]) jZ h27 h28
     ·clear h27
      intro s9 hc29
      refine bR hc29 ?_ ?_
      ·intro _ hc29
       refine cL hc29 (DL _ _) ?_
       intro Vw hc29
       have e:=Option.some.inj hc29;subst e
       exact BP hc25
      ·intro _ hc29
       exact Cg (pI [0]) AfU hc25 hc29
    ·refine gO ?_
     refine bnd h27 (fun P5 Af3 h27=>?_)
     refine Or.inr (AX (WH [2] (cK _ _ Af3) rfl (FD.cons rfl (VO.mk (by intro hf;first|exact hf|rfl) (by intro hf;first|exact hf|rfl) (Qp (Lc.cons (Ll rfl) Lc.nil))) FD.nil) (FZ.cons (And.intro rfl (AV.Le.refl _)) (FZ.cons (And.intro rfl (AV.Le.refl _)) FZ.nil)) rfl) ?_)
     refine cL h27 (DL _ _) ?_
     intro y13 h27
     have e:=Option.some.inj h27;subst e
     exact BP hc25
   ·intro _ h27
    have e:=Option.some.inj h27;subst e
    refine gO ?_
    exact AfU _ (runesL BA) hc25 (JK (Aeu 7 _ rfl) (wG [0]))
  ·clear hc25 h27
   intro s3 Qe
   refine cL Qe (XR _ _) ?_
   intro y5 Qe
   exact BP Qe
theorem Ui (AQ AZ) (r) (h:Ik AQ AZ=some r):Contract pl 13 [(AB AQ),(Az AZ)] [] (AV.GU [(AV.str r.1),(AV.err r.2)]) []:=by
 refine Af .z Tryz.func13 rfl (by kernel_rfl) ?_
 refine cL h (XR _ _) ?_
 intro y1 h
 refine bR h ?_ ?_
 ·intro _ h
  exact BP h
 ·intro _ h
  refine cL h (U5 _) ?_
  intro y2 h
  exact BP h
theorem XQ (AQ BA) (r) (h:Ur AQ BA=some r):Contract pl 22 [(AB AQ),(AV.str BA)] [] (AV.GU [(AV.str r.1),(AV.err r.2)]) []:=by
 refine Af (.t false .z (.t false .z (.t false .z (.t false .z (.t false .z (.t false (.t true .z .z) .z)))))) Tryz.func22 rfl (by kernel_rfl) ?_
 refine cL h (sV _) ?_
 intro y1 h
 refine bR h ?_ ?_
 ·intro _ h
  exact BP h
 ·intro _ h
  refine cL h (nY _ _) ?_
  intro y2 h
  refine cL h (YM _) ?_
  intro y3 h
  refine cB (fun s4:Bool=>BS 55 [(2,(.mp 0 0 0)),(6,(Az y2)),(8,(.str y3.1)),(39,(.bool s4))] [some ⟨15,31,(.vals [(AB AQ)]),false,false⟩]) h ?_ ?_
  ·intro Kn9 kC x9 h9 h
   refine bR h9 ?_ ?_
   ·intro _ h9
    refine cL h9 (XB _ _) ?_
    intro y8 h9
    exact Cg (pI [0]) kC h h9
   ·intro _ h9
    exact Cg (pI [0]) kC h h9
  ·clear h
   intro s4 FW
   refine bR FW ?_ ?_
   ·intro _ FW
    refine cL FW (Uj _ _) ?_
    intro y6 FW
    exact BP FW
   ·intro _ FW
    refine cL FW (Ui _ _) ?_
    intro y7 FW
    exact BP FW
theorem Xu (Ii) (r) (h:NA Ii=some r):Contract pl 41 [(AV.int .i64 Ii)] [] (AV.err r) []:=by
 refine Af .z Tryz.func41 rfl (by kernel_rfl) ?_
 unfold NA at h
 exact BP h
theorem Z9 (ZV FX Ii) (r) (h:UL ZV FX Ii=some r):Contract pl 15 [(AV.err ZV),(AV.int .i64 FX),(AV.int .i64 Ii)] [] (AV.bool r) []:=by
 refine Af .z Tryz.func15 rfl (by kernel_rfl) ?_
 refine bR h ?_ ?_
 ·intro _ h
  exact BP h
 ·intro _ h
  refine bR h ?_ ?_
  ·intro _ h
   refine gO ?_
   refine Ak1 h (fun hx h=>?_) (fun hx h=>?_)
   ·refine Or.inr (AX (WH [0] (VA _ hx) rfl (FD.cons rfl (VO.mk (by intro hf;first|exact hf|rfl) (by intro hf;first|exact hf|rfl) (Qp (Lc.cons (Ll rfl) Lc.nil))) FD.nil) (FZ.cons (And.intro rfl (AV.Le.refl _)) (FZ.cons (And.intro rfl (AV.Le.refl _)) FZ.nil)) rfl) ?_)
    exact BP h
   ·refine gO ?_
    refine bnd h (fun y1 hy1 h=>?_)
    refine Or.inr (AX (WH [0] (cK _ _ hy1) rfl (FD.cons rfl (VO.mk (by intro hf;first|exact hf|rfl) (by intro hf;first|exact hf|rfl) (Qp (Lc.cons (Ll rfl) Lc.nil))) FD.nil) (FZ.cons (And.intro rfl (AV.Le.refl _)) (FZ.cons (And.intro rfl (AV.Le.refl _)) FZ.nil)) rfl) ?_)
    refine bR h ?_ ?_
    ·intro _ h
     refine cL h (Xu _) ?_
     intro y2 h
     refine cL h (cO _ _) ?_
     intro y3 h
     exact BP h
    ·intro _ h
     exact BP h
  ·intro _ h
   exact BP h
theorem Xz (r) (h:NC=some r):Contract pl 9 [] [] (AV.bool r) []:=by
 refine Af .z Tryz.func9 rfl (by kernel_rfl) ?_
 refine gO ?_
 refine bnd h (fun y1 hy1 h=>?_)
 refine Or.inl ⟨_,Rj _ hy1,rfl,?_⟩
 refine cL h (XQ _ _) ?_
 intro y2 h
 refine gO ?_
 refine bnd h (fun y3 hy3 h=>?_)
 refine Or.inl ⟨_,Rj _ hy3,rfl,?_⟩
 refine cL h (XQ _ _) ?_
 intro y4 h
 refine bR h ?_ ?_
 ·intro _ h
  refine bR h ?_ ?_
  ·intro _ h
   refine cL h (Z9 _ _ _) ?_
   intro y5 h
   exact BP h
  ·intro _ h
   exact BP h
 ·intro _ h
  exact BP h
theorem Xv (AQ) (r) (h:KI AQ=some r):Contract pl 72 [(Aq AQ)] [] (AV.bool r) []:=by
 refine Af (.t false .z (.t false (.t true .z .z) (.t true .z .z))) Tryz.func72 rfl (by kernel_rfl) ?_
 refine cB (fun s1:Bool=>BS 35 [(1,(.mp 0 0 0)),(19,(.bool s1))] [some ⟨3,26,(.vals [(Aq AQ)]),false,false⟩]) h ?_ ?_
 ·intro AaC Ws x12 h12 h
  exact Cg (pI [0]) Ws h h12
 ·clear h
  intro s1 Jr
  refine bR Jr ?_ ?_
  ·intro _ Jr
   exact BP Jr
  ·intro _ Jr
   refine gO ?_
   refine bnd Jr (fun x14 VH Jr=>?_)
   refine DT (fun s3:Unit=>BS 35 [] []) (fun s3:Unit=>some false=some r) ?_ ?_
   ·intro iE RG
    refine gO ?_
    refine AO (fun s6:Int=>BS 35 [(1,(.mp 0 0 0)),(3,(.int .i64 s6))] [some ⟨3,26,(.vals [(Aq AQ)]),false,false⟩]) VH (wG [0]) ?_
    intro k8 s6 st8 Kn8 qQ VY hs8
    refine bR VY ?_ ?_
    ·intro _ VY
     refine GH VY fun VY=>?_
     refine bR VY ?_ ?_
     ·intro _ VY
      have e:=Option.some.inj VY;subst e
      have e:=Ao hs8;subst e
      exact BP Jr
     ·intro _ VY
      exact Cg (pI [0]) qQ hs8 VY
    ·intro _ VY
     have e:=Option.some.inj VY;subst e
     have e:=Ao hs8;subst e
     refine gO ?_
     exact RG _ () Jr (wG [])
   ·clear Jr VH
    intro s3 Nf
    exact BP Nf
theorem Wh (JQ) (r) (h:MV JQ=some r):Contract pl 126 [(FL JQ)] [] (YW r) []:=by
 refine Af .z Tryz.func126 rfl (by kernel_rfl) ?_
 refine gO ?_
 refine Ai0 rfl ?_
 have e:=Option.some.inj h;subst e
 refine gO ?_
 exact And.intro (AV.Le.agg (AP.cons (AV.Le.refl _) (AP.cons (AV.Le.refl _) (AP.cons (AV.Le.refl _) (AP.cons (AV.Le.refl _) (AP.cons (AV.Le.refl _) (AP.cons (AV.Le.refl _) (AP.cons (AV.Le.refl _) (AP.cons (AV.Le.refl _) (AP.cons (AV.Le.refl _) (AP.cons (AV.Le.refl _) (AP.cons (AV.Le.refl _) AP.nil)))))))))))) rfl
theorem Xw (JQ) (r) (h:KJ JQ=some r):Contract pl 73 [(FL JQ)] [] (AV.bool r) []:=by
 refine Af (.t false .z (.t false .z (.t true .z .z))) Tryz.func73 rfl (by kernel_rfl) ?_
 refine cL h (Wh _) ?_
 intro y1 h
 refine gO ?_
 refine Ai0 rfl ?_
 refine gO ?_
 refine bnd h (fun x11 h11 h=>?_)
 refine DT (fun s2:Unit=>BS 16 [] []) (fun s2:Unit=>some false=some r) ?_ ?_
 ·intro U0 KX
  refine gO ?_
  refine AO (fun s5:Int=>BS 16 [(3,(.mp 0 0 0)),(4,(.int .i64 s5))] [some ⟨1,160,(.Y6 [(y1.getD 0 []),(y1.getD 1 []),(y1.getD 2 []),(y1.getD 3 []),(y1.getD 4 []),(y1.getD 5 []),(y1.getD 6 []),(y1.getD 7 []),(y1.getD 8 []),(y1.getD 9 []),(y1.getD 10 [])].length fun j=>(Aw ([(y1.getD 0 []),(y1.getD 1 []),(y1.getD 2 []),(y1.getD 3 []),(y1.getD 4 []),(y1.getD 5 []),(y1.getD 6 []),(y1.getD 7 []),(y1.getD 8 []),(y1.getD 9 []),(y1.getD 10 [])].getD j []))),false,false⟩]) h11 (WX [1] rfl rfl (sK rfl (Ad9 (fun x=>(Aw x)) [] [(y1.getD 0 []),(y1.getD 1 []),(y1.getD 2 []),(y1.getD 3 []),(y1.getD 4 []),(y1.getD 5 []),(y1.getD 6 []),(y1.getD 7 []),(y1.getD 8 []),(y1.getD 9 []),(y1.getD 10 [])]) FD.nil) (sQ rfl rfl)) ?_
  intro k7 s5 st7 Kn7 Y5 Hf hs7
  refine bR Hf ?_ ?_
  ·intro _ Hf
   refine GH Hf fun Hf=>?_
   refine bR Hf ?_ ?_
   ·intro _ Hf
    have e:=Option.some.inj Hf;subst e
    have e:=Ao hs7;subst e
    exact BP h
   ·intro _ Hf
    exact Cg (pI [0]) Y5 hs7 Hf
  ·intro _ Hf
   have e:=Option.some.inj Hf;subst e
   have e:=Ao hs7;subst e
   refine gO ?_
   exact KX _ () h (wG [])
 ·clear h h11
  intro s2 Gq
  exact BP Gq
theorem Xx (AQ) (r) (h:KL AQ=some r):Contract pl 29 [(AB AQ)] [] (AV.bool r) []:=by
 refine Af .z Tryz.func29 rfl (by kernel_rfl) ?_
 refine cL h (Xv _) ?_
 intro y1 h
 refine bR h ?_ ?_
 ·intro _ h
  exact BP h
 ·intro _ h
  refine cL h (Xw _) ?_
  intro y2 h
  exact BP h
theorem Xy (AQ) (r) (h:KM AQ=some r):Contract pl 10 [(AB AQ)] [] (AV.bool r) []:=by
 refine Af .z Tryz.func10 rfl (by kernel_rfl) ?_
 refine cL h (Xx _) ?_
 intro y1 h
 exact BP h
theorem KS (FX ZV) (r) (h:Fh FX ZV=some r):Contract pl 175 [(AV.int .i64 FX),(AV.err ZV)] [] (AV.err r) []:=by
 refine Af .z Tryz.func175 rfl (by kernel_rfl) ?_
 unfold Fh at h
 exact BP h
theorem TA (AQ p_i) (r) (h:Kl AQ p_i=some r):Contract pl 179 [(Aq AQ),(AV.int .i64 p_i)] [] (AV.err r) []:=by
 refine Af (.t false .z (.t false .z (.t false (.t true .z .z) (.t false (.t true .z .z) (.t false (.t true .z .z) (.t true (.t false .z (.t false (.t false (.t false .z (.t false .z (.t false (.t false (.t false .z (.t true .z .z)) .z) .z))) .z) .z)) .z)))))) Tryz.func179 rfl (by kernel_rfl) ?_
 refine GH h fun h=>?_
 refine cB (fun s1:Bool=>BS 76 [(1,(.int .i64 p_i)),(2,(.mp 0 0 0)),(5,(.mp 1 0 0)),(22,(.bool s1))] [some ⟨3,26,(.vals [(Aq AQ)]),false,false⟩,some ⟨2,96,(.vals [(Nb (AQ.Ad.getD (p_i.toNat) Ac))]),false,false⟩]) h ?_ ?_
 ·intro AcT XH x22 h22 h
  refine cL h22 (Jm _) ?_
  intro y20 h22
  refine bR h22 ?_ ?_
  ·intro _ h22
   exact Cg (pI [0,1]) XH h h22
  ·intro _ h22
   refine cL h22 (QW _) ?_
   intro y21 h22
   exact Cg (pI [0,1]) XH h h22
 ·clear h
  intro s1 Iu
  refine bR Iu ?_ ?_
  ·intro _ Iu
   exact BP Iu
  ·intro _ Iu
   refine cB (fun s3:Bool=>BS 76 [(5,(.mp 0 0 0)),(37,(.bool s3))] [some ⟨2,96,(.vals [(Nb (AQ.Ad.getD (p_i.toNat) Ac))]),false,false⟩]) Iu ?_ ?_
   ·intro Ahh uQ x24 nP Iu
    exact Cg (pI [1]) uQ Iu nP
   ·clear Iu
    intro s3 hc25
    refine bR hc25 ?_ ?_
    ·intro _ hc25
     exact BP hc25
    ·intro _ hc25
     refine cB (fun s5:Bool=>BS 76 [(5,(.mp 0 0 0)),(57,(.bool s5))] [some ⟨2,96,(.vals [(Nb (AQ.Ad.getD (p_i.toNat) Ac))]),false,false⟩]) hc25 ?_ ?_
     ·intro AmB AjT x26 h26 hc25
      exact Cg (pI [0]) AjT hc25 h26
     ·clear hc25
      intro s5 hc27
      refine bR hc27 ?_ ?_
      ·intro _ hc27
       exact BP hc27
      ·intro _ hc27
       refine gO ?_
       refine bnd hc27 (fun x28 h28 hc27=>?_)
       refine DT (fun s7:Unit=>BS 76 [] []) (fun s7:Unit=>some Er.nil=some r) ?_ ?_
       ·intro AeE jZ
        refine gO ?_
        refine AO (fun s10:Int=>BS 76 [(60,(Az ((AQ.Ad.getD (p_i.toNat) Ac).Bp))),(61,(.int .i64 (((AQ.Ad.getD (p_i.toNat) Ac).Bp.length:Nat):Int))),(62,(.int .i64 s10))] []) h28 (wG []) ?_
        intro k12 s10 An2 AaC Ws Un Abn
        refine bR Un ?_ ?_
        ·intro _ Un
         refine GH Un fun Un=>?_
         refine cB (fun s13:Bool=>BS 76 [(60,(Az ((AQ.Ad.getD (p_i.toNat) Ac).Bp))),(61,(.int .i64 (((AQ.Ad.getD (p_i.toNat) Ac).Bp.length:Nat):Int))),(62,(.int .i64 s10)),(73,(.bool s13))] []) Un ?_ ?_
         ·intro AkR yN x29 aP Un
          refine cL aP (Jm _) ?_
          intro rW aP
          refine bR aP ?_ ?_
          ·intro _ aP
           exact Cg (pI []) yN Un aP
          ·intro _ aP
           refine cL aP (QW _) ?_
           intro y16 aP
           exact Cg (pI []) yN Un aP
         ·clear Un
          intro s13 Qe
          refine bR Qe ?_ ?_
          ·intro _ Qe
           have e:=Option.some.inj Qe;subst e
           have e:=Ao Abn;subst e
           exact BP hc27
          ·intro _ Qe
           exact Cg (pI []) Ws Abn Qe
        ·intro _ Un
         have e:=Option.some.inj Un;subst e
         have e:=Ao Abn;subst e
         refine gO ?_
         exact jZ _ () hc27 (wG [])
       ·clear hc27 h28
        intro s7 hc31
        exact BP hc31
theorem iW (AQ) (r) (h:Pj AQ=some r):Contract pl 176 [(Aq AQ)] [] (AV.int .i64 r) []:=by
 refine Af (.t false .z (.t false .z (.t true (.t false (.t false (.t false (.t true .z .z) .z) .z) .z) .z))) Tryz.func176 rfl (by kernel_rfl) ?_
 refine cB (fun s1:Int=>BS 18 [(3,(.int .i64 s1))] []) h ?_ ?_
 ·intro U0 KX x11 h11 h
  refine gO ?_
  refine AO (fun s4:Int=>BS 18 [(1,(.mp 0 0 0)),(3,(.int .i64 s4))] [some ⟨3,26,(.vals [(Aq AQ)]),false,false⟩]) h11 (wG [0]) ?_
  intro k6 s4 eU eZ QU Ce hs6
  refine cB (fun s7:Bool=>BS 18 [(1,(.mp 0 0 0)),(3,(.int .i64 s4)),(14,(.bool s7))] [some ⟨3,26,(.vals [(Aq AQ)]),false,false⟩]) Ce ?_ ?_
  ·intro AaC Ws x12 h12 Ce
   refine bR h12 ?_ ?_
   ·intro _ h12
    refine cL h12 (TA _ _) ?_
    intro y9 h12
    exact Cg (pI [0]) Ws Ce h12
   ·intro _ h12
    exact Cg (pI [0]) Ws Ce h12
  ·clear Ce
   intro s7 Jr
   refine bR Jr ?_ ?_
   ·intro _ Jr
    exact Cg (pI [0]) QU hs6 Jr
   ·intro _ Jr
    have e:=Option.some.inj Jr;subst e
    have e:=Ao hs6;subst e
    refine gO ?_
    exact KX _ s4 h (wG [])
 ·clear h
  intro s1 RD
  exact BP RD
theorem iV (KA DW) (r) (h:Ph KA DW=some r):Contract pl 212 [(Nb KA),(AV.ip (AV.int .i32 DW) 0)] [] (AV.bool r) []:=by
 refine Af .z Tryz.func212 rfl (by kernel_rfl) ?_
 unfold Ph at h
 exact BP h
theorem Ka (BA Ua) (r) (h:D5 BA Ua=some r):Contract pl 235 [(Eu BA),(AV.fn (.func 212) [] [(AV.ip (AV.int .i32 Ua) 0)])] [] (AV.int .i64 r) []:=by
 refine Af (.t false .z (.t true .z .z)) Tryz.func235 rfl (by kernel_rfl) ?_
 refine gO ?_
 refine bnd h (fun x11 h11 h=>?_)
 refine DT (fun s1:Unit=>BS 19 [] []) (fun s1:Unit=>some (-1:Int)=some r) ?_ ?_
 ·intro U0 KX
  refine gO ?_
  refine AO (fun s4:Int=>BS 19 [(0,(Eu BA)),(1,(.fn (.func 212) [] [(.ip (.int .i32 Ua) 0)])),(7,(.int .i64 ((BA.length:Nat):Int))),(8,(.int .i64 s4))] []) h11 (wG []) ?_
  intro k6 s4 eU eZ QU Ce hs6
  refine bR Ce ?_ ?_
  ·intro _ Ce
   refine GH Ce fun Ce=>?_
   refine cL Ce (iV _ _) ?_
   intro y7 Ce
   refine bR Ce ?_ ?_
   ·intro _ Ce
    have e:=Option.some.inj Ce;subst e
    have e:=Ao hs6;subst e
    exact BP h
   ·intro _ Ce
    exact Cg (pI []) QU hs6 Ce
  ·intro _ Ce
   have e:=Option.some.inj Ce;subst e
   have e:=Ao hs6;subst e
   refine gO ?_
   exact KX _ () h (wG [])
 ·clear h h11
  intro s1 Gq
  exact BP Gq
theorem JA (BA Ua) (r) (h:DC BA Ua=some r):Contract pl 211 [(Eu BA),(AV.fn (.func 212) [] [(AV.ip (AV.int .i32 Ua) 0)])] [] (AV.bool r) []:=by
 refine Af .z Tryz.func211 rfl (by kernel_rfl) ?_
 refine cL h (Ka _ _) ?_
 intro y1 h
 exact BP h
theorem sP (AQ p_r) (r) (h:RL AQ p_r=some r):Contract pl 177 [(Aq AQ),(AV.int .i32 p_r)] [] (AV.bool r) []:=by
 refine Af .z Tryz.func177 rfl (by kernel_rfl) ?_
 refine cL h (JA _ _) ?_
 intro y1 h
 exact BP h
theorem Wd (AQ Nu) (r) (h:K5 AQ Nu=some r):Contract pl 178 [(Aq AQ),(AV.int .i64 Nu)] [] (AV.int .i64 r) []:=by
 refine Af (.t false .z (.t false .z (.t true (.t false (.t false (.t false (.t true .z .z) .z) .z) .z) .z))) Tryz.func178 rfl (by kernel_rfl) ?_
 refine cB (fun s1:Int=>BS 33 [(5,(.int .i64 s1))] []) h ?_ ?_
 ·intro U0 KX x11 h11 h
  refine gO ?_
  refine AO (fun s4:Int×Int=>BS 33 [(1,(.int .i64 s4.1)),(2,(.mp 0 0 0)),(5,(.int .i64 s4.2))] [some ⟨3,26,(.vals [(Aq AQ)]),false,false⟩]) h11 (wG [0]) ?_
  intro k6 s4 eU eZ QU Ce hs6
  refine cB (fun s7:Bool=>BS 33 [(1,(.int .i64 s4.1)),(2,(.mp 0 0 0)),(5,(.int .i64 s4.2)),(11,(.bool s7))] [some ⟨3,26,(.vals [(Aq AQ)]),false,false⟩]) Ce ?_ ?_
  ·intro AaC Ws x12 h12 Ce
   exact Cg (pI [0]) Ws Ce h12
  ·clear Ce
   intro s7 Jr
   refine bR Jr ?_ ?_
   ·intro _ Jr
    refine GH Jr fun Jr=>?_
    refine bR Jr ?_ ?_
    ·intro _ Jr
     have e:=Option.some.inj Jr;subst e
     have e:=Ao hs6;subst e
     refine gO ?_
     exact KX _ (IntKind.wrap .i64 (s4.2+(1:Int))) h (wG [])
    ·intro _ Jr
     refine GH Jr fun Jr=>?_
     refine GH Jr fun Jr=>?_
     refine cL Jr (XP _ _) ?_
     intro y9 Jr
     exact Cg (pI [0]) QU hs6 Jr
   ·intro _ Jr
    have e:=Option.some.inj Jr;subst e
    have e:=Ao hs6;subst e
    refine gO ?_
    exact KX _ s4.2 h (wG [])
 ·clear h
  intro s1 RD
  exact BP RD
theorem sU (KA) (r) (h:RQ KA=some r):Contract pl 237 [(Lg KA)] [] (AV.bool r) []:=by
 refine Af .z Tryz.func237 rfl (by kernel_rfl) ?_
 unfold RQ at h
 exact BP h
end Go.Proofs.YtkeokkmhhhhoiaaGreatDoor
