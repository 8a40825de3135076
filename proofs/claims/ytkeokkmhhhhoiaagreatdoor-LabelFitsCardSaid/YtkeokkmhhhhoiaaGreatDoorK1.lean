/- Contracts of functions, walked by their models; printed by a program of ours. No condition. -/
import Derived.Test.YtkeokkmhhhhoiaaGreatDoorK0
import Derived.Test.YtkeokkmhhhhoiaaGreatDoorProg
import Derived.KernelRfl
namespace Go.Proofs.YtkeokkmhhhhoiaaGreatDoor
open Go Go.SE
set_option linter.unusedVariables false
set_option linter.unusedSimpArgs false
set_option maxRecDepth 10000
set_option maxHeartbeats 2000000
attribute [local irreducible] Contract iter
theorem c_eponymref04_row (p_t p_i) (r) (h : m_eponymref04_row p_t p_i = some r) : Contract pl 171 [(e_api_Norm p_t), (AV.int .i64 p_i)] [] (AV.int .i64 r) [] := by
 refine contract_of (.t false .z (.t false .z (.t false (.t true .z .z) (.t false (.t true .z .z) (.t false (.t true .z .z) (.t true (.t false .z (.t false (.t false (.t false .z (.t false (.t false (.t true .z .z) .z) .z)) .z) .z)) (.t false (.t true .z .z) (.t false .z (.t true .z .z))))))))) Tryz.func171 rfl (by kernel_rfl) ?_
 refine gD2 h fun h => ?_
 refine cB (fun s1 : Bool => mkF 101 [(1, (.int .i64 p_i)), (2, (.mp 0 0 0)), (5, (.mp 1 0 0)), (22, (.bool s1))] [some ⟨3, 26, (.vals [(e_api_Norm p_t)]), false, false⟩, some ⟨2, 96, (.vals [(e_api_Row (p_t.f_Rows.getD (p_i.toNat) d_api_Row))]), false, false⟩]) h ?_ ?_
 ·intro Kn35 hn35 x35 h35 h
  refine cL h35 (c_eponymref01_Right _) ?_
  intro y33 h35
  refine bR h35 ?_ ?_
  ·intro _ h35
   exact AuC (pI [0,1]) hn35 h h35
  ·intro _ h35
   refine cL h35 (c_eponymref04_hangul _) ?_
   intro y34 h35
   exact AuC (pI [0,1]) hn35 h h35
 ·clear h
  intro s1 hc36
  refine bR hc36 ?_ ?_
  ·intro _ hc36
   exact AuF hc36
  ·intro _ hc36
   refine cB (fun s3 : Bool => mkF 101 [(1, (.int .i64 p_i)), (2, (.mp 0 0 0)), (5, (.mp 1 0 0)), (36, (.bool s3))] [some ⟨3, 26, (.vals [(e_api_Norm p_t)]), false, false⟩, some ⟨2, 96, (.vals [(e_api_Row (p_t.f_Rows.getD (p_i.toNat) d_api_Row))]), false, false⟩]) hc36 ?_ ?_
   ·intro Kn37 hn37 x37 h37 hc36
    exact AuC (pI [0,1]) hn37 hc36 h37
   ·clear hc36
    intro s3 hc38
    refine bR hc38 ?_ ?_
    ·intro _ hc38
     exact AuF hc38
    ·intro _ hc38
     refine cB (fun s5 : Bool => mkF 101 [(1, (.int .i64 p_i)), (2, (.mp 0 0 0)), (5, (.mp 1 0 0)), (55, (.bool s5))] [some ⟨3, 26, (.vals [(e_api_Norm p_t)]), false, false⟩, some ⟨2, 96, (.vals [(e_api_Row (p_t.f_Rows.getD (p_i.toNat) d_api_Row))]), false, false⟩]) hc38 ?_ ?_
     ·intro Kn39 hn39 x39 h39 hc38
      exact AuC (pI [0,1]) hn39 hc38 h39
     ·clear hc38
      intro s5 hc40
      refine bR hc40 ?_ ?_
      ·intro _ hc40
       exact AuF hc40
      ·intro _ hc40
       refine gO ?_
       refine bnd hc40 (fun x41 h41 hc40 => ?_)
       refine cut_at (fun s7 : Unit => mkF 101 [(1, (.int .i64 p_i)), (2, (.mp 0 0 0)), (5, (.mp 1 0 0))] [some ⟨3, 26, (.vals [(e_api_Norm p_t)]), false, false⟩, some ⟨2, 96, (.vals [(e_api_Row (p_t.f_Rows.getD (p_i.toNat) d_api_Row))]), false, false⟩]) (fun s7 : Unit => m_eponymref04_row_K8 p_t p_i s7 = some r) ?_ ?_
       ·intro Kn41 hn41
        refine gO ?_
        refine loop_iter (fun s23 : Int => mkF 101 [(1, (.int .i64 p_i)), (2, (.mp 0 0 0)), (5, (.mp 1 0 0)), (6, (.int .i64 s23))] [some ⟨3, 26, (.vals [(e_api_Norm p_t)]), false, false⟩, some ⟨2, 96, (.vals [(e_api_Row (p_t.f_Rows.getD (p_i.toNat) d_api_Row))]), false, false⟩]) h41 (wG [0,1]) ?_
        intro k25 s23 st25 Kn25 hn25 h25_ hs25
        refine bR h25_ ?_ ?_
        ·intro _ h25_
         refine cB (fun s26 : Bool => mkF 101 [(1, (.int .i64 p_i)), (2, (.mp 0 0 0)), (5, (.mp 1 0 0)), (6, (.int .i64 s23)), (77, (.bool s26))] [some ⟨3, 26, (.vals [(e_api_Norm p_t)]), false, false⟩, some ⟨2, 96, (.vals [(e_api_Row (p_t.f_Rows.getD (p_i.toNat) d_api_Row))]), false, false⟩]) h25_ ?_ ?_
         ·intro Kn42 hn42 x42 h42 h25_
          refine gD2 h42 fun h42 => ?_
          refine cL h42 (c_eponymref01_Right _) ?_
          intro y28 h42
          refine bR h42 ?_ ?_
          ·intro _ h42
           exact AuC (pI [0,1]) hn42 h25_ h42
          ·intro _ h42
           refine gD2 h42 fun h42 => ?_
           refine cL h42 (c_eponymref04_hangul _) ?_
           intro y29 h42
           exact AuC (pI [0,1]) hn42 h25_ h42
         ·clear h25_
          intro s26 hc43
          refine bR hc43 ?_ ?_
          ·intro _ hc43
           have e := Option.some.inj hc43; subst e
           have e := done_out hs25; subst e
           exact AuF hc40
          ·intro _ hc43
           exact AuC (pI [0,1]) hn25 hs25 hc43
        ·intro _ h25_
         have e := Option.some.inj h25_; subst e
         have e := done_out hs25; subst e
         refine gO ?_
         exact hn41 _ () hc40 (wG [0,1])
       ·clear hc40 h41
        intro s7 hc44
        refine cB (fun s9 : Bool => mkF 101 [(1, (.int .i64 p_i)), (2, (.mp 0 0 0)), (90, (.bool s9))] [some ⟨3, 26, (.vals [(e_api_Norm p_t)]), false, false⟩]) hc44 ?_ ?_
        ·intro Kn45 hn45 x45 h45 hc44
         refine bR h45 ?_ ?_
         ·intro _ h45
          refine gD2 h45 fun h45 => ?_
          refine cL h45 (c_eponymref04_Row _ _) ?_
          intro y21 h45
          exact AuC (pI [0]) hn45 hc44 h45
         ·intro _ h45
          exact AuC (pI [0]) hn45 hc44 h45
        ·clear hc44
         intro s9 hc46
         refine bR hc46 ?_ ?_
         ·intro _ hc46
          exact AuF hc46
         ·intro _ hc46
          refine gO ?_
          refine bnd hc46 (fun x47 h47 hc46 => ?_)
          refine cut_at (fun s11 : Unit => mkF 101 [] []) (fun s11 : Unit => some (0 : Int) = some r) ?_ ?_
          ·intro Kn47 hn47
           refine gO ?_
           refine loop_iter (fun s14 : Int × Int => mkF 101 [(2, (.mp 0 0 0)), (7, (.int .i64 s14.1)), (8, (.int .i64 s14.2))] [some ⟨3, 26, (.vals [(e_api_Norm p_t)]), false, false⟩]) h47 (wG [0]) ?_
           intro k16 s14 st16 Kn16 hn16 h16_ hs16
           refine bR h16_ ?_ ?_
           ·intro _ h16_
            refine bR h16_ ?_ ?_
            ·intro _ h16_
             have e := Option.some.inj h16_; subst e
             have e := done_out hs16; subst e
             exact AuF hc46
            ·intro _ h16_
             refine cL h16_ (c_eponymref04_ahead _ _) ?_
             intro y17 h16_
             exact AuC (pI [0]) hn16 hs16 h16_
           ·intro _ h16_
            have e := Option.some.inj h16_; subst e
            have e := done_out hs16; subst e
            refine gO ?_
            exact hn47 _ () hc46 (wG [])
          ·clear hc46 h47
           intro s11 hc48
           exact AuF hc48
theorem c_eponymref03_May (p_x) (r) (h : m_eponymref03_May p_x = some r) : Contract pl 209 [(e_api_Range p_x)] [] (AV.bool r) [] := by
 refine contract_of .z Tryz.func209 rfl (by kernel_rfl) ?_
 unfold m_eponymref03_May at h
 exact AuF h
theorem c_eponymref03_Check (p_l) (r) (h : m_eponymref03_Check p_l = some r) : Contract pl 172 [(e_L_api_Range p_l)] [] (AV.tup [(AV.int .i64 r.1), (AV.int .i64 r.2)]) [] := by
 refine contract_of (.t false .z (.t false .z (.t true (.t false .z (.t false (.t false (.t false .z (.t false (.t false (.t false .z (.t true .z .z)) .z) .z)) .z) .z)) .z))) Tryz.func172 rfl (by kernel_rfl) ?_
 refine bR h ?_ ?_
 ·intro _ h
  exact AuF h
 ·intro _ h
  refine gO ?_
  refine bnd h (fun x13 h13 h => ?_)
  refine cut_at (fun s1 : Unit => mkF 38 [] []) (fun s1 : Unit => some ((0 : Int), (0 : Int)) = some r) ?_ ?_
  ·intro Kn13 hn13
   refine gO ?_
   refine loop_iter (fun s4 : Int => mkF 38 [(0, (e_L_api_Range p_l)), (4, (.int .i64 s4))] []) h13 (wG []) ?_
   intro k6 s4 st6 Kn6 hn6 h6_ hs6
   refine bR h6_ ?_ ?_
   ·intro _ h6_
    refine gD2 h6_ fun h6_ => ?_
    refine cL h6_ (c_eponymref03_May _) ?_
    intro y7 h6_
    refine bR h6_ ?_ ?_
    ·intro _ h6_
     have e := Option.some.inj h6_; subst e
     have e := done_out hs6; subst e
     exact AuF h
    ·intro _ h6_
     refine cB (fun s8 : Bool => mkF 38 [(0, (e_L_api_Range p_l)), (4, (.int .i64 s4)), (36, (.bool s8))] []) h6_ ?_ ?_
     ·intro Kn14 hn14 x14 h14 h6_
      exact AuC (pI []) hn14 h6_ h14
     ·clear h6_
      intro s8 hc15
      refine bR hc15 ?_ ?_
      ·intro _ hc15
       have e := Option.some.inj hc15; subst e
       have e := done_out hs6; subst e
       exact AuF h
      ·intro _ hc15
       exact AuC (pI []) hn6 hs6 hc15
   ·intro _ h6_
    have e := Option.some.inj h6_; subst e
    have e := done_out hs6; subst e
    refine gO ?_
    exact hn13 _ () h (wG [])
  ·clear h h13
   intro s1 hc16
   exact AuF hc16
theorem c_eponymref04_excluded (p_t p_r) (r) (h : m_eponymref04_excluded p_t p_r = some r) : Contract pl 210 [(e_api_Norm p_t), (AV.int .i32 p_r)] [] (AV.bool r) [] := by
 refine contract_of (.t false .z (.t true .z .z)) Tryz.func210 rfl (by kernel_rfl) ?_
 refine gO ?_
 refine bnd h (fun x10 h10 h => ?_)
 refine cut_at (fun s1 : Unit => mkF 20 [] []) (fun s1 : Unit => some false = some r) ?_ ?_
 ·intro Kn10 hn10
  refine gO ?_
  refine loop_iter (fun s4 : Int => mkF 20 [(1, (.int .i32 p_r)), (2, (.mp 0 0 0)), (5, (.int .i64 s4))] [some ⟨3, 26, (.vals [(e_api_Norm p_t)]), false, false⟩]) h10 (wG [0]) ?_
  intro k6 s4 st6 Kn6 hn6 h6_ hs6
  refine bR h6_ ?_ ?_
  ·intro _ h6_
   refine gD2 h6_ fun h6_ => ?_
   refine bR h6_ ?_ ?_
   ·intro _ h6_
    have e := Option.some.inj h6_; subst e
    have e := done_out hs6; subst e
    exact AuF h
   ·intro _ h6_
    exact AuC (pI [0]) hn6 hs6 h6_
  ·intro _ h6_
   have e := Option.some.inj h6_; subst e
   have e := done_out hs6; subst e
   refine gO ?_
   exact hn10 _ () h (wG [])
 ·clear h h10
  intro s1 hc11
  exact AuF hc11
theorem c_eponymref03_Find (p_l p_r) (r) (h : m_eponymref03_Find p_l p_r = some r) : Contract pl 76 [(e_L_api_Range p_l), (AV.int .i32 p_r)] [] (AV.tup [(AV.int .i64 r.1), (AV.bool r.2)]) [] := by
 refine contract_of (.t false .z (.t true (.t false .z (.t false (.t false (.t false .z (.t false (.t false (.t true .z .z) .z) .z)) .z) .z)) .z)) Tryz.func76 rfl (by kernel_rfl) ?_
 refine gO ?_
 refine bnd h (fun x12 h12 h => ?_)
 refine cut_at (fun s1 : Unit => mkF 34 [] []) (fun s1 : Unit => some ((0 : Int), false) = some r) ?_ ?_
 ·intro Kn12 hn12
  refine gO ?_
  refine loop_iter (fun s4 : Int => mkF 34 [(0, (e_L_api_Range p_l)), (1, (.int .i32 p_r)), (6, (.int .i64 s4))] []) h12 (wG []) ?_
  intro k6 s4 st6 Kn6 hn6 h6_ hs6
  refine bR h6_ ?_ ?_
  ·intro _ h6_
   refine cB (fun s7 : Bool => mkF 34 [(0, (e_L_api_Range p_l)), (1, (.int .i32 p_r)), (6, (.int .i64 s4)), (28, (.bool s7))] []) h6_ ?_ ?_
   ·intro Kn13 hn13 x13 h13 h6_
    exact AuC (pI []) hn13 h6_ h13
   ·clear h6_
    intro s7 hc14
    refine bR hc14 ?_ ?_
    ·intro _ hc14
     refine gD2 hc14 fun hc14 => ?_
     have e := Option.some.inj hc14; subst e
     have e := done_out hs6; subst e
     exact AuF h
    ·intro _ hc14
     exact AuC (pI []) hn6 hs6 hc14
  ·intro _ h6_
   have e := Option.some.inj h6_; subst e
   have e := done_out hs6; subst e
   refine gO ?_
   exact hn12 _ () h (wG [])
 ·clear h h12
  intro s1 hc15
  exact AuF hc15
theorem c_eponymref04_Class (p_t p_r) (r) (h : m_eponymref04_Class p_t p_r = some r) : Contract pl 127 [(e_api_Norm p_t), (AV.int .i32 p_r)] [] (AV.int .i64 r) [] := by
 refine contract_of .z Tryz.func127 rfl (by kernel_rfl) ?_
 refine cL h (c_eponymref03_Find _ _) ?_
 intro y1 h
 exact AuF h
theorem c_eponymref04_Composes (p_t p_i) (r) (h : m_eponymref04_Composes p_t p_i = some r) : Contract pl 174 [(e_api_Norm p_t), (AV.int .i64 p_i)] [] (AV.bool r) [] := by
 refine contract_of (.t false .z (.t false (.t true .z .z) .z)) Tryz.func174 rfl (by kernel_rfl) ?_
 refine cB (fun s1 : Bool => mkF 57 [(1, (.int .i64 p_i)), (2, (.mp 0 0 0)), (23, (.bool s1))] [some ⟨3, 26, (.vals [(e_api_Norm p_t)]), false, false⟩]) h ?_ ?_
 ·intro Kn6 hn6 x6 h6 h
  exact AuC (pI [0]) hn6 h h6
 ·clear h
  intro s1 hc7
  refine bR hc7 ?_ ?_
  ·intro _ hc7
   exact AuF hc7
  ·intro _ hc7
   refine gD2 hc7 fun hc7 => ?_
   refine cL hc7 (c_eponymref04_excluded _ _) ?_
   intro y3 hc7
   refine bR hc7 ?_ ?_
   ·intro _ hc7
    refine gD2 hc7 fun hc7 => ?_
    refine cL hc7 (c_eponymref04_Class _ _) ?_
    intro y4 hc7
    refine bR hc7 ?_ ?_
    ·intro _ hc7
     refine gD2 hc7 fun hc7 => ?_
     refine gD2 hc7 fun hc7 => ?_
     refine cL hc7 (c_eponymref04_Class _ _) ?_
     intro y5 hc7
     exact AuF hc7
    ·intro _ hc7
     exact AuF hc7
   ·intro _ hc7
    exact AuF hc7
theorem c_eponymref04_Check (p_t) (r) (h : m_eponymref04_Check p_t = some r) : Contract pl 122 [(e_api_Norm p_t)] [] (AV.tup [(AV.int .i64 r.1), (AV.int .i64 r.2)]) [] := by
 refine contract_of (.t false .z (.t false (.t true .z .z) (.t true .z (.t false .z (.t true (.t false .z (.t false (.t false (.t false .z (.t true (.t false (.t false (.t true .z .z) .z) .z) .z)) .z) .z)) (.t true (.t false .z (.t false (.t false (.t false .z (.t false (.t false (.t false .z (.t true .z .z)) .z) .z)) .z) .z)) (.t true (.t false .z (.t false (.t false (.t false .z (.t true (.t false (.t false .z (.t false (.t false (.t false .z (.t false (.t false (.t true .z .z) .z) .z)) .z) .z)) .z) .z)) .z) .z)) .z))))))) Tryz.func122 rfl (by kernel_rfl) ?_
 refine cB (fun s1 : Bool => mkF 181 [(1, (.mp 0 0 0)), (22, (.bool s1))] [some ⟨3, 26, (.vals [(e_api_Norm p_t)]), false, false⟩]) h ?_ ?_
 ·intro Kn69 hn69 x69 h69 h
  exact AuC (pI [0]) hn69 h h69
 ·clear h
  intro s1 hc70
  refine bR hc70 ?_ ?_
  ·intro _ hc70
   exact AuF hc70
  ·intro _ hc70
   refine gO ?_
   refine bnd hc70 (fun x71 h71 hc70 => ?_)
   refine cut_at (fun s3 : Unit => mkF 181 [(1, (.mp 0 0 0))] [some ⟨3, 26, (.vals [(e_api_Norm p_t)]), false, false⟩]) (fun s3 : Unit => m_eponymref04_Check_K4 p_t s3 = some r) ?_ ?_
   ·intro Kn71 hn71
    refine gO ?_
    refine loop_iter (fun s62 : Int => mkF 181 [(1, (.mp 0 0 0)), (4, (.int .i64 s62))] [some ⟨3, 26, (.vals [(e_api_Norm p_t)]), false, false⟩]) h71 (wG [0]) ?_
    intro k64 s62 st64 Kn64 hn64 h64_ hs64
    refine bR h64_ ?_ ?_
    ·intro _ h64_
     refine cL h64_ (c_eponymref04_row _ _) ?_
     intro y65 h64_
     refine bR h64_ ?_ ?_
     ·intro _ h64_
      have e := Option.some.inj h64_; subst e
      have e := done_out hs64; subst e
      exact AuF hc70
     ·intro _ h64_
      exact AuC (pI [0]) hn64 hs64 h64_
    ·intro _ h64_
     have e := Option.some.inj h64_; subst e
     have e := done_out hs64; subst e
     refine gO ?_
     exact hn71 _ () hc70 (wG [0])
   ·clear hc70 h71
    intro s3 hc72
    refine cL hc72 (c_eponymref03_Check _) ?_
    intro y5 hc72
    refine bR hc72 ?_ ?_
    ·intro _ hc72
     exact AuF hc72
    ·intro _ hc72
     refine gO ?_
     refine bnd hc72 (fun x73 h73 hc72 => ?_)
     refine cut_at (fun s6 : Unit => mkF 181 [(1, (.mp 0 0 0))] [some ⟨3, 26, (.vals [(e_api_Norm p_t)]), false, false⟩]) (fun s6 : Unit => m_eponymref04_Check_K7 p_t s6 = some r) ?_ ?_
     ·intro Kn73 hn73
      refine gO ?_
      refine loop_iter (fun s43 : Int => mkF 181 [(1, (.mp 0 0 0)), (8, (.int .i64 s43))] [some ⟨3, 26, (.vals [(e_api_Norm p_t)]), false, false⟩]) h73 (wG [0]) ?_
      intro k45 s43 st45 Kn45 hn45 h45_ hs45
      refine bR h45_ ?_ ?_
      ·intro _ h45_
       refine gO ?_
       refine bnd h45_ (fun x74 h74 h45_ => ?_)
       refine cut_at (fun s46 : Unit => mkF 181 [(1, (.mp 0 0 0)), (8, (.int .i64 s43))] [some ⟨3, 26, (.vals [(e_api_Norm p_t)]), false, false⟩]) (fun s46 : Unit => some (.next (IntKind.wrap .i64 (s43 + (1 : Int)))) = some st45) ?_ ?_
       ·intro Kn74 hn74
        refine cB (fun s48 : Bool => mkF 181 [(1, (.mp 0 0 0)), (8, (.int .i64 s43)), (69, (.bool s48))] [some ⟨3, 26, (.vals [(e_api_Norm p_t)]), false, false⟩]) h74 ?_ ?_
        ·intro Kn75 hn75 x75 h75 h74
         exact AuC (pI [0]) hn75 h74 h75
        ·clear h74
         intro s48 hc76
         refine bR hc76 ?_ ?_
         ·intro _ hc76
          have e := Option.some.inj hc76; subst e
          have e := Option.some.inj h45_; subst e
          have e := done_out hs45; subst e
          exact AuF hc72
         ·intro _ hc76
          refine gD2 hc76 fun hc76 => ?_
          refine lB (fun s51 : Int => mkF 181 [(1, (.mp 0 0 0)), (8, (.int .i64 s43)), (9, (.int .i32 s51))] [some ⟨3, 26, (.vals [(e_api_Norm p_t)]), false, false⟩]) hc76 ?_ ?_
          ·exact wG [0]
          intro x53 hc76 k53 s51 st53 Kn53 hn53 h53 hs53
          refine gD2 h53 fun h53 => ?_
          refine bR h53 ?_ ?_
          ·intro _ h53
           refine cL h53 (c_eponymref04_hangul _) ?_
           intro y54 h53
           refine bR h53 ?_ ?_
           ·intro _ h53
            have e := Option.some.inj h53; subst e
            have e := done_out hs53; subst e
            have e := Option.some.inj hc76; subst e
            have e := Option.some.inj h45_; subst e
            have e := done_out hs45; subst e
            exact AuF hc72
           ·intro _ h53
            exact AuC (pI [0]) hn53 hs53 h53
          ·intro _ h53
           have e := Option.some.inj h53; subst e
           have e := done_out hs53; subst e
           exact AuC (pI [0]) hn74 h45_ hc76
       ·clear h45_ h74
        intro s46 hc77
        exact AuC (pI [0]) hn45 hs45 hc77
      ·intro _ h45_
       have e := Option.some.inj h45_; subst e
       have e := done_out hs45; subst e
       refine gO ?_
       exact hn73 _ () hc72 (wG [0])
     ·clear hc72 h73
      intro s6 hc78
      refine gO ?_
      refine bnd hc78 (fun x79 h79 hc78 => ?_)
      refine cut_at (fun s8 : Unit => mkF 181 [(1, (.mp 0 0 0))] [some ⟨3, 26, (.vals [(e_api_Norm p_t)]), false, false⟩]) (fun s8 : Unit => m_eponymref04_Check_K9 p_t s8 = some r) ?_ ?_
      ·intro Kn79 hn79
       refine gO ?_
       refine loop_iter (fun s33 : Int => mkF 181 [(1, (.mp 0 0 0)), (10, (.int .i64 s33))] [some ⟨3, 26, (.vals [(e_api_Norm p_t)]), false, false⟩]) h79 (wG [0]) ?_
       intro k35 s33 st35 Kn35 hn35 h35_ hs35
       refine bR h35_ ?_ ?_
       ·intro _ h35_
        refine gD2 h35_ fun h35_ => ?_
        refine cL h35_ (c_eponymref01_Right _) ?_
        intro y36 h35_
        refine bR h35_ ?_ ?_
        ·intro _ h35_
         have e := Option.some.inj h35_; subst e
         have e := done_out hs35; subst e
         exact AuF hc78
        ·intro _ h35_
         refine cB (fun s37 : Bool => mkF 181 [(1, (.mp 0 0 0)), (10, (.int .i64 s33)), (120, (.bool s37))] [some ⟨3, 26, (.vals [(e_api_Norm p_t)]), false, false⟩]) h35_ ?_ ?_
         ·intro Kn80 hn80 x80 h80 h35_
          exact AuC (pI [0]) hn80 h35_ h80
         ·clear h35_
          intro s37 hc81
          refine bR hc81 ?_ ?_
          ·intro _ hc81
           have e := Option.some.inj hc81; subst e
           have e := done_out hs35; subst e
           exact AuF hc78
          ·intro _ hc81
           exact AuC (pI [0]) hn35 hs35 hc81
       ·intro _ h35_
        have e := Option.some.inj h35_; subst e
        have e := done_out hs35; subst e
        refine gO ?_
        exact hn79 _ () hc78 (wG [0])
      ·clear hc78 h79
       intro s8 hc82
       refine gO ?_
       refine bnd hc82 (fun x83 h83 hc82 => ?_)
       refine cut_at (fun s10 : Unit => mkF 181 [] []) (fun s10 : Unit => some ((0 : Int), (0 : Int)) = some r) ?_ ?_
       ·intro Kn83 hn83
        refine gO ?_
        refine loop_iter (fun s13 : Int => mkF 181 [(1, (.mp 0 0 0)), (11, (.int .i64 s13))] [some ⟨3, 26, (.vals [(e_api_Norm p_t)]), false, false⟩]) h83 (wG [0]) ?_
        intro k15 s13 st15 Kn15 hn15 h15_ hs15
        refine bR h15_ ?_ ?_
        ·intro _ h15_
         refine gO ?_
         refine bnd h15_ (fun x84 h84 h15_ => ?_)
         refine cut_at (fun s16 : Unit => mkF 181 [(1, (.mp 0 0 0)), (11, (.int .i64 s13))] [some ⟨3, 26, (.vals [(e_api_Norm p_t)]), false, false⟩]) (fun s16 : Unit => some (.next (IntKind.wrap .i64 (s13 + (1 : Int)))) = some st15) ?_ ?_
         ·intro Kn84 hn84
          refine gO ?_
          refine loop_iter (fun s19 : Int => mkF 181 [(1, (.mp 0 0 0)), (11, (.int .i64 s13)), (12, (.int .i64 s19))] [some ⟨3, 26, (.vals [(e_api_Norm p_t)]), false, false⟩]) h84 (wG [0]) ?_
          intro k21 s19 st21 Kn21 hn21 h21_ hs21
          refine bR h21_ ?_ ?_
          ·intro _ h21_
           refine cB (fun s22 : Bool => mkF 181 [(1, (.mp 0 0 0)), (11, (.int .i64 s13)), (12, (.int .i64 s19)), (179, (.bool s22))] [some ⟨3, 26, (.vals [(e_api_Norm p_t)]), false, false⟩]) h21_ ?_ ?_
           ·intro Kn85 hn85 x85 h85 h21_
            refine cL h85 (c_eponymref04_Composes _ _) ?_
            intro y24 h85
            refine bR h85 ?_ ?_
            ·intro _ h85
             refine cL h85 (c_eponymref04_Composes _ _) ?_
             intro y25 h85
             exact AuC (pI [0]) hn85 h21_ h85
            ·intro _ h85
             exact AuC (pI [0]) hn85 h21_ h85
           ·clear h21_
            intro s22 hc86
            refine bR hc86 ?_ ?_
            ·intro _ hc86
             have e := Option.some.inj hc86; subst e
             have e := done_out hs21; subst e
             have e := Option.some.inj h15_; subst e
             have e := done_out hs15; subst e
             exact AuF hc82
            ·intro _ hc86
             exact AuC (pI [0]) hn21 hs21 hc86
          ·intro _ h21_
           have e := Option.some.inj h21_; subst e
           have e := done_out hs21; subst e
           refine gO ?_
           exact hn84 _ () h15_ (wG [0])
         ·clear h15_ h84
          intro s16 hc87
          exact AuC (pI [0]) hn15 hs15 hc87
        ·intro _ h15_
         have e := Option.some.inj h15_; subst e
         have e := done_out hs15; subst e
         refine gO ?_
         exact hn83 _ () hc82 (wG [])
       ·clear hc82 h83
        intro s10 hc88
        exact AuF hc88
theorem c_eponymref07_Check (p_p) (r) (h : m_eponymref07_Check p_p = some r) : Contract pl 123 [(e_api_Props p_p)] [] (AV.tup [(AV.int .i64 r.1), (AV.int .i64 r.2)]) [] := by
 refine contract_of (.t false .z (.t false .z (.t false .z (.t true (.t false .z (.t false (.t false (.t false .z (.t true (.t false (.t false .z (.t false .z (.t false (.t false (.t false .z (.t false (.t false (.t true .z .z) .z) .z)) .z) .z))) .z) .z)) .z) .z)) .z)))) Tryz.func123 rfl (by kernel_rfl) ?_
 refine gO ?_
 refine natEq rfl ?_
 refine cL h (c_eponymref07_Tables _) ?_
 intro y1 h
 refine gO ?_
 refine natEq rfl ?_
 refine gO ?_
 refine bnd h (fun x23 h23 h => ?_)
 refine cut_at (fun s2 : Unit => mkF 64 [] []) (fun s2 : Unit => some ((0 : Int), (0 : Int)) = some r) ?_ ?_
 ·intro Kn23 hn23
  refine gO ?_
  refine loop_iter (fun s5 : Int => mkF 64 [(4, (.mp 0 0 0)), (5, (.mp 1 0 0)), (6, (.int .i64 s5))] [some ⟨1, 105, (.ints .i64 [(5 : Int), (0 : Int), (0 : Int), (0 : Int), (0 : Int), (0 : Int), (0 : Int), (4 : Int), (5 : Int), (11 : Int), (0 : Int)]), false, false⟩, some ⟨1, 160, (.imf [(y1.getD 0 []), (y1.getD 1 []), (y1.getD 2 []), (y1.getD 3 []), (y1.getD 4 []), (y1.getD 5 []), (y1.getD 6 []), (y1.getD 7 []), (y1.getD 8 []), (y1.getD 9 []), (y1.getD 10 [])].length fun j => (e_L_api_Range ([(y1.getD 0 []), (y1.getD 1 []), (y1.getD 2 []), (y1.getD 3 []), (y1.getD 4 []), (y1.getD 5 []), (y1.getD 6 []), (y1.getD 7 []), (y1.getD 8 []), (y1.getD 9 []), (y1.getD 10 [])].getD j []))), false, false⟩]) h23 (weak_gen [1, 2] rfl rfl (sK rfl (by first | exact rowLe_same fun _ _ _ => rfl | (simp; exact rowLe_same fun _ _ _ => rfl)) (sK rfl (rowLe_lit (fun x => (e_L_api_Range x)) [] [(y1.getD 0 []), (y1.getD 1 []), (y1.getD 2 []), (y1.getD 3 []), (y1.getD 4 []), (y1.getD 5 []), (y1.getD 6 []), (y1.getD 7 []), (y1.getD 8 []), (y1.getD 9 []), (y1.getD 10 [])]) storeLe.nil)) (sQ rfl rfl)) ?_
  intro k7 s5 st7 Kn7 hn7 h7_ hs7
  refine bR h7_ ?_ ?_
  ·intro _ h7_
   refine gO ?_
   refine bnd h7_ (fun x24 h24 h7_ => ?_)
   refine cut_at (fun s8 : Unit => mkF 64 [(4, (.mp 0 0 0)), (5, (.mp 1 0 0)), (6, (.int .i64 s5))] [some ⟨1, 105, (.ints .i64 [(5 : Int), (0 : Int), (0 : Int), (0 : Int), (0 : Int), (0 : Int), (0 : Int), (4 : Int), (5 : Int), (11 : Int), (0 : Int)]), false, false⟩, some ⟨1, 160, (.imf [(y1.getD 0 []), (y1.getD 1 []), (y1.getD 2 []), (y1.getD 3 []), (y1.getD 4 []), (y1.getD 5 []), (y1.getD 6 []), (y1.getD 7 []), (y1.getD 8 []), (y1.getD 9 []), (y1.getD 10 [])].length fun j => (e_L_api_Range ([(y1.getD 0 []), (y1.getD 1 []), (y1.getD 2 []), (y1.getD 3 []), (y1.getD 4 []), (y1.getD 5 []), (y1.getD 6 []), (y1.getD 7 []), (y1.getD 8 []), (y1.getD 9 []), (y1.getD 10 [])].getD j []))), false, false⟩]) (fun s8 : Unit => some (.next (IntKind.wrap .i64 (s5 + (1 : Int)))) = some st7) ?_ ?_
   ·intro Kn24 hn24
    refine gD2 h24 fun h24 => ?_
    refine cL h24 (c_eponymref03_Check _) ?_
    intro y10 h24
    refine bR h24 ?_ ?_
    ·intro _ h24
     have e := Option.some.inj h24; subst e
     have e := Option.some.inj h7_; subst e
     have e := done_out hs7; subst e
     exact AuF h
    ·intro _ h24
     refine lB (fun s12 : Int => mkF 64 [(4, (.mp 0 0 0)), (5, (.mp 1 0 0)), (6, (.int .i64 s5)), (9, (.int .i64 s12))] [some ⟨1, 105, (.ints .i64 [(5 : Int), (0 : Int), (0 : Int), (0 : Int), (0 : Int), (0 : Int), (0 : Int), (4 : Int), (5 : Int), (11 : Int), (0 : Int)]), false, false⟩, some ⟨1, 160, (.imf [(y1.getD 0 []), (y1.getD 1 []), (y1.getD 2 []), (y1.getD 3 []), (y1.getD 4 []), (y1.getD 5 []), (y1.getD 6 []), (y1.getD 7 []), (y1.getD 8 []), (y1.getD 9 []), (y1.getD 10 [])].length fun j => (e_L_api_Range ([(y1.getD 0 []), (y1.getD 1 []), (y1.getD 2 []), (y1.getD 3 []), (y1.getD 4 []), (y1.getD 5 []), (y1.getD 6 []), (y1.getD 7 []), (y1.getD 8 []), (y1.getD 9 []), (y1.getD 10 [])].getD j []))), false, false⟩]) h24 ?_ ?_
     ·exact wG [0,1]
     intro x14 h24 k14 s12 st14 Kn14 hn14 h14 hs14
     refine gD2 h14 fun h14 => ?_
     refine bR h14 ?_ ?_
     ·intro _ h14
      refine cB (fun s15 : Bool => mkF 64 [(4, (.mp 0 0 0)), (5, (.mp 1 0 0)), (6, (.int .i64 s5)), (9, (.int .i64 s12)), (62, (.bool s15))] [some ⟨1, 105, (.ints .i64 [(5 : Int), (0 : Int), (0 : Int), (0 : Int), (0 : Int), (0 : Int), (0 : Int), (4 : Int), (5 : Int), (11 : Int), (0 : Int)]), false, false⟩, some ⟨1, 160, (.imf [(y1.getD 0 []), (y1.getD 1 []), (y1.getD 2 []), (y1.getD 3 []), (y1.getD 4 []), (y1.getD 5 []), (y1.getD 6 []), (y1.getD 7 []), (y1.getD 8 []), (y1.getD 9 []), (y1.getD 10 [])].length fun j => (e_L_api_Range ([(y1.getD 0 []), (y1.getD 1 []), (y1.getD 2 []), (y1.getD 3 []), (y1.getD 4 []), (y1.getD 5 []), (y1.getD 6 []), (y1.getD 7 []), (y1.getD 8 []), (y1.getD 9 []), (y1.getD 10 [])].getD j []))), false, false⟩]) h14 ?_ ?_
      ·intro Kn25 hn25 x25 h25 h14
       exact AuC (pI [0,1]) hn25 h14 h25
      ·clear h14
       intro s15 hc26
       refine bR hc26 ?_ ?_
       ·intro _ hc26
        have e := Option.some.inj hc26; subst e
        have e := done_out hs14; subst e
        have e := Option.some.inj h24; subst e
        have e := Option.some.inj h7_; subst e
        have e := done_out hs7; subst e
        exact AuF h
       ·intro _ hc26
        exact AuC (pI [0,1]) hn14 hs14 hc26
     ·intro _ h14
      have e := Option.some.inj h14; subst e
      have e := done_out hs14; subst e
      exact AuC (pI [0,1]) hn24 h7_ h24
   ·clear h7_ h24
    intro s8 hc27
    exact AuC (pI [0,1]) hn7 hs7 hc27
  ·intro _ h7_
   have e := Option.some.inj h7_; subst e
   have e := done_out hs7; subst e
   refine gO ?_
   exact hn23 _ () h (wG [])
 ·clear h h23
  intro s2 hc28
  exact AuF hc28
theorem c_eponymref08_Check (p_t) (r) (h : m_eponymref08_Check p_t = some r) : Contract pl 67 [(e_api_Tables p_t)] [] (AV.tup [(AV.int .i64 r.1), (AV.int .i64 r.2)]) [] := by
 refine contract_of .z Tryz.func67 rfl (by kernel_rfl) ?_
 refine cL h (c_eponymref04_Check _) ?_
 intro y1 h
 refine bR h ?_ ?_
 ·intro _ h
  exact AuF h
 ·intro _ h
  refine cL h (c_eponymref07_Check _) ?_
  intro y2 h
  exact AuF h
theorem c_eponymref10_turned (p_t p_r) (r) (h : m_eponymref10_turned p_t p_r = some r) : Contract pl 33 [(e_api_Tables p_t), (AV.int .i32 p_r)] [] (AV.bool r) [] := by
 refine contract_of (.t false .z (.t true .z .z)) Tryz.func33 rfl (by kernel_rfl) ?_
 refine gO ?_
 refine bnd h (fun x10 h10 h => ?_)
 refine cut_at (fun s1 : Unit => mkF 21 [] []) (fun s1 : Unit => some false = some r) ?_ ?_
 ·intro Kn10 hn10
  refine gO ?_
  refine loop_iter (fun s4 : Int => mkF 21 [(1, (.int .i32 p_r)), (2, (.mp 0 0 0)), (5, (.int .i64 s4))] [some ⟨15, 31, (.vals [(e_api_Tables p_t)]), false, false⟩]) h10 (wG [0]) ?_
  intro k6 s4 st6 Kn6 hn6 h6_ hs6
  refine bR h6_ ?_ ?_
  ·intro _ h6_
   refine gD2 h6_ fun h6_ => ?_
   refine bR h6_ ?_ ?_
   ·intro _ h6_
    have e := Option.some.inj h6_; subst e
    have e := done_out hs6; subst e
    exact AuF h
   ·intro _ h6_
    exact AuC (pI [0]) hn6 hs6 h6_
  ·intro _ h6_
   have e := Option.some.inj h6_; subst e
   have e := done_out hs6; subst e
   refine gO ?_
   exact hn10 _ () h (wG [])
 ·clear h h10
  intro s1 hc11
  exact AuF hc11
theorem c_eponymref10_Fit (p_t) (r) (h : m_eponymref10_Fit p_t = some r) : Contract pl 25 [(e_api_Tables p_t)] [] (AV.tup [(AV.int .i64 r.1), (AV.int .i64 r.2)]) [] := by
 refine contract_of (.t false .z (.t false .z (.t true (.t false .z (.t false (.t false (.t false .z (.t false (.t false (.t false .z (.t true .z .z)) .z) .z)) .z) .z)) (.t true .z (.t false .z (.t true (.t false .z (.t false (.t false (.t false .z (.t false (.t false (.t false .z (.t false (.t true .z .z) (.t true .z .z))) .z) .z)) .z) .z)) (.t true .z .z))))))) Tryz.func25 rfl (by kernel_rfl) ?_
 refine cL h (c_eponymref08_Check _) ?_
 intro y1 h
 refine bR h ?_ ?_
 ·intro _ h
  exact AuF h
 ·intro _ h
  refine gO ?_
  refine bnd h (fun x47 h47 h => ?_)
  refine cut_at (fun s2 : Unit => mkF 142 [(1, (.mp 0 0 0))] [some ⟨15, 31, (.vals [(e_api_Tables p_t)]), false, false⟩]) (fun s2 : Unit => m_eponymref10_Fit_K3 p_t s2 = some r) ?_ ?_
  ·intro Kn47 hn47
   refine gO ?_
   refine loop_iter (fun s39 : Int => mkF 142 [(1, (.mp 0 0 0)), (6, (.int .i64 s39))] [some ⟨15, 31, (.vals [(e_api_Tables p_t)]), false, false⟩]) h47 (wG [0]) ?_
   intro k41 s39 st41 Kn41 hn41 h41_ hs41
   refine bR h41_ ?_ ?_
   ·intro _ h41_
    refine gD2 h41_ fun h41_ => ?_
    refine cB (fun s42 : Bool => mkF 142 [(1, (.mp 0 0 0)), (6, (.int .i64 s39)), (50, (.bool s42))] [some ⟨15, 31, (.vals [(e_api_Tables p_t)]), false, false⟩]) h41_ ?_ ?_
    ·intro Kn48 hn48 x48 h48 h41_
     exact AuC (pI [0]) hn48 h41_ h48
    ·clear h41_
     intro s42 hc49
     refine bR hc49 ?_ ?_
     ·intro _ hc49
      have e := Option.some.inj hc49; subst e
      have e := done_out hs41; subst e
      exact AuF h
     ·intro _ hc49
      exact AuC (pI [0]) hn41 hs41 hc49
   ·intro _ h41_
    have e := Option.some.inj h41_; subst e
    have e := done_out hs41; subst e
    refine gO ?_
    exact hn47 _ () h (wG [0])
  ·clear h h47
   intro s2 hc50
   refine gO ?_
   refine bnd hc50 (fun x51 h51 hc50 => ?_)
   refine cut_at (fun s4 : Unit => mkF 142 [(1, (.mp 0 0 0))] [some ⟨15, 31, (.vals [(e_api_Tables p_t)]), false, false⟩]) (fun s4 : Unit => m_eponymref10_Fit_K5 p_t s4 = some r) ?_ ?_
   ·intro Kn51 hn51
    refine gO ?_
    refine loop_iter (fun s32 : Int => mkF 142 [(1, (.mp 0 0 0)), (8, (.int .i64 s32))] [some ⟨15, 31, (.vals [(e_api_Tables p_t)]), false, false⟩]) h51 (wG [0]) ?_
    intro k34 s32 st34 Kn34 hn34 h34_ hs34
    refine bR h34_ ?_ ?_
    ·intro _ h34_
     refine gD2 h34_ fun h34_ => ?_
     refine bR h34_ ?_ ?_
     ·intro _ h34_
      have e := Option.some.inj h34_; subst e
      have e := done_out hs34; subst e
      exact AuF hc50
     ·intro _ h34_
      exact AuC (pI [0]) hn34 hs34 h34_
    ·intro _ h34_
     have e := Option.some.inj h34_; subst e
     have e := done_out hs34; subst e
     refine gO ?_
     exact hn51 _ () hc50 (wG [0])
   ·clear hc50 h51
    intro s4 hc52
    refine bR hc52 ?_ ?_
    ·intro _ hc52
     exact AuF hc52
    ·intro _ hc52
     refine gO ?_
     refine bnd hc52 (fun x53 h53 hc52 => ?_)
     refine cut_at (fun s6 : Unit => mkF 142 [(1, (.mp 0 0 0))] [some ⟨15, 31, (.vals [(e_api_Tables p_t)]), false, false⟩]) (fun s6 : Unit => m_eponymref10_Fit_K7 p_t s6 = some r) ?_ ?_
     ·intro Kn53 hn53
      refine gO ?_
      refine loop_iter (fun s19 : Int => mkF 142 [(1, (.mp 0 0 0)), (9, (.int .i64 s19))] [some ⟨15, 31, (.vals [(e_api_Tables p_t)]), false, false⟩]) h53 (wG [0]) ?_
      intro k21 s19 st21 Kn21 hn21 h21_ hs21
      refine bR h21_ ?_ ?_
      ·intro _ h21_
       refine gD2 h21_ fun h21_ => ?_
       refine cB (fun s22 : Bool => mkF 142 [(1, (.mp 0 0 0)), (9, (.int .i64 s19)), (10, (.mp 1 0 0)), (109, (.bool s22))] [some ⟨15, 31, (.vals [(e_api_Tables p_t)]), false, false⟩, some ⟨2, 88, (.vals [(e_api_Pair (p_t.f_Lower.getD (s19.toNat) d_api_Pair))]), false, false⟩]) h21_ ?_ ?_
       ·intro Kn54 hn54 x54 h54 h21_
        refine cL h54 (c_eponymref01_Right _) ?_
        intro y26 h54
        refine bR h54 ?_ ?_
        ·intro _ h54
         exact AuC (pI [0,1]) hn54 h21_ h54
        ·intro _ h54
         refine bR h54 ?_ ?_
         ·intro _ h54
          exact AuC (pI [0,1]) hn54 h21_ h54
         ·intro _ h54
          refine cL h54 (c_eponymref01_Right _) ?_
          intro y27 h54
          exact AuC (pI [0,1]) hn54 h21_ h54
       ·clear h21_
        intro s22 hc55
        refine bR hc55 ?_ ?_
        ·intro _ hc55
         have e := Option.some.inj hc55; subst e
         have e := done_out hs21; subst e
         exact AuF hc52
        ·intro _ hc55
         refine cB (fun s24 : Bool => mkF 142 [(1, (.mp 0 0 0)), (9, (.int .i64 s19)), (124, (.bool s24))] [some ⟨15, 31, (.vals [(e_api_Tables p_t)]), false, false⟩]) hc55 ?_ ?_
         ·intro Kn56 hn56 x56 h56 hc55
          exact AuC (pI [0]) hn56 hc55 h56
         ·clear hc55
          intro s24 hc57
          refine bR hc57 ?_ ?_
          ·intro _ hc57
           have e := Option.some.inj hc57; subst e
           have e := done_out hs21; subst e
           exact AuF hc52
          ·intro _ hc57
           exact AuC (pI [0]) hn21 hs21 hc57
      ·intro _ h21_
       have e := Option.some.inj h21_; subst e
       have e := done_out hs21; subst e
       refine gO ?_
       exact hn53 _ () hc52 (wG [0])
     ·clear hc52 h53
      intro s6 hc58
      refine gO ?_
      refine bnd hc58 (fun x59 h59 hc58 => ?_)
      refine cut_at (fun s8 : Unit => mkF 142 [] []) (fun s8 : Unit => some ((0 : Int), (0 : Int)) = some r) ?_ ?_
      ·intro Kn59 hn59
       refine gO ?_
       refine loop_iter (fun s11 : Int => mkF 142 [(1, (.mp 0 0 0)), (11, (.int .i64 s11))] [some ⟨15, 31, (.vals [(e_api_Tables p_t)]), false, false⟩]) h59 (wG [0]) ?_
       intro k13 s11 st13 Kn13 hn13 h13_ hs13
       refine bR h13_ ?_ ?_
       ·intro _ h13_
        refine gD2 h13_ fun h13_ => ?_
        refine cL h13_ (c_eponymref10_turned _ _) ?_
        intro y14 h13_
        refine bR h13_ ?_ ?_
        ·intro _ h13_
         have e := Option.some.inj h13_; subst e
         have e := done_out hs13; subst e
         exact AuF hc58
        ·intro _ h13_
         exact AuC (pI [0]) hn13 hs13 h13_
       ·intro _ h13_
        have e := Option.some.inj h13_; subst e
        have e := done_out hs13; subst e
        refine gO ?_
        exact hn59 _ () hc58 (wG [])
      ·clear hc58 h59
       intro s8 hc60
       exact AuF hc60
theorem c_decomp_fault (p_at p_e) (r) (h : m_decomp_fault p_at p_e = some r) : Contract pl 175 [(AV.int .i64 p_at), (AV.err p_e)] [] (AV.err r) [] := by
 refine contract_of .z Tryz.func175 rfl (by kernel_rfl) ?_
 unfold m_decomp_fault at h
 exact AuF h
theorem c_decomp_rowError (p_t p_i) (r) (h : m_decomp_rowError p_t p_i = some r) : Contract pl 179 [(e_api_Norm p_t), (AV.int .i64 p_i)] [] (AV.err r) [] := by
 refine contract_of (.t false .z (.t false .z (.t false (.t true .z .z) (.t false (.t true .z .z) (.t false (.t true .z .z) (.t true (.t false .z (.t false (.t false (.t false .z (.t false .z (.t false (.t false (.t false .z (.t true .z .z)) .z) .z))) .z) .z)) .z)))))) Tryz.func179 rfl (by kernel_rfl) ?_
 refine gD2 h fun h => ?_
 refine cB (fun s1 : Bool => mkF 76 [(1, (.int .i64 p_i)), (2, (.mp 0 0 0)), (5, (.mp 1 0 0)), (22, (.bool s1))] [some ⟨3, 26, (.vals [(e_api_Norm p_t)]), false, false⟩, some ⟨2, 96, (.vals [(e_api_Row (p_t.f_Rows.getD (p_i.toNat) d_api_Row))]), false, false⟩]) h ?_ ?_
 ·intro Kn22 hn22 x22 h22 h
  refine cL h22 (c_utf_Right _) ?_
  intro y20 h22
  refine bR h22 ?_ ?_
  ·intro _ h22
   exact AuC (pI [0,1]) hn22 h h22
  ·intro _ h22
   refine cL h22 (c_decomp_hangul _) ?_
   intro y21 h22
   exact AuC (pI [0,1]) hn22 h h22
 ·clear h
  intro s1 hc23
  refine bR hc23 ?_ ?_
  ·intro _ hc23
   exact AuF hc23
  ·intro _ hc23
   refine cB (fun s3 : Bool => mkF 76 [(5, (.mp 0 0 0)), (37, (.bool s3))] [some ⟨2, 96, (.vals [(e_api_Row (p_t.f_Rows.getD (p_i.toNat) d_api_Row))]), false, false⟩]) hc23 ?_ ?_
   ·intro Kn24 hn24 x24 h24 hc23
    exact AuC (pI [1]) hn24 hc23 h24
   ·clear hc23
    intro s3 hc25
    refine bR hc25 ?_ ?_
    ·intro _ hc25
     exact AuF hc25
    ·intro _ hc25
     refine cB (fun s5 : Bool => mkF 76 [(5, (.mp 0 0 0)), (57, (.bool s5))] [some ⟨2, 96, (.vals [(e_api_Row (p_t.f_Rows.getD (p_i.toNat) d_api_Row))]), false, false⟩]) hc25 ?_ ?_
     ·intro Kn26 hn26 x26 h26 hc25
      exact AuC (pI [0]) hn26 hc25 h26
     ·clear hc25
      intro s5 hc27
      refine bR hc27 ?_ ?_
      ·intro _ hc27
       exact AuF hc27
      ·intro _ hc27
       refine gO ?_
       refine bnd hc27 (fun x28 h28 hc27 => ?_)
       refine cut_at (fun s7 : Unit => mkF 76 [] []) (fun s7 : Unit => some Er.nil = some r) ?_ ?_
       ·intro Kn28 hn28
        refine gO ?_
        refine loop_iter (fun s10 : Int => mkF 76 [(60, (e_L_i32 ((p_t.f_Rows.getD (p_i.toNat) d_api_Row).f_To))), (61, (.int .i64 (((p_t.f_Rows.getD (p_i.toNat) d_api_Row).f_To.length : Nat) : Int))), (62, (.int .i64 s10))] []) h28 (wG []) ?_
        intro k12 s10 st12 Kn12 hn12 h12_ hs12
        refine bR h12_ ?_ ?_
        ·intro _ h12_
         refine gD2 h12_ fun h12_ => ?_
         refine cB (fun s13 : Bool => mkF 76 [(60, (e_L_i32 ((p_t.f_Rows.getD (p_i.toNat) d_api_Row).f_To))), (61, (.int .i64 (((p_t.f_Rows.getD (p_i.toNat) d_api_Row).f_To.length : Nat) : Int))), (62, (.int .i64 s10)), (73, (.bool s13))] []) h12_ ?_ ?_
         ·intro Kn29 hn29 x29 h29 h12_
          refine cL h29 (c_utf_Right _) ?_
          intro y15 h29
          refine bR h29 ?_ ?_
          ·intro _ h29
           exact AuC (pI []) hn29 h12_ h29
          ·intro _ h29
           refine cL h29 (c_decomp_hangul _) ?_
           intro y16 h29
           exact AuC (pI []) hn29 h12_ h29
         ·clear h12_
          intro s13 hc30
          refine bR hc30 ?_ ?_
          ·intro _ hc30
           have e := Option.some.inj hc30; subst e
           have e := done_out hs12; subst e
           exact AuF hc27
          ·intro _ hc30
           exact AuC (pI []) hn12 hs12 hc30
        ·intro _ h12_
         have e := Option.some.inj h12_; subst e
         have e := done_out hs12; subst e
         refine gO ?_
         exact hn28 _ () hc27 (wG [])
       ·clear hc27 h28
        intro s7 hc31
        exact AuF hc31
theorem c_decomp_rises (p_t) (r) (h : m_decomp_rises p_t = some r) : Contract pl 176 [(e_api_Norm p_t)] [] (AV.int .i64 r) [] := by
 refine contract_of (.t false .z (.t false .z (.t true (.t false (.t false (.t false (.t true .z .z) .z) .z) .z) .z))) Tryz.func176 rfl (by kernel_rfl) ?_
 refine cB (fun s1 : Int => mkF 18 [(3, (.int .i64 s1))] []) h ?_ ?_
 ·intro Kn11 hn11 x11 h11 h
  refine gO ?_
  refine loop_iter (fun s4 : Int => mkF 18 [(1, (.mp 0 0 0)), (3, (.int .i64 s4))] [some ⟨3, 26, (.vals [(e_api_Norm p_t)]), false, false⟩]) h11 (wG [0]) ?_
  intro k6 s4 st6 Kn6 hn6 h6_ hs6
  refine cB (fun s7 : Bool => mkF 18 [(1, (.mp 0 0 0)), (3, (.int .i64 s4)), (14, (.bool s7))] [some ⟨3, 26, (.vals [(e_api_Norm p_t)]), false, false⟩]) h6_ ?_ ?_
  ·intro Kn12 hn12 x12 h12 h6_
   refine bR h12 ?_ ?_
   ·intro _ h12
    refine cL h12 (c_decomp_rowError _ _) ?_
    intro y9 h12
    exact AuC (pI [0]) hn12 h6_ h12
   ·intro _ h12
    exact AuC (pI [0]) hn12 h6_ h12
  ·clear h6_
   intro s7 hc13
   refine bR hc13 ?_ ?_
   ·intro _ hc13
    exact AuC (pI [0]) hn6 hs6 hc13
   ·intro _ hc13
    have e := Option.some.inj hc13; subst e
    have e := done_out hs6; subst e
    refine gO ?_
    exact hn11 _ s4 h (wG [])
 ·clear h
  intro s1 hc14
  exact AuF hc14
theorem c_decomp_has_1 (p_x p_a1) (r) (h : m_decomp_has_1 p_x p_a1 = some r) : Contract pl 212 [(e_api_Row p_x), (AV.ip (AV.int .i32 p_a1) 0)] [] (AV.bool r) [] := by
 refine contract_of .z Tryz.func212 rfl (by kernel_rfl) ?_
 unfold m_decomp_has_1 at h
 exact AuF h
theorem c_slices_IndexFunc_api_Row_api_Row_decomp_has_1 (p_s p_f) (r) (h : m_slices_IndexFunc_api_Row_api_Row_decomp_has_1 p_s p_f = some r) : Contract pl 235 [(e_L_api_Row p_s), (AV.fn (.func 212) [] [(AV.ip (AV.int .i32 p_f) 0)])] [] (AV.int .i64 r) [] := by
 refine contract_of (.t false .z (.t true .z .z)) Tryz.func235 rfl (by kernel_rfl) ?_
 refine gO ?_
 refine bnd h (fun x11 h11 h => ?_)
 refine cut_at (fun s1 : Unit => mkF 19 [] []) (fun s1 : Unit => some (-1 : Int) = some r) ?_ ?_
 ·intro Kn11 hn11
  refine gO ?_
  refine loop_iter (fun s4 : Int => mkF 19 [(0, (e_L_api_Row p_s)), (1, (.fn (.func 212) [] [(.ip (.int .i32 p_f) 0)])), (7, (.int .i64 ((p_s.length : Nat) : Int))), (8, (.int .i64 s4))] []) h11 (wG []) ?_
  intro k6 s4 st6 Kn6 hn6 h6_ hs6
  refine bR h6_ ?_ ?_
  ·intro _ h6_
   refine gD2 h6_ fun h6_ => ?_
   refine cL h6_ (c_decomp_has_1 _ _) ?_
   intro y7 h6_
   refine bR h6_ ?_ ?_
   ·intro _ h6_
    have e := Option.some.inj h6_; subst e
    have e := done_out hs6; subst e
    exact AuF h
   ·intro _ h6_
    exact AuC (pI []) hn6 hs6 h6_
  ·intro _ h6_
   have e := Option.some.inj h6_; subst e
   have e := done_out hs6; subst e
   refine gO ?_
   exact hn11 _ () h (wG [])
 ·clear h h11
  intro s1 hc12
  exact AuF hc12
theorem c_slices_ContainsFunc_api_Row_api_Row_decomp_has_1 (p_s p_f) (r) (h : m_slices_ContainsFunc_api_Row_api_Row_decomp_has_1 p_s p_f = some r) : Contract pl 211 [(e_L_api_Row p_s), (AV.fn (.func 212) [] [(AV.ip (AV.int .i32 p_f) 0)])] [] (AV.bool r) [] := by
 refine contract_of .z Tryz.func211 rfl (by kernel_rfl) ?_
 refine cL h (c_slices_IndexFunc_api_Row_api_Row_decomp_has_1 _ _) ?_
 intro y1 h
 exact AuF h
theorem c_decomp_has (p_t p_r) (r) (h : m_decomp_has p_t p_r = some r) : Contract pl 177 [(e_api_Norm p_t), (AV.int .i32 p_r)] [] (AV.bool r) [] := by
 refine contract_of .z Tryz.func177 rfl (by kernel_rfl) ?_
 refine cL h (c_slices_ContainsFunc_api_Row_api_Row_decomp_has_1 _ _) ?_
 intro y1 h
 exact AuF h
theorem c_decomp_chain (p_t p_row) (r) (h : m_decomp_chain p_t p_row = some r) : Contract pl 178 [(e_api_Norm p_t), (AV.int .i64 p_row)] [] (AV.int .i64 r) [] := by
 refine contract_of (.t false .z (.t false .z (.t true (.t false (.t false (.t false (.t true .z .z) .z) .z) .z) .z))) Tryz.func178 rfl (by kernel_rfl) ?_
 refine cB (fun s1 : Int => mkF 33 [(5, (.int .i64 s1))] []) h ?_ ?_
 ·intro Kn11 hn11 x11 h11 h
  refine gO ?_
  refine loop_iter (fun s4 : Int × Int => mkF 33 [(1, (.int .i64 s4.1)), (2, (.mp 0 0 0)), (5, (.int .i64 s4.2))] [some ⟨3, 26, (.vals [(e_api_Norm p_t)]), false, false⟩]) h11 (wG [0]) ?_
  intro k6 s4 st6 Kn6 hn6 h6_ hs6
  refine cB (fun s7 : Bool => mkF 33 [(1, (.int .i64 s4.1)), (2, (.mp 0 0 0)), (5, (.int .i64 s4.2)), (11, (.bool s7))] [some ⟨3, 26, (.vals [(e_api_Norm p_t)]), false, false⟩]) h6_ ?_ ?_
  ·intro Kn12 hn12 x12 h12 h6_
   exact AuC (pI [0]) hn12 h6_ h12
  ·clear h6_
   intro s7 hc13
   refine bR hc13 ?_ ?_
   ·intro _ hc13
    refine gD2 hc13 fun hc13 => ?_
    refine bR hc13 ?_ ?_
    ·intro _ hc13
     have e := Option.some.inj hc13; subst e
     have e := done_out hs6; subst e
     refine gO ?_
     exact hn11 _ (IntKind.wrap .i64 (s4.2 + (1 : Int))) h (wG [])
    ·intro _ hc13
     refine gD2 hc13 fun hc13 => ?_
     refine gD2 hc13 fun hc13 => ?_
     refine cL hc13 (c_decomp_find _ _) ?_
     intro y9 hc13
     exact AuC (pI [0]) hn6 hs6 hc13
   ·intro _ hc13
    have e := Option.some.inj hc13; subst e
    have e := done_out hs6; subst e
    refine gO ?_
    exact hn11 _ s4.2 h (wG [])
 ·clear h
  intro s1 hc14
  exact AuF hc14
theorem c_ranges_may (p_x) (r) (h : m_ranges_may p_x = some r) : Contract pl 237 [(e_api_Range p_x)] [] (AV.bool r) [] := by
 refine contract_of .z Tryz.func237 rfl (by kernel_rfl) ?_
 unfold m_ranges_may at h
 exact AuF h
end Go.Proofs.YtkeokkmhhhhoiaaGreatDoor
