/- Contracts of functions, walked by their models; printed by a program of ours. No condition. -/
import Derived.Test.YtkeokkmhhhhoiaaGreatDoorK1
import Derived.Test.YtkeokkmhhhhoiaaGreatDoorRCheck
import Derived.Test.YtkeokkmhhhhoiaaGreatDoorKorean
import Derived.Test.YtkeokkmhhhhoiaaGreatDoorTwice
import Derived.Test.YtkeokkmhhhhoiaaGreatDoorProg
import Derived.KernelRfl
namespace Go.Proofs.YtkeokkmhhhhoiaaGreatDoor
open Go Go.SE
set_option linter.unusedVariables false
set_option linter.unusedSimpArgs false
set_option maxRecDepth 10000
set_option maxHeartbeats 2000000
attribute [local irreducible] Contract iter
theorem c_decomp_Check (p_t) (r) (h : m_decomp_Check p_t = some r) : Contract pl 124 [(e_api_Norm p_t)] [] (AV.err r) [] := by
 refine contract_of (.t false .z (.t false (.t true .z .z) (.t false .z (.t false .z (.t true (.t false .z (.t false (.t false (.t false .z (.t false .z (.t false (.t false (.t false .z (.t false .z (.t true .z .z))) .z) .z))) .z) .z)) (.t false .z (.t false .z (.t true (.t false .z (.t false (.t false (.t false .z (.t false .z (.t false (.t false (.t false .z (.t true .z .z)) .z) .z))) .z) .z)) (.t true (.t false .z (.t false (.t false (.t false .z (.t false .z (.t false (.t false (.t false .z (.t false (.t false .z (.t false .z (.t true .z .z))) .z)) .z) .z))) .z) .z)) .z))))))))) Tryz.func124 rfl (by kernel_rfl) ?_
 refine cB (fun s1 : Bool => mkF 136 [(1, (.mp 0 0 0)), (21, (.bool s1))] [some ⟨3, 26, (.vals [(e_api_Norm p_t)]), false, false⟩]) h ?_ ?_
 ·intro Kn51 hn51 x51 h51 h
  exact AuC (pI [0]) hn51 h h51
 ·clear h
  intro s1 hc52
  refine bR hc52 ?_ ?_
  ·intro _ hc52
   refine cL hc52 (c_decomp_fault _ _) ?_
   intro y3 hc52
   exact AuF hc52
  ·intro _ hc52
   refine cL hc52 (c_decomp_rises _) ?_
   intro y4 hc52
   have ghc52 := gOf hc52
   refine gD3 hc52 fun hc52 => ?_
   refine gO ?_
   refine bnd hc52 (fun x53 h53 hc52 => ?_)
   refine cut_at (fun s5 : Unit => mkF 136 [(1, (.mp 0 0 0)), (3, (.int .i64 y4))] [some ⟨3, 26, (.vals [(e_api_Norm p_t)]), false, false⟩]) (fun s5 : Unit => m_decomp_Check_K6 p_t y4 s5 = some r) ?_ ?_
   ·intro Kn53 hn53
    refine gO ?_
    refine loop_iter (fun s39 : Int => mkF 136 [(1, (.mp 0 0 0)), (3, (.int .i64 y4)), (4, (.mp 1 0 0)), (31, (.int .i64 y4)), (32, (.int .i64 s39))] [some ⟨3, 26, (.vals [(e_api_Norm p_t)]), false, false⟩, some ⟨3, 26, (.vals [(.agg [(.sl none ((y4.toNat) - 0) fun j => (e_api_Row (p_t.f_Rows.getD (0 + j) d_api_Row))), (.sl (some true) 0 fun _ => .unk), (.sl (some true) 0 fun _ => .unk)])]), false, false⟩]) h53 (wG [0,1]) ?_
    intro k41 s39 st41 Kn41 hn41 h41_ hs41
    refine bR h41_ ?_ ?_
    ·intro _ h41_
     refine gD2 h41_ fun h41_ => ?_
     refine cB (fun s42 : Bool => mkF 136 [(1, (.mp 0 0 0)), (3, (.int .i64 y4)), (4, (.mp 1 0 0)), (5, (.int .i64 s39)), (31, (.int .i64 y4)), (32, (.int .i64 s39)), (57, (.bool s42))] [some ⟨3, 26, (.vals [(e_api_Norm p_t)]), false, false⟩, some ⟨3, 26, (.vals [(.agg [(.sl none ((y4.toNat) - 0) fun j => (e_api_Row (p_t.f_Rows.getD (0 + j) d_api_Row))), (.sl (some true) 0 fun _ => .unk), (.sl (some true) 0 fun _ => .unk)])]), false, false⟩]) h41_ ?_ ?_
     ·intro Kn54 hn54 x54 h54 h41_
      refine bR h54 ?_ ?_
      ·intro _ h54
       refine gD2 h54 fun h54 => ?_
       refine cL h54 (c_decomp_has _ _) ?_
       intro y45 h54
       refine bR h54 ?_ ?_
       ·intro _ h54
        exact AuC (pI [0,1]) hn54 h41_ h54
       ·intro _ h54
        refine gO ?_
        refine bnd h54 (fun y46 hy46 h54 => ?_)
        refine Or.inl ⟨_, contract_le (c_decomp_chain _ _ _ hy46) (argsLe.cons (AV.Le.agg (argsLe.cons (AV.Le.list (by simp; try omega) (fun j hj => by first | rfl | rw [getD_sub hj] | (rw [getD_take hj]; simp) | simp)) (argsLe.cons (AV.Le.list rfl (fun j hj => absurd hj (Nat.not_lt_zero _))) (argsLe.cons (AV.Le.list rfl (fun j hj => absurd hj (Nat.not_lt_zero _))) argsLe.nil)))) (argsLe.cons (AV.Le.refl _) argsLe.nil)), rfl, ?_⟩
        exact AuC (pI [0,1]) hn54 h41_ h54
      ·intro _ h54
       refine gO ?_
       refine bnd h54 (fun y47 hy47 h54 => ?_)
       refine Or.inl ⟨_, contract_le (c_decomp_chain _ _ _ hy47) (argsLe.cons (AV.Le.agg (argsLe.cons (AV.Le.list (by simp; try omega) (fun j hj => by first | rfl | rw [getD_sub hj] | (rw [getD_take hj]; simp) | simp)) (argsLe.cons (AV.Le.list rfl (fun j hj => absurd hj (Nat.not_lt_zero _))) (argsLe.cons (AV.Le.list rfl (fun j hj => absurd hj (Nat.not_lt_zero _))) argsLe.nil)))) (argsLe.cons (AV.Le.refl _) argsLe.nil)), rfl, ?_⟩
       exact AuC (pI [0,1]) hn54 h41_ h54
     ·clear h41_
      intro s42 hc55
      refine bR hc55 ?_ ?_
      ·intro _ hc55
       refine cL hc55 (c_decomp_fault _ _) ?_
       intro y44 hc55
       have e := Option.some.inj hc55; subst e
       have e := done_out hs41; subst e
       exact AuF hc52
      ·intro _ hc55
       exact AuC (pI [0,1]) hn41 hs41 hc55
    ·intro _ h41_
     have e := Option.some.inj h41_; subst e
     have e := done_out hs41; subst e
     refine gO ?_
     exact hn53 _ () hc52 (wG [0])
   ·clear hc52 h53
    intro s5 hc56
    refine bR hc56 ?_ ?_
    ·intro _ hc56
     refine cL hc56 (c_decomp_rowError _ _) ?_
     intro y7 hc56
     refine cL hc56 (c_decomp_fault _ _) ?_
     intro y8 hc56
     exact AuF hc56
    ·intro _ hc56
     refine cL hc56 (c_ranges_Check _) ?_
     intro y9 hc56
     refine bR hc56 ?_ ?_
     ·intro _ hc56
      exact AuF hc56
     ·intro _ hc56
      refine gO ?_
      refine bnd hc56 (fun x57 h57 hc56 => ?_)
      refine cut_at (fun s10 : Unit => mkF 136 [(1, (.mp 0 0 0))] [some ⟨3, 26, (.vals [(e_api_Norm p_t)]), false, false⟩]) (fun s10 : Unit => m_decomp_Check_K11 p_t s10 = some r) ?_ ?_
      ·intro Kn57 hn57
       refine gO ?_
       refine loop_iter (fun s28 : Int => mkF 136 [(1, (.mp 0 0 0)), (79, (e_L_api_Range p_t.f_Classes)), (80, (.int .i64 ((p_t.f_Classes.length : Nat) : Int))), (81, (.int .i64 s28))] [some ⟨3, 26, (.vals [(e_api_Norm p_t)]), false, false⟩]) h57 (wG [0]) ?_
       intro k30 s28 st30 Kn30 hn30 h30_ hs30
       refine bR h30_ ?_ ?_
       ·intro _ h30_
        refine gD2 h30_ fun h30_ => ?_
        refine cB (fun s31 : Bool => mkF 136 [(1, (.mp 0 0 0)), (8, (.int .i64 s28)), (79, (e_L_api_Range p_t.f_Classes)), (80, (.int .i64 ((p_t.f_Classes.length : Nat) : Int))), (81, (.int .i64 s28)), (97, (.bool s31))] [some ⟨3, 26, (.vals [(e_api_Norm p_t)]), false, false⟩]) h30_ ?_ ?_
        ·intro Kn58 hn58 x58 h58 h30_
         refine bR h58 ?_ ?_
         ·intro _ h58
          exact AuC (pI [0]) hn58 h30_ h58
         ·intro _ h58
          refine bR h58 ?_ ?_
          ·intro _ h58
           exact AuC (pI [0]) hn58 h30_ h58
          ·intro _ h58
           refine cL h58 (c_decomp_korean _) ?_
           intro y34 h58
           exact AuC (pI [0]) hn58 h30_ h58
        ·clear h30_
         intro s31 hc59
         refine bR hc59 ?_ ?_
         ·intro _ hc59
          refine cL hc59 (c_decomp_fault _ _) ?_
          intro y33 hc59
          have e := Option.some.inj hc59; subst e
          have e := done_out hs30; subst e
          exact AuF hc56
         ·intro _ hc59
          exact AuC (pI [0]) hn30 hs30 hc59
       ·intro _ h30_
        have e := Option.some.inj h30_; subst e
        have e := done_out hs30; subst e
        refine gO ?_
        exact hn57 _ () hc56 (wG [0])
      ·clear hc56 h57
       intro s10 hc60
       refine gO ?_
       refine bnd hc60 (fun x61 h61 hc60 => ?_)
       refine cut_at (fun s12 : Unit => mkF 136 [(1, (.mp 0 0 0))] [some ⟨3, 26, (.vals [(e_api_Norm p_t)]), false, false⟩]) (fun s12 : Unit => m_decomp_Check_K13 p_t s12 = some r) ?_ ?_
       ·intro Kn61 hn61
        refine gO ?_
        refine loop_iter (fun s16 : Int => mkF 136 [(1, (.mp 0 0 0)), (103, (e_L_i32 p_t.f_Excluded)), (104, (.int .i64 ((p_t.f_Excluded.length : Nat) : Int))), (105, (.int .i64 s16))] [some ⟨3, 26, (.vals [(e_api_Norm p_t)]), false, false⟩]) h61 (wG [0]) ?_
        intro k18 s16 st18 Kn18 hn18 h18_ hs18
        refine bR h18_ ?_ ?_
        ·intro _ h18_
         refine gD2 h18_ fun h18_ => ?_
         refine cL h18_ (c_utf_Right _) ?_
         intro y19 h18_
         refine bR h18_ ?_ ?_
         ·intro _ h18_
          refine cL h18_ (c_decomp_fault _ _) ?_
          intro y20 h18_
          have e := Option.some.inj h18_; subst e
          have e := done_out hs18; subst e
          exact AuF hc60
         ·intro _ h18_
          refine cB (fun s21 : Bool => mkF 136 [(1, (.mp 0 0 0)), (10, (.int .i64 s16)), (103, (e_L_i32 p_t.f_Excluded)), (104, (.int .i64 ((p_t.f_Excluded.length : Nat) : Int))), (105, (.int .i64 s16)), (117, (.bool s21))] [some ⟨3, 26, (.vals [(e_api_Norm p_t)]), false, false⟩]) h18_ ?_ ?_
          ·intro Kn62 hn62 x62 h62 h18_
           exact AuC (pI [0]) hn62 h18_ h62
          ·clear h18_
           intro s21 hc63
           refine bR hc63 ?_ ?_
           ·intro _ hc63
            refine cL hc63 (c_decomp_fault _ _) ?_
            intro y23 hc63
            have e := Option.some.inj hc63; subst e
            have e := done_out hs18; subst e
            exact AuF hc60
           ·intro _ hc63
            exact AuC (pI [0]) hn18 hs18 hc63
        ·intro _ h18_
         have e := Option.some.inj h18_; subst e
         have e := done_out hs18; subst e
         refine gO ?_
         exact hn61 _ () hc60 (wG [0])
       ·clear hc60 h61
        intro s12 hc64
        refine cL hc64 (c_decomp_twice _) ?_
        intro y14 hc64
        exact AuF hc64
theorem c_classes_columns (p_p) (r) (h : m_classes_columns p_p = some r) : Contract pl 183 [(e_api_Props p_p)] [] (e_L_classes_column r) [] := by
 refine contract_of .z Tryz.func183 rfl (by kernel_rfl) ?_
 have e := Option.some.inj h; subst e
 refine gO ?_
 exact And.intro (AV.Le.lits (enc := fun x => (e_classes_column x)) d_classes_column rfl (litsLe.cons (argsLe.cons (AV.Le.refl _) (argsLe.cons (AV.Le.refl _) argsLe.nil)) rfl (litsLe.cons (argsLe.cons (AV.Le.refl _) (argsLe.cons (AV.Le.refl _) argsLe.nil)) rfl (litsLe.cons (argsLe.cons (AV.Le.refl _) (argsLe.cons (AV.Le.refl _) argsLe.nil)) rfl (litsLe.cons (argsLe.cons (AV.Le.refl _) (argsLe.cons (AV.Le.refl _) argsLe.nil)) rfl (litsLe.cons (argsLe.cons (AV.Le.refl _) (argsLe.cons (AV.Le.refl _) argsLe.nil)) rfl (litsLe.cons (argsLe.cons (AV.Le.refl _) (argsLe.cons (AV.Le.refl _) argsLe.nil)) rfl (litsLe.cons (argsLe.cons (AV.Le.refl _) (argsLe.cons (AV.Le.refl _) argsLe.nil)) rfl (litsLe.cons (argsLe.cons (AV.Le.refl _) (argsLe.cons (AV.Le.refl _) argsLe.nil)) rfl (litsLe.cons (argsLe.cons (AV.Le.refl _) (argsLe.cons (AV.Le.refl _) argsLe.nil)) rfl (litsLe.cons (argsLe.cons (AV.Le.refl _) (argsLe.cons (AV.Le.refl _) argsLe.nil)) rfl (litsLe.cons (argsLe.cons (AV.Le.refl _) (argsLe.cons (AV.Le.refl _) argsLe.nil)) rfl litsLe.nil)))))))))))) rfl
theorem c_classes_Check (p_p) (r) (h : m_classes_Check p_p = some r) : Contract pl 125 [(e_api_Props p_p)] [] (AV.err r) [] := by
 refine contract_of (.t false .z (.t true (.t false .z (.t false (.t false (.t false .z (.t false .z (.t true (.t false (.t false .z (.t false .z (.t false .z (.t false (.t false (.t false .z (.t false .z (.t false (.t false (.t false .z (.t true .z .z)) .z) .z))) .z) .z)))) .z) .z))) .z) .z)) .z)) Tryz.func125 rfl (by kernel_rfl) ?_
 refine gO ?_
 refine bnd h (fun x23 h23 h => ?_)
 refine cut_at (fun s1 : Unit => mkF 51 [] []) (fun s1 : Unit => some Er.nil = some r) ?_ ?_
 ·intro Kn23 hn23
  refine cL h23 (c_classes_columns _) ?_
  intro y3 h23
  refine gO ?_
  refine loop_iter (fun s5 : Int => mkF 51 [(9, (e_L_classes_column y3)), (10, (.int .i64 ((y3.length : Nat) : Int))), (11, (.int .i64 s5))] []) h23 (wG []) ?_
  intro k7 s5 st7 Kn7 hn7 h7_ hs7
  refine bR h7_ ?_ ?_
  ·intro _ h7_
   refine gO ?_
   refine bnd h7_ (fun x24 h24 h7_ => ?_)
   refine cut_at (fun s8 : Unit => mkF 51 [(9, (e_L_classes_column y3)), (10, (.int .i64 ((y3.length : Nat) : Int))), (11, (.int .i64 s5))] []) (fun s8 : Unit => some (.next (IntKind.wrap .i64 (s5 + (1 : Int)))) = some st7) ?_ ?_
   ·intro Kn24 hn24
    refine gD2 h24 fun h24 => ?_
    refine cL h24 (c_ranges_Check _) ?_
    intro y10 h24
    refine bR h24 ?_ ?_
    ·intro _ h24
     have e := Option.some.inj h24; subst e
     have e := Option.some.inj h7_; subst e
     have e := done_out hs7; subst e
     exact AuF h
    ·intro _ h24
     refine lB (fun s12 : Int => mkF 51 [(4, (.mp 0 0 0)), (9, (e_L_classes_column y3)), (10, (.int .i64 ((y3.length : Nat) : Int))), (11, (.int .i64 s5)), (22, (e_L_api_Range ((y3.getD (s5.toNat) d_classes_column).f_l))), (23, (.int .i64 (((y3.getD (s5.toNat) d_classes_column).f_l.length : Nat) : Int))), (24, (.int .i64 s12))] [some ⟨2, 218, (.vals [(e_classes_column (y3.getD (s5.toNat) d_classes_column))]), false, false⟩]) h24 ?_ ?_
     ·exact wG [0]
     intro x14 h24 k14 s12 st14 Kn14 hn14 h14 hs14
     refine bR h14 ?_ ?_
     ·intro _ h14
      refine gD2 h14 fun h14 => ?_
      refine cB (fun s15 : Bool => mkF 51 [(4, (.mp 0 0 0)), (6, (.int .i64 s12)), (9, (e_L_classes_column y3)), (10, (.int .i64 ((y3.length : Nat) : Int))), (11, (.int .i64 s5)), (22, (e_L_api_Range ((y3.getD (s5.toNat) d_classes_column).f_l))), (23, (.int .i64 (((y3.getD (s5.toNat) d_classes_column).f_l.length : Nat) : Int))), (24, (.int .i64 s12)), (43, (.bool s15))] [some ⟨2, 218, (.vals [(e_classes_column (y3.getD (s5.toNat) d_classes_column))]), false, false⟩]) h14 ?_ ?_
      ·intro Kn25 hn25 x25 h25 h14
       exact AuC (pI [0]) hn25 h14 h25
      ·clear h14
       intro s15 hc26
       refine bR hc26 ?_ ?_
       ·intro _ hc26
        have e := Option.some.inj hc26; subst e
        have e := done_out hs14; subst e
        have e := Option.some.inj h24; subst e
        have e := Option.some.inj h7_; subst e
        have e := done_out hs7; subst e
        exact AuF h
       ·intro _ hc26
        exact AuC (pI [0]) hn14 hs14 hc26
     ·intro _ h14
      have e := Option.some.inj h14; subst e
      have e := done_out hs14; subst e
      exact AuC (pI []) hn24 h7_ h24
   ·clear h7_ h24
    intro s8 hc27
    exact AuC (pI []) hn7 hs7 hc27
  ·intro _ h7_
   have e := Option.some.inj h7_; subst e
   have e := done_out hs7; subst e
   refine gO ?_
   exact hn23 _ () h (wG [])
 ·clear h h23
  intro s1 hc28
  exact AuF hc28
theorem c_contexts_Check (p_t) (r) (h : m_contexts_Check p_t = some r) : Contract pl 69 [(e_api_Tables p_t)] [] (AV.err r) [] := by
 refine contract_of .z Tryz.func69 rfl (by kernel_rfl) ?_
 refine cL h (c_decomp_Check _) ?_
 intro y1 h
 refine bR h ?_ ?_
 ·intro _ h
  exact AuF h
 ·intro _ h
  refine cL h (c_classes_Check _) ?_
  intro y2 h
  exact AuF h
theorem c_label_fitLower (p_l) (r) (h : m_label_fitLower p_l = some r) : Contract pl 70 [(e_L_api_Pair p_l)] [] (AV.err r) [] := by
 refine contract_of (.t false .z (.t false .z (.t true (.t false .z (.t false (.t false (.t false .z (.t false .z (.t false (.t false (.t false .z (.t false (.t true .z (.t false .z (.t true .z .z))) .z)) .z) .z))) .z) .z)) (.t true .z .z)))) Tryz.func70 rfl (by kernel_rfl) ?_
 refine bR h ?_ ?_
 ·intro _ h
  refine cL h (c_label_fault _ _) ?_
  intro y1 h
  exact AuF h
 ·intro _ h
  refine gO ?_
  refine bnd h (fun x32 h32 h => ?_)
  refine cut_at (fun s2 : Unit => mkF 76 [(0, (e_L_api_Pair p_l))] []) (fun s2 : Unit => m_label_fitLower_K3 p_l s2 = some r) ?_ ?_
  ·intro Kn32 hn32
   refine gO ?_
   refine loop_iter (fun s16 : Int => mkF 76 [(0, (e_L_api_Pair p_l)), (14, (e_L_api_Pair p_l)), (15, (.int .i64 ((p_l.length : Nat) : Int))), (16, (.int .i64 s16))] []) h32 (wG []) ?_
   intro k18 s16 st18 Kn18 hn18 h18_ hs18
   refine bR h18_ ?_ ?_
   ·intro _ h18_
    refine gD2 h18_ fun h18_ => ?_
    refine cB (fun s19 : Bool => mkF 76 [(0, (e_L_api_Pair p_l)), (3, (.int .i64 s16)), (4, (.mp 0 0 0)), (14, (e_L_api_Pair p_l)), (15, (.int .i64 ((p_l.length : Nat) : Int))), (16, (.int .i64 s16)), (21, (.bool s19))] [some ⟨2, 88, (.vals [(e_api_Pair (p_l.getD (s16.toNat) d_api_Pair))]), false, false⟩]) h18_ ?_ ?_
    ·intro Kn33 hn33 x33 h33 h18_
     refine cL h33 (c_utf_Right _) ?_
     intro y25 h33
     refine bR h33 ?_ ?_
     ·intro _ h33
      exact AuC (pI [0]) hn33 h18_ h33
     ·intro _ h33
      refine cL h33 (c_label_plain _) ?_
      intro y26 h33
      refine bR h33 ?_ ?_
      ·intro _ h33
       exact AuC (pI [0]) hn33 h18_ h33
      ·intro _ h33
       refine cL h33 (c_utf_Right _) ?_
       intro y27 h33
       refine bR h33 ?_ ?_
       ·intro _ h33
        exact AuC (pI [0]) hn33 h18_ h33
       ·intro _ h33
        refine cL h33 (c_label_capital _) ?_
        intro y28 h33
        exact AuC (pI [0]) hn33 h18_ h33
    ·clear h18_
     intro s19 hc34
     refine bR hc34 ?_ ?_
     ·intro _ hc34
      refine cL hc34 (c_label_fault _ _) ?_
      intro y21 hc34
      have e := Option.some.inj hc34; subst e
      have e := done_out hs18; subst e
      exact AuF h
     ·intro _ hc34
      refine cB (fun s22 : Bool => mkF 76 [(0, (e_L_api_Pair p_l)), (3, (.int .i64 s16)), (14, (e_L_api_Pair p_l)), (15, (.int .i64 ((p_l.length : Nat) : Int))), (16, (.int .i64 s16)), (39, (.bool s22))] []) hc34 ?_ ?_
      ·intro Kn35 hn35 x35 h35 hc34
       exact AuC (pI []) hn35 hc34 h35
      ·clear hc34
       intro s22 hc36
       refine bR hc36 ?_ ?_
       ·intro _ hc36
        refine cL hc36 (c_label_fault _ _) ?_
        intro y24 hc36
        have e := Option.some.inj hc36; subst e
        have e := done_out hs18; subst e
        exact AuF h
       ·intro _ hc36
        exact AuC (pI []) hn18 hs18 hc36
   ·intro _ h18_
    have e := Option.some.inj h18_; subst e
    have e := done_out hs18; subst e
    refine gO ?_
    exact hn32 _ () h (wG [])
  ·clear h h32
   intro s2 hc37
   refine gO ?_
   refine bnd hc37 (fun x38 h38 hc37 => ?_)
   refine cut_at (fun s4 : Unit => mkF 76 [] []) (fun s4 : Unit => some Er.nil = some r) ?_ ?_
   ·intro Kn38 hn38
    refine gO ?_
    refine loop_iter (fun s7 : Int => mkF 76 [(0, (e_L_api_Pair p_l)), (57, (e_L_api_Pair p_l)), (58, (.int .i64 ((p_l.length : Nat) : Int))), (59, (.int .i64 s7))] []) h38 (wG []) ?_
    intro k9 s7 st9 Kn9 hn9 h9_ hs9
    refine bR h9_ ?_ ?_
    ·intro _ h9_
     refine gD2 h9_ fun h9_ => ?_
     refine cL h9_ (c_label_lower _ _) ?_
     intro y10 h9_
     refine bR h9_ ?_ ?_
     ·intro _ h9_
      refine cL h9_ (c_label_fault _ _) ?_
      intro y11 h9_
      have e := Option.some.inj h9_; subst e
      have e := done_out hs9; subst e
      exact AuF hc37
     ·intro _ h9_
      exact AuC (pI []) hn9 hs9 h9_
    ·intro _ h9_
     have e := Option.some.inj h9_; subst e
     have e := done_out hs9; subst e
     refine gO ?_
     exact hn38 _ () hc37 (wG [])
   ·clear hc37 h38
    intro s4 hc39
    exact AuF hc39
theorem c_label_Fit (p_t) (r) (h : m_label_Fit p_t = some r) : Contract pl 26 [(e_api_Tables p_t)] [] (AV.err r) [] := by
 refine contract_of (.t false .z (.t false .z (.t true (.t false .z (.t false (.t false (.t false .z (.t false .z (.t false (.t false (.t false .z (.t true .z .z)) .z) .z))) .z) .z)) (.t true .z .z)))) Tryz.func26 rfl (by kernel_rfl) ?_
 refine cL h (c_contexts_Check _) ?_
 intro y1 h
 refine bR h ?_ ?_
 ·intro _ h
  exact AuF h
 ·intro _ h
  refine gO ?_
  refine bnd h (fun x28 h28 h => ?_)
  refine cut_at (fun s2 : Unit => mkF 61 [(1, (.mp 0 0 0))] [some ⟨15, 31, (.vals [(e_api_Tables p_t)]), false, false⟩]) (fun s2 : Unit => m_label_Fit_K3 p_t s2 = some r) ?_ ?_
  ·intro Kn28 hn28
   refine gO ?_
   refine loop_iter (fun s17 : Int => mkF 61 [(1, (.mp 0 0 0)), (15, (e_L_api_Row p_t.f_Norm.f_Rows)), (16, (.int .i64 ((p_t.f_Norm.f_Rows.length : Nat) : Int))), (17, (.int .i64 s17))] [some ⟨15, 31, (.vals [(e_api_Tables p_t)]), false, false⟩]) h28 (wG [0]) ?_
   intro k19 s17 st19 Kn19 hn19 h19_ hs19
   refine bR h19_ ?_ ?_
   ·intro _ h19_
    refine gD2 h19_ fun h19_ => ?_
    refine cB (fun s20 : Bool => mkF 61 [(1, (.mp 0 0 0)), (4, (.int .i64 s17)), (15, (e_L_api_Row p_t.f_Norm.f_Rows)), (16, (.int .i64 ((p_t.f_Norm.f_Rows.length : Nat) : Int))), (17, (.int .i64 s17)), (37, (.bool s20))] [some ⟨15, 31, (.vals [(e_api_Tables p_t)]), false, false⟩]) h19_ ?_ ?_
    ·intro Kn29 hn29 x29 h29 h19_
     refine cL h29 (c_label_plain _) ?_
     intro y23 h29
     refine bR h29 ?_ ?_
     ·intro _ h29
      exact AuC (pI [0]) hn29 h19_ h29
     ·intro _ h29
      refine bR h29 ?_ ?_
      ·intro _ h29
       refine gD2 h29 fun h29 => ?_
       refine cL h29 (c_label_plain _) ?_
       intro y24 h29
       exact AuC (pI [0]) hn29 h19_ h29
      ·intro _ h29
       exact AuC (pI [0]) hn29 h19_ h29
    ·clear h19_
     intro s20 hc30
     refine bR hc30 ?_ ?_
     ·intro _ hc30
      refine cL hc30 (c_label_fault _ _) ?_
      intro y22 hc30
      have e := Option.some.inj hc30; subst e
      have e := done_out hs19; subst e
      exact AuF h
     ·intro _ hc30
      exact AuC (pI [0]) hn19 hs19 hc30
   ·intro _ h19_
    have e := Option.some.inj h19_; subst e
    have e := done_out hs19; subst e
    refine gO ?_
    exact hn28 _ () h (wG [0])
  ·clear h h28
   intro s2 hc31
   refine gO ?_
   refine bnd hc31 (fun x32 h32 hc31 => ?_)
   refine cut_at (fun s4 : Unit => mkF 61 [(1, (.mp 0 0 0))] [some ⟨15, 31, (.vals [(e_api_Tables p_t)]), false, false⟩]) (fun s4 : Unit => m_label_Fit_K5 p_t s4 = some r) ?_ ?_
   ·intro Kn32 hn32
    refine gO ?_
    refine loop_iter (fun s8 : Int => mkF 61 [(1, (.mp 0 0 0)), (44, (e_L_api_Range p_t.f_Norm.f_Classes)), (45, (.int .i64 ((p_t.f_Norm.f_Classes.length : Nat) : Int))), (46, (.int .i64 s8))] [some ⟨15, 31, (.vals [(e_api_Tables p_t)]), false, false⟩]) h32 (wG [0]) ?_
    intro k10 s8 st10 Kn10 hn10 h10_ hs10
    refine bR h10_ ?_ ?_
    ·intro _ h10_
     refine gD2 h10_ fun h10_ => ?_
     refine cL h10_ (c_label_plain _) ?_
     intro y11 h10_
     refine bR h10_ ?_ ?_
     ·intro _ h10_
      refine cL h10_ (c_label_fault _ _) ?_
      intro y12 h10_
      have e := Option.some.inj h10_; subst e
      have e := done_out hs10; subst e
      exact AuF hc31
     ·intro _ h10_
      exact AuC (pI [0]) hn10 hs10 h10_
    ·intro _ h10_
     have e := Option.some.inj h10_; subst e
     have e := done_out hs10; subst e
     refine gO ?_
     exact hn32 _ () hc31 (wG [0])
   ·clear hc31 h32
    intro s4 hc33
    refine cL hc33 (c_label_fitLower _) ?_
    intro y6 hc33
    exact AuF hc33
theorem c_eponymlaw10_LabelFits (p_t) (r) (h : m_eponymlaw10_LabelFits p_t = some r) : Contract pl 6 [(e_api_Tables p_t)] [] (AV.bool r) [] := by
 refine contract_of .z Tryz.func6 rfl (by kernel_rfl) ?_
 refine gO ?_
 refine bnd h (fun y1 hy1 h => ?_)
 refine Or.inl ⟨_, c_eponymlaw10_awake  _ hy1, rfl, ?_⟩
 refine bR h ?_ ?_
 ·intro _ h
  exact AuF h
 ·intro _ h
  refine cL h (c_eponymlaw10_Great _) ?_
  intro y2 h
  refine bR h ?_ ?_
  ·intro _ h
   exact AuF h
  ·intro _ h
   refine cL h (c_eponymref10_Fit _) ?_
   intro y3 h
   refine cL h (c_label_Fit _) ?_
   intro y4 h
   refine cL h (c_eponymlaw01_Is _ _ _) ?_
   intro y5 h
   exact AuF h
end Go.Proofs.YtkeokkmhhhhoiaaGreatDoor
