/- Contracts of functions, walked by their models; printed by a program of ours. No condition. -/
import Derived.Test.YtjhgaacecfmadaaDoorK3
import Derived.Test.YtjhgaacecfmadaaDoorRefOne
import Derived.Test.YtjhgaacecfmadaaDoorProg
import Derived.KernelRfl
namespace Go.Proofs.YtjhgaacecfmadaaDoor
open Go Go.SE
set_option linter.unusedVariables false
set_option linter.unusedSimpArgs false
set_option maxRecDepth 10000
set_option maxHeartbeats 2000000
attribute [local irreducible] Contract iter
theorem c_eponymlaw04_DecompOnes (p_t : T_api_Norm) (p_r : Int) (p_row : Int) (r : Bool) (h : m_eponymlaw04_DecompOnes p_t p_r p_row = some r) : Contract pl 5 [(e_api_Norm p_t), (AV.int .i32 p_r), (AV.int .i64 p_row)] [] (AV.bool r) [] := by
  refine contract_of (.t false .z (.t false .z (.t false (.t true .z .z) .z))) Tryd.func5 rfl (by kernel_rfl) ?_
  ((conv => whnf); repeat ((first | refine T_seq ?_ | refine T_z mix ?_ | refine T_cut ?_ | refine T_block ?_ | refine T_cond rfl ?_ | refine T_loop ?_ | refine storeEq rfl ?_ | refine drawGo (by kernel_rfl) ?_ | fail); (conv => whnf)))
  refine bnd h (fun y1 hy1 h => ?_)
  refine Or.inl ⟨_, c_eponymlaw04_awake  _ hy1, rfl, ?_⟩
  ((conv => whnf); repeat ((first | refine T_seq ?_ | refine T_z mix ?_ | refine T_cut ?_ | refine T_block ?_ | refine T_cond rfl ?_ | refine T_loop ?_ | refine storeEq rfl ?_ | refine drawGo (by kernel_rfl) ?_ | fail); (conv => whnf)))
  refine br_b rfl h (fun c13 h => ?_) (fun c13 h => ?_)
  · have e := Option.some.inj h; subst e
    ((conv => whnf); repeat ((first | refine T_seq ?_ | refine T_z mix ?_ | refine T_cut ?_ | refine T_block ?_ | refine T_cond rfl ?_ | refine T_loop ?_ | refine storeEq rfl ?_ | refine drawGo (by kernel_rfl) ?_ | fail); (conv => whnf)))
    exact And.intro (AV.Le.refl _) rfl
  · ((conv => whnf); repeat ((first | refine T_seq ?_ | refine T_z mix ?_ | refine T_cut ?_ | refine T_block ?_ | refine T_cond rfl ?_ | refine T_loop ?_ | refine storeEq rfl ?_ | refine drawGo (by kernel_rfl) ?_ | fail); (conv => whnf)))
    refine bnd h (fun x14 h14 h => ?_)
    refine cut_at (fun s2 : Bool => mkF 41 [(1, (.int .i32 p_r)), (2, (.int .i64 p_row)), (3, (.mp 0 0 0)), (15, (.bool s2))] [some ⟨3, 40, (.vals [(e_api_Norm p_t)]), false, false⟩]) (fun s2 : Bool => m_eponymlaw04_DecompOnes_K3 p_t p_r p_row s2 = some r) ?_ ?_
    · intro Kn14 hn14
      ((conv => whnf); repeat ((first | refine T_seq ?_ | refine T_z mix ?_ | refine T_cut ?_ | refine T_block ?_ | refine T_cond rfl ?_ | refine T_loop ?_ | refine storeEq rfl ?_ | refine drawGo (by kernel_rfl) ?_ | fail); (conv => whnf)))
      refine bnd h14 (fun y11 hy11 h14 => ?_)
      refine Or.inl ⟨_, c_eponymlaw04_Great _ _ hy11, rfl, ?_⟩
      ((conv => whnf); repeat ((first | refine T_seq ?_ | refine T_z mix ?_ | refine T_cut ?_ | refine T_block ?_ | refine T_cond rfl ?_ | refine T_loop ?_ | refine storeEq rfl ?_ | refine drawGo (by kernel_rfl) ?_ | fail); (conv => whnf)))
      refine br_b rfl h14 (fun c15 h14 => ?_) (fun c15 h14 => ?_)
      · have e := Option.some.inj h14; subst e
        ((conv => whnf); repeat ((first | refine T_seq ?_ | refine T_z mix ?_ | refine T_cut ?_ | refine T_block ?_ | refine T_cond rfl ?_ | refine T_loop ?_ | refine storeEq rfl ?_ | refine drawGo (by kernel_rfl) ?_ | fail); (conv => whnf)))
        exact hn14 _ true h (weak_gen [0] rfl rfl (storeLe.cons rfl (objLe.mk (by intro hf; first | exact hf | rfl) (by intro hf; first | exact hf | rfl) (rowLe_vals (valsLe.cons (cellsLe_refl rfl) valsLe.nil))) storeLe.nil) (slotsLe.cons (And.intro rfl (AV.Le.refl _)) (slotsLe.cons (And.intro rfl (AV.Le.refl _)) (slotsLe.cons (And.intro rfl (AV.Le.refl _)) (slotsLe.cons (And.intro rfl (AV.Le.refl _)) slotsLe.nil)))))
      · ((conv => whnf); repeat ((first | refine T_seq ?_ | refine T_z mix ?_ | refine T_cut ?_ | refine T_block ?_ | refine T_cond rfl ?_ | refine T_loop ?_ | refine storeEq rfl ?_ | refine drawGo (by kernel_rfl) ?_ | fail); (conv => whnf)))
        refine bnd h14 (fun y12 hy12 h14 => ?_)
        refine Or.inl ⟨_, c_eponymlaw04_Right _ _ hy12, rfl, ?_⟩
        have e := Option.some.inj h14; subst e
        ((conv => whnf); repeat ((first | refine T_seq ?_ | refine T_z mix ?_ | refine T_cut ?_ | refine T_block ?_ | refine T_cond rfl ?_ | refine T_loop ?_ | refine storeEq rfl ?_ | refine drawGo (by kernel_rfl) ?_ | fail); (conv => whnf)))
        exact hn14 _ (!y12) h (weak_gen [0] rfl rfl (storeLe.cons rfl (objLe.mk (by intro hf; first | exact hf | rfl) (by intro hf; first | exact hf | rfl) (rowLe_vals (valsLe.cons (cellsLe_refl rfl) valsLe.nil))) storeLe.nil) (slotsLe.cons (And.intro rfl (AV.Le.refl _)) (slotsLe.cons (And.intro rfl (AV.Le.refl _)) (slotsLe.cons (And.intro rfl (AV.Le.refl _)) (slotsLe.cons (And.intro rfl (AV.Le.refl _)) slotsLe.nil)))))
    · clear h h14
      intro s2 hc16
      ((conv => whnf); repeat ((first | refine T_seq ?_ | refine T_z mix ?_ | refine T_cut ?_ | refine T_block ?_ | refine T_cond rfl ?_ | refine T_loop ?_ | refine storeEq rfl ?_ | refine drawGo (by kernel_rfl) ?_ | fail); (conv => whnf)))
      refine br_b rfl hc16 (fun c17 hc16 => ?_) (fun c17 hc16 => ?_)
      · have e := Option.some.inj hc16; subst e
        ((conv => whnf); repeat ((first | refine T_seq ?_ | refine T_z mix ?_ | refine T_cut ?_ | refine T_block ?_ | refine T_cond rfl ?_ | refine T_loop ?_ | refine storeEq rfl ?_ | refine drawGo (by kernel_rfl) ?_ | fail); (conv => whnf)))
        exact And.intro (AV.Le.refl _) rfl
      · ((conv => whnf); repeat ((first | refine T_seq ?_ | refine T_z mix ?_ | refine T_cut ?_ | refine T_block ?_ | refine T_cond rfl ?_ | refine T_loop ?_ | refine storeEq rfl ?_ | refine drawGo (by kernel_rfl) ?_ | fail); (conv => whnf)))
        refine bnd hc16 (fun y4 hy4 hc16 => ?_)
        refine Or.inl ⟨_, c_decomp_One _ _ _ hy4, rfl, ?_⟩
        ((conv => whnf); repeat ((first | refine T_seq ?_ | refine T_z mix ?_ | refine T_cut ?_ | refine T_block ?_ | refine T_cond rfl ?_ | refine T_loop ?_ | refine storeEq rfl ?_ | refine drawGo (by kernel_rfl) ?_ | fail); (conv => whnf)))
        refine bnd hc16 (fun y5 hy5 hc16 => ?_)
        refine Or.inl ⟨_, c_eponymref04_One _ _ _ hy5, rfl, ?_⟩
        ((conv => whnf); repeat ((first | refine T_seq ?_ | refine T_z mix ?_ | refine T_cut ?_ | refine T_block ?_ | refine T_cond rfl ?_ | refine T_loop ?_ | refine storeEq rfl ?_ | refine drawGo (by kernel_rfl) ?_ | fail); (conv => whnf)))
        refine bnd hc16 (fun y6 hy6 hc16 => ?_)
        refine Or.inl ⟨_, c_eponymlaw01_Same _ _ _ hy6, rfl, ?_⟩
        ((conv => whnf); repeat ((first | refine T_seq ?_ | refine T_z mix ?_ | refine T_cut ?_ | refine T_block ?_ | refine T_cond rfl ?_ | refine T_loop ?_ | refine storeEq rfl ?_ | refine drawGo (by kernel_rfl) ?_ | fail); (conv => whnf)))
        refine br_b rfl hc16 (fun c18 hc16 => ?_) (fun c18 hc16 => ?_)
        · ((conv => whnf); repeat ((first | refine T_seq ?_ | refine T_z mix ?_ | refine T_cut ?_ | refine T_block ?_ | refine T_cond rfl ?_ | refine T_loop ?_ | refine storeEq rfl ?_ | refine drawGo (by kernel_rfl) ?_ | fail); (conv => whnf)))
          refine bnd hc16 (fun y7 hy7 hc16 => ?_)
          refine Or.inl ⟨_, c_decomp_Class _ _ _ hy7, rfl, ?_⟩
          ((conv => whnf); repeat ((first | refine T_seq ?_ | refine T_z mix ?_ | refine T_cut ?_ | refine T_block ?_ | refine T_cond rfl ?_ | refine T_loop ?_ | refine storeEq rfl ?_ | refine drawGo (by kernel_rfl) ?_ | fail); (conv => whnf)))
          refine bnd hc16 (fun y8 hy8 hc16 => ?_)
          refine Or.inl ⟨_, c_eponymref04_Class _ _ _ hy8, rfl, ?_⟩
          ((conv => whnf); repeat ((first | refine T_seq ?_ | refine T_z mix ?_ | refine T_cut ?_ | refine T_block ?_ | refine T_cond rfl ?_ | refine T_loop ?_ | refine storeEq rfl ?_ | refine drawGo (by kernel_rfl) ?_ | fail); (conv => whnf)))
          refine br_b rfl hc16 (fun c19 hc16 => ?_) (fun c19 hc16 => ?_)
          · ((conv => whnf); repeat ((first | refine T_seq ?_ | refine T_z mix ?_ | refine T_cut ?_ | refine T_block ?_ | refine T_cond rfl ?_ | refine T_loop ?_ | refine storeEq rfl ?_ | refine drawGo (by kernel_rfl) ?_ | fail); (conv => whnf)))
            refine bnd hc16 (fun y9 hy9 hc16 => ?_)
            refine Or.inl ⟨_, c_decomp_Composes _ _ _ hy9, rfl, ?_⟩
            ((conv => whnf); repeat ((first | refine T_seq ?_ | refine T_z mix ?_ | refine T_cut ?_ | refine T_block ?_ | refine T_cond rfl ?_ | refine T_loop ?_ | refine storeEq rfl ?_ | refine drawGo (by kernel_rfl) ?_ | fail); (conv => whnf)))
            refine bnd hc16 (fun y10 hy10 hc16 => ?_)
            refine Or.inl ⟨_, c_eponymref04_Composes _ _ _ hy10, rfl, ?_⟩
            have e := Option.some.inj hc16; subst e
            ((conv => whnf); repeat ((first | refine T_seq ?_ | refine T_z mix ?_ | refine T_cut ?_ | refine T_block ?_ | refine T_cond rfl ?_ | refine T_loop ?_ | refine storeEq rfl ?_ | refine drawGo (by kernel_rfl) ?_ | fail); (conv => whnf)))
            exact And.intro (AV.Le.refl _) rfl
          · have e := Option.some.inj hc16; subst e
            ((conv => whnf); repeat ((first | refine T_seq ?_ | refine T_z mix ?_ | refine T_cut ?_ | refine T_block ?_ | refine T_cond rfl ?_ | refine T_loop ?_ | refine storeEq rfl ?_ | refine drawGo (by kernel_rfl) ?_ | fail); (conv => whnf)))
            exact And.intro (AV.Le.refl _) rfl
        · have e := Option.some.inj hc16; subst e
          ((conv => whnf); repeat ((first | refine T_seq ?_ | refine T_z mix ?_ | refine T_cut ?_ | refine T_block ?_ | refine T_cond rfl ?_ | refine T_loop ?_ | refine storeEq rfl ?_ | refine drawGo (by kernel_rfl) ?_ | fail); (conv => whnf)))
          exact And.intro (AV.Le.refl _) rfl
end Go.Proofs.YtjhgaacecfmadaaDoor
