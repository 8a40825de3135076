/- Contracts of functions, walked by their models; printed by a program of ours. No condition. -/
import Derived.Test.YtjhgaacecfmadaaK0
import Derived.Test.YtjhgaacecfmadaaProg
import Derived.KernelRfl
namespace Go.Proofs.Ytjhgaacecfmadaa
open Go Go.SE
set_option linter.unusedVariables false
set_option linter.unusedSimpArgs false
set_option maxRecDepth 10000
set_option maxHeartbeats 2000000
attribute [local irreducible] Contract iter
theorem c_contexts_Holds (p_t : T_api_Tables) (p_l : (List Int)) (p_i : Int) (r : Bool) (h : m_contexts_Holds p_t p_l p_i = some r) : Contract Try.prog 25 [(e_api_Tables p_t), (e_L_i32 p_l), (AV.int .i64 p_i)] [] (AV.bool r) [] := by
  refine contract_of (.t false .z (.t false (.t true .z .z) (.t false .z (.t false .z (.t false (.t false .z (.t false (.t false (.t false (.t false (.t false (.t false (.t false (.t false (.t false (.t false (.t false (.t false (.t false (.t false (.t false (.t false (.t false .z (.t false .z (.t false .z (.t false .z (.t false .z (.t false .z (.t true .z .z))))))) .z) .z) .z) .z) .z) .z) .z) .z) .z) .z) .z) .z) .z) .z) .z) .z)) .z))))) Try.func25 rfl (by kernel_rfl) ?_
  ((conv => whnf); repeat ((first | refine T_seq ?_ | refine T_z mix ?_ | refine T_cut ?_ | refine T_block ?_ | refine T_cond rfl ?_ | refine T_loop ?_ | refine storeEq rfl ?_ | refine drawGo (by kernel_rfl) ?_ | fail); (conv => whnf)))
  refine bnd h (fun x18 h18 h => ?_)
  refine cut_at (fun s1 : Bool => mkF 87 [(1, (e_L_i32 p_l)), (2, (.int .i64 p_i)), (3, (.mp 0 0 0)), (18, (.bool s1))] [some ⟨15, 47, (.vals [(e_api_Tables p_t)]), false, false⟩]) (fun s1 : Bool => m_contexts_Holds_K2 p_t p_l p_i s1 = some r) ?_ ?_
  · intro Kn18 hn18
    ((conv => whnf); repeat ((first | refine T_seq ?_ | refine T_z mix ?_ | refine T_cut ?_ | refine T_block ?_ | refine T_cond rfl ?_ | refine T_loop ?_ | refine storeEq rfl ?_ | refine drawGo (by kernel_rfl) ?_ | fail); (conv => whnf)))
    refine br_b rfl h18 (fun c19 h18 => ?_) (fun c19 h18 => ?_)
    · have e := Option.some.inj h18; subst e
      ((conv => whnf); repeat ((first | refine T_seq ?_ | refine T_z mix ?_ | refine T_cut ?_ | refine T_block ?_ | refine T_cond rfl ?_ | refine T_loop ?_ | refine storeEq rfl ?_ | refine drawGo (by kernel_rfl) ?_ | fail); (conv => whnf)))
      exact hn18 _ true h (weak_gen [0] rfl rfl (storeLe.cons rfl (objLe.mk (by intro hf; first | exact hf | rfl) (by intro hf; first | exact hf | rfl) (rowLe_vals (valsLe.cons (cellsLe_refl rfl) valsLe.nil))) storeLe.nil) (slotsLe.cons (And.intro rfl (AV.Le.refl _)) (slotsLe.cons (And.intro rfl (AV.Le.refl _)) (slotsLe.cons (And.intro rfl (AV.Le.refl _)) (slotsLe.cons (And.intro rfl (AV.Le.refl _)) slotsLe.nil)))))
    · have e := Option.some.inj h18; subst e
      ((conv => whnf); repeat ((first | refine T_seq ?_ | refine T_z mix ?_ | refine T_cut ?_ | refine T_block ?_ | refine T_cond rfl ?_ | refine T_loop ?_ | refine storeEq rfl ?_ | refine drawGo (by kernel_rfl) ?_ | fail); (conv => whnf)))
      exact hn18 _ (decide (p_i ≥ ((p_l.length : Nat) : Int))) h (weak_gen [0] rfl rfl (storeLe.cons rfl (objLe.mk (by intro hf; first | exact hf | rfl) (by intro hf; first | exact hf | rfl) (rowLe_vals (valsLe.cons (cellsLe_refl rfl) valsLe.nil))) storeLe.nil) (slotsLe.cons (And.intro rfl (AV.Le.refl _)) (slotsLe.cons (And.intro rfl (AV.Le.refl _)) (slotsLe.cons (And.intro rfl (AV.Le.refl _)) (slotsLe.cons (And.intro rfl (AV.Le.refl _)) slotsLe.nil)))))
  · clear h h18
    intro s1 hc20
    ((conv => whnf); repeat ((first | refine T_seq ?_ | refine T_z mix ?_ | refine T_cut ?_ | refine T_block ?_ | refine T_cond rfl ?_ | refine T_loop ?_ | refine storeEq rfl ?_ | refine drawGo (by kernel_rfl) ?_ | fail); (conv => whnf)))
    refine br_b rfl hc20 (fun c21 hc20 => ?_) (fun c21 hc20 => ?_)
    · have e := Option.some.inj hc20; subst e
      ((conv => whnf); repeat ((first | refine T_seq ?_ | refine T_z mix ?_ | refine T_cut ?_ | refine T_block ?_ | refine T_cond rfl ?_ | refine T_loop ?_ | refine storeEq rfl ?_ | refine drawGo (by kernel_rfl) ?_ | fail); (conv => whnf)))
      exact And.intro (AV.Le.refl _) rfl
    · ((conv => whnf); repeat ((first | refine T_seq ?_ | refine T_z mix ?_ | refine T_cut ?_ | refine T_block ?_ | refine T_cond rfl ?_ | refine T_loop ?_ | refine storeEq rfl ?_ | refine drawGo (by kernel_rfl) ?_ | fail); (conv => whnf)))
      refine grd2 rfl rfl hc20 (fun hc20 => ?_)
      ((conv => whnf); repeat ((first | refine T_seq ?_ | refine T_z mix ?_ | refine T_cut ?_ | refine T_block ?_ | refine T_cond rfl ?_ | refine T_loop ?_ | refine storeEq rfl ?_ | refine drawGo (by kernel_rfl) ?_ | fail); (conv => whnf)))
      refine bnd hc20 (fun y3 hy3 hc20 => ?_)
      refine ⟨_, c_contexts_Rule _ _ hy3, rfl, ?_⟩
      ((conv => whnf); repeat ((first | refine T_seq ?_ | refine T_z mix ?_ | refine T_cut ?_ | refine T_block ?_ | refine T_cond rfl ?_ | refine T_loop ?_ | refine storeEq rfl ?_ | refine drawGo (by kernel_rfl) ?_ | fail); (conv => whnf)))
      refine br_b rfl hc20 (fun c22 hc20 => ?_) (fun c22 hc20 => ?_)
      · ((conv => whnf); repeat ((first | refine T_seq ?_ | refine T_z mix ?_ | refine T_cut ?_ | refine T_block ?_ | refine T_cond rfl ?_ | refine T_loop ?_ | refine storeEq rfl ?_ | refine drawGo (by kernel_rfl) ?_ | fail); (conv => whnf)))
        refine bnd hc20 (fun y4 hy4 hc20 => ?_)
        refine ⟨_, c_contexts_joined _ _ _ _ hy4, rfl, ?_⟩
        ((conv => whnf); repeat ((first | refine T_seq ?_ | refine T_z mix ?_ | refine T_cut ?_ | refine T_block ?_ | refine T_cond rfl ?_ | refine T_loop ?_ | refine storeEq rfl ?_ | refine drawGo (by kernel_rfl) ?_ | fail); (conv => whnf)))
        refine br_b rfl hc20 (fun c23 hc20 => ?_) (fun c23 hc20 => ?_)
        · have e := Option.some.inj hc20; subst e
          ((conv => whnf); repeat ((first | refine T_seq ?_ | refine T_z mix ?_ | refine T_cut ?_ | refine T_block ?_ | refine T_cond rfl ?_ | refine T_loop ?_ | refine storeEq rfl ?_ | refine drawGo (by kernel_rfl) ?_ | fail); (conv => whnf)))
          exact And.intro (AV.Le.refl _) rfl
        · ((conv => whnf); repeat ((first | refine T_seq ?_ | refine T_z mix ?_ | refine T_cut ?_ | refine T_block ?_ | refine T_cond rfl ?_ | refine T_loop ?_ | refine storeEq rfl ?_ | refine drawGo (by kernel_rfl) ?_ | fail); (conv => whnf)))
          refine bnd hc20 (fun y5 hy5 hc20 => ?_)
          refine ⟨_, c_contexts_at_contexts_Holds_2 _ _ _ _ hy5, rfl, ?_⟩
          have e := Option.some.inj hc20; subst e
          ((conv => whnf); repeat ((first | refine T_seq ?_ | refine T_z mix ?_ | refine T_cut ?_ | refine T_block ?_ | refine T_cond rfl ?_ | refine T_loop ?_ | refine storeEq rfl ?_ | refine drawGo (by kernel_rfl) ?_ | fail); (conv => whnf)))
          exact And.intro (AV.Le.refl _) rfl
      · ((conv => whnf); repeat ((first | refine T_seq ?_ | refine T_z mix ?_ | refine T_cut ?_ | refine T_block ?_ | refine T_cond rfl ?_ | refine T_loop ?_ | refine storeEq rfl ?_ | refine drawGo (by kernel_rfl) ?_ | fail); (conv => whnf)))
        refine br_b rfl hc20 (fun c24 hc20 => ?_) (fun c24 hc20 => ?_)
        · ((conv => whnf); repeat ((first | refine T_seq ?_ | refine T_z mix ?_ | refine T_cut ?_ | refine T_block ?_ | refine T_cond rfl ?_ | refine T_loop ?_ | refine storeEq rfl ?_ | refine drawGo (by kernel_rfl) ?_ | fail); (conv => whnf)))
          refine bnd hc20 (fun y6 hy6 hc20 => ?_)
          refine ⟨_, c_contexts_at_contexts_Holds_2 _ _ _ _ hy6, rfl, ?_⟩
          have e := Option.some.inj hc20; subst e
          ((conv => whnf); repeat ((first | refine T_seq ?_ | refine T_z mix ?_ | refine T_cut ?_ | refine T_block ?_ | refine T_cond rfl ?_ | refine T_loop ?_ | refine storeEq rfl ?_ | refine drawGo (by kernel_rfl) ?_ | fail); (conv => whnf)))
          exact And.intro (AV.Le.refl _) rfl
        · ((conv => whnf); repeat ((first | refine T_seq ?_ | refine T_z mix ?_ | refine T_cut ?_ | refine T_block ?_ | refine T_cond rfl ?_ | refine T_loop ?_ | refine storeEq rfl ?_ | refine drawGo (by kernel_rfl) ?_ | fail); (conv => whnf)))
          refine br_b rfl hc20 (fun c25 hc20 => ?_) (fun c25 hc20 => ?_)
          · ((conv => whnf); repeat ((first | refine T_seq ?_ | refine T_z mix ?_ | refine T_cut ?_ | refine T_block ?_ | refine T_cond rfl ?_ | refine T_loop ?_ | refine storeEq rfl ?_ | refine drawGo (by kernel_rfl) ?_ | fail); (conv => whnf)))
            refine bnd hc20 (fun y7 hy7 hc20 => ?_)
            refine ⟨_, c_contexts_at_contexts_Holds_3 _ _ _ hy7, rfl, ?_⟩
            ((conv => whnf); repeat ((first | refine T_seq ?_ | refine T_z mix ?_ | refine T_cut ?_ | refine T_block ?_ | refine T_cond rfl ?_ | refine T_loop ?_ | refine storeEq rfl ?_ | refine drawGo (by kernel_rfl) ?_ | fail); (conv => whnf)))
            refine br_b rfl hc20 (fun c26 hc20 => ?_) (fun c26 hc20 => ?_)
            · ((conv => whnf); repeat ((first | refine T_seq ?_ | refine T_z mix ?_ | refine T_cut ?_ | refine T_block ?_ | refine T_cond rfl ?_ | refine T_loop ?_ | refine storeEq rfl ?_ | refine drawGo (by kernel_rfl) ?_ | fail); (conv => whnf)))
              refine bnd hc20 (fun y8 hy8 hc20 => ?_)
              refine ⟨_, c_contexts_at_contexts_Holds_3 _ _ _ hy8, rfl, ?_⟩
              have e := Option.some.inj hc20; subst e
              ((conv => whnf); repeat ((first | refine T_seq ?_ | refine T_z mix ?_ | refine T_cut ?_ | refine T_block ?_ | refine T_cond rfl ?_ | refine T_loop ?_ | refine storeEq rfl ?_ | refine drawGo (by kernel_rfl) ?_ | fail); (conv => whnf)))
              exact And.intro (AV.Le.refl _) rfl
            · have e := Option.some.inj hc20; subst e
              ((conv => whnf); repeat ((first | refine T_seq ?_ | refine T_z mix ?_ | refine T_cut ?_ | refine T_block ?_ | refine T_cond rfl ?_ | refine T_loop ?_ | refine storeEq rfl ?_ | refine drawGo (by kernel_rfl) ?_ | fail); (conv => whnf)))
              exact And.intro (AV.Le.refl _) rfl
          · ((conv => whnf); repeat ((first | refine T_seq ?_ | refine T_z mix ?_ | refine T_cut ?_ | refine T_block ?_ | refine T_cond rfl ?_ | refine T_loop ?_ | refine storeEq rfl ?_ | refine drawGo (by kernel_rfl) ?_ | fail); (conv => whnf)))
            refine br_b rfl hc20 (fun c27 hc20 => ?_) (fun c27 hc20 => ?_)
            · ((conv => whnf); repeat ((first | refine T_seq ?_ | refine T_z mix ?_ | refine T_cut ?_ | refine T_block ?_ | refine T_cond rfl ?_ | refine T_loop ?_ | refine storeEq rfl ?_ | refine drawGo (by kernel_rfl) ?_ | fail); (conv => whnf)))
              refine bnd hc20 (fun y9 hy9 hc20 => ?_)
              refine ⟨_, contract_le (c_contexts_Holds_1 _ _ _ hy9) (argsLe.cons (AV.Le.list (by simp; try omega) (fun j hj => by first | rfl | rw [getD_sub hj] | (rw [getD_take hj]; simp) | simp)) (argsLe.cons (AV.Le.refl _) argsLe.nil)), rfl, ?_⟩
              ((conv => whnf); repeat ((first | refine T_seq ?_ | refine T_z mix ?_ | refine T_cut ?_ | refine T_block ?_ | refine T_cond rfl ?_ | refine T_loop ?_ | refine storeEq rfl ?_ | refine drawGo (by kernel_rfl) ?_ | fail); (conv => whnf)))
              refine bnd hc20 (fun y10 hy10 hc20 => ?_)
              refine ⟨_, c_contexts_at_contexts_Holds_1_1 _ _ _ _ _ hy10, rfl, ?_⟩
              have e := Option.some.inj hc20; subst e
              ((conv => whnf); repeat ((first | refine T_seq ?_ | refine T_z mix ?_ | refine T_cut ?_ | refine T_block ?_ | refine T_cond rfl ?_ | refine T_loop ?_ | refine storeEq rfl ?_ | refine drawGo (by kernel_rfl) ?_ | fail); (conv => whnf)))
              exact And.intro (AV.Le.refl _) rfl
            · ((conv => whnf); repeat ((first | refine T_seq ?_ | refine T_z mix ?_ | refine T_cut ?_ | refine T_block ?_ | refine T_cond rfl ?_ | refine T_loop ?_ | refine storeEq rfl ?_ | refine drawGo (by kernel_rfl) ?_ | fail); (conv => whnf)))
              refine br_b rfl hc20 (fun c28 hc20 => ?_) (fun c28 hc20 => ?_)
              · ((conv => whnf); repeat ((first | refine T_seq ?_ | refine T_z mix ?_ | refine T_cut ?_ | refine T_block ?_ | refine T_cond rfl ?_ | refine T_loop ?_ | refine storeEq rfl ?_ | refine drawGo (by kernel_rfl) ?_ | fail); (conv => whnf)))
                refine bnd hc20 (fun y11 hy11 hc20 => ?_)
                refine ⟨_, contract_le (c_contexts_Holds_1 _ _ _ hy11) (argsLe.cons (AV.Le.list (by simp; try omega) (fun j hj => by first | rfl | rw [getD_sub hj] | (rw [getD_take hj]; simp) | simp)) (argsLe.cons (AV.Le.refl _) argsLe.nil)), rfl, ?_⟩
                ((conv => whnf); repeat ((first | refine T_seq ?_ | refine T_z mix ?_ | refine T_cut ?_ | refine T_block ?_ | refine T_cond rfl ?_ | refine T_loop ?_ | refine storeEq rfl ?_ | refine drawGo (by kernel_rfl) ?_ | fail); (conv => whnf)))
                refine bnd hc20 (fun y12 hy12 hc20 => ?_)
                refine ⟨_, c_contexts_at_contexts_Holds_1_1 _ _ _ _ _ hy12, rfl, ?_⟩
                have e := Option.some.inj hc20; subst e
                ((conv => whnf); repeat ((first | refine T_seq ?_ | refine T_z mix ?_ | refine T_cut ?_ | refine T_block ?_ | refine T_cond rfl ?_ | refine T_loop ?_ | refine storeEq rfl ?_ | refine drawGo (by kernel_rfl) ?_ | fail); (conv => whnf)))
                exact And.intro (AV.Le.refl _) rfl
              · ((conv => whnf); repeat ((first | refine T_seq ?_ | refine T_z mix ?_ | refine T_cut ?_ | refine T_block ?_ | refine T_cond rfl ?_ | refine T_loop ?_ | refine storeEq rfl ?_ | refine drawGo (by kernel_rfl) ?_ | fail); (conv => whnf)))
                refine br_b rfl hc20 (fun c29 hc20 => ?_) (fun c29 hc20 => ?_)
                · ((conv => whnf); repeat ((first | refine T_seq ?_ | refine T_z mix ?_ | refine T_cut ?_ | refine T_block ?_ | refine T_cond rfl ?_ | refine T_loop ?_ | refine storeEq rfl ?_ | refine drawGo (by kernel_rfl) ?_ | fail); (conv => whnf)))
                  refine bnd hc20 (fun y13 hy13 hc20 => ?_)
                  refine ⟨_, contract_le (c_contexts_Holds_1 _ _ _ hy13) (argsLe.cons (AV.Le.list (by simp; try omega) (fun j hj => by first | rfl | rw [getD_sub hj] | (rw [getD_take hj]; simp) | simp)) (argsLe.cons (AV.Le.refl _) argsLe.nil)), rfl, ?_⟩
                  ((conv => whnf); repeat ((first | refine T_seq ?_ | refine T_z mix ?_ | refine T_cut ?_ | refine T_block ?_ | refine T_cond rfl ?_ | refine T_loop ?_ | refine storeEq rfl ?_ | refine drawGo (by kernel_rfl) ?_ | fail); (conv => whnf)))
                  refine bnd hc20 (fun y14 hy14 hc20 => ?_)
                  refine ⟨_, c_contexts_some_contexts_Holds_1_1 _ _ _ _ hy14, rfl, ?_⟩
                  have e := Option.some.inj hc20; subst e
                  ((conv => whnf); repeat ((first | refine T_seq ?_ | refine T_z mix ?_ | refine T_cut ?_ | refine T_block ?_ | refine T_cond rfl ?_ | refine T_loop ?_ | refine storeEq rfl ?_ | refine drawGo (by kernel_rfl) ?_ | fail); (conv => whnf)))
                  exact And.intro (AV.Le.refl _) rfl
                · ((conv => whnf); repeat ((first | refine T_seq ?_ | refine T_z mix ?_ | refine T_cut ?_ | refine T_block ?_ | refine T_cond rfl ?_ | refine T_loop ?_ | refine storeEq rfl ?_ | refine drawGo (by kernel_rfl) ?_ | fail); (conv => whnf)))
                  refine bnd hc20 (fun x30 h30 hc20 => ?_)
                  refine cut_at (fun s15 : Bool => mkF 87 [(1, (e_L_i32 p_l)), (8, (.int .i64 y3)), (38, (.bool s15))] []) (fun s15 : Bool => m_contexts_Holds_K16 p_l y3 s15 = some r) ?_ ?_
                  · intro Kn30 hn30
                    ((conv => whnf); repeat ((first | refine T_seq ?_ | refine T_z mix ?_ | refine T_cut ?_ | refine T_block ?_ | refine T_cond rfl ?_ | refine T_loop ?_ | refine storeEq rfl ?_ | refine drawGo (by kernel_rfl) ?_ | fail); (conv => whnf)))
                    refine br_b rfl h30 (fun c31 h30 => ?_) (fun c31 h30 => ?_)
                    · have e := Option.some.inj h30; subst e
                      ((conv => whnf); repeat ((first | refine T_seq ?_ | refine T_z mix ?_ | refine T_cut ?_ | refine T_block ?_ | refine T_cond rfl ?_ | refine T_loop ?_ | refine storeEq rfl ?_ | refine drawGo (by kernel_rfl) ?_ | fail); (conv => whnf)))
                      exact hn30 _ (y3 == (7 : Int)) hc20 (weak_gen [] rfl rfl storeLe.nil (slotsLe.cons (And.intro rfl (AV.Le.refl _)) (slotsLe.cons (And.intro rfl (AV.Le.refl _)) (slotsLe.cons (And.intro rfl (AV.Le.refl _)) slotsLe.nil))))
                    · have e := Option.some.inj h30; subst e
                      ((conv => whnf); repeat ((first | refine T_seq ?_ | refine T_z mix ?_ | refine T_cut ?_ | refine T_block ?_ | refine T_cond rfl ?_ | refine T_loop ?_ | refine storeEq rfl ?_ | refine drawGo (by kernel_rfl) ?_ | fail); (conv => whnf)))
                      exact hn30 _ (y3 == (8 : Int)) hc20 (weak_gen [] rfl rfl storeLe.nil (slotsLe.cons (And.intro rfl (AV.Le.refl _)) (slotsLe.cons (And.intro rfl (AV.Le.refl _)) (slotsLe.cons (And.intro rfl (AV.Le.refl _)) slotsLe.nil))))
                  · clear hc20 h30
                    intro s15 hc32
                    ((conv => whnf); repeat ((first | refine T_seq ?_ | refine T_z mix ?_ | refine T_cut ?_ | refine T_block ?_ | refine T_cond rfl ?_ | refine T_loop ?_ | refine storeEq rfl ?_ | refine drawGo (by kernel_rfl) ?_ | fail); (conv => whnf)))
                    refine br_b rfl hc32 (fun c33 hc32 => ?_) (fun c33 hc32 => ?_)
                    · ((conv => whnf); repeat ((first | refine T_seq ?_ | refine T_z mix ?_ | refine T_cut ?_ | refine T_block ?_ | refine T_cond rfl ?_ | refine T_loop ?_ | refine storeEq rfl ?_ | refine drawGo (by kernel_rfl) ?_ | fail); (conv => whnf)))
                      refine bnd hc32 (fun y17 hy17 hc32 => ?_)
                      refine ⟨_, c_contexts_some_contexts_Holds_4 _ _ _ hy17, rfl, ?_⟩
                      have e := Option.some.inj hc32; subst e
                      ((conv => whnf); repeat ((first | refine T_seq ?_ | refine T_z mix ?_ | refine T_cut ?_ | refine T_block ?_ | refine T_cond rfl ?_ | refine T_loop ?_ | refine storeEq rfl ?_ | refine drawGo (by kernel_rfl) ?_ | fail); (conv => whnf)))
                      exact And.intro (AV.Le.refl _) rfl
                    · have e := Option.some.inj hc32; subst e
                      ((conv => whnf); repeat ((first | refine T_seq ?_ | refine T_z mix ?_ | refine T_cut ?_ | refine T_block ?_ | refine T_cond rfl ?_ | refine T_loop ?_ | refine storeEq rfl ?_ | refine drawGo (by kernel_rfl) ?_ | fail); (conv => whnf)))
                      exact And.intro (AV.Le.refl _) rfl
theorem c_eponymlaw08_awake  (r : Bool) (h : m_eponymlaw08_awake  = some r) : Contract Try.prog 22 [] [] (AV.bool r) [] := by
  refine contract_of .z Try.func22 rfl (by kernel_rfl) ?_
  ((conv => whnf); repeat ((first | refine T_seq ?_ | refine T_z mix ?_ | refine T_cut ?_ | refine T_block ?_ | refine T_cond rfl ?_ | refine T_loop ?_ | refine storeEq rfl ?_ | refine drawGo (by kernel_rfl) ?_ | fail); (conv => whnf)))
  refine bnd h (fun y1 hy1 h => ?_)
  refine ⟨_, contract_le (c_contexts_Holds _ _ _ _ hy1) (argsLe.cons (AV.Le.agg (argsLe.cons (AV.Le.list rfl (fun j hj => absurd hj (Nat.not_lt_zero _))) (argsLe.cons (AV.Le.list rfl (fun j hj => absurd hj (Nat.not_lt_zero _))) (argsLe.cons (AV.Le.list rfl (fun j hj => absurd hj (Nat.not_lt_zero _))) (argsLe.cons (AV.Le.list rfl (fun j hj => absurd hj (Nat.not_lt_zero _))) (argsLe.cons (AV.Le.list rfl (fun j hj => absurd hj (Nat.not_lt_zero _))) (argsLe.cons (AV.Le.list rfl (fun j hj => absurd hj (Nat.not_lt_zero _))) (argsLe.cons (AV.Le.list rfl (fun j hj => absurd hj (Nat.not_lt_zero _))) (argsLe.cons (AV.Le.list rfl (fun j hj => absurd hj (Nat.not_lt_zero _))) (argsLe.cons (AV.Le.list rfl (fun j hj => absurd hj (Nat.not_lt_zero _))) (argsLe.cons (AV.Le.list rfl (fun j hj => absurd hj (Nat.not_lt_zero _))) (argsLe.cons (AV.Le.list rfl (fun j hj => absurd hj (Nat.not_lt_zero _))) (argsLe.cons (AV.Le.list rfl (fun j hj => absurd hj (Nat.not_lt_zero _))) (argsLe.cons (AV.Le.list rfl (fun j hj => absurd hj (Nat.not_lt_zero _))) (argsLe.cons (AV.Le.list rfl (fun j hj => absurd hj (Nat.not_lt_zero _))) (argsLe.cons (AV.Le.list rfl (fun j hj => absurd hj (Nat.not_lt_zero _))) argsLe.nil)))))))))))))))) (argsLe.cons (AV.Le.list (by simp; try omega) (fun j hj => by first | rfl | rw [getD_sub hj] | (rw [getD_take hj]; simp) | simp)) (argsLe.cons (AV.Le.refl _) argsLe.nil))), rfl, ?_⟩
  ((conv => whnf); repeat ((first | refine T_seq ?_ | refine T_z mix ?_ | refine T_cut ?_ | refine T_block ?_ | refine T_cond rfl ?_ | refine T_loop ?_ | refine storeEq rfl ?_ | refine drawGo (by kernel_rfl) ?_ | fail); (conv => whnf)))
  refine br_b rfl h (fun c3 h => ?_) (fun c3 h => ?_)
  · ((conv => whnf); repeat ((first | refine T_seq ?_ | refine T_z mix ?_ | refine T_cut ?_ | refine T_block ?_ | refine T_cond rfl ?_ | refine T_loop ?_ | refine storeEq rfl ?_ | refine drawGo (by kernel_rfl) ?_ | fail); (conv => whnf)))
    refine bnd h (fun y2 hy2 h => ?_)
    refine ⟨_, contract_le (c_contexts_Holds _ _ _ _ hy2) (argsLe.cons (AV.Le.agg (argsLe.cons (AV.Le.list rfl (fun j hj => absurd hj (Nat.not_lt_zero _))) (argsLe.cons (AV.Le.list rfl (fun j hj => absurd hj (Nat.not_lt_zero _))) (argsLe.cons (AV.Le.list rfl (fun j hj => absurd hj (Nat.not_lt_zero _))) (argsLe.cons (AV.Le.list rfl (fun j hj => absurd hj (Nat.not_lt_zero _))) (argsLe.cons (AV.Le.list rfl (fun j hj => absurd hj (Nat.not_lt_zero _))) (argsLe.cons (AV.Le.list rfl (fun j hj => absurd hj (Nat.not_lt_zero _))) (argsLe.cons (AV.Le.list rfl (fun j hj => absurd hj (Nat.not_lt_zero _))) (argsLe.cons (AV.Le.list rfl (fun j hj => absurd hj (Nat.not_lt_zero _))) (argsLe.cons (AV.Le.list rfl (fun j hj => absurd hj (Nat.not_lt_zero _))) (argsLe.cons (AV.Le.list rfl (fun j hj => absurd hj (Nat.not_lt_zero _))) (argsLe.cons (AV.Le.list rfl (fun j hj => absurd hj (Nat.not_lt_zero _))) (argsLe.cons (AV.Le.list rfl (fun j hj => absurd hj (Nat.not_lt_zero _))) (argsLe.cons (AV.Le.list rfl (fun j hj => absurd hj (Nat.not_lt_zero _))) (argsLe.cons (AV.Le.list rfl (fun j hj => absurd hj (Nat.not_lt_zero _))) (argsLe.cons (AV.Le.list rfl (fun j hj => absurd hj (Nat.not_lt_zero _))) argsLe.nil)))))))))))))))) (argsLe.cons (AV.Le.list (by simp; try omega) (fun j hj => by first | rfl | rw [getD_sub hj] | (rw [getD_take hj]; simp) | simp)) (argsLe.cons (AV.Le.refl _) argsLe.nil))), rfl, ?_⟩
    have e := Option.some.inj h; subst e
    ((conv => whnf); repeat ((first | refine T_seq ?_ | refine T_z mix ?_ | refine T_cut ?_ | refine T_block ?_ | refine T_cond rfl ?_ | refine T_loop ?_ | refine storeEq rfl ?_ | refine drawGo (by kernel_rfl) ?_ | fail); (conv => whnf)))
    exact And.intro (AV.Le.refl _) rfl
  · have e := Option.some.inj h; subst e
    ((conv => whnf); repeat ((first | refine T_seq ?_ | refine T_z mix ?_ | refine T_cut ?_ | refine T_block ?_ | refine T_cond rfl ?_ | refine T_loop ?_ | refine storeEq rfl ?_ | refine drawGo (by kernel_rfl) ?_ | fail); (conv => whnf)))
    exact And.intro (AV.Le.refl _) rfl
theorem c_eponymlaw04_Great (p_t : T_api_Norm) (r : Bool) (h : m_eponymlaw04_Great p_t = some r) : Contract Try.prog 30 [(e_api_Norm p_t)] [] (AV.bool r) [] := by
  refine contract_of (.t false .z (.t false (.t true .z .z) (.t true .z .z))) Try.func30 rfl (by kernel_rfl) ?_
  ((conv => whnf); repeat ((first | refine T_seq ?_ | refine T_z mix ?_ | refine T_cut ?_ | refine T_block ?_ | refine T_cond rfl ?_ | refine T_loop ?_ | refine storeEq rfl ?_ | refine drawGo (by kernel_rfl) ?_ | fail); (conv => whnf)))
  refine bnd h (fun x12 h12 h => ?_)
  refine cut_at (fun s1 : Bool => mkF 35 [(1, (.mp 0 0 0)), (19, (.bool s1))] [some ⟨3, 42, (.vals [(e_api_Norm p_t)]), false, false⟩]) (fun s1 : Bool => m_eponymlaw04_Great_K2 p_t s1 = some r) ?_ ?_
  · intro Kn12 hn12
    ((conv => whnf); repeat ((first | refine T_seq ?_ | refine T_z mix ?_ | refine T_cut ?_ | refine T_block ?_ | refine T_cond rfl ?_ | refine T_loop ?_ | refine storeEq rfl ?_ | refine drawGo (by kernel_rfl) ?_ | fail); (conv => whnf)))
    refine br_b rfl h12 (fun c13 h12 => ?_) (fun c13 h12 => ?_)
    · have e := Option.some.inj h12; subst e
      ((conv => whnf); repeat ((first | refine T_seq ?_ | refine T_z mix ?_ | refine T_cut ?_ | refine T_block ?_ | refine T_cond rfl ?_ | refine T_loop ?_ | refine storeEq rfl ?_ | refine drawGo (by kernel_rfl) ?_ | fail); (conv => whnf)))
      exact hn12 _ true h (weak_gen [0] rfl rfl (storeLe.cons rfl (objLe.mk (by intro hf; first | exact hf | rfl) (by intro hf; first | exact hf | rfl) (rowLe_vals (valsLe.cons (cellsLe_refl rfl) valsLe.nil))) storeLe.nil) (slotsLe.cons (And.intro rfl (AV.Le.refl _)) (slotsLe.cons (And.intro rfl (AV.Le.refl _)) slotsLe.nil)))
    · ((conv => whnf); repeat ((first | refine T_seq ?_ | refine T_z mix ?_ | refine T_cut ?_ | refine T_block ?_ | refine T_cond rfl ?_ | refine T_loop ?_ | refine storeEq rfl ?_ | refine drawGo (by kernel_rfl) ?_ | fail); (conv => whnf)))
      refine br_b rfl h12 (fun c14 h12 => ?_) (fun c14 h12 => ?_)
      · have e := Option.some.inj h12; subst e
        ((conv => whnf); repeat ((first | refine T_seq ?_ | refine T_z mix ?_ | refine T_cut ?_ | refine T_block ?_ | refine T_cond rfl ?_ | refine T_loop ?_ | refine storeEq rfl ?_ | refine drawGo (by kernel_rfl) ?_ | fail); (conv => whnf)))
        exact hn12 _ true h (weak_gen [0] rfl rfl (storeLe.cons rfl (objLe.mk (by intro hf; first | exact hf | rfl) (by intro hf; first | exact hf | rfl) (rowLe_vals (valsLe.cons (cellsLe_refl rfl) valsLe.nil))) storeLe.nil) (slotsLe.cons (And.intro rfl (AV.Le.refl _)) (slotsLe.cons (And.intro rfl (AV.Le.refl _)) slotsLe.nil)))
      · have e := Option.some.inj h12; subst e
        ((conv => whnf); repeat ((first | refine T_seq ?_ | refine T_z mix ?_ | refine T_cut ?_ | refine T_block ?_ | refine T_cond rfl ?_ | refine T_loop ?_ | refine storeEq rfl ?_ | refine drawGo (by kernel_rfl) ?_ | fail); (conv => whnf)))
        exact hn12 _ (decide (((p_t.f_Excluded.length : Nat) : Int) > (40 : Int))) h (weak_gen [0] rfl rfl (storeLe.cons rfl (objLe.mk (by intro hf; first | exact hf | rfl) (by intro hf; first | exact hf | rfl) (rowLe_vals (valsLe.cons (cellsLe_refl rfl) valsLe.nil))) storeLe.nil) (slotsLe.cons (And.intro rfl (AV.Le.refl _)) (slotsLe.cons (And.intro rfl (AV.Le.refl _)) slotsLe.nil)))
  · clear h h12
    intro s1 hc15
    ((conv => whnf); repeat ((first | refine T_seq ?_ | refine T_z mix ?_ | refine T_cut ?_ | refine T_block ?_ | refine T_cond rfl ?_ | refine T_loop ?_ | refine storeEq rfl ?_ | refine drawGo (by kernel_rfl) ?_ | fail); (conv => whnf)))
    refine br_b rfl hc15 (fun c16 hc15 => ?_) (fun c16 hc15 => ?_)
    · have e := Option.some.inj hc15; subst e
      ((conv => whnf); repeat ((first | refine T_seq ?_ | refine T_z mix ?_ | refine T_cut ?_ | refine T_block ?_ | refine T_cond rfl ?_ | refine T_loop ?_ | refine storeEq rfl ?_ | refine drawGo (by kernel_rfl) ?_ | fail); (conv => whnf)))
      exact And.intro (AV.Le.refl _) rfl
    · ((conv => whnf); repeat ((first | refine T_seq ?_ | refine T_z mix ?_ | refine T_cut ?_ | refine T_block ?_ | refine T_cond rfl ?_ | refine T_loop ?_ | refine storeEq rfl ?_ | refine drawGo (by kernel_rfl) ?_ | fail); (conv => whnf)))
      refine bnd hc15 (fun x17 h17 hc15 => ?_)
      refine cut_at (fun s3 : Unit => mkF 35 [] []) (fun s3 : Unit => some false = some r) ?_ ?_
      · intro Kn17 hn17
        ((conv => whnf); repeat ((first | refine T_seq ?_ | refine T_z mix ?_ | refine T_cut ?_ | refine T_block ?_ | refine T_cond rfl ?_ | refine T_loop ?_ | refine storeEq rfl ?_ | refine drawGo (by kernel_rfl) ?_ | fail); (conv => whnf)))
        refine loop_iter (fun s6 : Int => mkF 35 [(1, (.mp 0 0 0)), (3, (.int .i64 s6))] [some ⟨3, 42, (.vals [(e_api_Norm p_t)]), false, false⟩]) h17 (weak_gen [0] rfl rfl (storeLe.cons rfl (objLe.mk (by intro hf; first | exact hf | rfl) (by intro hf; first | exact hf | rfl) (rowLe_vals (valsLe.cons (cellsLe_refl rfl) valsLe.nil))) storeLe.nil) (slotsLe.cons (And.intro rfl (AV.Le.refl _)) (slotsLe.cons (And.intro rfl (AV.Le.refl _)) slotsLe.nil))) ?_
        intro k8 s6 st8 Kn8 hn8 h8_ hs8
        ((conv => whnf); repeat ((first | refine T_seq ?_ | refine T_z mix ?_ | refine T_cut ?_ | refine T_block ?_ | refine T_cond rfl ?_ | refine T_loop ?_ | refine storeEq rfl ?_ | refine drawGo (by kernel_rfl) ?_ | fail); (conv => whnf)))
        refine br_b rfl h8_ (fun c18 h8_ => ?_) (fun c18 h8_ => ?_)
        · ((conv => whnf); repeat ((first | refine T_seq ?_ | refine T_z mix ?_ | refine T_cut ?_ | refine T_block ?_ | refine T_cond rfl ?_ | refine T_loop ?_ | refine storeEq rfl ?_ | refine drawGo (by kernel_rfl) ?_ | fail); (conv => whnf)))
          refine grd2 rfl rfl h8_ (fun h8_ => ?_)
          ((conv => whnf); repeat ((first | refine T_seq ?_ | refine T_z mix ?_ | refine T_cut ?_ | refine T_block ?_ | refine T_cond rfl ?_ | refine T_loop ?_ | refine storeEq rfl ?_ | refine drawGo (by kernel_rfl) ?_ | fail); (conv => whnf)))
          refine br_b rfl h8_ (fun c19 h8_ => ?_) (fun c19 h8_ => ?_)
          · have e := Option.some.inj h8_; subst e
            have e := done_out hs8; subst e
            have e := Option.some.inj hc15; subst e
            ((conv => whnf); repeat ((first | refine T_seq ?_ | refine T_z mix ?_ | refine T_cut ?_ | refine T_block ?_ | refine T_cond rfl ?_ | refine T_loop ?_ | refine storeEq rfl ?_ | refine drawGo (by kernel_rfl) ?_ | fail); (conv => whnf)))
            exact And.intro (AV.Le.refl _) rfl
          · have e := Option.some.inj h8_; subst e
            ((conv => whnf); repeat ((first | refine T_seq ?_ | refine T_z mix ?_ | refine T_cut ?_ | refine T_block ?_ | refine T_cond rfl ?_ | refine T_loop ?_ | refine storeEq rfl ?_ | refine drawGo (by kernel_rfl) ?_ | fail); (conv => whnf)))
            exact hn8 _ (IntKind.wrap .i64 (s6 + (1 : Int))) hs8 (weak_gen [0] rfl rfl (storeLe.cons rfl (objLe.mk (by intro hf; first | exact hf | rfl) (by intro hf; first | exact hf | rfl) (rowLe_vals (valsLe.cons (cellsLe_refl rfl) valsLe.nil))) storeLe.nil) (slotsLe.cons (And.intro rfl (AV.Le.refl _)) (slotsLe.cons (And.intro rfl (AV.Le.refl _)) slotsLe.nil)))
        · have e := Option.some.inj h8_; subst e
          have e := done_out hs8; subst e
          ((conv => whnf); repeat ((first | refine T_seq ?_ | refine T_z mix ?_ | refine T_cut ?_ | refine T_block ?_ | refine T_cond rfl ?_ | refine T_loop ?_ | refine storeEq rfl ?_ | refine drawGo (by kernel_rfl) ?_ | fail); (conv => whnf)))
          exact hn17 _ () hc15 (weak_gen [] rfl rfl storeLe.nil slotsLe.nil)
      · clear hc15 h17
        intro s3 hc20
        have e := Option.some.inj hc20; subst e
        ((conv => whnf); repeat ((first | refine T_seq ?_ | refine T_z mix ?_ | refine T_cut ?_ | refine T_block ?_ | refine T_cond rfl ?_ | refine T_loop ?_ | refine storeEq rfl ?_ | refine drawGo (by kernel_rfl) ?_ | fail); (conv => whnf)))
        exact And.intro (AV.Le.refl _) rfl
theorem c_eponymref07_Tables (p_p : T_api_Props) (r : (List (List T_api_Range))) (h : m_eponymref07_Tables p_p = some r) : Contract Try.prog 74 [(e_api_Props p_p)] [] (e_A11_L_api_Range r) [] := by
  refine contract_of .z Try.func74 rfl (by kernel_rfl) ?_
  ((conv => whnf); repeat ((first | refine T_seq ?_ | refine T_z mix ?_ | refine T_cut ?_ | refine T_block ?_ | refine T_cond rfl ?_ | refine T_loop ?_ | refine storeEq rfl ?_ | refine drawGo (by kernel_rfl) ?_ | fail); (conv => whnf)))
  refine natEq rfl ?_
  have e := Option.some.inj h; subst e
  ((conv => whnf); repeat ((first | refine T_seq ?_ | refine T_z mix ?_ | refine T_cut ?_ | refine T_block ?_ | refine T_cond rfl ?_ | refine T_loop ?_ | refine storeEq rfl ?_ | refine drawGo (by kernel_rfl) ?_ | fail); (conv => whnf)))
  exact And.intro (AV.Le.agg (argsLe.cons (AV.Le.refl _) (argsLe.cons (AV.Le.refl _) (argsLe.cons (AV.Le.refl _) (argsLe.cons (AV.Le.refl _) (argsLe.cons (AV.Le.refl _) (argsLe.cons (AV.Le.refl _) (argsLe.cons (AV.Le.refl _) (argsLe.cons (AV.Le.refl _) (argsLe.cons (AV.Le.refl _) (argsLe.cons (AV.Le.refl _) (argsLe.cons (AV.Le.refl _) argsLe.nil)))))))))))) rfl
theorem c_eponymlaw07_Great (p_p : T_api_Props) (r : Bool) (h : m_eponymlaw07_Great p_p = some r) : Contract Try.prog 45 [(e_api_Props p_p)] [] (AV.bool r) [] := by
  refine contract_of (.t false .z (.t false .z (.t true .z .z))) Try.func45 rfl (by kernel_rfl) ?_
  ((conv => whnf); repeat ((first | refine T_seq ?_ | refine T_z mix ?_ | refine T_cut ?_ | refine T_block ?_ | refine T_cond rfl ?_ | refine T_loop ?_ | refine storeEq rfl ?_ | refine drawGo (by kernel_rfl) ?_ | fail); (conv => whnf)))
  refine bnd h (fun y1 hy1 h => ?_)
  refine ⟨_, c_eponymref07_Tables _ _ hy1, rfl, ?_⟩
  ((conv => whnf); repeat ((first | refine T_seq ?_ | refine T_z mix ?_ | refine T_cut ?_ | refine T_block ?_ | refine T_cond rfl ?_ | refine T_loop ?_ | refine storeEq rfl ?_ | refine drawGo (by kernel_rfl) ?_ | fail); (conv => whnf)))
  refine natEq rfl ?_
  ((conv => whnf); repeat ((first | refine T_seq ?_ | refine T_z mix ?_ | refine T_cut ?_ | refine T_block ?_ | refine T_cond rfl ?_ | refine T_loop ?_ | refine storeEq rfl ?_ | refine drawGo (by kernel_rfl) ?_ | fail); (conv => whnf)))
  refine bnd h (fun x11 h11 h => ?_)
  refine cut_at (fun s2 : Unit => mkF 16 [] []) (fun s2 : Unit => some false = some r) ?_ ?_
  · intro Kn11 hn11
    ((conv => whnf); repeat ((first | refine T_seq ?_ | refine T_z mix ?_ | refine T_cut ?_ | refine T_block ?_ | refine T_cond rfl ?_ | refine T_loop ?_ | refine storeEq rfl ?_ | refine drawGo (by kernel_rfl) ?_ | fail); (conv => whnf)))
    refine loop_iter (fun s5 : Int => mkF 16 [(3, (.mp 0 0 0)), (4, (.int .i64 s5))] [some ⟨1, 88, (.imf [(y1.getD 0 []), (y1.getD 1 []), (y1.getD 2 []), (y1.getD 3 []), (y1.getD 4 []), (y1.getD 5 []), (y1.getD 6 []), (y1.getD 7 []), (y1.getD 8 []), (y1.getD 9 []), (y1.getD 10 [])].length fun j => (e_L_api_Range ([(y1.getD 0 []), (y1.getD 1 []), (y1.getD 2 []), (y1.getD 3 []), (y1.getD 4 []), (y1.getD 5 []), (y1.getD 6 []), (y1.getD 7 []), (y1.getD 8 []), (y1.getD 9 []), (y1.getD 10 [])].getD j []))), false, false⟩]) h11 (weak_gen [1] rfl rfl (storeLe.cons rfl (objLe.mk (by intro hf; first | exact hf | rfl) (by intro hf; first | exact hf | rfl) (rowLe_lit (fun x => (e_L_api_Range x)) [] [(y1.getD 0 []), (y1.getD 1 []), (y1.getD 2 []), (y1.getD 3 []), (y1.getD 4 []), (y1.getD 5 []), (y1.getD 6 []), (y1.getD 7 []), (y1.getD 8 []), (y1.getD 9 []), (y1.getD 10 [])])) storeLe.nil) (slotsLe.cons (And.intro rfl (AV.Le.refl _)) (slotsLe.cons (And.intro rfl (AV.Le.refl _)) slotsLe.nil))) ?_
    intro k7 s5 st7 Kn7 hn7 h7_ hs7
    ((conv => whnf); repeat ((first | refine T_seq ?_ | refine T_z mix ?_ | refine T_cut ?_ | refine T_block ?_ | refine T_cond rfl ?_ | refine T_loop ?_ | refine storeEq rfl ?_ | refine drawGo (by kernel_rfl) ?_ | fail); (conv => whnf)))
    refine br_b rfl h7_ (fun c12 h7_ => ?_) (fun c12 h7_ => ?_)
    · ((conv => whnf); repeat ((first | refine T_seq ?_ | refine T_z mix ?_ | refine T_cut ?_ | refine T_block ?_ | refine T_cond rfl ?_ | refine T_loop ?_ | refine storeEq rfl ?_ | refine drawGo (by kernel_rfl) ?_ | fail); (conv => whnf)))
      refine grd2 rfl rfl h7_ (fun h7_ => ?_)
      ((conv => whnf); repeat ((first | refine T_seq ?_ | refine T_z mix ?_ | refine T_cut ?_ | refine T_block ?_ | refine T_cond rfl ?_ | refine T_loop ?_ | refine storeEq rfl ?_ | refine drawGo (by kernel_rfl) ?_ | fail); (conv => whnf)))
      refine br_b rfl h7_ (fun c13 h7_ => ?_) (fun c13 h7_ => ?_)
      · have e := Option.some.inj h7_; subst e
        have e := done_out hs7; subst e
        have e := Option.some.inj h; subst e
        ((conv => whnf); repeat ((first | refine T_seq ?_ | refine T_z mix ?_ | refine T_cut ?_ | refine T_block ?_ | refine T_cond rfl ?_ | refine T_loop ?_ | refine storeEq rfl ?_ | refine drawGo (by kernel_rfl) ?_ | fail); (conv => whnf)))
        exact And.intro (AV.Le.refl _) rfl
      · have e := Option.some.inj h7_; subst e
        ((conv => whnf); repeat ((first | refine T_seq ?_ | refine T_z mix ?_ | refine T_cut ?_ | refine T_block ?_ | refine T_cond rfl ?_ | refine T_loop ?_ | refine storeEq rfl ?_ | refine drawGo (by kernel_rfl) ?_ | fail); (conv => whnf)))
        exact hn7 _ (IntKind.wrap .i64 (s5 + (1 : Int))) hs7 (weak_gen [0] rfl rfl (storeLe.cons rfl (objLe.mk (by intro hf; first | exact hf | rfl) (by intro hf; first | exact hf | rfl) (rowLe_same (fun h i hi => by rfl))) storeLe.nil) (slotsLe.cons (And.intro rfl (AV.Le.refl _)) (slotsLe.cons (And.intro rfl (AV.Le.refl _)) slotsLe.nil)))
    · have e := Option.some.inj h7_; subst e
      have e := done_out hs7; subst e
      ((conv => whnf); repeat ((first | refine T_seq ?_ | refine T_z mix ?_ | refine T_cut ?_ | refine T_block ?_ | refine T_cond rfl ?_ | refine T_loop ?_ | refine storeEq rfl ?_ | refine drawGo (by kernel_rfl) ?_ | fail); (conv => whnf)))
      exact hn11 _ () h (weak_gen [] rfl rfl storeLe.nil slotsLe.nil)
  · clear h h11
    intro s2 hc14
    have e := Option.some.inj hc14; subst e
    ((conv => whnf); repeat ((first | refine T_seq ?_ | refine T_z mix ?_ | refine T_cut ?_ | refine T_block ?_ | refine T_cond rfl ?_ | refine T_loop ?_ | refine storeEq rfl ?_ | refine drawGo (by kernel_rfl) ?_ | fail); (conv => whnf)))
    exact And.intro (AV.Le.refl _) rfl
theorem c_eponymlaw08_Great (p_t : T_api_Tables) (r : Bool) (h : m_eponymlaw08_Great p_t = some r) : Contract Try.prog 23 [(e_api_Tables p_t)] [] (AV.bool r) [] := by
  refine contract_of .z Try.func23 rfl (by kernel_rfl) ?_
  ((conv => whnf); repeat ((first | refine T_seq ?_ | refine T_z mix ?_ | refine T_cut ?_ | refine T_block ?_ | refine T_cond rfl ?_ | refine T_loop ?_ | refine storeEq rfl ?_ | refine drawGo (by kernel_rfl) ?_ | fail); (conv => whnf)))
  refine bnd h (fun y1 hy1 h => ?_)
  refine ⟨_, c_eponymlaw04_Great _ _ hy1, rfl, ?_⟩
  ((conv => whnf); repeat ((first | refine T_seq ?_ | refine T_z mix ?_ | refine T_cut ?_ | refine T_block ?_ | refine T_cond rfl ?_ | refine T_loop ?_ | refine storeEq rfl ?_ | refine drawGo (by kernel_rfl) ?_ | fail); (conv => whnf)))
  refine br_b rfl h (fun c3 h => ?_) (fun c3 h => ?_)
  · have e := Option.some.inj h; subst e
    ((conv => whnf); repeat ((first | refine T_seq ?_ | refine T_z mix ?_ | refine T_cut ?_ | refine T_block ?_ | refine T_cond rfl ?_ | refine T_loop ?_ | refine storeEq rfl ?_ | refine drawGo (by kernel_rfl) ?_ | fail); (conv => whnf)))
    exact And.intro (AV.Le.refl _) rfl
  · ((conv => whnf); repeat ((first | refine T_seq ?_ | refine T_z mix ?_ | refine T_cut ?_ | refine T_block ?_ | refine T_cond rfl ?_ | refine T_loop ?_ | refine storeEq rfl ?_ | refine drawGo (by kernel_rfl) ?_ | fail); (conv => whnf)))
    refine bnd h (fun y2 hy2 h => ?_)
    refine ⟨_, c_eponymlaw07_Great _ _ hy2, rfl, ?_⟩
    have e := Option.some.inj h; subst e
    ((conv => whnf); repeat ((first | refine T_seq ?_ | refine T_z mix ?_ | refine T_cut ?_ | refine T_block ?_ | refine T_cond rfl ?_ | refine T_loop ?_ | refine storeEq rfl ?_ | refine drawGo (by kernel_rfl) ?_ | fail); (conv => whnf)))
    exact And.intro (AV.Le.refl _) rfl
theorem c_eponymref01_Right (p_r : Int) (r : Bool) (h : m_eponymref01_Right p_r = some r) : Contract Try.prog 72 [(AV.int .i32 p_r)] [] (AV.bool r) [] := by
  refine contract_of .z Try.func72 rfl (by kernel_rfl) ?_
  ((conv => whnf); repeat ((first | refine T_seq ?_ | refine T_z mix ?_ | refine T_cut ?_ | refine T_block ?_ | refine T_cond rfl ?_ | refine T_loop ?_ | refine storeEq rfl ?_ | refine drawGo (by kernel_rfl) ?_ | fail); (conv => whnf)))
  refine br_b rfl h (fun c1 h => ?_) (fun c1 h => ?_)
  · ((conv => whnf); repeat ((first | refine T_seq ?_ | refine T_z mix ?_ | refine T_cut ?_ | refine T_block ?_ | refine T_cond rfl ?_ | refine T_loop ?_ | refine storeEq rfl ?_ | refine drawGo (by kernel_rfl) ?_ | fail); (conv => whnf)))
    refine br_b rfl h (fun c2 h => ?_) (fun c2 h => ?_)
    · ((conv => whnf); repeat ((first | refine T_seq ?_ | refine T_z mix ?_ | refine T_cut ?_ | refine T_block ?_ | refine T_cond rfl ?_ | refine T_loop ?_ | refine storeEq rfl ?_ | refine drawGo (by kernel_rfl) ?_ | fail); (conv => whnf)))
      refine br_b rfl h (fun c3 h => ?_) (fun c3 h => ?_)
      · have e := Option.some.inj h; subst e
        ((conv => whnf); repeat ((first | refine T_seq ?_ | refine T_z mix ?_ | refine T_cut ?_ | refine T_block ?_ | refine T_cond rfl ?_ | refine T_loop ?_ | refine storeEq rfl ?_ | refine drawGo (by kernel_rfl) ?_ | fail); (conv => whnf)))
        exact And.intro (AV.Le.refl _) rfl
      · have e := Option.some.inj h; subst e
        ((conv => whnf); repeat ((first | refine T_seq ?_ | refine T_z mix ?_ | refine T_cut ?_ | refine T_block ?_ | refine T_cond rfl ?_ | refine T_loop ?_ | refine storeEq rfl ?_ | refine drawGo (by kernel_rfl) ?_ | fail); (conv => whnf)))
        exact And.intro (AV.Le.refl _) rfl
    · have e := Option.some.inj h; subst e
      ((conv => whnf); repeat ((first | refine T_seq ?_ | refine T_z mix ?_ | refine T_cut ?_ | refine T_block ?_ | refine T_cond rfl ?_ | refine T_loop ?_ | refine storeEq rfl ?_ | refine drawGo (by kernel_rfl) ?_ | fail); (conv => whnf)))
      exact And.intro (AV.Le.refl _) rfl
  · have e := Option.some.inj h; subst e
    ((conv => whnf); repeat ((first | refine T_seq ?_ | refine T_z mix ?_ | refine T_cut ?_ | refine T_block ?_ | refine T_cond rfl ?_ | refine T_loop ?_ | refine storeEq rfl ?_ | refine drawGo (by kernel_rfl) ?_ | fail); (conv => whnf)))
    exact And.intro (AV.Le.refl _) rfl
theorem c_eponymref04_hangul (p_r : Int) (r : Bool) (h : m_eponymref04_hangul p_r = some r) : Contract Try.prog 85 [(AV.int .i32 p_r)] [] (AV.bool r) [] := by
  refine contract_of .z Try.func85 rfl (by kernel_rfl) ?_
  ((conv => whnf); repeat ((first | refine T_seq ?_ | refine T_z mix ?_ | refine T_cut ?_ | refine T_block ?_ | refine T_cond rfl ?_ | refine T_loop ?_ | refine storeEq rfl ?_ | refine drawGo (by kernel_rfl) ?_ | fail); (conv => whnf)))
  refine br_b rfl h (fun c1 h => ?_) (fun c1 h => ?_)
  · ((conv => whnf); repeat ((first | refine T_seq ?_ | refine T_z mix ?_ | refine T_cut ?_ | refine T_block ?_ | refine T_cond rfl ?_ | refine T_loop ?_ | refine storeEq rfl ?_ | refine drawGo (by kernel_rfl) ?_ | fail); (conv => whnf)))
    refine br_b rfl h (fun c2 h => ?_) (fun c2 h => ?_)
    · have e := Option.some.inj h; subst e
      ((conv => whnf); repeat ((first | refine T_seq ?_ | refine T_z mix ?_ | refine T_cut ?_ | refine T_block ?_ | refine T_cond rfl ?_ | refine T_loop ?_ | refine storeEq rfl ?_ | refine drawGo (by kernel_rfl) ?_ | fail); (conv => whnf)))
      exact And.intro (AV.Le.refl _) rfl
    · ((conv => whnf); repeat ((first | refine T_seq ?_ | refine T_z mix ?_ | refine T_cut ?_ | refine T_block ?_ | refine T_cond rfl ?_ | refine T_loop ?_ | refine storeEq rfl ?_ | refine drawGo (by kernel_rfl) ?_ | fail); (conv => whnf)))
      refine br_b rfl h (fun c3 h => ?_) (fun c3 h => ?_)
      · ((conv => whnf); repeat ((first | refine T_seq ?_ | refine T_z mix ?_ | refine T_cut ?_ | refine T_block ?_ | refine T_cond rfl ?_ | refine T_loop ?_ | refine storeEq rfl ?_ | refine drawGo (by kernel_rfl) ?_ | fail); (conv => whnf)))
        refine br_b rfl h (fun c4 h => ?_) (fun c4 h => ?_)
        · have e := Option.some.inj h; subst e
          ((conv => whnf); repeat ((first | refine T_seq ?_ | refine T_z mix ?_ | refine T_cut ?_ | refine T_block ?_ | refine T_cond rfl ?_ | refine T_loop ?_ | refine storeEq rfl ?_ | refine drawGo (by kernel_rfl) ?_ | fail); (conv => whnf)))
          exact And.intro (AV.Le.refl _) rfl
        · ((conv => whnf); repeat ((first | refine T_seq ?_ | refine T_z mix ?_ | refine T_cut ?_ | refine T_block ?_ | refine T_cond rfl ?_ | refine T_loop ?_ | refine storeEq rfl ?_ | refine drawGo (by kernel_rfl) ?_ | fail); (conv => whnf)))
          refine br_b rfl h (fun c5 h => ?_) (fun c5 h => ?_)
          · ((conv => whnf); repeat ((first | refine T_seq ?_ | refine T_z mix ?_ | refine T_cut ?_ | refine T_block ?_ | refine T_cond rfl ?_ | refine T_loop ?_ | refine storeEq rfl ?_ | refine drawGo (by kernel_rfl) ?_ | fail); (conv => whnf)))
            refine br_b rfl h (fun c6 h => ?_) (fun c6 h => ?_)
            · have e := Option.some.inj h; subst e
              ((conv => whnf); repeat ((first | refine T_seq ?_ | refine T_z mix ?_ | refine T_cut ?_ | refine T_block ?_ | refine T_cond rfl ?_ | refine T_loop ?_ | refine storeEq rfl ?_ | refine drawGo (by kernel_rfl) ?_ | fail); (conv => whnf)))
              exact And.intro (AV.Le.refl _) rfl
            · ((conv => whnf); repeat ((first | refine T_seq ?_ | refine T_z mix ?_ | refine T_cut ?_ | refine T_block ?_ | refine T_cond rfl ?_ | refine T_loop ?_ | refine storeEq rfl ?_ | refine drawGo (by kernel_rfl) ?_ | fail); (conv => whnf)))
              refine br_b rfl h (fun c7 h => ?_) (fun c7 h => ?_)
              · have e := Option.some.inj h; subst e
                ((conv => whnf); repeat ((first | refine T_seq ?_ | refine T_z mix ?_ | refine T_cut ?_ | refine T_block ?_ | refine T_cond rfl ?_ | refine T_loop ?_ | refine storeEq rfl ?_ | refine drawGo (by kernel_rfl) ?_ | fail); (conv => whnf)))
                exact And.intro (AV.Le.refl _) rfl
              · have e := Option.some.inj h; subst e
                ((conv => whnf); repeat ((first | refine T_seq ?_ | refine T_z mix ?_ | refine T_cut ?_ | refine T_block ?_ | refine T_cond rfl ?_ | refine T_loop ?_ | refine storeEq rfl ?_ | refine drawGo (by kernel_rfl) ?_ | fail); (conv => whnf)))
                exact And.intro (AV.Le.refl _) rfl
          · ((conv => whnf); repeat ((first | refine T_seq ?_ | refine T_z mix ?_ | refine T_cut ?_ | refine T_block ?_ | refine T_cond rfl ?_ | refine T_loop ?_ | refine storeEq rfl ?_ | refine drawGo (by kernel_rfl) ?_ | fail); (conv => whnf)))
            refine br_b rfl h (fun c8 h => ?_) (fun c8 h => ?_)
            · have e := Option.some.inj h; subst e
              ((conv => whnf); repeat ((first | refine T_seq ?_ | refine T_z mix ?_ | refine T_cut ?_ | refine T_block ?_ | refine T_cond rfl ?_ | refine T_loop ?_ | refine storeEq rfl ?_ | refine drawGo (by kernel_rfl) ?_ | fail); (conv => whnf)))
              exact And.intro (AV.Le.refl _) rfl
            · have e := Option.some.inj h; subst e
              ((conv => whnf); repeat ((first | refine T_seq ?_ | refine T_z mix ?_ | refine T_cut ?_ | refine T_block ?_ | refine T_cond rfl ?_ | refine T_loop ?_ | refine storeEq rfl ?_ | refine drawGo (by kernel_rfl) ?_ | fail); (conv => whnf)))
              exact And.intro (AV.Le.refl _) rfl
      · ((conv => whnf); repeat ((first | refine T_seq ?_ | refine T_z mix ?_ | refine T_cut ?_ | refine T_block ?_ | refine T_cond rfl ?_ | refine T_loop ?_ | refine storeEq rfl ?_ | refine drawGo (by kernel_rfl) ?_ | fail); (conv => whnf)))
        refine br_b rfl h (fun c9 h => ?_) (fun c9 h => ?_)
        · ((conv => whnf); repeat ((first | refine T_seq ?_ | refine T_z mix ?_ | refine T_cut ?_ | refine T_block ?_ | refine T_cond rfl ?_ | refine T_loop ?_ | refine storeEq rfl ?_ | refine drawGo (by kernel_rfl) ?_ | fail); (conv => whnf)))
          refine br_b rfl h (fun c10 h => ?_) (fun c10 h => ?_)
          · have e := Option.some.inj h; subst e
            ((conv => whnf); repeat ((first | refine T_seq ?_ | refine T_z mix ?_ | refine T_cut ?_ | refine T_block ?_ | refine T_cond rfl ?_ | refine T_loop ?_ | refine storeEq rfl ?_ | refine drawGo (by kernel_rfl) ?_ | fail); (conv => whnf)))
            exact And.intro (AV.Le.refl _) rfl
          · ((conv => whnf); repeat ((first | refine T_seq ?_ | refine T_z mix ?_ | refine T_cut ?_ | refine T_block ?_ | refine T_cond rfl ?_ | refine T_loop ?_ | refine storeEq rfl ?_ | refine drawGo (by kernel_rfl) ?_ | fail); (conv => whnf)))
            refine br_b rfl h (fun c11 h => ?_) (fun c11 h => ?_)
            · have e := Option.some.inj h; subst e
              ((conv => whnf); repeat ((first | refine T_seq ?_ | refine T_z mix ?_ | refine T_cut ?_ | refine T_block ?_ | refine T_cond rfl ?_ | refine T_loop ?_ | refine storeEq rfl ?_ | refine drawGo (by kernel_rfl) ?_ | fail); (conv => whnf)))
              exact And.intro (AV.Le.refl _) rfl
            · have e := Option.some.inj h; subst e
              ((conv => whnf); repeat ((first | refine T_seq ?_ | refine T_z mix ?_ | refine T_cut ?_ | refine T_block ?_ | refine T_cond rfl ?_ | refine T_loop ?_ | refine storeEq rfl ?_ | refine drawGo (by kernel_rfl) ?_ | fail); (conv => whnf)))
              exact And.intro (AV.Le.refl _) rfl
        · ((conv => whnf); repeat ((first | refine T_seq ?_ | refine T_z mix ?_ | refine T_cut ?_ | refine T_block ?_ | refine T_cond rfl ?_ | refine T_loop ?_ | refine storeEq rfl ?_ | refine drawGo (by kernel_rfl) ?_ | fail); (conv => whnf)))
          refine br_b rfl h (fun c12 h => ?_) (fun c12 h => ?_)
          · have e := Option.some.inj h; subst e
            ((conv => whnf); repeat ((first | refine T_seq ?_ | refine T_z mix ?_ | refine T_cut ?_ | refine T_block ?_ | refine T_cond rfl ?_ | refine T_loop ?_ | refine storeEq rfl ?_ | refine drawGo (by kernel_rfl) ?_ | fail); (conv => whnf)))
            exact And.intro (AV.Le.refl _) rfl
          · have e := Option.some.inj h; subst e
            ((conv => whnf); repeat ((first | refine T_seq ?_ | refine T_z mix ?_ | refine T_cut ?_ | refine T_block ?_ | refine T_cond rfl ?_ | refine T_loop ?_ | refine storeEq rfl ?_ | refine drawGo (by kernel_rfl) ?_ | fail); (conv => whnf)))
            exact And.intro (AV.Le.refl _) rfl
  · ((conv => whnf); repeat ((first | refine T_seq ?_ | refine T_z mix ?_ | refine T_cut ?_ | refine T_block ?_ | refine T_cond rfl ?_ | refine T_loop ?_ | refine storeEq rfl ?_ | refine drawGo (by kernel_rfl) ?_ | fail); (conv => whnf)))
    refine br_b rfl h (fun c13 h => ?_) (fun c13 h => ?_)
    · ((conv => whnf); repeat ((first | refine T_seq ?_ | refine T_z mix ?_ | refine T_cut ?_ | refine T_block ?_ | refine T_cond rfl ?_ | refine T_loop ?_ | refine storeEq rfl ?_ | refine drawGo (by kernel_rfl) ?_ | fail); (conv => whnf)))
      refine br_b rfl h (fun c14 h => ?_) (fun c14 h => ?_)
      · have e := Option.some.inj h; subst e
        ((conv => whnf); repeat ((first | refine T_seq ?_ | refine T_z mix ?_ | refine T_cut ?_ | refine T_block ?_ | refine T_cond rfl ?_ | refine T_loop ?_ | refine storeEq rfl ?_ | refine drawGo (by kernel_rfl) ?_ | fail); (conv => whnf)))
        exact And.intro (AV.Le.refl _) rfl
      · ((conv => whnf); repeat ((first | refine T_seq ?_ | refine T_z mix ?_ | refine T_cut ?_ | refine T_block ?_ | refine T_cond rfl ?_ | refine T_loop ?_ | refine storeEq rfl ?_ | refine drawGo (by kernel_rfl) ?_ | fail); (conv => whnf)))
        refine br_b rfl h (fun c15 h => ?_) (fun c15 h => ?_)
        · ((conv => whnf); repeat ((first | refine T_seq ?_ | refine T_z mix ?_ | refine T_cut ?_ | refine T_block ?_ | refine T_cond rfl ?_ | refine T_loop ?_ | refine storeEq rfl ?_ | refine drawGo (by kernel_rfl) ?_ | fail); (conv => whnf)))
          refine br_b rfl h (fun c16 h => ?_) (fun c16 h => ?_)
          · have e := Option.some.inj h; subst e
            ((conv => whnf); repeat ((first | refine T_seq ?_ | refine T_z mix ?_ | refine T_cut ?_ | refine T_block ?_ | refine T_cond rfl ?_ | refine T_loop ?_ | refine storeEq rfl ?_ | refine drawGo (by kernel_rfl) ?_ | fail); (conv => whnf)))
            exact And.intro (AV.Le.refl _) rfl
          · ((conv => whnf); repeat ((first | refine T_seq ?_ | refine T_z mix ?_ | refine T_cut ?_ | refine T_block ?_ | refine T_cond rfl ?_ | refine T_loop ?_ | refine storeEq rfl ?_ | refine drawGo (by kernel_rfl) ?_ | fail); (conv => whnf)))
            refine br_b rfl h (fun c17 h => ?_) (fun c17 h => ?_)
            · have e := Option.some.inj h; subst e
              ((conv => whnf); repeat ((first | refine T_seq ?_ | refine T_z mix ?_ | refine T_cut ?_ | refine T_block ?_ | refine T_cond rfl ?_ | refine T_loop ?_ | refine storeEq rfl ?_ | refine drawGo (by kernel_rfl) ?_ | fail); (conv => whnf)))
              exact And.intro (AV.Le.refl _) rfl
            · have e := Option.some.inj h; subst e
              ((conv => whnf); repeat ((first | refine T_seq ?_ | refine T_z mix ?_ | refine T_cut ?_ | refine T_block ?_ | refine T_cond rfl ?_ | refine T_loop ?_ | refine storeEq rfl ?_ | refine drawGo (by kernel_rfl) ?_ | fail); (conv => whnf)))
              exact And.intro (AV.Le.refl _) rfl
        · ((conv => whnf); repeat ((first | refine T_seq ?_ | refine T_z mix ?_ | refine T_cut ?_ | refine T_block ?_ | refine T_cond rfl ?_ | refine T_loop ?_ | refine storeEq rfl ?_ | refine drawGo (by kernel_rfl) ?_ | fail); (conv => whnf)))
          refine br_b rfl h (fun c18 h => ?_) (fun c18 h => ?_)
          · have e := Option.some.inj h; subst e
            ((conv => whnf); repeat ((first | refine T_seq ?_ | refine T_z mix ?_ | refine T_cut ?_ | refine T_block ?_ | refine T_cond rfl ?_ | refine T_loop ?_ | refine storeEq rfl ?_ | refine drawGo (by kernel_rfl) ?_ | fail); (conv => whnf)))
            exact And.intro (AV.Le.refl _) rfl
          · have e := Option.some.inj h; subst e
            ((conv => whnf); repeat ((first | refine T_seq ?_ | refine T_z mix ?_ | refine T_cut ?_ | refine T_block ?_ | refine T_cond rfl ?_ | refine T_loop ?_ | refine storeEq rfl ?_ | refine drawGo (by kernel_rfl) ?_ | fail); (conv => whnf)))
            exact And.intro (AV.Le.refl _) rfl
    · ((conv => whnf); repeat ((first | refine T_seq ?_ | refine T_z mix ?_ | refine T_cut ?_ | refine T_block ?_ | refine T_cond rfl ?_ | refine T_loop ?_ | refine storeEq rfl ?_ | refine drawGo (by kernel_rfl) ?_ | fail); (conv => whnf)))
      refine br_b rfl h (fun c19 h => ?_) (fun c19 h => ?_)
      · ((conv => whnf); repeat ((first | refine T_seq ?_ | refine T_z mix ?_ | refine T_cut ?_ | refine T_block ?_ | refine T_cond rfl ?_ | refine T_loop ?_ | refine storeEq rfl ?_ | refine drawGo (by kernel_rfl) ?_ | fail); (conv => whnf)))
        refine br_b rfl h (fun c20 h => ?_) (fun c20 h => ?_)
        · have e := Option.some.inj h; subst e
          ((conv => whnf); repeat ((first | refine T_seq ?_ | refine T_z mix ?_ | refine T_cut ?_ | refine T_block ?_ | refine T_cond rfl ?_ | refine T_loop ?_ | refine storeEq rfl ?_ | refine drawGo (by kernel_rfl) ?_ | fail); (conv => whnf)))
          exact And.intro (AV.Le.refl _) rfl
        · ((conv => whnf); repeat ((first | refine T_seq ?_ | refine T_z mix ?_ | refine T_cut ?_ | refine T_block ?_ | refine T_cond rfl ?_ | refine T_loop ?_ | refine storeEq rfl ?_ | refine drawGo (by kernel_rfl) ?_ | fail); (conv => whnf)))
          refine br_b rfl h (fun c21 h => ?_) (fun c21 h => ?_)
          · have e := Option.some.inj h; subst e
            ((conv => whnf); repeat ((first | refine T_seq ?_ | refine T_z mix ?_ | refine T_cut ?_ | refine T_block ?_ | refine T_cond rfl ?_ | refine T_loop ?_ | refine storeEq rfl ?_ | refine drawGo (by kernel_rfl) ?_ | fail); (conv => whnf)))
            exact And.intro (AV.Le.refl _) rfl
          · have e := Option.some.inj h; subst e
            ((conv => whnf); repeat ((first | refine T_seq ?_ | refine T_z mix ?_ | refine T_cut ?_ | refine T_block ?_ | refine T_cond rfl ?_ | refine T_loop ?_ | refine storeEq rfl ?_ | refine drawGo (by kernel_rfl) ?_ | fail); (conv => whnf)))
            exact And.intro (AV.Le.refl _) rfl
      · ((conv => whnf); repeat ((first | refine T_seq ?_ | refine T_z mix ?_ | refine T_cut ?_ | refine T_block ?_ | refine T_cond rfl ?_ | refine T_loop ?_ | refine storeEq rfl ?_ | refine drawGo (by kernel_rfl) ?_ | fail); (conv => whnf)))
        refine br_b rfl h (fun c22 h => ?_) (fun c22 h => ?_)
        · have e := Option.some.inj h; subst e
          ((conv => whnf); repeat ((first | refine T_seq ?_ | refine T_z mix ?_ | refine T_cut ?_ | refine T_block ?_ | refine T_cond rfl ?_ | refine T_loop ?_ | refine storeEq rfl ?_ | refine drawGo (by kernel_rfl) ?_ | fail); (conv => whnf)))
          exact And.intro (AV.Le.refl _) rfl
        · have e := Option.some.inj h; subst e
          ((conv => whnf); repeat ((first | refine T_seq ?_ | refine T_z mix ?_ | refine T_cut ?_ | refine T_block ?_ | refine T_cond rfl ?_ | refine T_loop ?_ | refine storeEq rfl ?_ | refine drawGo (by kernel_rfl) ?_ | fail); (conv => whnf)))
          exact And.intro (AV.Le.refl _) rfl
theorem c_eponymref04_Row (p_t : T_api_Norm) (p_r : Int) (r : Int) (h : m_eponymref04_Row p_t p_r = some r) : Contract Try.prog 103 [(e_api_Norm p_t), (AV.int .i32 p_r)] [] (AV.int .i64 r) [] := by
  refine contract_of (.t false .z (.t true .z .z)) Try.func103 rfl (by kernel_rfl) ?_
  ((conv => whnf); repeat ((first | refine T_seq ?_ | refine T_z mix ?_ | refine T_cut ?_ | refine T_block ?_ | refine T_cond rfl ?_ | refine T_loop ?_ | refine storeEq rfl ?_ | refine drawGo (by kernel_rfl) ?_ | fail); (conv => whnf)))
  refine bnd h (fun x10 h10 h => ?_)
  refine cut_at (fun s1 : Unit => mkF 22 [] []) (fun s1 : Unit => some (-1 : Int) = some r) ?_ ?_
  · intro Kn10 hn10
    ((conv => whnf); repeat ((first | refine T_seq ?_ | refine T_z mix ?_ | refine T_cut ?_ | refine T_block ?_ | refine T_cond rfl ?_ | refine T_loop ?_ | refine storeEq rfl ?_ | refine drawGo (by kernel_rfl) ?_ | fail); (conv => whnf)))
    refine loop_iter (fun s4 : Int => mkF 22 [(1, (.int .i32 p_r)), (2, (.mp 0 0 0)), (5, (.int .i64 s4))] [some ⟨3, 42, (.vals [(e_api_Norm p_t)]), false, false⟩]) h10 (weak_gen [0] rfl rfl (storeLe.cons rfl (objLe.mk (by intro hf; first | exact hf | rfl) (by intro hf; first | exact hf | rfl) (rowLe_vals (valsLe.cons (cellsLe_refl rfl) valsLe.nil))) storeLe.nil) (slotsLe.cons (And.intro rfl (AV.Le.refl _)) (slotsLe.cons (And.intro rfl (AV.Le.refl _)) (slotsLe.cons (And.intro rfl (AV.Le.refl _)) slotsLe.nil)))) ?_
    intro k6 s4 st6 Kn6 hn6 h6_ hs6
    ((conv => whnf); repeat ((first | refine T_seq ?_ | refine T_z mix ?_ | refine T_cut ?_ | refine T_block ?_ | refine T_cond rfl ?_ | refine T_loop ?_ | refine storeEq rfl ?_ | refine drawGo (by kernel_rfl) ?_ | fail); (conv => whnf)))
    refine br_b rfl h6_ (fun c11 h6_ => ?_) (fun c11 h6_ => ?_)
    · ((conv => whnf); repeat ((first | refine T_seq ?_ | refine T_z mix ?_ | refine T_cut ?_ | refine T_block ?_ | refine T_cond rfl ?_ | refine T_loop ?_ | refine storeEq rfl ?_ | refine drawGo (by kernel_rfl) ?_ | fail); (conv => whnf)))
      refine grd2 rfl rfl h6_ (fun h6_ => ?_)
      ((conv => whnf); repeat ((first | refine T_seq ?_ | refine T_z mix ?_ | refine T_cut ?_ | refine T_block ?_ | refine T_cond rfl ?_ | refine T_loop ?_ | refine storeEq rfl ?_ | refine drawGo (by kernel_rfl) ?_ | fail); (conv => whnf)))
      refine br_b rfl h6_ (fun c12 h6_ => ?_) (fun c12 h6_ => ?_)
      · have e := Option.some.inj h6_; subst e
        have e := done_out hs6; subst e
        have e := Option.some.inj h; subst e
        ((conv => whnf); repeat ((first | refine T_seq ?_ | refine T_z mix ?_ | refine T_cut ?_ | refine T_block ?_ | refine T_cond rfl ?_ | refine T_loop ?_ | refine storeEq rfl ?_ | refine drawGo (by kernel_rfl) ?_ | fail); (conv => whnf)))
        exact And.intro (AV.Le.refl _) rfl
      · have e := Option.some.inj h6_; subst e
        ((conv => whnf); repeat ((first | refine T_seq ?_ | refine T_z mix ?_ | refine T_cut ?_ | refine T_block ?_ | refine T_cond rfl ?_ | refine T_loop ?_ | refine storeEq rfl ?_ | refine drawGo (by kernel_rfl) ?_ | fail); (conv => whnf)))
        exact hn6 _ (IntKind.wrap .i64 (s4 + (1 : Int))) hs6 (weak_gen [0] rfl rfl (storeLe.cons rfl (objLe.mk (by intro hf; first | exact hf | rfl) (by intro hf; first | exact hf | rfl) (rowLe_vals (valsLe.cons (cellsLe_refl rfl) valsLe.nil))) storeLe.nil) (slotsLe.cons (And.intro rfl (AV.Le.refl _)) (slotsLe.cons (And.intro rfl (AV.Le.refl _)) (slotsLe.cons (And.intro rfl (AV.Le.refl _)) slotsLe.nil))))
    · have e := Option.some.inj h6_; subst e
      have e := done_out hs6; subst e
      ((conv => whnf); repeat ((first | refine T_seq ?_ | refine T_z mix ?_ | refine T_cut ?_ | refine T_block ?_ | refine T_cond rfl ?_ | refine T_loop ?_ | refine storeEq rfl ?_ | refine drawGo (by kernel_rfl) ?_ | fail); (conv => whnf)))
      exact hn10 _ () h (weak_gen [] rfl rfl storeLe.nil slotsLe.nil)
  · clear h h10
    intro s1 hc13
    have e := Option.some.inj hc13; subst e
    ((conv => whnf); repeat ((first | refine T_seq ?_ | refine T_z mix ?_ | refine T_cut ?_ | refine T_block ?_ | refine T_cond rfl ?_ | refine T_loop ?_ | refine storeEq rfl ?_ | refine drawGo (by kernel_rfl) ?_ | fail); (conv => whnf)))
    exact And.intro (AV.Le.refl _) rfl
theorem c_eponymref04_ahead (p_t : T_api_Norm) (p_i : Int) (r : Int) (h : m_eponymref04_ahead p_t p_i = some r) : Contract Try.prog 104 [(e_api_Norm p_t), (AV.int .i64 p_i)] [] (AV.int .i64 r) [] := by
  refine contract_of (.t false .z (.t true .z .z)) Try.func104 rfl (by kernel_rfl) ?_
  ((conv => whnf); repeat ((first | refine T_seq ?_ | refine T_z mix ?_ | refine T_cut ?_ | refine T_block ?_ | refine T_cond rfl ?_ | refine T_loop ?_ | refine storeEq rfl ?_ | refine drawGo (by kernel_rfl) ?_ | fail); (conv => whnf)))
  refine bnd h (fun x10 h10 h => ?_)
  refine cut_at (fun s1 : Unit => mkF 27 [] []) (fun s1 : Unit => some (-1 : Int) = some r) ?_ ?_
  · intro Kn10 hn10
    ((conv => whnf); repeat ((first | refine T_seq ?_ | refine T_z mix ?_ | refine T_cut ?_ | refine T_block ?_ | refine T_cond rfl ?_ | refine T_loop ?_ | refine storeEq rfl ?_ | refine drawGo (by kernel_rfl) ?_ | fail); (conv => whnf)))
    refine loop_iter (fun s4 : Int => mkF 27 [(1, (.int .i64 p_i)), (2, (.mp 0 0 0)), (5, (.int .i64 s4))] [some ⟨3, 42, (.vals [(e_api_Norm p_t)]), false, false⟩]) h10 (weak_gen [0] rfl rfl (storeLe.cons rfl (objLe.mk (by intro hf; first | exact hf | rfl) (by intro hf; first | exact hf | rfl) (rowLe_vals (valsLe.cons (cellsLe_refl rfl) valsLe.nil))) storeLe.nil) (slotsLe.cons (And.intro rfl (AV.Le.refl _)) (slotsLe.cons (And.intro rfl (AV.Le.refl _)) (slotsLe.cons (And.intro rfl (AV.Le.refl _)) slotsLe.nil)))) ?_
    intro k6 s4 st6 Kn6 hn6 h6_ hs6
    ((conv => whnf); repeat ((first | refine T_seq ?_ | refine T_z mix ?_ | refine T_cut ?_ | refine T_block ?_ | refine T_cond rfl ?_ | refine T_loop ?_ | refine storeEq rfl ?_ | refine drawGo (by kernel_rfl) ?_ | fail); (conv => whnf)))
    refine br_b rfl h6_ (fun c11 h6_ => ?_) (fun c11 h6_ => ?_)
    · ((conv => whnf); repeat ((first | refine T_seq ?_ | refine T_z mix ?_ | refine T_cut ?_ | refine T_block ?_ | refine T_cond rfl ?_ | refine T_loop ?_ | refine storeEq rfl ?_ | refine drawGo (by kernel_rfl) ?_ | fail); (conv => whnf)))
      refine grd2 rfl rfl h6_ (fun h6_ => ?_)
      ((conv => whnf); repeat ((first | refine T_seq ?_ | refine T_z mix ?_ | refine T_cut ?_ | refine T_block ?_ | refine T_cond rfl ?_ | refine T_loop ?_ | refine storeEq rfl ?_ | refine drawGo (by kernel_rfl) ?_ | fail); (conv => whnf)))
      refine grd2 rfl rfl h6_ (fun h6_ => ?_)
      ((conv => whnf); repeat ((first | refine T_seq ?_ | refine T_z mix ?_ | refine T_cut ?_ | refine T_block ?_ | refine T_cond rfl ?_ | refine T_loop ?_ | refine storeEq rfl ?_ | refine drawGo (by kernel_rfl) ?_ | fail); (conv => whnf)))
      refine grd2 rfl rfl h6_ (fun h6_ => ?_)
      ((conv => whnf); repeat ((first | refine T_seq ?_ | refine T_z mix ?_ | refine T_cut ?_ | refine T_block ?_ | refine T_cond rfl ?_ | refine T_loop ?_ | refine storeEq rfl ?_ | refine drawGo (by kernel_rfl) ?_ | fail); (conv => whnf)))
      refine br_b rfl h6_ (fun c12 h6_ => ?_) (fun c12 h6_ => ?_)
      · have e := Option.some.inj h6_; subst e
        have e := done_out hs6; subst e
        have e := Option.some.inj h; subst e
        ((conv => whnf); repeat ((first | refine T_seq ?_ | refine T_z mix ?_ | refine T_cut ?_ | refine T_block ?_ | refine T_cond rfl ?_ | refine T_loop ?_ | refine storeEq rfl ?_ | refine drawGo (by kernel_rfl) ?_ | fail); (conv => whnf)))
        exact And.intro (AV.Le.refl _) rfl
      · have e := Option.some.inj h6_; subst e
        ((conv => whnf); repeat ((first | refine T_seq ?_ | refine T_z mix ?_ | refine T_cut ?_ | refine T_block ?_ | refine T_cond rfl ?_ | refine T_loop ?_ | refine storeEq rfl ?_ | refine drawGo (by kernel_rfl) ?_ | fail); (conv => whnf)))
        exact hn6 _ (IntKind.wrap .i64 (s4 + (1 : Int))) hs6 (weak_gen [0] rfl rfl (storeLe.cons rfl (objLe.mk (by intro hf; first | exact hf | rfl) (by intro hf; first | exact hf | rfl) (rowLe_vals (valsLe.cons (cellsLe_refl rfl) valsLe.nil))) storeLe.nil) (slotsLe.cons (And.intro rfl (AV.Le.refl _)) (slotsLe.cons (And.intro rfl (AV.Le.refl _)) (slotsLe.cons (And.intro rfl (AV.Le.refl _)) slotsLe.nil))))
    · have e := Option.some.inj h6_; subst e
      have e := done_out hs6; subst e
      ((conv => whnf); repeat ((first | refine T_seq ?_ | refine T_z mix ?_ | refine T_cut ?_ | refine T_block ?_ | refine T_cond rfl ?_ | refine T_loop ?_ | refine storeEq rfl ?_ | refine drawGo (by kernel_rfl) ?_ | fail); (conv => whnf)))
      exact hn10 _ () h (weak_gen [] rfl rfl storeLe.nil slotsLe.nil)
  · clear h h10
    intro s1 hc13
    have e := Option.some.inj hc13; subst e
    ((conv => whnf); repeat ((first | refine T_seq ?_ | refine T_z mix ?_ | refine T_cut ?_ | refine T_block ?_ | refine T_cond rfl ?_ | refine T_loop ?_ | refine storeEq rfl ?_ | refine drawGo (by kernel_rfl) ?_ | fail); (conv => whnf)))
    exact And.intro (AV.Le.refl _) rfl
end Go.Proofs.Ytjhgaacecfmadaa
