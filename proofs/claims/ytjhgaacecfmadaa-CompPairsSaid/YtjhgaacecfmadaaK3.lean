/- Contracts of functions, walked by their models; printed by a program of ours. No condition. -/
import Derived.Test.YtjhgaacecfmadaaK2
import Derived.Test.YtjhgaacecfmadaaProg
import Derived.KernelRfl
namespace Go.Proofs.Ytjhgaacecfmadaa
open Go Go.SE
set_option linter.unusedVariables false
set_option linter.unusedSimpArgs false
set_option maxRecDepth 10000
set_option maxHeartbeats 2000000
attribute [local irreducible] Contract iter
theorem c_eponymlaw05_CompPairs (p_t : T_api_Norm) (p_a : Int) (p_b : Int) (r : Bool) (h : m_eponymlaw05_CompPairs p_t p_a p_b = some r) : Contract pl 6 [(e_api_Norm p_t), (AV.int .i32 p_a), (AV.int .i32 p_b)] [] (AV.bool r) [] := by
  refine contract_of (.t false .z (.t false .z (.t false (.t true .z .z) .z))) Try.func6 rfl (by kernel_rfl) ?_
  ((conv => whnf); repeat ((first | refine T_seq ?_ | refine T_z mix ?_ | refine T_cut ?_ | refine T_block ?_ | refine T_cond rfl ?_ | refine T_loop ?_ | refine storeEq rfl ?_ | refine drawGo (by kernel_rfl) ?_ | fail); (conv => whnf)))
  refine bnd h (fun y1 hy1 h => ?_)
  refine Or.inl ⟨_, c_eponymlaw05_awake  _ hy1, rfl, ?_⟩
  ((conv => whnf); repeat ((first | refine T_seq ?_ | refine T_z mix ?_ | refine T_cut ?_ | refine T_block ?_ | refine T_cond rfl ?_ | refine T_loop ?_ | refine storeEq rfl ?_ | refine drawGo (by kernel_rfl) ?_ | fail); (conv => whnf)))
  refine br_b rfl h (fun c8 h => ?_) (fun c8 h => ?_)
  · have e := Option.some.inj h; subst e
    ((conv => whnf); repeat ((first | refine T_seq ?_ | refine T_z mix ?_ | refine T_cut ?_ | refine T_block ?_ | refine T_cond rfl ?_ | refine T_loop ?_ | refine storeEq rfl ?_ | refine drawGo (by kernel_rfl) ?_ | fail); (conv => whnf)))
    exact And.intro (AV.Le.refl _) rfl
  · ((conv => whnf); repeat ((first | refine T_seq ?_ | refine T_z mix ?_ | refine T_cut ?_ | refine T_block ?_ | refine T_cond rfl ?_ | refine T_loop ?_ | refine storeEq rfl ?_ | refine drawGo (by kernel_rfl) ?_ | fail); (conv => whnf)))
    refine bnd h (fun x9 h9 h => ?_)
    refine cut_at (fun s2 : Bool => mkF 50 [(1, (.int .i32 p_a)), (2, (.int .i32 p_b)), (3, (.mp 0 0 0)), (18, (.bool s2))] [some ⟨3, 42, (.vals [(e_api_Norm p_t)]), false, false⟩]) (fun s2 : Bool => m_eponymlaw05_CompPairs_K3 p_t p_a p_b s2 = some r) ?_ ?_
    · intro Kn9 hn9
      ((conv => whnf); repeat ((first | refine T_seq ?_ | refine T_z mix ?_ | refine T_cut ?_ | refine T_block ?_ | refine T_cond rfl ?_ | refine T_loop ?_ | refine storeEq rfl ?_ | refine drawGo (by kernel_rfl) ?_ | fail); (conv => whnf)))
      refine bnd h9 (fun y6 hy6 h9 => ?_)
      refine Or.inl ⟨_, c_eponymlaw04_Great _ _ hy6, rfl, ?_⟩
      ((conv => whnf); repeat ((first | refine T_seq ?_ | refine T_z mix ?_ | refine T_cut ?_ | refine T_block ?_ | refine T_cond rfl ?_ | refine T_loop ?_ | refine storeEq rfl ?_ | refine drawGo (by kernel_rfl) ?_ | fail); (conv => whnf)))
      refine br_b rfl h9 (fun c10 h9 => ?_) (fun c10 h9 => ?_)
      · have e := Option.some.inj h9; subst e
        ((conv => whnf); repeat ((first | refine T_seq ?_ | refine T_z mix ?_ | refine T_cut ?_ | refine T_block ?_ | refine T_cond rfl ?_ | refine T_loop ?_ | refine storeEq rfl ?_ | refine drawGo (by kernel_rfl) ?_ | fail); (conv => whnf)))
        exact hn9 _ true h (weak_gen [0] rfl rfl (storeLe.cons rfl (objLe.mk (by intro hf; first | exact hf | rfl) (by intro hf; first | exact hf | rfl) (rowLe_vals (valsLe.cons (cellsLe_refl rfl) valsLe.nil))) storeLe.nil) (slotsLe.cons (And.intro rfl (AV.Le.refl _)) (slotsLe.cons (And.intro rfl (AV.Le.refl _)) (slotsLe.cons (And.intro rfl (AV.Le.refl _)) (slotsLe.cons (And.intro rfl (AV.Le.refl _)) slotsLe.nil)))))
      · ((conv => whnf); repeat ((first | refine T_seq ?_ | refine T_z mix ?_ | refine T_cut ?_ | refine T_block ?_ | refine T_cond rfl ?_ | refine T_loop ?_ | refine storeEq rfl ?_ | refine drawGo (by kernel_rfl) ?_ | fail); (conv => whnf)))
        refine bnd h9 (fun y7 hy7 h9 => ?_)
        refine Or.inl ⟨_, c_eponymlaw04_Right _ _ hy7, rfl, ?_⟩
        have e := Option.some.inj h9; subst e
        ((conv => whnf); repeat ((first | refine T_seq ?_ | refine T_z mix ?_ | refine T_cut ?_ | refine T_block ?_ | refine T_cond rfl ?_ | refine T_loop ?_ | refine storeEq rfl ?_ | refine drawGo (by kernel_rfl) ?_ | fail); (conv => whnf)))
        exact hn9 _ (!y7) h (weak_gen [0] rfl rfl (storeLe.cons rfl (objLe.mk (by intro hf; first | exact hf | rfl) (by intro hf; first | exact hf | rfl) (rowLe_vals (valsLe.cons (cellsLe_refl rfl) valsLe.nil))) storeLe.nil) (slotsLe.cons (And.intro rfl (AV.Le.refl _)) (slotsLe.cons (And.intro rfl (AV.Le.refl _)) (slotsLe.cons (And.intro rfl (AV.Le.refl _)) (slotsLe.cons (And.intro rfl (AV.Le.refl _)) slotsLe.nil)))))
    · clear h h9
      intro s2 hc11
      ((conv => whnf); repeat ((first | refine T_seq ?_ | refine T_z mix ?_ | refine T_cut ?_ | refine T_block ?_ | refine T_cond rfl ?_ | refine T_loop ?_ | refine storeEq rfl ?_ | refine drawGo (by kernel_rfl) ?_ | fail); (conv => whnf)))
      refine br_b rfl hc11 (fun c12 hc11 => ?_) (fun c12 hc11 => ?_)
      · have e := Option.some.inj hc11; subst e
        ((conv => whnf); repeat ((first | refine T_seq ?_ | refine T_z mix ?_ | refine T_cut ?_ | refine T_block ?_ | refine T_cond rfl ?_ | refine T_loop ?_ | refine storeEq rfl ?_ | refine drawGo (by kernel_rfl) ?_ | fail); (conv => whnf)))
        exact And.intro (AV.Le.refl _) rfl
      · ((conv => whnf); repeat ((first | refine T_seq ?_ | refine T_z mix ?_ | refine T_cut ?_ | refine T_block ?_ | refine T_cond rfl ?_ | refine T_loop ?_ | refine storeEq rfl ?_ | refine drawGo (by kernel_rfl) ?_ | fail); (conv => whnf)))
        refine bnd hc11 (fun y4 hy4 hc11 => ?_)
        refine Or.inl ⟨_, c_comp_Pair _ _ _ _ hy4, rfl, ?_⟩
        ((conv => whnf); repeat ((first | refine T_seq ?_ | refine T_z mix ?_ | refine T_cut ?_ | refine T_block ?_ | refine T_cond rfl ?_ | refine T_loop ?_ | refine storeEq rfl ?_ | refine drawGo (by kernel_rfl) ?_ | fail); (conv => whnf)))
        refine bnd hc11 (fun y5 hy5 hc11 => ?_)
        refine Or.inl ⟨_, c_eponymref05_Pair _ _ _ _ hy5, rfl, ?_⟩
        ((conv => whnf); repeat ((first | refine T_seq ?_ | refine T_z mix ?_ | refine T_cut ?_ | refine T_block ?_ | refine T_cond rfl ?_ | refine T_loop ?_ | refine storeEq rfl ?_ | refine drawGo (by kernel_rfl) ?_ | fail); (conv => whnf)))
        refine br_b rfl hc11 (fun c13 hc11 => ?_) (fun c13 hc11 => ?_)
        · ((conv => whnf); repeat ((first | refine T_seq ?_ | refine T_z mix ?_ | refine T_cut ?_ | refine T_block ?_ | refine T_cond rfl ?_ | refine T_loop ?_ | refine storeEq rfl ?_ | refine drawGo (by kernel_rfl) ?_ | fail); (conv => whnf)))
          refine br_b rfl hc11 (fun c14 hc11 => ?_) (fun c14 hc11 => ?_)
          · ((conv => whnf); repeat ((first | refine T_seq ?_ | refine T_z mix ?_ | refine T_cut ?_ | refine T_block ?_ | refine T_cond rfl ?_ | refine T_loop ?_ | refine storeEq rfl ?_ | refine drawGo (by kernel_rfl) ?_ | fail); (conv => whnf)))
            refine br_b rfl hc11 (fun c15 hc11 => ?_) (fun c15 hc11 => ?_)
            · have e := Option.some.inj hc11; subst e
              ((conv => whnf); repeat ((first | refine T_seq ?_ | refine T_z mix ?_ | refine T_cut ?_ | refine T_block ?_ | refine T_cond rfl ?_ | refine T_loop ?_ | refine storeEq rfl ?_ | refine drawGo (by kernel_rfl) ?_ | fail); (conv => whnf)))
              exact And.intro (AV.Le.refl _) rfl
            · ((conv => whnf); repeat ((first | refine T_seq ?_ | refine T_z mix ?_ | refine T_cut ?_ | refine T_block ?_ | refine T_cond rfl ?_ | refine T_loop ?_ | refine storeEq rfl ?_ | refine drawGo (by kernel_rfl) ?_ | fail); (conv => whnf)))
              refine br_b rfl hc11 (fun c16 hc11 => ?_) (fun c16 hc11 => ?_)
              · have e := Option.some.inj hc11; subst e
                ((conv => whnf); repeat ((first | refine T_seq ?_ | refine T_z mix ?_ | refine T_cut ?_ | refine T_block ?_ | refine T_cond rfl ?_ | refine T_loop ?_ | refine storeEq rfl ?_ | refine drawGo (by kernel_rfl) ?_ | fail); (conv => whnf)))
                exact And.intro (AV.Le.refl _) rfl
              · have e := Option.some.inj hc11; subst e
                ((conv => whnf); repeat ((first | refine T_seq ?_ | refine T_z mix ?_ | refine T_cut ?_ | refine T_block ?_ | refine T_cond rfl ?_ | refine T_loop ?_ | refine storeEq rfl ?_ | refine drawGo (by kernel_rfl) ?_ | fail); (conv => whnf)))
                exact And.intro (AV.Le.refl _) rfl
          · ((conv => whnf); repeat ((first | refine T_seq ?_ | refine T_z mix ?_ | refine T_cut ?_ | refine T_block ?_ | refine T_cond rfl ?_ | refine T_loop ?_ | refine storeEq rfl ?_ | refine drawGo (by kernel_rfl) ?_ | fail); (conv => whnf)))
            refine br_b rfl hc11 (fun c17 hc11 => ?_) (fun c17 hc11 => ?_)
            · have e := Option.some.inj hc11; subst e
              ((conv => whnf); repeat ((first | refine T_seq ?_ | refine T_z mix ?_ | refine T_cut ?_ | refine T_block ?_ | refine T_cond rfl ?_ | refine T_loop ?_ | refine storeEq rfl ?_ | refine drawGo (by kernel_rfl) ?_ | fail); (conv => whnf)))
              exact And.intro (AV.Le.refl _) rfl
            · have e := Option.some.inj hc11; subst e
              ((conv => whnf); repeat ((first | refine T_seq ?_ | refine T_z mix ?_ | refine T_cut ?_ | refine T_block ?_ | refine T_cond rfl ?_ | refine T_loop ?_ | refine storeEq rfl ?_ | refine drawGo (by kernel_rfl) ?_ | fail); (conv => whnf)))
              exact And.intro (AV.Le.refl _) rfl
        · have e := Option.some.inj hc11; subst e
          ((conv => whnf); repeat ((first | refine T_seq ?_ | refine T_z mix ?_ | refine T_cut ?_ | refine T_block ?_ | refine T_cond rfl ?_ | refine T_loop ?_ | refine storeEq rfl ?_ | refine drawGo (by kernel_rfl) ?_ | fail); (conv => whnf)))
          exact And.intro (AV.Le.refl _) rfl
theorem c_eponymref05_Put (p_t : T_api_Norm) (p_l : (List Int)) (r : (List Int)) (h : m_eponymref05_Put p_t p_l = some r) : Contract pl 36 [(e_api_Norm p_t), (e_L_i32 p_l)] [] (e_L_i32 r) [] := by
  refine contract_of (.t false .z (.t false .z (.t true (.t false .z (.t false (.t false (.t false .z (.t true (.t false (.t false .z (.t true (.t false (.t false (.t false (.t true .z .z) .z) .z) .z) (.t false .z (.t true (.t false .z (.t false (.t false (.t false (.t true .z .z) .z) .z) .z)) (.t false .z (.t true .z .z)))))) .z) .z)) .z) .z)) .z))) Try.func36 rfl (by kernel_rfl) ?_
  ((conv => whnf); repeat ((first | refine T_seq ?_ | refine T_z mix ?_ | refine T_cut ?_ | refine T_block ?_ | refine T_cond rfl ?_ | refine T_loop ?_ | refine storeEq rfl ?_ | refine drawGo (by kernel_rfl) ?_ | fail); (conv => whnf)))
  refine bnd h (fun x35 h35 h => ?_)
  refine cut_at (fun s1 : (List Int) => mkF 86 [(5, (.ms 0 s1.length))] [some ⟨1, 21, (.ints .i32 s1), false, true⟩]) (fun s1 : (List Int) => some s1 = some r) ?_ ?_
  · intro Kn35 hn35
    ((conv => whnf); repeat ((first | refine T_seq ?_ | refine T_z mix ?_ | refine T_cut ?_ | refine T_block ?_ | refine T_cond rfl ?_ | refine T_loop ?_ | refine storeEq rfl ?_ | refine drawGo (by kernel_rfl) ?_ | fail); (conv => whnf)))
    refine loop_iter (fun s5 : (List Int) × Int => mkF 86 [(1, (e_L_i32 p_l)), (2, (.mp 0 0 0)), (5, (.ms 1 s5.1.length)), (6, (.int .i64 s5.2))] [some ⟨3, 42, (.vals [(e_api_Norm p_t)]), false, false⟩, some ⟨1, 21, (.ints .i32 s5.1), false, true⟩]) h35 (weak_trans (weak_nil 5 1 21 (.ints .i32 []) _ rfl rfl trivial (Nat.zero_le _)) (weak_gen [0, 1] rfl rfl (storeLe.cons rfl (objLe.mk (by intro hf; first | exact hf | rfl) (by intro hf; first | exact hf | rfl) (rowLe_vals (valsLe.cons (cellsLe_refl rfl) valsLe.nil))) (storeLe.cons rfl (objLe.mk (by intro hf; first | exact hf | rfl) (by intro hf; first | exact hf | rfl) (rowLe_ints (by first | rfl | simp))) storeLe.nil)) (slotsLe.cons (And.intro rfl (AV.Le.refl _)) (slotsLe.cons (And.intro rfl (AV.Le.refl _)) (slotsLe.cons (And.intro rfl (AV.Le.refl _)) (slotsLe.cons (And.intro rfl (AV.Le.refl _)) slotsLe.nil)))))) ?_
    intro k7 s5 st7 Kn7 hn7 h7_ hs7
    ((conv => whnf); repeat ((first | refine T_seq ?_ | refine T_z mix ?_ | refine T_cut ?_ | refine T_block ?_ | refine T_cond rfl ?_ | refine T_loop ?_ | refine storeEq rfl ?_ | refine drawGo (by kernel_rfl) ?_ | fail); (conv => whnf)))
    refine br_b rfl h7_ (fun c36 h7_ => ?_) (fun c36 h7_ => ?_)
    · ((conv => whnf); repeat ((first | refine T_seq ?_ | refine T_z mix ?_ | refine T_cut ?_ | refine T_block ?_ | refine T_cond rfl ?_ | refine T_loop ?_ | refine storeEq rfl ?_ | refine drawGo (by kernel_rfl) ?_ | fail); (conv => whnf)))
      refine bnd h7_ (fun x37 h37 h7_ => ?_)
      refine cut_at (fun s8 : (List Int) => mkF 86 [(1, (e_L_i32 p_l)), (2, (.mp 0 0 0)), (5, (.ms 1 s8.length)), (6, (.int .i64 s5.2))] [some ⟨3, 42, (.vals [(e_api_Norm p_t)]), false, false⟩, some ⟨1, 21, (.ints .i32 s8), false, true⟩]) (fun s8 : (List Int) => some (.next (s8, (IntKind.wrap .i64 (s5.2 + (1 : Int))))) = some st7) ?_ ?_
      · intro Kn37 hn37
        ((conv => whnf); repeat ((first | refine T_seq ?_ | refine T_z mix ?_ | refine T_cut ?_ | refine T_block ?_ | refine T_cond rfl ?_ | refine T_loop ?_ | refine storeEq rfl ?_ | refine drawGo (by kernel_rfl) ?_ | fail); (conv => whnf)))
        refine bnd h37 (fun x38 h38 h37 => ?_)
        refine cut_at (fun s10 : Int => mkF 86 [(1, (e_L_i32 p_l)), (2, (.mp 0 0 0)), (5, (.ms 1 s5.1.length)), (6, (.int .i64 s5.2)), (7, (.int .i64 s10))] [some ⟨3, 42, (.vals [(e_api_Norm p_t)]), false, false⟩, some ⟨1, 21, (.ints .i32 s5.1), false, true⟩]) (fun s10 : Int => m_eponymref05_Put_K11 p_t p_l s5 s10 = some x37) ?_ ?_
        · intro Kn38 hn38
          ((conv => whnf); repeat ((first | refine T_seq ?_ | refine T_z mix ?_ | refine T_cut ?_ | refine T_block ?_ | refine T_cond rfl ?_ | refine T_loop ?_ | refine storeEq rfl ?_ | refine drawGo (by kernel_rfl) ?_ | fail); (conv => whnf)))
          refine loop_iter (fun s27 : Int => mkF 86 [(1, (e_L_i32 p_l)), (2, (.mp 0 0 0)), (5, (.ms 1 s5.1.length)), (6, (.int .i64 s5.2)), (7, (.int .i64 s27))] [some ⟨3, 42, (.vals [(e_api_Norm p_t)]), false, false⟩, some ⟨1, 21, (.ints .i32 s5.1), false, true⟩]) h38 (weak_gen [0, 1] rfl rfl (storeLe.cons rfl (objLe.mk (by intro hf; first | exact hf | rfl) (by intro hf; first | exact hf | rfl) (rowLe_vals (valsLe.cons (cellsLe_refl rfl) valsLe.nil))) (storeLe.cons rfl (objLe.mk (by intro hf; first | exact hf | rfl) (by intro hf; first | exact hf | rfl) (by first | exact rowLe_same fun _ _ _ => rfl | (simp; exact rowLe_same fun _ _ _ => rfl))) storeLe.nil)) (slotsLe.cons (And.intro rfl (AV.Le.refl _)) (slotsLe.cons (And.intro rfl (AV.Le.refl _)) (slotsLe.cons (And.intro rfl (AV.Le.of_eq (congrArg (AV.ms _) (by first | rfl | omega | (simp; omega) | simp)))) (slotsLe.cons (And.intro rfl (AV.Le.refl _)) (slotsLe.cons (And.intro rfl (AV.Le.refl _)) slotsLe.nil)))))) ?_
          intro k29 s27 st29 Kn29 hn29 h29_ hs29
          ((conv => whnf); repeat ((first | refine T_seq ?_ | refine T_z mix ?_ | refine T_cut ?_ | refine T_block ?_ | refine T_cond rfl ?_ | refine T_loop ?_ | refine storeEq rfl ?_ | refine drawGo (by kernel_rfl) ?_ | fail); (conv => whnf)))
          refine bnd h29_ (fun x39 h39 h29_ => ?_)
          refine cut_at (fun s30 : Bool => mkF 86 [(1, (e_L_i32 p_l)), (2, (.mp 0 0 0)), (5, (.ms 1 s5.1.length)), (6, (.int .i64 s5.2)), (7, (.int .i64 s27)), (31, (.bool s30))] [some ⟨3, 42, (.vals [(e_api_Norm p_t)]), false, false⟩, some ⟨1, 21, (.ints .i32 s5.1), false, true⟩]) (fun s30 : Bool => m_eponymref05_Put_K31 s27 s30 = some st29) ?_ ?_
          · intro Kn39 hn39
            ((conv => whnf); repeat ((first | refine T_seq ?_ | refine T_z mix ?_ | refine T_cut ?_ | refine T_block ?_ | refine T_cond rfl ?_ | refine T_loop ?_ | refine storeEq rfl ?_ | refine drawGo (by kernel_rfl) ?_ | fail); (conv => whnf)))
            refine br_b rfl h39 (fun c40 h39 => ?_) (fun c40 h39 => ?_)
            · ((conv => whnf); repeat ((first | refine T_seq ?_ | refine T_z mix ?_ | refine T_cut ?_ | refine T_block ?_ | refine T_cond rfl ?_ | refine T_loop ?_ | refine storeEq rfl ?_ | refine drawGo (by kernel_rfl) ?_ | fail); (conv => whnf)))
              refine grd2 rfl rfl h39 (fun h39 => ?_)
              ((conv => whnf); repeat ((first | refine T_seq ?_ | refine T_z mix ?_ | refine T_cut ?_ | refine T_block ?_ | refine T_cond rfl ?_ | refine T_loop ?_ | refine storeEq rfl ?_ | refine drawGo (by kernel_rfl) ?_ | fail); (conv => whnf)))
              refine bnd h39 (fun y32 hy32 h39 => ?_)
              refine Or.inl ⟨_, c_eponymref04_Class _ _ _ hy32, rfl, ?_⟩
              have e := Option.some.inj h39; subst e
              ((conv => whnf); repeat ((first | refine T_seq ?_ | refine T_z mix ?_ | refine T_cut ?_ | refine T_block ?_ | refine T_cond rfl ?_ | refine T_loop ?_ | refine storeEq rfl ?_ | refine drawGo (by kernel_rfl) ?_ | fail); (conv => whnf)))
              exact hn39 _ (decide (y32 > (0 : Int))) h29_ (weak_gen [0, 1] rfl rfl (storeLe.cons rfl (objLe.mk (by intro hf; first | exact hf | rfl) (by intro hf; first | exact hf | rfl) (rowLe_vals (valsLe.cons (cellsLe_refl rfl) valsLe.nil))) (storeLe.cons rfl (objLe.mk (by intro hf; first | exact hf | rfl) (by intro hf; first | exact hf | rfl) (by first | exact rowLe_same fun _ _ _ => rfl | (simp; exact rowLe_same fun _ _ _ => rfl))) storeLe.nil)) (slotsLe.cons (And.intro rfl (AV.Le.refl _)) (slotsLe.cons (And.intro rfl (AV.Le.refl _)) (slotsLe.cons (And.intro rfl (AV.Le.of_eq (congrArg (AV.ms _) (by first | rfl | omega | (simp; omega) | simp)))) (slotsLe.cons (And.intro rfl (AV.Le.refl _)) (slotsLe.cons (And.intro rfl (AV.Le.refl _)) (slotsLe.cons (And.intro rfl (AV.Le.refl _)) slotsLe.nil)))))))
            · have e := Option.some.inj h39; subst e
              ((conv => whnf); repeat ((first | refine T_seq ?_ | refine T_z mix ?_ | refine T_cut ?_ | refine T_block ?_ | refine T_cond rfl ?_ | refine T_loop ?_ | refine storeEq rfl ?_ | refine drawGo (by kernel_rfl) ?_ | fail); (conv => whnf)))
              exact hn39 _ false h29_ (weak_gen [0, 1] rfl rfl (storeLe.cons rfl (objLe.mk (by intro hf; first | exact hf | rfl) (by intro hf; first | exact hf | rfl) (rowLe_vals (valsLe.cons (cellsLe_refl rfl) valsLe.nil))) (storeLe.cons rfl (objLe.mk (by intro hf; first | exact hf | rfl) (by intro hf; first | exact hf | rfl) (by first | exact rowLe_same fun _ _ _ => rfl | (simp; exact rowLe_same fun _ _ _ => rfl))) storeLe.nil)) (slotsLe.cons (And.intro rfl (AV.Le.refl _)) (slotsLe.cons (And.intro rfl (AV.Le.refl _)) (slotsLe.cons (And.intro rfl (AV.Le.of_eq (congrArg (AV.ms _) (by first | rfl | omega | (simp; omega) | simp)))) (slotsLe.cons (And.intro rfl (AV.Le.refl _)) (slotsLe.cons (And.intro rfl (AV.Le.refl _)) (slotsLe.cons (And.intro rfl (AV.Le.refl _)) slotsLe.nil)))))))
          · clear h29_ h39
            intro s30 hc41
            ((conv => whnf); repeat ((first | refine T_seq ?_ | refine T_z mix ?_ | refine T_cut ?_ | refine T_block ?_ | refine T_cond rfl ?_ | refine T_loop ?_ | refine storeEq rfl ?_ | refine drawGo (by kernel_rfl) ?_ | fail); (conv => whnf)))
            refine br_b rfl hc41 (fun c42 hc41 => ?_) (fun c42 hc41 => ?_)
            · have e := Option.some.inj hc41; subst e
              ((conv => whnf); repeat ((first | refine T_seq ?_ | refine T_z mix ?_ | refine T_cut ?_ | refine T_block ?_ | refine T_cond rfl ?_ | refine T_loop ?_ | refine storeEq rfl ?_ | refine drawGo (by kernel_rfl) ?_ | fail); (conv => whnf)))
              exact hn29 _ (IntKind.wrap .i64 (s27 - (1 : Int))) hs29 (weak_gen [0, 1] rfl rfl (storeLe.cons rfl (objLe.mk (by intro hf; first | exact hf | rfl) (by intro hf; first | exact hf | rfl) (rowLe_vals (valsLe.cons (cellsLe_refl rfl) valsLe.nil))) (storeLe.cons rfl (objLe.mk (by intro hf; first | exact hf | rfl) (by intro hf; first | exact hf | rfl) (by first | exact rowLe_same fun _ _ _ => rfl | (simp; exact rowLe_same fun _ _ _ => rfl))) storeLe.nil)) (slotsLe.cons (And.intro rfl (AV.Le.refl _)) (slotsLe.cons (And.intro rfl (AV.Le.refl _)) (slotsLe.cons (And.intro rfl (AV.Le.of_eq (congrArg (AV.ms _) (by first | rfl | omega | (simp; omega) | simp)))) (slotsLe.cons (And.intro rfl (AV.Le.refl _)) (slotsLe.cons (And.intro rfl (AV.Le.refl _)) slotsLe.nil))))))
            · have e := Option.some.inj hc41; subst e
              have e := done_out hs29; subst e
              ((conv => whnf); repeat ((first | refine T_seq ?_ | refine T_z mix ?_ | refine T_cut ?_ | refine T_block ?_ | refine T_cond rfl ?_ | refine T_loop ?_ | refine storeEq rfl ?_ | refine drawGo (by kernel_rfl) ?_ | fail); (conv => whnf)))
              exact hn38 _ s27 h37 (weak_gen [0, 1] rfl rfl (storeLe.cons rfl (objLe.mk (by intro hf; first | exact hf | rfl) (by intro hf; first | exact hf | rfl) (rowLe_vals (valsLe.cons (cellsLe_refl rfl) valsLe.nil))) (storeLe.cons rfl (objLe.mk (by intro hf; first | exact hf | rfl) (by intro hf; first | exact hf | rfl) (by first | exact rowLe_same fun _ _ _ => rfl | (simp; exact rowLe_same fun _ _ _ => rfl))) storeLe.nil)) (slotsLe.cons (And.intro rfl (AV.Le.refl _)) (slotsLe.cons (And.intro rfl (AV.Le.refl _)) (slotsLe.cons (And.intro rfl (AV.Le.of_eq (congrArg (AV.ms _) (by first | rfl | omega | (simp; omega) | simp)))) (slotsLe.cons (And.intro rfl (AV.Le.refl _)) (slotsLe.cons (And.intro rfl (AV.Le.refl _)) slotsLe.nil))))))
        · clear h37 h38
          intro s10 hc43
          ((conv => whnf); repeat ((first | refine T_seq ?_ | refine T_z mix ?_ | refine T_cut ?_ | refine T_block ?_ | refine T_cond rfl ?_ | refine T_loop ?_ | refine storeEq rfl ?_ | refine drawGo (by kernel_rfl) ?_ | fail); (conv => whnf)))
          refine bnd hc43 (fun x44 h44 hc43 => ?_)
          refine cut_at (fun s12 : Bool => mkF 86 [(1, (e_L_i32 p_l)), (2, (.mp 0 0 0)), (5, (.ms 1 s5.1.length)), (6, (.int .i64 s5.2)), (7, (.int .i64 s10)), (8, (.bool s12))] [some ⟨3, 42, (.vals [(e_api_Norm p_t)]), false, false⟩, some ⟨1, 21, (.ints .i32 s5.1), false, true⟩]) (fun s12 : Bool => m_eponymref05_Put_K13 p_t p_l s5 s10 s12 = some x37) ?_ ?_
          · intro Kn44 hn44
            ((conv => whnf); repeat ((first | refine T_seq ?_ | refine T_z mix ?_ | refine T_cut ?_ | refine T_block ?_ | refine T_cond rfl ?_ | refine T_loop ?_ | refine storeEq rfl ?_ | refine drawGo (by kernel_rfl) ?_ | fail); (conv => whnf)))
            refine loop_iter (fun s18 : Bool × Int => mkF 86 [(1, (e_L_i32 p_l)), (2, (.mp 0 0 0)), (5, (.ms 1 s5.1.length)), (6, (.int .i64 s5.2)), (7, (.int .i64 s10)), (8, (.bool s18.1)), (9, (.int .i64 s18.2))] [some ⟨3, 42, (.vals [(e_api_Norm p_t)]), false, false⟩, some ⟨1, 21, (.ints .i32 s5.1), false, true⟩]) h44 (weak_gen [0, 1] rfl rfl (storeLe.cons rfl (objLe.mk (by intro hf; first | exact hf | rfl) (by intro hf; first | exact hf | rfl) (rowLe_vals (valsLe.cons (cellsLe_refl rfl) valsLe.nil))) (storeLe.cons rfl (objLe.mk (by intro hf; first | exact hf | rfl) (by intro hf; first | exact hf | rfl) (by first | exact rowLe_same fun _ _ _ => rfl | (simp; exact rowLe_same fun _ _ _ => rfl))) storeLe.nil)) (slotsLe.cons (And.intro rfl (AV.Le.refl _)) (slotsLe.cons (And.intro rfl (AV.Le.refl _)) (slotsLe.cons (And.intro rfl (AV.Le.of_eq (congrArg (AV.ms _) (by first | rfl | omega | (simp; omega) | simp)))) (slotsLe.cons (And.intro rfl (AV.Le.refl _)) (slotsLe.cons (And.intro rfl (AV.Le.refl _)) (slotsLe.cons (And.intro rfl (AV.Le.refl _)) (slotsLe.cons (And.intro rfl (AV.Le.refl _)) slotsLe.nil)))))))) ?_
            intro k20 s18 st20 Kn20 hn20 h20_ hs20
            ((conv => whnf); repeat ((first | refine T_seq ?_ | refine T_z mix ?_ | refine T_cut ?_ | refine T_block ?_ | refine T_cond rfl ?_ | refine T_loop ?_ | refine storeEq rfl ?_ | refine drawGo (by kernel_rfl) ?_ | fail); (conv => whnf)))
            refine bnd h20_ (fun x45 h45 h20_ => ?_)
            refine cut_at (fun s21 : Bool => mkF 86 [(1, (e_L_i32 p_l)), (2, (.mp 0 0 0)), (5, (.ms 1 s5.1.length)), (6, (.int .i64 s5.2)), (7, (.int .i64 s10)), (8, (.bool s18.1)), (9, (.int .i64 s18.2)), (44, (.bool s21))] [some ⟨3, 42, (.vals [(e_api_Norm p_t)]), false, false⟩, some ⟨1, 21, (.ints .i32 s5.1), false, true⟩]) (fun s21 : Bool => m_eponymref05_Put_K22 p_t p_l s5 s18 s21 = some st20) ?_ ?_
            · intro Kn45 hn45
              ((conv => whnf); repeat ((first | refine T_seq ?_ | refine T_z mix ?_ | refine T_cut ?_ | refine T_block ?_ | refine T_cond rfl ?_ | refine T_loop ?_ | refine storeEq rfl ?_ | refine drawGo (by kernel_rfl) ?_ | fail); (conv => whnf)))
              refine br_b rfl h45 (fun c46 h45 => ?_) (fun c46 h45 => ?_)
              · have e := Option.some.inj h45; subst e
                ((conv => whnf); repeat ((first | refine T_seq ?_ | refine T_z mix ?_ | refine T_cut ?_ | refine T_block ?_ | refine T_cond rfl ?_ | refine T_loop ?_ | refine storeEq rfl ?_ | refine drawGo (by kernel_rfl) ?_ | fail); (conv => whnf)))
                exact hn45 _ (decide (s18.2 < ((s5.1.length : Nat) : Int))) h20_ (weak_gen [0, 1] rfl rfl (storeLe.cons rfl (objLe.mk (by intro hf; first | exact hf | rfl) (by intro hf; first | exact hf | rfl) (rowLe_vals (valsLe.cons (cellsLe_refl rfl) valsLe.nil))) (storeLe.cons rfl (objLe.mk (by intro hf; first | exact hf | rfl) (by intro hf; first | exact hf | rfl) (by first | exact rowLe_same fun _ _ _ => rfl | (simp; exact rowLe_same fun _ _ _ => rfl))) storeLe.nil)) (slotsLe.cons (And.intro rfl (AV.Le.refl _)) (slotsLe.cons (And.intro rfl (AV.Le.refl _)) (slotsLe.cons (And.intro rfl (AV.Le.of_eq (congrArg (AV.ms _) (by first | rfl | omega | (simp; omega) | simp)))) (slotsLe.cons (And.intro rfl (AV.Le.refl _)) (slotsLe.cons (And.intro rfl (AV.Le.refl _)) (slotsLe.cons (And.intro rfl (AV.Le.refl _)) (slotsLe.cons (And.intro rfl (AV.Le.refl _)) (slotsLe.cons (And.intro rfl (AV.Le.refl _)) slotsLe.nil)))))))))
              · have e := Option.some.inj h45; subst e
                ((conv => whnf); repeat ((first | refine T_seq ?_ | refine T_z mix ?_ | refine T_cut ?_ | refine T_block ?_ | refine T_cond rfl ?_ | refine T_loop ?_ | refine storeEq rfl ?_ | refine drawGo (by kernel_rfl) ?_ | fail); (conv => whnf)))
                exact hn45 _ false h20_ (weak_gen [0, 1] rfl rfl (storeLe.cons rfl (objLe.mk (by intro hf; first | exact hf | rfl) (by intro hf; first | exact hf | rfl) (rowLe_vals (valsLe.cons (cellsLe_refl rfl) valsLe.nil))) (storeLe.cons rfl (objLe.mk (by intro hf; first | exact hf | rfl) (by intro hf; first | exact hf | rfl) (by first | exact rowLe_same fun _ _ _ => rfl | (simp; exact rowLe_same fun _ _ _ => rfl))) storeLe.nil)) (slotsLe.cons (And.intro rfl (AV.Le.refl _)) (slotsLe.cons (And.intro rfl (AV.Le.refl _)) (slotsLe.cons (And.intro rfl (AV.Le.of_eq (congrArg (AV.ms _) (by first | rfl | omega | (simp; omega) | simp)))) (slotsLe.cons (And.intro rfl (AV.Le.refl _)) (slotsLe.cons (And.intro rfl (AV.Le.refl _)) (slotsLe.cons (And.intro rfl (AV.Le.refl _)) (slotsLe.cons (And.intro rfl (AV.Le.refl _)) (slotsLe.cons (And.intro rfl (AV.Le.refl _)) slotsLe.nil)))))))))
            · clear h20_ h45
              intro s21 hc47
              ((conv => whnf); repeat ((first | refine T_seq ?_ | refine T_z mix ?_ | refine T_cut ?_ | refine T_block ?_ | refine T_cond rfl ?_ | refine T_loop ?_ | refine storeEq rfl ?_ | refine drawGo (by kernel_rfl) ?_ | fail); (conv => whnf)))
              refine br_b rfl hc47 (fun c48 hc47 => ?_) (fun c48 hc47 => ?_)
              · ((conv => whnf); repeat ((first | refine T_seq ?_ | refine T_z mix ?_ | refine T_cut ?_ | refine T_block ?_ | refine T_cond rfl ?_ | refine T_loop ?_ | refine storeEq rfl ?_ | refine drawGo (by kernel_rfl) ?_ | fail); (conv => whnf)))
                refine grd2 rfl rfl hc47 (fun hc47 => ?_)
                ((conv => whnf); repeat ((first | refine T_seq ?_ | refine T_z mix ?_ | refine T_cut ?_ | refine T_block ?_ | refine T_cond rfl ?_ | refine T_loop ?_ | refine storeEq rfl ?_ | refine drawGo (by kernel_rfl) ?_ | fail); (conv => whnf)))
                refine bnd hc47 (fun y23 hy23 hc47 => ?_)
                refine Or.inl ⟨_, c_eponymref04_Class _ _ _ hy23, rfl, ?_⟩
                ((conv => whnf); repeat ((first | refine T_seq ?_ | refine T_z mix ?_ | refine T_cut ?_ | refine T_block ?_ | refine T_cond rfl ?_ | refine T_loop ?_ | refine storeEq rfl ?_ | refine drawGo (by kernel_rfl) ?_ | fail); (conv => whnf)))
                refine grd2 rfl rfl hc47 (fun hc47 => ?_)
                ((conv => whnf); repeat ((first | refine T_seq ?_ | refine T_z mix ?_ | refine T_cut ?_ | refine T_block ?_ | refine T_cond rfl ?_ | refine T_loop ?_ | refine storeEq rfl ?_ | refine drawGo (by kernel_rfl) ?_ | fail); (conv => whnf)))
                refine bnd hc47 (fun y24 hy24 hc47 => ?_)
                refine Or.inl ⟨_, c_eponymref04_Class _ _ _ hy24, rfl, ?_⟩
                ((conv => whnf); repeat ((first | refine T_seq ?_ | refine T_z mix ?_ | refine T_cut ?_ | refine T_block ?_ | refine T_cond rfl ?_ | refine T_loop ?_ | refine storeEq rfl ?_ | refine drawGo (by kernel_rfl) ?_ | fail); (conv => whnf)))
                refine br_b rfl hc47 (fun c49 hc47 => ?_) (fun c49 hc47 => ?_)
                · have e := Option.some.inj hc47; subst e
                  ((conv => whnf); repeat ((first | refine T_seq ?_ | refine T_z mix ?_ | refine T_cut ?_ | refine T_block ?_ | refine T_cond rfl ?_ | refine T_loop ?_ | refine storeEq rfl ?_ | refine drawGo (by kernel_rfl) ?_ | fail); (conv => whnf)))
                  exact hn20 _ (false, (IntKind.wrap .i64 (s18.2 + (1 : Int)))) hs20 (weak_gen [0, 1] rfl rfl (storeLe.cons rfl (objLe.mk (by intro hf; first | exact hf | rfl) (by intro hf; first | exact hf | rfl) (rowLe_vals (valsLe.cons (cellsLe_refl rfl) valsLe.nil))) (storeLe.cons rfl (objLe.mk (by intro hf; first | exact hf | rfl) (by intro hf; first | exact hf | rfl) (by first | exact rowLe_same fun _ _ _ => rfl | (simp; exact rowLe_same fun _ _ _ => rfl))) storeLe.nil)) (slotsLe.cons (And.intro rfl (AV.Le.refl _)) (slotsLe.cons (And.intro rfl (AV.Le.refl _)) (slotsLe.cons (And.intro rfl (AV.Le.of_eq (congrArg (AV.ms _) (by first | rfl | omega | (simp; omega) | simp)))) (slotsLe.cons (And.intro rfl (AV.Le.refl _)) (slotsLe.cons (And.intro rfl (AV.Le.refl _)) (slotsLe.cons (And.intro rfl (AV.Le.refl _)) (slotsLe.cons (And.intro rfl (AV.Le.refl _)) slotsLe.nil))))))))
                · have e := Option.some.inj hc47; subst e
                  ((conv => whnf); repeat ((first | refine T_seq ?_ | refine T_z mix ?_ | refine T_cut ?_ | refine T_block ?_ | refine T_cond rfl ?_ | refine T_loop ?_ | refine storeEq rfl ?_ | refine drawGo (by kernel_rfl) ?_ | fail); (conv => whnf)))
                  exact hn20 _ (s18.1, (IntKind.wrap .i64 (s18.2 + (1 : Int)))) hs20 (weak_gen [0, 1] rfl rfl (storeLe.cons rfl (objLe.mk (by intro hf; first | exact hf | rfl) (by intro hf; first | exact hf | rfl) (rowLe_vals (valsLe.cons (cellsLe_refl rfl) valsLe.nil))) (storeLe.cons rfl (objLe.mk (by intro hf; first | exact hf | rfl) (by intro hf; first | exact hf | rfl) (by first | exact rowLe_same fun _ _ _ => rfl | (simp; exact rowLe_same fun _ _ _ => rfl))) storeLe.nil)) (slotsLe.cons (And.intro rfl (AV.Le.refl _)) (slotsLe.cons (And.intro rfl (AV.Le.refl _)) (slotsLe.cons (And.intro rfl (AV.Le.of_eq (congrArg (AV.ms _) (by first | rfl | omega | (simp; omega) | simp)))) (slotsLe.cons (And.intro rfl (AV.Le.refl _)) (slotsLe.cons (And.intro rfl (AV.Le.refl _)) (slotsLe.cons (And.intro rfl (AV.Le.refl _)) (slotsLe.cons (And.intro rfl (AV.Le.refl _)) slotsLe.nil))))))))
              · have e := Option.some.inj hc47; subst e
                have e := done_out hs20; subst e
                ((conv => whnf); repeat ((first | refine T_seq ?_ | refine T_z mix ?_ | refine T_cut ?_ | refine T_block ?_ | refine T_cond rfl ?_ | refine T_loop ?_ | refine storeEq rfl ?_ | refine drawGo (by kernel_rfl) ?_ | fail); (conv => whnf)))
                exact hn44 _ s18.1 hc43 (weak_gen [0, 1] rfl rfl (storeLe.cons rfl (objLe.mk (by intro hf; first | exact hf | rfl) (by intro hf; first | exact hf | rfl) (rowLe_vals (valsLe.cons (cellsLe_refl rfl) valsLe.nil))) (storeLe.cons rfl (objLe.mk (by intro hf; first | exact hf | rfl) (by intro hf; first | exact hf | rfl) (by first | exact rowLe_same fun _ _ _ => rfl | (simp; exact rowLe_same fun _ _ _ => rfl))) storeLe.nil)) (slotsLe.cons (And.intro rfl (AV.Le.refl _)) (slotsLe.cons (And.intro rfl (AV.Le.refl _)) (slotsLe.cons (And.intro rfl (AV.Le.of_eq (congrArg (AV.ms _) (by first | rfl | omega | (simp; omega) | simp)))) (slotsLe.cons (And.intro rfl (AV.Le.refl _)) (slotsLe.cons (And.intro rfl (AV.Le.refl _)) (slotsLe.cons (And.intro rfl (AV.Le.refl _)) slotsLe.nil)))))))
          · clear hc43 h44
            intro s12 hc50
            ((conv => whnf); repeat ((first | refine T_seq ?_ | refine T_z mix ?_ | refine T_cut ?_ | refine T_block ?_ | refine T_cond rfl ?_ | refine T_loop ?_ | refine storeEq rfl ?_ | refine drawGo (by kernel_rfl) ?_ | fail); (conv => whnf)))
            refine bnd hc50 (fun x51 h51 hc50 => ?_)
            refine cut_at (fun s14 : Int => mkF 86 [(1, (e_L_i32 p_l)), (2, (.mp 0 0 0)), (5, (.ms 1 s5.1.length)), (6, (.int .i64 s5.2)), (7, (.int .i64 s10)), (11, (.int .i32 s14))] [some ⟨3, 42, (.vals [(e_api_Norm p_t)]), false, false⟩, some ⟨1, 21, (.ints .i32 s5.1), false, true⟩]) (fun s14 : Int => m_eponymref05_Put_K15 p_l s5 s10 s14 = some x37) ?_ ?_
            · intro Kn51 hn51
              ((conv => whnf); repeat ((first | refine T_seq ?_ | refine T_z mix ?_ | refine T_cut ?_ | refine T_block ?_ | refine T_cond rfl ?_ | refine T_loop ?_ | refine storeEq rfl ?_ | refine drawGo (by kernel_rfl) ?_ | fail); (conv => whnf)))
              refine br_b rfl h51 (fun c52 h51 => ?_) (fun c52 h51 => ?_)
              · ((conv => whnf); repeat ((first | refine T_seq ?_ | refine T_z mix ?_ | refine T_cut ?_ | refine T_block ?_ | refine T_cond rfl ?_ | refine T_loop ?_ | refine storeEq rfl ?_ | refine drawGo (by kernel_rfl) ?_ | fail); (conv => whnf)))
                refine grd2 rfl rfl h51 (fun h51 => ?_)
                ((conv => whnf); repeat ((first | refine T_seq ?_ | refine T_z mix ?_ | refine T_cut ?_ | refine T_block ?_ | refine T_cond rfl ?_ | refine T_loop ?_ | refine storeEq rfl ?_ | refine drawGo (by kernel_rfl) ?_ | fail); (conv => whnf)))
                refine grd2 rfl rfl h51 (fun h51 => ?_)
                ((conv => whnf); repeat ((first | refine T_seq ?_ | refine T_z mix ?_ | refine T_cut ?_ | refine T_block ?_ | refine T_cond rfl ?_ | refine T_loop ?_ | refine storeEq rfl ?_ | refine drawGo (by kernel_rfl) ?_ | fail); (conv => whnf)))
                refine bnd h51 (fun y16 hy16 h51 => ?_)
                refine Or.inl ⟨_, c_eponymref05_Pair _ _ _ _ hy16, rfl, ?_⟩
                have e := Option.some.inj h51; subst e
                ((conv => whnf); repeat ((first | refine T_seq ?_ | refine T_z mix ?_ | refine T_cut ?_ | refine T_block ?_ | refine T_cond rfl ?_ | refine T_loop ?_ | refine storeEq rfl ?_ | refine drawGo (by kernel_rfl) ?_ | fail); (conv => whnf)))
                exact hn51 _ y16 hc50 (weak_gen [0, 1] rfl rfl (storeLe.cons rfl (objLe.mk (by intro hf; first | exact hf | rfl) (by intro hf; first | exact hf | rfl) (rowLe_vals (valsLe.cons (cellsLe_refl rfl) valsLe.nil))) (storeLe.cons rfl (objLe.mk (by intro hf; first | exact hf | rfl) (by intro hf; first | exact hf | rfl) (by first | exact rowLe_same fun _ _ _ => rfl | (simp; exact rowLe_same fun _ _ _ => rfl))) storeLe.nil)) (slotsLe.cons (And.intro rfl (AV.Le.refl _)) (slotsLe.cons (And.intro rfl (AV.Le.refl _)) (slotsLe.cons (And.intro rfl (AV.Le.of_eq (congrArg (AV.ms _) (by first | rfl | omega | (simp; omega) | simp)))) (slotsLe.cons (And.intro rfl (AV.Le.refl _)) (slotsLe.cons (And.intro rfl (AV.Le.refl _)) (slotsLe.cons (And.intro rfl (AV.Le.refl _)) slotsLe.nil)))))))
              · have e := Option.some.inj h51; subst e
                ((conv => whnf); repeat ((first | refine T_seq ?_ | refine T_z mix ?_ | refine T_cut ?_ | refine T_block ?_ | refine T_cond rfl ?_ | refine T_loop ?_ | refine storeEq rfl ?_ | refine drawGo (by kernel_rfl) ?_ | fail); (conv => whnf)))
                exact hn51 _ (-1 : Int) hc50 (weak_gen [0, 1] rfl rfl (storeLe.cons rfl (objLe.mk (by intro hf; first | exact hf | rfl) (by intro hf; first | exact hf | rfl) (rowLe_vals (valsLe.cons (cellsLe_refl rfl) valsLe.nil))) (storeLe.cons rfl (objLe.mk (by intro hf; first | exact hf | rfl) (by intro hf; first | exact hf | rfl) (by first | exact rowLe_same fun _ _ _ => rfl | (simp; exact rowLe_same fun _ _ _ => rfl))) storeLe.nil)) (slotsLe.cons (And.intro rfl (AV.Le.refl _)) (slotsLe.cons (And.intro rfl (AV.Le.refl _)) (slotsLe.cons (And.intro rfl (AV.Le.of_eq (congrArg (AV.ms _) (by first | rfl | omega | (simp; omega) | simp)))) (slotsLe.cons (And.intro rfl (AV.Le.refl _)) (slotsLe.cons (And.intro rfl (AV.Le.refl _)) (slotsLe.cons (And.intro rfl (AV.Le.refl _)) slotsLe.nil)))))))
            · clear hc50 h51
              intro s14 hc53
              ((conv => whnf); repeat ((first | refine T_seq ?_ | refine T_z mix ?_ | refine T_cut ?_ | refine T_block ?_ | refine T_cond rfl ?_ | refine T_loop ?_ | refine storeEq rfl ?_ | refine drawGo (by kernel_rfl) ?_ | fail); (conv => whnf)))
              refine br_b rfl hc53 (fun c54 hc53 => ?_) (fun c54 hc53 => ?_)
              · ((conv => whnf); repeat ((first | refine T_seq ?_ | refine T_z mix ?_ | refine T_cut ?_ | refine T_block ?_ | refine T_cond rfl ?_ | refine T_loop ?_ | refine storeEq rfl ?_ | refine drawGo (by kernel_rfl) ?_ | fail); (conv => whnf)))
                refine grd2 rfl rfl hc53 (fun hc53 => ?_)
                have e := Option.some.inj hc53; subst e
                ((conv => whnf); repeat ((first | refine T_seq ?_ | refine T_z mix ?_ | refine T_cut ?_ | refine T_block ?_ | refine T_cond rfl ?_ | refine T_loop ?_ | refine storeEq rfl ?_ | refine drawGo (by kernel_rfl) ?_ | fail); (conv => whnf)))
                exact hn37 _ (s5.1.set (s10.toNat) s14) h7_ (weak_gen [0, 1] rfl rfl (storeLe.cons rfl (objLe.mk (by intro hf; first | exact hf | rfl) (by intro hf; first | exact hf | rfl) (rowLe_vals (valsLe.cons (cellsLe_refl rfl) valsLe.nil))) (storeLe.cons rfl (objLe.mk (by intro hf; first | exact hf | rfl) (by intro hf; first | exact hf | rfl) (rowLe_ints (by first | rfl | simp))) storeLe.nil)) (slotsLe.cons (And.intro rfl (AV.Le.refl _)) (slotsLe.cons (And.intro rfl (AV.Le.refl _)) (slotsLe.cons (And.intro rfl (AV.Le.of_eq (congrArg (AV.ms _) (by first | rfl | omega | (simp; omega) | simp)))) (slotsLe.cons (And.intro rfl (AV.Le.refl _)) slotsLe.nil)))))
              · ((conv => whnf); repeat ((first | refine T_seq ?_ | refine T_z mix ?_ | refine T_cut ?_ | refine T_block ?_ | refine T_cond rfl ?_ | refine T_loop ?_ | refine storeEq rfl ?_ | refine drawGo (by kernel_rfl) ?_ | fail); (conv => whnf)))
                refine grd2 rfl rfl hc53 (fun hc53 => ?_)
                ((conv => whnf); repeat ((first | refine T_seq ?_ | refine T_z mix ?_ | refine T_cut ?_ | refine T_block ?_ | refine T_cond rfl ?_ | refine T_loop ?_ | refine storeEq rfl ?_ | refine drawGo (by kernel_rfl) ?_ | fail); (conv => whnf)))
                obtain ⟨p55, hc53⟩ := grdO hc53
                refine ⟨[], 1, (.ints .i32 [(p_l.getD (s5.2.toNat) 0)]), ⟨by simp [Row.len] <;> omega, rfl, _, rfl, by simp [Row.len] <;> omega, fun j hj => .inl rfl⟩, trivial, fun j hj => rfl, ?_⟩
                conv => whnf
                refine ⟨by simp [Row.len]; try omega, p55, by omega, ?_⟩
                have e := Option.some.inj hc53; subst e
                ((conv => whnf); repeat ((first | refine T_seq ?_ | refine T_z mix ?_ | refine T_cut ?_ | refine T_block ?_ | refine T_cond rfl ?_ | refine T_loop ?_ | refine storeEq rfl ?_ | refine drawGo (by kernel_rfl) ?_ | fail); (conv => whnf)))
                exact hn37 _ (s5.1 ++ [(p_l.getD (s5.2.toNat) 0)]) h7_ (weak_gen [0, 3] rfl rfl (storeLe.cons rfl (objLe.mk (by intro hf; first | exact hf | rfl) (by intro hf; first | exact hf | rfl) (rowLe_vals (valsLe.cons (cellsLe_refl rfl) valsLe.nil))) (storeLe.cons rfl (objLe.mk (by intro hf; first | exact hf | rfl) (by intro hf; first | exact hf | rfl) (rowLe_ints (by first | rfl | simp))) storeLe.nil)) (slotsLe.cons (And.intro rfl (AV.Le.refl _)) (slotsLe.cons (And.intro rfl (AV.Le.refl _)) (slotsLe.cons (And.intro rfl (AV.Le.of_eq (congrArg (AV.ms _) (by first | rfl | omega | (simp; omega) | simp)))) (slotsLe.cons (And.intro rfl (AV.Le.refl _)) slotsLe.nil)))))
      · clear h7_ h37
        intro s8 hc56
        have e := Option.some.inj hc56; subst e
        ((conv => whnf); repeat ((first | refine T_seq ?_ | refine T_z mix ?_ | refine T_cut ?_ | refine T_block ?_ | refine T_cond rfl ?_ | refine T_loop ?_ | refine storeEq rfl ?_ | refine drawGo (by kernel_rfl) ?_ | fail); (conv => whnf)))
        exact hn7 _ (s8, (IntKind.wrap .i64 (s5.2 + (1 : Int)))) hs7 (weak_gen [0, 1] rfl rfl (storeLe.cons rfl (objLe.mk (by intro hf; first | exact hf | rfl) (by intro hf; first | exact hf | rfl) (rowLe_vals (valsLe.cons (cellsLe_refl rfl) valsLe.nil))) (storeLe.cons rfl (objLe.mk (by intro hf; first | exact hf | rfl) (by intro hf; first | exact hf | rfl) (rowLe_ints (by first | rfl | simp))) storeLe.nil)) (slotsLe.cons (And.intro rfl (AV.Le.refl _)) (slotsLe.cons (And.intro rfl (AV.Le.refl _)) (slotsLe.cons (And.intro rfl (AV.Le.of_eq (congrArg (AV.ms _) (by first | rfl | omega | (simp; omega) | simp)))) (slotsLe.cons (And.intro rfl (AV.Le.refl _)) slotsLe.nil)))))
    · have e := Option.some.inj h7_; subst e
      have e := done_out hs7; subst e
      ((conv => whnf); repeat ((first | refine T_seq ?_ | refine T_z mix ?_ | refine T_cut ?_ | refine T_block ?_ | refine T_cond rfl ?_ | refine T_loop ?_ | refine storeEq rfl ?_ | refine drawGo (by kernel_rfl) ?_ | fail); (conv => whnf)))
      exact hn35 _ s5.1 h (weak_gen [1] rfl rfl (storeLe.cons rfl (objLe.mk (by intro hf; first | exact hf | rfl) (by intro hf; first | exact hf | rfl) (rowLe_ints (by first | rfl | simp))) storeLe.nil) (slotsLe.cons (And.intro rfl (AV.Le.of_eq (congrArg (AV.ms _) (by first | rfl | omega | (simp; omega) | simp)))) slotsLe.nil))
  · clear h h35
    intro s1 hc57
    have e := Option.some.inj hc57; subst e
    ((conv => whnf); repeat ((first | refine T_seq ?_ | refine T_z mix ?_ | refine T_cut ?_ | refine T_block ?_ | refine T_cond rfl ?_ | refine T_loop ?_ | refine storeEq rfl ?_ | refine drawGo (by kernel_rfl) ?_ | fail); (conv => whnf)))
    exact And.intro (AV.Le.refl _) rfl
end Go.Proofs.Ytjhgaacecfmadaa
