/- Contracts of functions, walked by their models; printed by a program of ours. No condition. -/
import Derived.Test.YtjhgaacecfmadaaDoorM
import Derived.Test.YtjhgaacecfmadaaDoorProg
import Derived.KernelRfl
namespace Go.Proofs.YtjhgaacecfmadaaDoor
open Go Go.SE
set_option linter.unusedVariables false
set_option linter.unusedSimpArgs false
set_option maxRecDepth 10000
set_option maxHeartbeats 2000000
attribute [local irreducible] Contract iter
theorem mix : pl.follows .mixedOrders = true := by kernel_rfl
theorem gOf {α : Type} {c : Prop} [Decidable c] {X : Option α} {r : α} (h : (if c then X else none) = some r) : c := by
  by_cases hc : c
  · exact hc
  · rw [if_neg hc] at h; cases h
theorem c_contexts_Rule (p_r : Int) (r : Int) (h : m_contexts_Rule p_r = some r) : Contract pl 51 [(AV.int .i32 p_r)] [] (AV.int .i64 r) [] := by
  refine contract_of (.t false .z (.t false (.t false (.t false .z (.t false .z (.t false .z (.t false .z (.t false .z (.t false .z (.t false .z (.t false .z (.t true .z (.t false .z (.t false .z (.t false .z (.t true .z (.t false .z (.t true .z .z))))))))))))))) .z) .z)) Tryd.func51 rfl (by kernel_rfl) ?_
  ((conv => whnf); repeat ((first | refine T_seq ?_ | refine T_z mix ?_ | refine T_cut ?_ | refine T_block ?_ | refine T_cond rfl ?_ | refine T_loop ?_ | refine storeEq rfl ?_ | refine drawGo (by kernel_rfl) ?_ | fail); (conv => whnf)))
  refine br_b rfl h (fun c7 h => ?_) (fun c7 h => ?_)
  · have e := Option.some.inj h; subst e
    ((conv => whnf); repeat ((first | refine T_seq ?_ | refine T_z mix ?_ | refine T_cut ?_ | refine T_block ?_ | refine T_cond rfl ?_ | refine T_loop ?_ | refine storeEq rfl ?_ | refine drawGo (by kernel_rfl) ?_ | fail); (conv => whnf)))
    exact And.intro (AV.Le.refl _) rfl
  · ((conv => whnf); repeat ((first | refine T_seq ?_ | refine T_z mix ?_ | refine T_cut ?_ | refine T_block ?_ | refine T_cond rfl ?_ | refine T_loop ?_ | refine storeEq rfl ?_ | refine drawGo (by kernel_rfl) ?_ | fail); (conv => whnf)))
    refine br_b rfl h (fun c8 h => ?_) (fun c8 h => ?_)
    · have e := Option.some.inj h; subst e
      ((conv => whnf); repeat ((first | refine T_seq ?_ | refine T_z mix ?_ | refine T_cut ?_ | refine T_block ?_ | refine T_cond rfl ?_ | refine T_loop ?_ | refine storeEq rfl ?_ | refine drawGo (by kernel_rfl) ?_ | fail); (conv => whnf)))
      exact And.intro (AV.Le.refl _) rfl
    · ((conv => whnf); repeat ((first | refine T_seq ?_ | refine T_z mix ?_ | refine T_cut ?_ | refine T_block ?_ | refine T_cond rfl ?_ | refine T_loop ?_ | refine storeEq rfl ?_ | refine drawGo (by kernel_rfl) ?_ | fail); (conv => whnf)))
      refine br_b rfl h (fun c9 h => ?_) (fun c9 h => ?_)
      · have e := Option.some.inj h; subst e
        ((conv => whnf); repeat ((first | refine T_seq ?_ | refine T_z mix ?_ | refine T_cut ?_ | refine T_block ?_ | refine T_cond rfl ?_ | refine T_loop ?_ | refine storeEq rfl ?_ | refine drawGo (by kernel_rfl) ?_ | fail); (conv => whnf)))
        exact And.intro (AV.Le.refl _) rfl
      · ((conv => whnf); repeat ((first | refine T_seq ?_ | refine T_z mix ?_ | refine T_cut ?_ | refine T_block ?_ | refine T_cond rfl ?_ | refine T_loop ?_ | refine storeEq rfl ?_ | refine drawGo (by kernel_rfl) ?_ | fail); (conv => whnf)))
        refine br_b rfl h (fun c10 h => ?_) (fun c10 h => ?_)
        · have e := Option.some.inj h; subst e
          ((conv => whnf); repeat ((first | refine T_seq ?_ | refine T_z mix ?_ | refine T_cut ?_ | refine T_block ?_ | refine T_cond rfl ?_ | refine T_loop ?_ | refine storeEq rfl ?_ | refine drawGo (by kernel_rfl) ?_ | fail); (conv => whnf)))
          exact And.intro (AV.Le.refl _) rfl
        · ((conv => whnf); repeat ((first | refine T_seq ?_ | refine T_z mix ?_ | refine T_cut ?_ | refine T_block ?_ | refine T_cond rfl ?_ | refine T_loop ?_ | refine storeEq rfl ?_ | refine drawGo (by kernel_rfl) ?_ | fail); (conv => whnf)))
          refine bnd h (fun x11 h11 h => ?_)
          refine cut_at (fun s1 : Bool => mkF 37 [(0, (.int .i32 p_r)), (15, (.bool s1))] []) (fun s1 : Bool => m_contexts_Rule_K2 p_r s1 = some r) ?_ ?_
          · intro Kn11 hn11
            ((conv => whnf); repeat ((first | refine T_seq ?_ | refine T_z mix ?_ | refine T_cut ?_ | refine T_block ?_ | refine T_cond rfl ?_ | refine T_loop ?_ | refine storeEq rfl ?_ | refine drawGo (by kernel_rfl) ?_ | fail); (conv => whnf)))
            refine br_b rfl h11 (fun c12 h11 => ?_) (fun c12 h11 => ?_)
            · have e := Option.some.inj h11; subst e
              ((conv => whnf); repeat ((first | refine T_seq ?_ | refine T_z mix ?_ | refine T_cut ?_ | refine T_block ?_ | refine T_cond rfl ?_ | refine T_loop ?_ | refine storeEq rfl ?_ | refine drawGo (by kernel_rfl) ?_ | fail); (conv => whnf)))
              exact hn11 _ (p_r == (1523 : Int)) h (weak_gen [] rfl rfl storeLe.nil (slotsLe.cons (And.intro rfl (AV.Le.refl _)) (slotsLe.cons (And.intro rfl (AV.Le.refl _)) slotsLe.nil)))
            · have e := Option.some.inj h11; subst e
              ((conv => whnf); repeat ((first | refine T_seq ?_ | refine T_z mix ?_ | refine T_cut ?_ | refine T_block ?_ | refine T_cond rfl ?_ | refine T_loop ?_ | refine storeEq rfl ?_ | refine drawGo (by kernel_rfl) ?_ | fail); (conv => whnf)))
              exact hn11 _ (p_r == (1524 : Int)) h (weak_gen [] rfl rfl storeLe.nil (slotsLe.cons (And.intro rfl (AV.Le.refl _)) (slotsLe.cons (And.intro rfl (AV.Le.refl _)) slotsLe.nil)))
          · clear h h11
            intro s1 hc13
            ((conv => whnf); repeat ((first | refine T_seq ?_ | refine T_z mix ?_ | refine T_cut ?_ | refine T_block ?_ | refine T_cond rfl ?_ | refine T_loop ?_ | refine storeEq rfl ?_ | refine drawGo (by kernel_rfl) ?_ | fail); (conv => whnf)))
            refine br_b rfl hc13 (fun c14 hc13 => ?_) (fun c14 hc13 => ?_)
            · have e := Option.some.inj hc13; subst e
              ((conv => whnf); repeat ((first | refine T_seq ?_ | refine T_z mix ?_ | refine T_cut ?_ | refine T_block ?_ | refine T_cond rfl ?_ | refine T_loop ?_ | refine storeEq rfl ?_ | refine drawGo (by kernel_rfl) ?_ | fail); (conv => whnf)))
              exact And.intro (AV.Le.refl _) rfl
            · ((conv => whnf); repeat ((first | refine T_seq ?_ | refine T_z mix ?_ | refine T_cut ?_ | refine T_block ?_ | refine T_cond rfl ?_ | refine T_loop ?_ | refine storeEq rfl ?_ | refine drawGo (by kernel_rfl) ?_ | fail); (conv => whnf)))
              refine br_b rfl hc13 (fun c15 hc13 => ?_) (fun c15 hc13 => ?_)
              · have e := Option.some.inj hc13; subst e
                ((conv => whnf); repeat ((first | refine T_seq ?_ | refine T_z mix ?_ | refine T_cut ?_ | refine T_block ?_ | refine T_cond rfl ?_ | refine T_loop ?_ | refine storeEq rfl ?_ | refine drawGo (by kernel_rfl) ?_ | fail); (conv => whnf)))
                exact And.intro (AV.Le.refl _) rfl
              · ((conv => whnf); repeat ((first | refine T_seq ?_ | refine T_z mix ?_ | refine T_cut ?_ | refine T_block ?_ | refine T_cond rfl ?_ | refine T_loop ?_ | refine storeEq rfl ?_ | refine drawGo (by kernel_rfl) ?_ | fail); (conv => whnf)))
                refine bnd hc13 (fun x16 h16 hc13 => ?_)
                refine cut_at (fun s3 : Bool => mkF 37 [(0, (.int .i32 p_r)), (23, (.bool s3))] []) (fun s3 : Bool => m_contexts_Rule_K4 p_r s3 = some r) ?_ ?_
                · intro Kn16 hn16
                  ((conv => whnf); repeat ((first | refine T_seq ?_ | refine T_z mix ?_ | refine T_cut ?_ | refine T_block ?_ | refine T_cond rfl ?_ | refine T_loop ?_ | refine storeEq rfl ?_ | refine drawGo (by kernel_rfl) ?_ | fail); (conv => whnf)))
                  refine br_b rfl h16 (fun c17 h16 => ?_) (fun c17 h16 => ?_)
                  · have e := Option.some.inj h16; subst e
                    ((conv => whnf); repeat ((first | refine T_seq ?_ | refine T_z mix ?_ | refine T_cut ?_ | refine T_block ?_ | refine T_cond rfl ?_ | refine T_loop ?_ | refine storeEq rfl ?_ | refine drawGo (by kernel_rfl) ?_ | fail); (conv => whnf)))
                    exact hn16 _ (decide (p_r ≤ (1641 : Int))) hc13 (weak_gen [] rfl rfl storeLe.nil (slotsLe.cons (And.intro rfl (AV.Le.refl _)) (slotsLe.cons (And.intro rfl (AV.Le.refl _)) slotsLe.nil)))
                  · have e := Option.some.inj h16; subst e
                    ((conv => whnf); repeat ((first | refine T_seq ?_ | refine T_z mix ?_ | refine T_cut ?_ | refine T_block ?_ | refine T_cond rfl ?_ | refine T_loop ?_ | refine storeEq rfl ?_ | refine drawGo (by kernel_rfl) ?_ | fail); (conv => whnf)))
                    exact hn16 _ false hc13 (weak_gen [] rfl rfl storeLe.nil (slotsLe.cons (And.intro rfl (AV.Le.refl _)) (slotsLe.cons (And.intro rfl (AV.Le.refl _)) slotsLe.nil)))
                · clear hc13 h16
                  intro s3 hc18
                  ((conv => whnf); repeat ((first | refine T_seq ?_ | refine T_z mix ?_ | refine T_cut ?_ | refine T_block ?_ | refine T_cond rfl ?_ | refine T_loop ?_ | refine storeEq rfl ?_ | refine drawGo (by kernel_rfl) ?_ | fail); (conv => whnf)))
                  refine br_b rfl hc18 (fun c19 hc18 => ?_) (fun c19 hc18 => ?_)
                  · have e := Option.some.inj hc18; subst e
                    ((conv => whnf); repeat ((first | refine T_seq ?_ | refine T_z mix ?_ | refine T_cut ?_ | refine T_block ?_ | refine T_cond rfl ?_ | refine T_loop ?_ | refine storeEq rfl ?_ | refine drawGo (by kernel_rfl) ?_ | fail); (conv => whnf)))
                    exact And.intro (AV.Le.refl _) rfl
                  · ((conv => whnf); repeat ((first | refine T_seq ?_ | refine T_z mix ?_ | refine T_cut ?_ | refine T_block ?_ | refine T_cond rfl ?_ | refine T_loop ?_ | refine storeEq rfl ?_ | refine drawGo (by kernel_rfl) ?_ | fail); (conv => whnf)))
                    refine bnd hc18 (fun x20 h20 hc18 => ?_)
                    refine cut_at (fun s5 : Bool => mkF 37 [(30, (.bool s5))] []) (fun s5 : Bool => m_contexts_Rule_K6 s5 = some r) ?_ ?_
                    · intro Kn20 hn20
                      ((conv => whnf); repeat ((first | refine T_seq ?_ | refine T_z mix ?_ | refine T_cut ?_ | refine T_block ?_ | refine T_cond rfl ?_ | refine T_loop ?_ | refine storeEq rfl ?_ | refine drawGo (by kernel_rfl) ?_ | fail); (conv => whnf)))
                      refine br_b rfl h20 (fun c21 h20 => ?_) (fun c21 h20 => ?_)
                      · have e := Option.some.inj h20; subst e
                        ((conv => whnf); repeat ((first | refine T_seq ?_ | refine T_z mix ?_ | refine T_cut ?_ | refine T_block ?_ | refine T_cond rfl ?_ | refine T_loop ?_ | refine storeEq rfl ?_ | refine drawGo (by kernel_rfl) ?_ | fail); (conv => whnf)))
                        exact hn20 _ (decide (p_r ≤ (1785 : Int))) hc18 (weak_gen [] rfl rfl storeLe.nil (slotsLe.cons (And.intro rfl (AV.Le.refl _)) slotsLe.nil))
                      · have e := Option.some.inj h20; subst e
                        ((conv => whnf); repeat ((first | refine T_seq ?_ | refine T_z mix ?_ | refine T_cut ?_ | refine T_block ?_ | refine T_cond rfl ?_ | refine T_loop ?_ | refine storeEq rfl ?_ | refine drawGo (by kernel_rfl) ?_ | fail); (conv => whnf)))
                        exact hn20 _ false hc18 (weak_gen [] rfl rfl storeLe.nil (slotsLe.cons (And.intro rfl (AV.Le.refl _)) slotsLe.nil))
                    · clear hc18 h20
                      intro s5 hc22
                      ((conv => whnf); repeat ((first | refine T_seq ?_ | refine T_z mix ?_ | refine T_cut ?_ | refine T_block ?_ | refine T_cond rfl ?_ | refine T_loop ?_ | refine storeEq rfl ?_ | refine drawGo (by kernel_rfl) ?_ | fail); (conv => whnf)))
                      refine br_b rfl hc22 (fun c23 hc22 => ?_) (fun c23 hc22 => ?_)
                      · have e := Option.some.inj hc22; subst e
                        ((conv => whnf); repeat ((first | refine T_seq ?_ | refine T_z mix ?_ | refine T_cut ?_ | refine T_block ?_ | refine T_cond rfl ?_ | refine T_loop ?_ | refine storeEq rfl ?_ | refine drawGo (by kernel_rfl) ?_ | fail); (conv => whnf)))
                        exact And.intro (AV.Le.refl _) rfl
                      · have e := Option.some.inj hc22; subst e
                        ((conv => whnf); repeat ((first | refine T_seq ?_ | refine T_z mix ?_ | refine T_cut ?_ | refine T_block ?_ | refine T_cond rfl ?_ | refine T_loop ?_ | refine storeEq rfl ?_ | refine drawGo (by kernel_rfl) ?_ | fail); (conv => whnf)))
                        exact And.intro (AV.Le.refl _) rfl
theorem c_ranges_Find_1 (p_k : Int) (p_a1 : (List T_api_Range)) (p_a2 : Int) (r : Bool) (h : m_ranges_Find_1 p_k p_a1 p_a2 = some r) : Contract pl 137 [(AV.int .i64 p_k), (AV.ip (e_L_api_Range p_a1) 0), (AV.ip (AV.int .i32 p_a2) 0)] [] (AV.bool r) [] := by
  refine contract_of .z Tryd.func137 rfl (by kernel_rfl) ?_
  ((conv => whnf); repeat ((first | refine T_seq ?_ | refine T_z mix ?_ | refine T_cut ?_ | refine T_block ?_ | refine T_cond rfl ?_ | refine T_loop ?_ | refine storeEq rfl ?_ | refine drawGo (by kernel_rfl) ?_ | fail); (conv => whnf)))
  refine grd2 rfl rfl h (fun h => ?_)
  have e := Option.some.inj h; subst e
  ((conv => whnf); repeat ((first | refine T_seq ?_ | refine T_z mix ?_ | refine T_cut ?_ | refine T_block ?_ | refine T_cond rfl ?_ | refine T_loop ?_ | refine storeEq rfl ?_ | refine drawGo (by kernel_rfl) ?_ | fail); (conv => whnf)))
  exact And.intro (AV.Le.refl _) rfl
theorem c_sort_Search_ranges_Find_1 (p_n : Int) (p_f : (List T_api_Range)) (p_a2 : Int) (r : Int) (h : m_sort_Search_ranges_Find_1 p_n p_f p_a2 = some r) : Contract pl 136 [(AV.int .i64 p_n), (AV.fn (.func 137) [] [(AV.ip (e_L_api_Range p_f) 0), (AV.ip (AV.int .i32 p_a2) 0)])] [] (AV.int .i64 r) [] := by
  refine contract_of (.t false .z (.t false .z (.t true .z .z))) Tryd.func136 rfl (by kernel_rfl) ?_
  ((conv => whnf); repeat ((first | refine T_seq ?_ | refine T_z mix ?_ | refine T_cut ?_ | refine T_block ?_ | refine T_cond rfl ?_ | refine T_loop ?_ | refine storeEq rfl ?_ | refine drawGo (by kernel_rfl) ?_ | fail); (conv => whnf)))
  refine bnd h (fun x9 h9 h => ?_)
  refine cut_at (fun s1 : Int => mkF 26 [(5, (.int .i64 s1))] []) (fun s1 : Int => some s1 = some r) ?_ ?_
  · intro Kn9 hn9
    ((conv => whnf); repeat ((first | refine T_seq ?_ | refine T_z mix ?_ | refine T_cut ?_ | refine T_block ?_ | refine T_cond rfl ?_ | refine T_loop ?_ | refine storeEq rfl ?_ | refine drawGo (by kernel_rfl) ?_ | fail); (conv => whnf)))
    refine loop_iter (fun s4 : Int × Int => mkF 26 [(1, (.fn (.func 137) [] [(.ip (e_L_api_Range p_f) 0), (.ip (.int .i32 p_a2) 0)])), (5, (.int .i64 s4.1)), (6, (.int .i64 s4.2))] []) h9 (weak_gen [] rfl rfl storeLe.nil (slotsLe.cons (And.intro rfl (AV.Le.refl _)) (slotsLe.cons (And.intro rfl (AV.Le.refl _)) (slotsLe.cons (And.intro rfl (AV.Le.refl _)) slotsLe.nil)))) ?_
    intro k6 s4 st6 Kn6 hn6 h6_ hs6
    ((conv => whnf); repeat ((first | refine T_seq ?_ | refine T_z mix ?_ | refine T_cut ?_ | refine T_block ?_ | refine T_cond rfl ?_ | refine T_loop ?_ | refine storeEq rfl ?_ | refine drawGo (by kernel_rfl) ?_ | fail); (conv => whnf)))
    refine br_b rfl h6_ (fun c10 h6_ => ?_) (fun c10 h6_ => ?_)
    · ((conv => whnf); repeat ((first | refine T_seq ?_ | refine T_z mix ?_ | refine T_cut ?_ | refine T_block ?_ | refine T_cond rfl ?_ | refine T_loop ?_ | refine storeEq rfl ?_ | refine drawGo (by kernel_rfl) ?_ | fail); (conv => whnf)))
      refine And.intro (by decide) ?_
      ((conv => whnf); repeat ((first | refine T_seq ?_ | refine T_z mix ?_ | refine T_cut ?_ | refine T_block ?_ | refine T_cond rfl ?_ | refine T_loop ?_ | refine storeEq rfl ?_ | refine drawGo (by kernel_rfl) ?_ | fail); (conv => whnf)))
      refine bnd h6_ (fun y7 hy7 h6_ => ?_)
      refine Or.inl ⟨_, c_ranges_Find_1 _ _ _ _ hy7, rfl, ?_⟩
      ((conv => whnf); repeat ((first | refine T_seq ?_ | refine T_z mix ?_ | refine T_cut ?_ | refine T_block ?_ | refine T_cond rfl ?_ | refine T_loop ?_ | refine storeEq rfl ?_ | refine drawGo (by kernel_rfl) ?_ | fail); (conv => whnf)))
      refine br_b rfl h6_ (fun c11 h6_ => ?_) (fun c11 h6_ => ?_)
      · have e := Option.some.inj h6_; subst e
        ((conv => whnf); repeat ((first | refine T_seq ?_ | refine T_z mix ?_ | refine T_cut ?_ | refine T_block ?_ | refine T_cond rfl ?_ | refine T_loop ?_ | refine storeEq rfl ?_ | refine drawGo (by kernel_rfl) ?_ | fail); (conv => whnf)))
        exact hn6 _ ((IntKind.wrap .i64 ((IntKind.wrap .i64 (Int.fdiv (IntKind.wrap .u64 (IntKind.wrap .i64 (s4.1 + s4.2))) 2)) + (1 : Int))), s4.2) hs6 (weak_gen [] rfl rfl storeLe.nil (slotsLe.cons (And.intro rfl (AV.Le.refl _)) (slotsLe.cons (And.intro rfl (AV.Le.refl _)) (slotsLe.cons (And.intro rfl (AV.Le.refl _)) slotsLe.nil))))
      · have e := Option.some.inj h6_; subst e
        ((conv => whnf); repeat ((first | refine T_seq ?_ | refine T_z mix ?_ | refine T_cut ?_ | refine T_block ?_ | refine T_cond rfl ?_ | refine T_loop ?_ | refine storeEq rfl ?_ | refine drawGo (by kernel_rfl) ?_ | fail); (conv => whnf)))
        exact hn6 _ (s4.1, (IntKind.wrap .i64 (Int.fdiv (IntKind.wrap .u64 (IntKind.wrap .i64 (s4.1 + s4.2))) 2))) hs6 (weak_gen [] rfl rfl storeLe.nil (slotsLe.cons (And.intro rfl (AV.Le.refl _)) (slotsLe.cons (And.intro rfl (AV.Le.refl _)) (slotsLe.cons (And.intro rfl (AV.Le.refl _)) slotsLe.nil))))
    · have e := Option.some.inj h6_; subst e
      have e := done_out hs6; subst e
      ((conv => whnf); repeat ((first | refine T_seq ?_ | refine T_z mix ?_ | refine T_cut ?_ | refine T_block ?_ | refine T_cond rfl ?_ | refine T_loop ?_ | refine storeEq rfl ?_ | refine drawGo (by kernel_rfl) ?_ | fail); (conv => whnf)))
      exact hn9 _ s4.1 h (weak_gen [] rfl rfl storeLe.nil (slotsLe.cons (And.intro rfl (AV.Le.refl _)) slotsLe.nil))
  · clear h h9
    intro s1 hc12
    have e := Option.some.inj hc12; subst e
    ((conv => whnf); repeat ((first | refine T_seq ?_ | refine T_z mix ?_ | refine T_cut ?_ | refine T_block ?_ | refine T_cond rfl ?_ | refine T_loop ?_ | refine storeEq rfl ?_ | refine drawGo (by kernel_rfl) ?_ | fail); (conv => whnf)))
    exact And.intro (AV.Le.refl _) rfl
theorem c_ranges_Find (p_l : (List T_api_Range)) (p_r : Int) (r : Int × Bool) (h : m_ranges_Find p_l p_r = some r) : Contract pl 78 [(e_L_api_Range p_l), (AV.int .i32 p_r)] [] (AV.tup [(AV.int .i64 r.1), (AV.bool r.2)]) [] := by
  refine contract_of (.t false .z (.t false .z (.t false (.t true .z .z) .z))) Tryd.func78 rfl (by kernel_rfl) ?_
  ((conv => whnf); repeat ((first | refine T_seq ?_ | refine T_z mix ?_ | refine T_cut ?_ | refine T_block ?_ | refine T_cond rfl ?_ | refine T_loop ?_ | refine storeEq rfl ?_ | refine drawGo (by kernel_rfl) ?_ | fail); (conv => whnf)))
  refine bnd h (fun y1 hy1 h => ?_)
  refine Or.inl ⟨_, c_sort_Search_ranges_Find_1 _ _ _ _ hy1, rfl, ?_⟩
  ((conv => whnf); repeat ((first | refine T_seq ?_ | refine T_z mix ?_ | refine T_cut ?_ | refine T_block ?_ | refine T_cond rfl ?_ | refine T_loop ?_ | refine storeEq rfl ?_ | refine drawGo (by kernel_rfl) ?_ | fail); (conv => whnf)))
  refine bnd h (fun x4 h4 h => ?_)
  refine cut_at (fun s2 : Bool => mkF 29 [(2, (.mp 0 0 0)), (6, (.int .i64 y1)), (23, (.bool s2))] [some ⟨1, 22, (.vals [(e_L_api_Range p_l)]), false, false⟩]) (fun s2 : Bool => m_ranges_Find_K3 p_l y1 s2 = some r) ?_ ?_
  · intro Kn4 hn4
    ((conv => whnf); repeat ((first | refine T_seq ?_ | refine T_z mix ?_ | refine T_cut ?_ | refine T_block ?_ | refine T_cond rfl ?_ | refine T_loop ?_ | refine storeEq rfl ?_ | refine drawGo (by kernel_rfl) ?_ | fail); (conv => whnf)))
    refine br_b rfl h4 (fun c5 h4 => ?_) (fun c5 h4 => ?_)
    · have e := Option.some.inj h4; subst e
      ((conv => whnf); repeat ((first | refine T_seq ?_ | refine T_z mix ?_ | refine T_cut ?_ | refine T_block ?_ | refine T_cond rfl ?_ | refine T_loop ?_ | refine storeEq rfl ?_ | refine drawGo (by kernel_rfl) ?_ | fail); (conv => whnf)))
      exact hn4 _ true h (weak_gen [0] rfl rfl (storeLe.cons rfl (objLe.mk (by intro hf; first | exact hf | rfl) (by intro hf; first | exact hf | rfl) (rowLe_vals (valsLe.cons (cellsLe.cons (And.intro rfl (AV.Le.refl _)) cellsLe.nil) valsLe.nil))) storeLe.nil) (slotsLe.cons (And.intro rfl (AV.Le.refl _)) (slotsLe.cons (And.intro rfl (AV.Le.refl _)) (slotsLe.cons (And.intro rfl (AV.Le.refl _)) slotsLe.nil))))
    · ((conv => whnf); repeat ((first | refine T_seq ?_ | refine T_z mix ?_ | refine T_cut ?_ | refine T_block ?_ | refine T_cond rfl ?_ | refine T_loop ?_ | refine storeEq rfl ?_ | refine drawGo (by kernel_rfl) ?_ | fail); (conv => whnf)))
      refine grd2 rfl rfl h4 (fun h4 => ?_)
      have e := Option.some.inj h4; subst e
      ((conv => whnf); repeat ((first | refine T_seq ?_ | refine T_z mix ?_ | refine T_cut ?_ | refine T_block ?_ | refine T_cond rfl ?_ | refine T_loop ?_ | refine storeEq rfl ?_ | refine drawGo (by kernel_rfl) ?_ | fail); (conv => whnf)))
      exact hn4 _ (decide ((p_l.getD (y1.toNat) d_api_Range).f_Lo > p_r)) h (weak_gen [0] rfl rfl (storeLe.cons rfl (objLe.mk (by intro hf; first | exact hf | rfl) (by intro hf; first | exact hf | rfl) (rowLe_vals (valsLe.cons (cellsLe.cons (And.intro rfl (AV.Le.refl _)) cellsLe.nil) valsLe.nil))) storeLe.nil) (slotsLe.cons (And.intro rfl (AV.Le.refl _)) (slotsLe.cons (And.intro rfl (AV.Le.refl _)) (slotsLe.cons (And.intro rfl (AV.Le.refl _)) slotsLe.nil))))
  · clear h h4
    intro s2 hc6
    ((conv => whnf); repeat ((first | refine T_seq ?_ | refine T_z mix ?_ | refine T_cut ?_ | refine T_block ?_ | refine T_cond rfl ?_ | refine T_loop ?_ | refine storeEq rfl ?_ | refine drawGo (by kernel_rfl) ?_ | fail); (conv => whnf)))
    refine br_b rfl hc6 (fun c7 hc6 => ?_) (fun c7 hc6 => ?_)
    · have e := Option.some.inj hc6; subst e
      ((conv => whnf); repeat ((first | refine T_seq ?_ | refine T_z mix ?_ | refine T_cut ?_ | refine T_block ?_ | refine T_cond rfl ?_ | refine T_loop ?_ | refine storeEq rfl ?_ | refine drawGo (by kernel_rfl) ?_ | fail); (conv => whnf)))
      exact And.intro (AV.Le.refl _) rfl
    · ((conv => whnf); repeat ((first | refine T_seq ?_ | refine T_z mix ?_ | refine T_cut ?_ | refine T_block ?_ | refine T_cond rfl ?_ | refine T_loop ?_ | refine storeEq rfl ?_ | refine drawGo (by kernel_rfl) ?_ | fail); (conv => whnf)))
      refine grd2 rfl rfl hc6 (fun hc6 => ?_)
      have e := Option.some.inj hc6; subst e
      ((conv => whnf); repeat ((first | refine T_seq ?_ | refine T_z mix ?_ | refine T_cut ?_ | refine T_block ?_ | refine T_cond rfl ?_ | refine T_loop ?_ | refine storeEq rfl ?_ | refine drawGo (by kernel_rfl) ?_ | fail); (conv => whnf)))
      exact And.intro (AV.Le.refl _) rfl
theorem c_classes_Joins (p_p : T_api_Props) (p_r : Int) (r : Int) (h : m_classes_Joins p_p p_r = some r) : Contract pl 150 [(e_api_Props p_p), (AV.int .i32 p_r)] [] (AV.int .i64 r) [] := by
  refine contract_of .z Tryd.func150 rfl (by kernel_rfl) ?_
  ((conv => whnf); repeat ((first | refine T_seq ?_ | refine T_z mix ?_ | refine T_cut ?_ | refine T_block ?_ | refine T_cond rfl ?_ | refine T_loop ?_ | refine storeEq rfl ?_ | refine drawGo (by kernel_rfl) ?_ | fail); (conv => whnf)))
  refine bnd h (fun y1 hy1 h => ?_)
  refine Or.inl ⟨_, c_ranges_Find _ _ _ hy1, rfl, ?_⟩
  have e := Option.some.inj h; subst e
  ((conv => whnf); repeat ((first | refine T_seq ?_ | refine T_z mix ?_ | refine T_cut ?_ | refine T_block ?_ | refine T_cond rfl ?_ | refine T_loop ?_ | refine storeEq rfl ?_ | refine drawGo (by kernel_rfl) ?_ | fail); (conv => whnf)))
  exact And.intro (AV.Le.refl _) rfl
theorem c_contexts_joined_1 (p_at : Int) (p_a1 : (List Int)) (p_a2 : T_api_Tables) (r : Int) (h : m_contexts_joined_1 p_at p_a1 p_a2 = some r) : Contract pl 149 [(AV.int .i64 p_at), (AV.ip (e_L_i32 p_a1) 0), (AV.ip (e_api_Tables p_a2) 0)] [] (AV.int .i64 r) [] := by
  refine contract_of (.t false .z (.t false (.t true .z .z) .z)) Tryd.func149 rfl (by kernel_rfl) ?_
  ((conv => whnf); repeat ((first | refine T_seq ?_ | refine T_z mix ?_ | refine T_cut ?_ | refine T_block ?_ | refine T_cond rfl ?_ | refine T_loop ?_ | refine storeEq rfl ?_ | refine drawGo (by kernel_rfl) ?_ | fail); (conv => whnf)))
  refine bnd h (fun x4 h4 h => ?_)
  refine cut_at (fun s1 : Bool => mkF 20 [(0, (.int .i64 p_at)), (1, (.ip (e_L_i32 p_a1) 0)), (2, (.ip (e_api_Tables p_a2) 0)), (12, (.bool s1))] []) (fun s1 : Bool => m_contexts_joined_1_K2 p_at p_a1 p_a2 s1 = some r) ?_ ?_
  · intro Kn4 hn4
    ((conv => whnf); repeat ((first | refine T_seq ?_ | refine T_z mix ?_ | refine T_cut ?_ | refine T_block ?_ | refine T_cond rfl ?_ | refine T_loop ?_ | refine storeEq rfl ?_ | refine drawGo (by kernel_rfl) ?_ | fail); (conv => whnf)))
    refine br_b rfl h4 (fun c5 h4 => ?_) (fun c5 h4 => ?_)
    · have e := Option.some.inj h4; subst e
      ((conv => whnf); repeat ((first | refine T_seq ?_ | refine T_z mix ?_ | refine T_cut ?_ | refine T_block ?_ | refine T_cond rfl ?_ | refine T_loop ?_ | refine storeEq rfl ?_ | refine drawGo (by kernel_rfl) ?_ | fail); (conv => whnf)))
      exact hn4 _ true h (weak_gen [] rfl rfl storeLe.nil (slotsLe.cons (And.intro rfl (AV.Le.refl _)) (slotsLe.cons (And.intro rfl (AV.Le.refl _)) (slotsLe.cons (And.intro rfl (AV.Le.refl _)) (slotsLe.cons (And.intro rfl (AV.Le.refl _)) slotsLe.nil)))))
    · have e := Option.some.inj h4; subst e
      ((conv => whnf); repeat ((first | refine T_seq ?_ | refine T_z mix ?_ | refine T_cut ?_ | refine T_block ?_ | refine T_cond rfl ?_ | refine T_loop ?_ | refine storeEq rfl ?_ | refine drawGo (by kernel_rfl) ?_ | fail); (conv => whnf)))
      exact hn4 _ (decide (p_at ≥ ((p_a1.length : Nat) : Int))) h (weak_gen [] rfl rfl storeLe.nil (slotsLe.cons (And.intro rfl (AV.Le.refl _)) (slotsLe.cons (And.intro rfl (AV.Le.refl _)) (slotsLe.cons (And.intro rfl (AV.Le.refl _)) (slotsLe.cons (And.intro rfl (AV.Le.refl _)) slotsLe.nil)))))
  · clear h h4
    intro s1 hc6
    ((conv => whnf); repeat ((first | refine T_seq ?_ | refine T_z mix ?_ | refine T_cut ?_ | refine T_block ?_ | refine T_cond rfl ?_ | refine T_loop ?_ | refine storeEq rfl ?_ | refine drawGo (by kernel_rfl) ?_ | fail); (conv => whnf)))
    refine br_b rfl hc6 (fun c7 hc6 => ?_) (fun c7 hc6 => ?_)
    · have e := Option.some.inj hc6; subst e
      ((conv => whnf); repeat ((first | refine T_seq ?_ | refine T_z mix ?_ | refine T_cut ?_ | refine T_block ?_ | refine T_cond rfl ?_ | refine T_loop ?_ | refine storeEq rfl ?_ | refine drawGo (by kernel_rfl) ?_ | fail); (conv => whnf)))
      exact And.intro (AV.Le.refl _) rfl
    · ((conv => whnf); repeat ((first | refine T_seq ?_ | refine T_z mix ?_ | refine T_cut ?_ | refine T_block ?_ | refine T_cond rfl ?_ | refine T_loop ?_ | refine storeEq rfl ?_ | refine drawGo (by kernel_rfl) ?_ | fail); (conv => whnf)))
      refine grd2 rfl rfl hc6 (fun hc6 => ?_)
      ((conv => whnf); repeat ((first | refine T_seq ?_ | refine T_z mix ?_ | refine T_cut ?_ | refine T_block ?_ | refine T_cond rfl ?_ | refine T_loop ?_ | refine storeEq rfl ?_ | refine drawGo (by kernel_rfl) ?_ | fail); (conv => whnf)))
      refine bnd hc6 (fun y3 hy3 hc6 => ?_)
      refine Or.inl ⟨_, c_classes_Joins _ _ _ hy3, rfl, ?_⟩
      have e := Option.some.inj hc6; subst e
      ((conv => whnf); repeat ((first | refine T_seq ?_ | refine T_z mix ?_ | refine T_cut ?_ | refine T_block ?_ | refine T_cond rfl ?_ | refine T_loop ?_ | refine storeEq rfl ?_ | refine drawGo (by kernel_rfl) ?_ | fail); (conv => whnf)))
      exact And.intro (AV.Le.refl _) rfl
theorem c_contexts_joined_2_contexts_joined_1 (p_at : Int) (p_by : Int) (p_a2 : (List Int)) (p_a3 : T_api_Tables) (r : Int) (h : m_contexts_joined_2_contexts_joined_1 p_at p_by p_a2 p_a3 = some r) : Contract pl 151 [(AV.int .i64 p_at), (AV.int .i64 p_by), (AV.ip (AV.fn (.func 149) [] [(AV.ip (e_L_i32 p_a2) 0), (AV.ip (e_api_Tables p_a3) 0)]) 0)] [] (AV.int .i64 r) [] := by
  refine contract_of (.t false .z (.t true .z .z)) Tryd.func151 rfl (by kernel_rfl) ?_
  ((conv => whnf); repeat ((first | refine T_seq ?_ | refine T_z mix ?_ | refine T_cut ?_ | refine T_block ?_ | refine T_cond rfl ?_ | refine T_loop ?_ | refine storeEq rfl ?_ | refine drawGo (by kernel_rfl) ?_ | fail); (conv => whnf)))
  refine bnd h (fun x10 h10 h => ?_)
  refine cut_at (fun s1 : Int => mkF 16 [(0, (.int .i64 s1)), (2, (.ip (.fn (.func 149) [] [(.ip (e_L_i32 p_a2) 0), (.ip (e_api_Tables p_a3) 0)]) 0))] []) (fun s1 : Int => m_contexts_joined_2_contexts_joined_1_K2 p_a2 p_a3 s1 = some r) ?_ ?_
  · intro Kn10 hn10
    ((conv => whnf); repeat ((first | refine T_seq ?_ | refine T_z mix ?_ | refine T_cut ?_ | refine T_block ?_ | refine T_cond rfl ?_ | refine T_loop ?_ | refine storeEq rfl ?_ | refine drawGo (by kernel_rfl) ?_ | fail); (conv => whnf)))
    refine loop_iter (fun s5 : Int => mkF 16 [(0, (.int .i64 s5)), (1, (.int .i64 p_by)), (2, (.ip (.fn (.func 149) [] [(.ip (e_L_i32 p_a2) 0), (.ip (e_api_Tables p_a3) 0)]) 0))] []) h10 (weak_gen [] rfl rfl storeLe.nil (slotsLe.cons (And.intro rfl (AV.Le.refl _)) (slotsLe.cons (And.intro rfl (AV.Le.refl _)) (slotsLe.cons (And.intro rfl (AV.Le.refl _)) slotsLe.nil)))) ?_
    intro k7 s5 st7 Kn7 hn7 h7_ hs7
    ((conv => whnf); repeat ((first | refine T_seq ?_ | refine T_z mix ?_ | refine T_cut ?_ | refine T_block ?_ | refine T_cond rfl ?_ | refine T_loop ?_ | refine storeEq rfl ?_ | refine drawGo (by kernel_rfl) ?_ | fail); (conv => whnf)))
    refine bnd h7_ (fun y8 hy8 h7_ => ?_)
    refine Or.inl ⟨_, c_contexts_joined_1 _ _ _ _ hy8, rfl, ?_⟩
    ((conv => whnf); repeat ((first | refine T_seq ?_ | refine T_z mix ?_ | refine T_cut ?_ | refine T_block ?_ | refine T_cond rfl ?_ | refine T_loop ?_ | refine storeEq rfl ?_ | refine drawGo (by kernel_rfl) ?_ | fail); (conv => whnf)))
    refine br_b rfl h7_ (fun c11 h7_ => ?_) (fun c11 h7_ => ?_)
    · have e := Option.some.inj h7_; subst e
      ((conv => whnf); repeat ((first | refine T_seq ?_ | refine T_z mix ?_ | refine T_cut ?_ | refine T_block ?_ | refine T_cond rfl ?_ | refine T_loop ?_ | refine storeEq rfl ?_ | refine drawGo (by kernel_rfl) ?_ | fail); (conv => whnf)))
      exact hn7 _ (IntKind.wrap .i64 (s5 + p_by)) hs7 (weak_gen [] rfl rfl storeLe.nil (slotsLe.cons (And.intro rfl (AV.Le.refl _)) (slotsLe.cons (And.intro rfl (AV.Le.refl _)) (slotsLe.cons (And.intro rfl (AV.Le.refl _)) slotsLe.nil))))
    · have e := Option.some.inj h7_; subst e
      have e := done_out hs7; subst e
      ((conv => whnf); repeat ((first | refine T_seq ?_ | refine T_z mix ?_ | refine T_cut ?_ | refine T_block ?_ | refine T_cond rfl ?_ | refine T_loop ?_ | refine storeEq rfl ?_ | refine drawGo (by kernel_rfl) ?_ | fail); (conv => whnf)))
      exact hn10 _ s5 h (weak_gen [] rfl rfl storeLe.nil (slotsLe.cons (And.intro rfl (AV.Le.refl _)) (slotsLe.cons (And.intro rfl (AV.Le.refl _)) slotsLe.nil)))
  · clear h h10
    intro s1 hc12
    ((conv => whnf); repeat ((first | refine T_seq ?_ | refine T_z mix ?_ | refine T_cut ?_ | refine T_block ?_ | refine T_cond rfl ?_ | refine T_loop ?_ | refine storeEq rfl ?_ | refine drawGo (by kernel_rfl) ?_ | fail); (conv => whnf)))
    refine bnd hc12 (fun y3 hy3 hc12 => ?_)
    refine Or.inl ⟨_, c_contexts_joined_1 _ _ _ _ hy3, rfl, ?_⟩
    have e := Option.some.inj hc12; subst e
    ((conv => whnf); repeat ((first | refine T_seq ?_ | refine T_z mix ?_ | refine T_cut ?_ | refine T_block ?_ | refine T_cond rfl ?_ | refine T_loop ?_ | refine storeEq rfl ?_ | refine drawGo (by kernel_rfl) ?_ | fail); (conv => whnf)))
    exact And.intro (AV.Le.refl _) rfl
theorem c_contexts_joined (p_t : T_api_Tables) (p_l : (List Int)) (p_i : Int) (r : Bool) (h : m_contexts_joined p_t p_l p_i = some r) : Contract pl 102 [(e_api_Tables p_t), (e_L_i32 p_l), (AV.int .i64 p_i)] [] (AV.bool r) [] := by
  refine contract_of .z Tryd.func102 rfl (by kernel_rfl) ?_
  ((conv => whnf); repeat ((first | refine T_seq ?_ | refine T_z mix ?_ | refine T_cut ?_ | refine T_block ?_ | refine T_cond rfl ?_ | refine T_loop ?_ | refine storeEq rfl ?_ | refine drawGo (by kernel_rfl) ?_ | fail); (conv => whnf)))
  refine bnd h (fun y1 hy1 h => ?_)
  refine Or.inl ⟨_, c_contexts_joined_2_contexts_joined_1 _ _ _ _ _ hy1, rfl, ?_⟩
  ((conv => whnf); repeat ((first | refine T_seq ?_ | refine T_z mix ?_ | refine T_cut ?_ | refine T_block ?_ | refine T_cond rfl ?_ | refine T_loop ?_ | refine storeEq rfl ?_ | refine drawGo (by kernel_rfl) ?_ | fail); (conv => whnf)))
  refine bnd h (fun y2 hy2 h => ?_)
  refine Or.inl ⟨_, c_contexts_joined_2_contexts_joined_1 _ _ _ _ _ hy2, rfl, ?_⟩
  ((conv => whnf); repeat ((first | refine T_seq ?_ | refine T_z mix ?_ | refine T_cut ?_ | refine T_block ?_ | refine T_cond rfl ?_ | refine T_loop ?_ | refine storeEq rfl ?_ | refine drawGo (by kernel_rfl) ?_ | fail); (conv => whnf)))
  refine br_b rfl h (fun c3 h => ?_) (fun c3 h => ?_)
  · ((conv => whnf); repeat ((first | refine T_seq ?_ | refine T_z mix ?_ | refine T_cut ?_ | refine T_block ?_ | refine T_cond rfl ?_ | refine T_loop ?_ | refine storeEq rfl ?_ | refine drawGo (by kernel_rfl) ?_ | fail); (conv => whnf)))
    refine br_b rfl h (fun c4 h => ?_) (fun c4 h => ?_)
    · have e := Option.some.inj h; subst e
      ((conv => whnf); repeat ((first | refine T_seq ?_ | refine T_z mix ?_ | refine T_cut ?_ | refine T_block ?_ | refine T_cond rfl ?_ | refine T_loop ?_ | refine storeEq rfl ?_ | refine drawGo (by kernel_rfl) ?_ | fail); (conv => whnf)))
      exact And.intro (AV.Le.refl _) rfl
    · have e := Option.some.inj h; subst e
      ((conv => whnf); repeat ((first | refine T_seq ?_ | refine T_z mix ?_ | refine T_cut ?_ | refine T_block ?_ | refine T_cond rfl ?_ | refine T_loop ?_ | refine storeEq rfl ?_ | refine drawGo (by kernel_rfl) ?_ | fail); (conv => whnf)))
      exact And.intro (AV.Le.refl _) rfl
  · ((conv => whnf); repeat ((first | refine T_seq ?_ | refine T_z mix ?_ | refine T_cut ?_ | refine T_block ?_ | refine T_cond rfl ?_ | refine T_loop ?_ | refine storeEq rfl ?_ | refine drawGo (by kernel_rfl) ?_ | fail); (conv => whnf)))
    refine br_b rfl h (fun c5 h => ?_) (fun c5 h => ?_)
    · ((conv => whnf); repeat ((first | refine T_seq ?_ | refine T_z mix ?_ | refine T_cut ?_ | refine T_block ?_ | refine T_cond rfl ?_ | refine T_loop ?_ | refine storeEq rfl ?_ | refine drawGo (by kernel_rfl) ?_ | fail); (conv => whnf)))
      refine br_b rfl h (fun c6 h => ?_) (fun c6 h => ?_)
      · have e := Option.some.inj h; subst e
        ((conv => whnf); repeat ((first | refine T_seq ?_ | refine T_z mix ?_ | refine T_cut ?_ | refine T_block ?_ | refine T_cond rfl ?_ | refine T_loop ?_ | refine storeEq rfl ?_ | refine drawGo (by kernel_rfl) ?_ | fail); (conv => whnf)))
        exact And.intro (AV.Le.refl _) rfl
      · have e := Option.some.inj h; subst e
        ((conv => whnf); repeat ((first | refine T_seq ?_ | refine T_z mix ?_ | refine T_cut ?_ | refine T_block ?_ | refine T_cond rfl ?_ | refine T_loop ?_ | refine storeEq rfl ?_ | refine drawGo (by kernel_rfl) ?_ | fail); (conv => whnf)))
        exact And.intro (AV.Le.refl _) rfl
    · have e := Option.some.inj h; subst e
      ((conv => whnf); repeat ((first | refine T_seq ?_ | refine T_z mix ?_ | refine T_cut ?_ | refine T_block ?_ | refine T_cond rfl ?_ | refine T_loop ?_ | refine storeEq rfl ?_ | refine drawGo (by kernel_rfl) ?_ | fail); (conv => whnf)))
      exact And.intro (AV.Le.refl _) rfl
theorem c_decomp_Class (p_t : T_api_Norm) (p_r : Int) (r : Int) (h : m_decomp_Class p_t p_r = some r) : Contract pl 35 [(e_api_Norm p_t), (AV.int .i32 p_r)] [] (AV.int .i64 r) [] := by
  refine contract_of .z Tryd.func35 rfl (by kernel_rfl) ?_
  ((conv => whnf); repeat ((first | refine T_seq ?_ | refine T_z mix ?_ | refine T_cut ?_ | refine T_block ?_ | refine T_cond rfl ?_ | refine T_loop ?_ | refine storeEq rfl ?_ | refine drawGo (by kernel_rfl) ?_ | fail); (conv => whnf)))
  refine bnd h (fun y1 hy1 h => ?_)
  refine Or.inl ⟨_, c_ranges_Find _ _ _ hy1, rfl, ?_⟩
  have e := Option.some.inj h; subst e
  ((conv => whnf); repeat ((first | refine T_seq ?_ | refine T_z mix ?_ | refine T_cut ?_ | refine T_block ?_ | refine T_cond rfl ?_ | refine T_loop ?_ | refine storeEq rfl ?_ | refine drawGo (by kernel_rfl) ?_ | fail); (conv => whnf)))
  exact And.intro (AV.Le.refl _) rfl
theorem c_contexts_Holds_2 (p_r : Int) (p_a1 : T_api_Tables) (r : Bool) (h : m_contexts_Holds_2 p_r p_a1 = some r) : Contract pl 104 [(AV.int .i32 p_r), (AV.ip (e_api_Tables p_a1) 0)] [] (AV.bool r) [] := by
  refine contract_of .z Tryd.func104 rfl (by kernel_rfl) ?_
  ((conv => whnf); repeat ((first | refine T_seq ?_ | refine T_z mix ?_ | refine T_cut ?_ | refine T_block ?_ | refine T_cond rfl ?_ | refine T_loop ?_ | refine storeEq rfl ?_ | refine drawGo (by kernel_rfl) ?_ | fail); (conv => whnf)))
  refine bnd h (fun y1 hy1 h => ?_)
  refine Or.inl ⟨_, c_decomp_Class _ _ _ hy1, rfl, ?_⟩
  have e := Option.some.inj h; subst e
  ((conv => whnf); repeat ((first | refine T_seq ?_ | refine T_z mix ?_ | refine T_cut ?_ | refine T_block ?_ | refine T_cond rfl ?_ | refine T_loop ?_ | refine storeEq rfl ?_ | refine drawGo (by kernel_rfl) ?_ | fail); (conv => whnf)))
  exact And.intro (AV.Le.refl _) rfl
theorem c_contexts_at_contexts_Holds_2 (p_l : (List Int)) (p_i : Int) (p_is : T_api_Tables) (r : Bool) (h : m_contexts_at_contexts_Holds_2 p_l p_i p_is = some r) : Contract pl 103 [(e_L_i32 p_l), (AV.int .i64 p_i), (AV.fn (.func 104) [] [(AV.ip (e_api_Tables p_is) 0)])] [] (AV.bool r) [] := by
  refine contract_of .z Tryd.func103 rfl (by kernel_rfl) ?_
  ((conv => whnf); repeat ((first | refine T_seq ?_ | refine T_z mix ?_ | refine T_cut ?_ | refine T_block ?_ | refine T_cond rfl ?_ | refine T_loop ?_ | refine storeEq rfl ?_ | refine drawGo (by kernel_rfl) ?_ | fail); (conv => whnf)))
  refine br_b rfl h (fun c2 h => ?_) (fun c2 h => ?_)
  · ((conv => whnf); repeat ((first | refine T_seq ?_ | refine T_z mix ?_ | refine T_cut ?_ | refine T_block ?_ | refine T_cond rfl ?_ | refine T_loop ?_ | refine storeEq rfl ?_ | refine drawGo (by kernel_rfl) ?_ | fail); (conv => whnf)))
    refine br_b rfl h (fun c3 h => ?_) (fun c3 h => ?_)
    · ((conv => whnf); repeat ((first | refine T_seq ?_ | refine T_z mix ?_ | refine T_cut ?_ | refine T_block ?_ | refine T_cond rfl ?_ | refine T_loop ?_ | refine storeEq rfl ?_ | refine drawGo (by kernel_rfl) ?_ | fail); (conv => whnf)))
      refine grd2 rfl rfl h (fun h => ?_)
      ((conv => whnf); repeat ((first | refine T_seq ?_ | refine T_z mix ?_ | refine T_cut ?_ | refine T_block ?_ | refine T_cond rfl ?_ | refine T_loop ?_ | refine storeEq rfl ?_ | refine drawGo (by kernel_rfl) ?_ | fail); (conv => whnf)))
      refine bnd h (fun y1 hy1 h => ?_)
      refine Or.inl ⟨_, c_contexts_Holds_2 _ _ _ hy1, rfl, ?_⟩
      have e := Option.some.inj h; subst e
      ((conv => whnf); repeat ((first | refine T_seq ?_ | refine T_z mix ?_ | refine T_cut ?_ | refine T_block ?_ | refine T_cond rfl ?_ | refine T_loop ?_ | refine storeEq rfl ?_ | refine drawGo (by kernel_rfl) ?_ | fail); (conv => whnf)))
      exact And.intro (AV.Le.refl _) rfl
    · have e := Option.some.inj h; subst e
      ((conv => whnf); repeat ((first | refine T_seq ?_ | refine T_z mix ?_ | refine T_cut ?_ | refine T_block ?_ | refine T_cond rfl ?_ | refine T_loop ?_ | refine storeEq rfl ?_ | refine drawGo (by kernel_rfl) ?_ | fail); (conv => whnf)))
      exact And.intro (AV.Le.refl _) rfl
  · have e := Option.some.inj h; subst e
    ((conv => whnf); repeat ((first | refine T_seq ?_ | refine T_z mix ?_ | refine T_cut ?_ | refine T_block ?_ | refine T_cond rfl ?_ | refine T_loop ?_ | refine storeEq rfl ?_ | refine drawGo (by kernel_rfl) ?_ | fail); (conv => whnf)))
    exact And.intro (AV.Le.refl _) rfl
theorem c_contexts_Holds_3 (p_r : Int) (r : Bool) (h : m_contexts_Holds_3 p_r = some r) : Contract pl 105 [(AV.int .i32 p_r)] [] (AV.bool r) [] := by
  refine contract_of .z Tryd.func105 rfl (by kernel_rfl) ?_
  have e := Option.some.inj h; subst e
  ((conv => whnf); repeat ((first | refine T_seq ?_ | refine T_z mix ?_ | refine T_cut ?_ | refine T_block ?_ | refine T_cond rfl ?_ | refine T_loop ?_ | refine storeEq rfl ?_ | refine drawGo (by kernel_rfl) ?_ | fail); (conv => whnf)))
  exact And.intro (AV.Le.refl _) rfl
theorem c_contexts_at_contexts_Holds_3 (p_l : (List Int)) (p_i : Int) (r : Bool) (h : m_contexts_at_contexts_Holds_3 p_l p_i = some r) : Contract pl 103 [(e_L_i32 p_l), (AV.int .i64 p_i), (AV.fn (.func 105) [] [])] [] (AV.bool r) [] := by
  refine contract_of .z Tryd.func103 rfl (by kernel_rfl) ?_
  ((conv => whnf); repeat ((first | refine T_seq ?_ | refine T_z mix ?_ | refine T_cut ?_ | refine T_block ?_ | refine T_cond rfl ?_ | refine T_loop ?_ | refine storeEq rfl ?_ | refine drawGo (by kernel_rfl) ?_ | fail); (conv => whnf)))
  refine br_b rfl h (fun c2 h => ?_) (fun c2 h => ?_)
  · ((conv => whnf); repeat ((first | refine T_seq ?_ | refine T_z mix ?_ | refine T_cut ?_ | refine T_block ?_ | refine T_cond rfl ?_ | refine T_loop ?_ | refine storeEq rfl ?_ | refine drawGo (by kernel_rfl) ?_ | fail); (conv => whnf)))
    refine br_b rfl h (fun c3 h => ?_) (fun c3 h => ?_)
    · ((conv => whnf); repeat ((first | refine T_seq ?_ | refine T_z mix ?_ | refine T_cut ?_ | refine T_block ?_ | refine T_cond rfl ?_ | refine T_loop ?_ | refine storeEq rfl ?_ | refine drawGo (by kernel_rfl) ?_ | fail); (conv => whnf)))
      refine grd2 rfl rfl h (fun h => ?_)
      ((conv => whnf); repeat ((first | refine T_seq ?_ | refine T_z mix ?_ | refine T_cut ?_ | refine T_block ?_ | refine T_cond rfl ?_ | refine T_loop ?_ | refine storeEq rfl ?_ | refine drawGo (by kernel_rfl) ?_ | fail); (conv => whnf)))
      refine bnd h (fun y1 hy1 h => ?_)
      refine Or.inl ⟨_, c_contexts_Holds_3 _ _ hy1, rfl, ?_⟩
      have e := Option.some.inj h; subst e
      ((conv => whnf); repeat ((first | refine T_seq ?_ | refine T_z mix ?_ | refine T_cut ?_ | refine T_block ?_ | refine T_cond rfl ?_ | refine T_loop ?_ | refine storeEq rfl ?_ | refine drawGo (by kernel_rfl) ?_ | fail); (conv => whnf)))
      exact And.intro (AV.Le.refl _) rfl
    · have e := Option.some.inj h; subst e
      ((conv => whnf); repeat ((first | refine T_seq ?_ | refine T_z mix ?_ | refine T_cut ?_ | refine T_block ?_ | refine T_cond rfl ?_ | refine T_loop ?_ | refine storeEq rfl ?_ | refine drawGo (by kernel_rfl) ?_ | fail); (conv => whnf)))
      exact And.intro (AV.Le.refl _) rfl
  · have e := Option.some.inj h; subst e
    ((conv => whnf); repeat ((first | refine T_seq ?_ | refine T_z mix ?_ | refine T_cut ?_ | refine T_block ?_ | refine T_cond rfl ?_ | refine T_loop ?_ | refine storeEq rfl ?_ | refine drawGo (by kernel_rfl) ?_ | fail); (conv => whnf)))
    exact And.intro (AV.Le.refl _) rfl
theorem c_contexts_Holds_1 (p_want : (List Int)) (p_a1 : T_api_Tables) (r : (List Int) × T_api_Tables) (h : m_contexts_Holds_1 p_want p_a1 = some r) : Contract pl 99 [(e_L_i64 p_want), (AV.ip (e_api_Tables p_a1) 0)] [] (AV.fn (.func 100) [] [(AV.ip (e_L_i64 r.1) 0), (AV.ip (e_api_Tables r.2) 0)]) [] := by
  refine contract_of .z Tryd.func99 rfl (by kernel_rfl) ?_
  have e := Option.some.inj h; subst e
  ((conv => whnf); repeat ((first | refine T_seq ?_ | refine T_z mix ?_ | refine T_cut ?_ | refine T_block ?_ | refine T_cond rfl ?_ | refine T_loop ?_ | refine storeEq rfl ?_ | refine drawGo (by kernel_rfl) ?_ | fail); (conv => whnf)))
  exact And.intro (AV.Le.refl _) rfl
theorem c_classes_Script (p_p : T_api_Props) (p_r : Int) (r : Int) (h : m_classes_Script p_p p_r = some r) : Contract pl 101 [(e_api_Props p_p), (AV.int .i32 p_r)] [] (AV.int .i64 r) [] := by
  refine contract_of .z Tryd.func101 rfl (by kernel_rfl) ?_
  ((conv => whnf); repeat ((first | refine T_seq ?_ | refine T_z mix ?_ | refine T_cut ?_ | refine T_block ?_ | refine T_cond rfl ?_ | refine T_loop ?_ | refine storeEq rfl ?_ | refine drawGo (by kernel_rfl) ?_ | fail); (conv => whnf)))
  refine bnd h (fun y1 hy1 h => ?_)
  refine Or.inl ⟨_, c_ranges_Find _ _ _ hy1, rfl, ?_⟩
  have e := Option.some.inj h; subst e
  ((conv => whnf); repeat ((first | refine T_seq ?_ | refine T_z mix ?_ | refine T_cut ?_ | refine T_block ?_ | refine T_cond rfl ?_ | refine T_loop ?_ | refine storeEq rfl ?_ | refine drawGo (by kernel_rfl) ?_ | fail); (conv => whnf)))
  exact And.intro (AV.Le.refl _) rfl
theorem c_contexts_Holds_1_1 (p_r : Int) (p_a1 : (List Int)) (p_a2 : T_api_Tables) (r : Bool) (h : m_contexts_Holds_1_1 p_r p_a1 p_a2 = some r) : Contract pl 100 [(AV.int .i32 p_r), (AV.ip (e_L_i64 p_a1) 0), (AV.ip (e_api_Tables p_a2) 0)] [] (AV.bool r) [] := by
  refine contract_of (.t false .z (.t true .z .z)) Tryd.func100 rfl (by kernel_rfl) ?_
  ((conv => whnf); repeat ((first | refine T_seq ?_ | refine T_z mix ?_ | refine T_cut ?_ | refine T_block ?_ | refine T_cond rfl ?_ | refine T_loop ?_ | refine storeEq rfl ?_ | refine drawGo (by kernel_rfl) ?_ | fail); (conv => whnf)))
  refine bnd h (fun x11 h11 h => ?_)
  refine cut_at (fun s1 : Unit => mkF 20 [] []) (fun s1 : Unit => some false = some r) ?_ ?_
  · intro Kn11 hn11
    ((conv => whnf); repeat ((first | refine T_seq ?_ | refine T_z mix ?_ | refine T_cut ?_ | refine T_block ?_ | refine T_cond rfl ?_ | refine T_loop ?_ | refine storeEq rfl ?_ | refine drawGo (by kernel_rfl) ?_ | fail); (conv => whnf)))
    refine loop_iter (fun s4 : Int => mkF 20 [(0, (.int .i32 p_r)), (2, (.ip (e_api_Tables p_a2) 0)), (7, (e_L_i64 p_a1)), (8, (.int .i64 ((p_a1.length : Nat) : Int))), (9, (.int .i64 s4))] []) h11 (weak_gen [] rfl rfl storeLe.nil (slotsLe.cons (And.intro rfl (AV.Le.refl _)) (slotsLe.cons (And.intro rfl (AV.Le.refl _)) (slotsLe.cons (And.intro rfl (AV.Le.refl _)) (slotsLe.cons (And.intro rfl (AV.Le.refl _)) (slotsLe.cons (And.intro rfl (AV.Le.refl _)) slotsLe.nil)))))) ?_
    intro k6 s4 st6 Kn6 hn6 h6_ hs6
    ((conv => whnf); repeat ((first | refine T_seq ?_ | refine T_z mix ?_ | refine T_cut ?_ | refine T_block ?_ | refine T_cond rfl ?_ | refine T_loop ?_ | refine storeEq rfl ?_ | refine drawGo (by kernel_rfl) ?_ | fail); (conv => whnf)))
    refine br_b rfl h6_ (fun c12 h6_ => ?_) (fun c12 h6_ => ?_)
    · ((conv => whnf); repeat ((first | refine T_seq ?_ | refine T_z mix ?_ | refine T_cut ?_ | refine T_block ?_ | refine T_cond rfl ?_ | refine T_loop ?_ | refine storeEq rfl ?_ | refine drawGo (by kernel_rfl) ?_ | fail); (conv => whnf)))
      refine grd2 rfl rfl h6_ (fun h6_ => ?_)
      ((conv => whnf); repeat ((first | refine T_seq ?_ | refine T_z mix ?_ | refine T_cut ?_ | refine T_block ?_ | refine T_cond rfl ?_ | refine T_loop ?_ | refine storeEq rfl ?_ | refine drawGo (by kernel_rfl) ?_ | fail); (conv => whnf)))
      refine bnd h6_ (fun y7 hy7 h6_ => ?_)
      refine Or.inl ⟨_, c_classes_Script _ _ _ hy7, rfl, ?_⟩
      ((conv => whnf); repeat ((first | refine T_seq ?_ | refine T_z mix ?_ | refine T_cut ?_ | refine T_block ?_ | refine T_cond rfl ?_ | refine T_loop ?_ | refine storeEq rfl ?_ | refine drawGo (by kernel_rfl) ?_ | fail); (conv => whnf)))
      refine br_b rfl h6_ (fun c13 h6_ => ?_) (fun c13 h6_ => ?_)
      · have e := Option.some.inj h6_; subst e
        have e := done_out hs6; subst e
        have e := Option.some.inj h; subst e
        ((conv => whnf); repeat ((first | refine T_seq ?_ | refine T_z mix ?_ | refine T_cut ?_ | refine T_block ?_ | refine T_cond rfl ?_ | refine T_loop ?_ | refine storeEq rfl ?_ | refine drawGo (by kernel_rfl) ?_ | fail); (conv => whnf)))
        exact And.intro (AV.Le.refl _) rfl
      · have e := Option.some.inj h6_; subst e
        ((conv => whnf); repeat ((first | refine T_seq ?_ | refine T_z mix ?_ | refine T_cut ?_ | refine T_block ?_ | refine T_cond rfl ?_ | refine T_loop ?_ | refine storeEq rfl ?_ | refine drawGo (by kernel_rfl) ?_ | fail); (conv => whnf)))
        exact hn6 _ (IntKind.wrap .i64 (s4 + (1 : Int))) hs6 (weak_gen [] rfl rfl storeLe.nil (slotsLe.cons (And.intro rfl (AV.Le.refl _)) (slotsLe.cons (And.intro rfl (AV.Le.refl _)) (slotsLe.cons (And.intro rfl (AV.Le.refl _)) (slotsLe.cons (And.intro rfl (AV.Le.refl _)) (slotsLe.cons (And.intro rfl (AV.Le.refl _)) slotsLe.nil))))))
    · have e := Option.some.inj h6_; subst e
      have e := done_out hs6; subst e
      ((conv => whnf); repeat ((first | refine T_seq ?_ | refine T_z mix ?_ | refine T_cut ?_ | refine T_block ?_ | refine T_cond rfl ?_ | refine T_loop ?_ | refine storeEq rfl ?_ | refine drawGo (by kernel_rfl) ?_ | fail); (conv => whnf)))
      exact hn11 _ () h (weak_gen [] rfl rfl storeLe.nil slotsLe.nil)
  · clear h h11
    intro s1 hc14
    have e := Option.some.inj hc14; subst e
    ((conv => whnf); repeat ((first | refine T_seq ?_ | refine T_z mix ?_ | refine T_cut ?_ | refine T_block ?_ | refine T_cond rfl ?_ | refine T_loop ?_ | refine storeEq rfl ?_ | refine drawGo (by kernel_rfl) ?_ | fail); (conv => whnf)))
    exact And.intro (AV.Le.refl _) rfl
theorem c_contexts_at_contexts_Holds_1_1 (p_l : (List Int)) (p_i : Int) (p_is : (List Int)) (p_a3 : T_api_Tables) (r : Bool) (h : m_contexts_at_contexts_Holds_1_1 p_l p_i p_is p_a3 = some r) : Contract pl 103 [(e_L_i32 p_l), (AV.int .i64 p_i), (AV.fn (.func 100) [] [(AV.ip (e_L_i64 p_is) 0), (AV.ip (e_api_Tables p_a3) 0)])] [] (AV.bool r) [] := by
  refine contract_of .z Tryd.func103 rfl (by kernel_rfl) ?_
  ((conv => whnf); repeat ((first | refine T_seq ?_ | refine T_z mix ?_ | refine T_cut ?_ | refine T_block ?_ | refine T_cond rfl ?_ | refine T_loop ?_ | refine storeEq rfl ?_ | refine drawGo (by kernel_rfl) ?_ | fail); (conv => whnf)))
  refine br_b rfl h (fun c2 h => ?_) (fun c2 h => ?_)
  · ((conv => whnf); repeat ((first | refine T_seq ?_ | refine T_z mix ?_ | refine T_cut ?_ | refine T_block ?_ | refine T_cond rfl ?_ | refine T_loop ?_ | refine storeEq rfl ?_ | refine drawGo (by kernel_rfl) ?_ | fail); (conv => whnf)))
    refine br_b rfl h (fun c3 h => ?_) (fun c3 h => ?_)
    · ((conv => whnf); repeat ((first | refine T_seq ?_ | refine T_z mix ?_ | refine T_cut ?_ | refine T_block ?_ | refine T_cond rfl ?_ | refine T_loop ?_ | refine storeEq rfl ?_ | refine drawGo (by kernel_rfl) ?_ | fail); (conv => whnf)))
      refine grd2 rfl rfl h (fun h => ?_)
      ((conv => whnf); repeat ((first | refine T_seq ?_ | refine T_z mix ?_ | refine T_cut ?_ | refine T_block ?_ | refine T_cond rfl ?_ | refine T_loop ?_ | refine storeEq rfl ?_ | refine drawGo (by kernel_rfl) ?_ | fail); (conv => whnf)))
      refine bnd h (fun y1 hy1 h => ?_)
      refine Or.inl ⟨_, c_contexts_Holds_1_1 _ _ _ _ hy1, rfl, ?_⟩
      have e := Option.some.inj h; subst e
      ((conv => whnf); repeat ((first | refine T_seq ?_ | refine T_z mix ?_ | refine T_cut ?_ | refine T_block ?_ | refine T_cond rfl ?_ | refine T_loop ?_ | refine storeEq rfl ?_ | refine drawGo (by kernel_rfl) ?_ | fail); (conv => whnf)))
      exact And.intro (AV.Le.refl _) rfl
    · have e := Option.some.inj h; subst e
      ((conv => whnf); repeat ((first | refine T_seq ?_ | refine T_z mix ?_ | refine T_cut ?_ | refine T_block ?_ | refine T_cond rfl ?_ | refine T_loop ?_ | refine storeEq rfl ?_ | refine drawGo (by kernel_rfl) ?_ | fail); (conv => whnf)))
      exact And.intro (AV.Le.refl _) rfl
  · have e := Option.some.inj h; subst e
    ((conv => whnf); repeat ((first | refine T_seq ?_ | refine T_z mix ?_ | refine T_cut ?_ | refine T_block ?_ | refine T_cond rfl ?_ | refine T_loop ?_ | refine storeEq rfl ?_ | refine drawGo (by kernel_rfl) ?_ | fail); (conv => whnf)))
    exact And.intro (AV.Le.refl _) rfl
theorem c_contexts_some_contexts_Holds_1_1 (p_l : (List Int)) (p_is : (List Int)) (p_a2 : T_api_Tables) (r : Bool) (h : m_contexts_some_contexts_Holds_1_1 p_l p_is p_a2 = some r) : Contract pl 106 [(e_L_i32 p_l), (AV.fn (.func 100) [] [(AV.ip (e_L_i64 p_is) 0), (AV.ip (e_api_Tables p_a2) 0)])] [] (AV.bool r) [] := by
  refine contract_of (.t false .z (.t true .z .z)) Tryd.func106 rfl (by kernel_rfl) ?_
  ((conv => whnf); repeat ((first | refine T_seq ?_ | refine T_z mix ?_ | refine T_cut ?_ | refine T_block ?_ | refine T_cond rfl ?_ | refine T_loop ?_ | refine storeEq rfl ?_ | refine drawGo (by kernel_rfl) ?_ | fail); (conv => whnf)))
  refine bnd h (fun x11 h11 h => ?_)
  refine cut_at (fun s1 : Unit => mkF 16 [] []) (fun s1 : Unit => some false = some r) ?_ ?_
  · intro Kn11 hn11
    ((conv => whnf); repeat ((first | refine T_seq ?_ | refine T_z mix ?_ | refine T_cut ?_ | refine T_block ?_ | refine T_cond rfl ?_ | refine T_loop ?_ | refine storeEq rfl ?_ | refine drawGo (by kernel_rfl) ?_ | fail); (conv => whnf)))
    refine loop_iter (fun s4 : Int => mkF 16 [(0, (e_L_i32 p_l)), (1, (.fn (.func 100) [] [(.ip (e_L_i64 p_is) 0), (.ip (e_api_Tables p_a2) 0)])), (7, (.int .i64 ((p_l.length : Nat) : Int))), (8, (.int .i64 s4))] []) h11 (weak_gen [] rfl rfl storeLe.nil (slotsLe.cons (And.intro rfl (AV.Le.refl _)) (slotsLe.cons (And.intro rfl (AV.Le.refl _)) (slotsLe.cons (And.intro rfl (AV.Le.refl _)) (slotsLe.cons (And.intro rfl (AV.Le.refl _)) slotsLe.nil))))) ?_
    intro k6 s4 st6 Kn6 hn6 h6_ hs6
    ((conv => whnf); repeat ((first | refine T_seq ?_ | refine T_z mix ?_ | refine T_cut ?_ | refine T_block ?_ | refine T_cond rfl ?_ | refine T_loop ?_ | refine storeEq rfl ?_ | refine drawGo (by kernel_rfl) ?_ | fail); (conv => whnf)))
    refine br_b rfl h6_ (fun c12 h6_ => ?_) (fun c12 h6_ => ?_)
    · ((conv => whnf); repeat ((first | refine T_seq ?_ | refine T_z mix ?_ | refine T_cut ?_ | refine T_block ?_ | refine T_cond rfl ?_ | refine T_loop ?_ | refine storeEq rfl ?_ | refine drawGo (by kernel_rfl) ?_ | fail); (conv => whnf)))
      refine bnd h6_ (fun y7 hy7 h6_ => ?_)
      refine Or.inl ⟨_, c_contexts_at_contexts_Holds_1_1 _ _ _ _ _ hy7, rfl, ?_⟩
      ((conv => whnf); repeat ((first | refine T_seq ?_ | refine T_z mix ?_ | refine T_cut ?_ | refine T_block ?_ | refine T_cond rfl ?_ | refine T_loop ?_ | refine storeEq rfl ?_ | refine drawGo (by kernel_rfl) ?_ | fail); (conv => whnf)))
      refine br_b rfl h6_ (fun c13 h6_ => ?_) (fun c13 h6_ => ?_)
      · have e := Option.some.inj h6_; subst e
        have e := done_out hs6; subst e
        have e := Option.some.inj h; subst e
        ((conv => whnf); repeat ((first | refine T_seq ?_ | refine T_z mix ?_ | refine T_cut ?_ | refine T_block ?_ | refine T_cond rfl ?_ | refine T_loop ?_ | refine storeEq rfl ?_ | refine drawGo (by kernel_rfl) ?_ | fail); (conv => whnf)))
        exact And.intro (AV.Le.refl _) rfl
      · have e := Option.some.inj h6_; subst e
        ((conv => whnf); repeat ((first | refine T_seq ?_ | refine T_z mix ?_ | refine T_cut ?_ | refine T_block ?_ | refine T_cond rfl ?_ | refine T_loop ?_ | refine storeEq rfl ?_ | refine drawGo (by kernel_rfl) ?_ | fail); (conv => whnf)))
        exact hn6 _ (IntKind.wrap .i64 (s4 + (1 : Int))) hs6 (weak_gen [] rfl rfl storeLe.nil (slotsLe.cons (And.intro rfl (AV.Le.refl _)) (slotsLe.cons (And.intro rfl (AV.Le.refl _)) (slotsLe.cons (And.intro rfl (AV.Le.refl _)) (slotsLe.cons (And.intro rfl (AV.Le.refl _)) slotsLe.nil)))))
    · have e := Option.some.inj h6_; subst e
      have e := done_out hs6; subst e
      ((conv => whnf); repeat ((first | refine T_seq ?_ | refine T_z mix ?_ | refine T_cut ?_ | refine T_block ?_ | refine T_cond rfl ?_ | refine T_loop ?_ | refine storeEq rfl ?_ | refine drawGo (by kernel_rfl) ?_ | fail); (conv => whnf)))
      exact hn11 _ () h (weak_gen [] rfl rfl storeLe.nil slotsLe.nil)
  · clear h h11
    intro s1 hc14
    have e := Option.some.inj hc14; subst e
    ((conv => whnf); repeat ((first | refine T_seq ?_ | refine T_z mix ?_ | refine T_cut ?_ | refine T_block ?_ | refine T_cond rfl ?_ | refine T_loop ?_ | refine storeEq rfl ?_ | refine drawGo (by kernel_rfl) ?_ | fail); (conv => whnf)))
    exact And.intro (AV.Le.refl _) rfl
theorem c_contexts_Holds_4 (p_r : Int) (p_a1 : Int) (r : Bool) (h : m_contexts_Holds_4 p_r p_a1 = some r) : Contract pl 107 [(AV.int .i32 p_r), (AV.ip (AV.int .i64 p_a1) 0)] [] (AV.bool r) [] := by
  refine contract_of .z Tryd.func107 rfl (by kernel_rfl) ?_
  ((conv => whnf); repeat ((first | refine T_seq ?_ | refine T_z mix ?_ | refine T_cut ?_ | refine T_block ?_ | refine T_cond rfl ?_ | refine T_loop ?_ | refine storeEq rfl ?_ | refine drawGo (by kernel_rfl) ?_ | fail); (conv => whnf)))
  refine bnd h (fun y1 hy1 h => ?_)
  refine Or.inl ⟨_, c_contexts_Rule _ _ hy1, rfl, ?_⟩
  have e := Option.some.inj h; subst e
  ((conv => whnf); repeat ((first | refine T_seq ?_ | refine T_z mix ?_ | refine T_cut ?_ | refine T_block ?_ | refine T_cond rfl ?_ | refine T_loop ?_ | refine storeEq rfl ?_ | refine drawGo (by kernel_rfl) ?_ | fail); (conv => whnf)))
  exact And.intro (AV.Le.refl _) rfl
theorem c_contexts_at_contexts_Holds_4 (p_l : (List Int)) (p_i : Int) (p_is : Int) (r : Bool) (h : m_contexts_at_contexts_Holds_4 p_l p_i p_is = some r) : Contract pl 103 [(e_L_i32 p_l), (AV.int .i64 p_i), (AV.fn (.func 107) [] [(AV.ip (AV.int .i64 p_is) 0)])] [] (AV.bool r) [] := by
  refine contract_of .z Tryd.func103 rfl (by kernel_rfl) ?_
  ((conv => whnf); repeat ((first | refine T_seq ?_ | refine T_z mix ?_ | refine T_cut ?_ | refine T_block ?_ | refine T_cond rfl ?_ | refine T_loop ?_ | refine storeEq rfl ?_ | refine drawGo (by kernel_rfl) ?_ | fail); (conv => whnf)))
  refine br_b rfl h (fun c2 h => ?_) (fun c2 h => ?_)
  · ((conv => whnf); repeat ((first | refine T_seq ?_ | refine T_z mix ?_ | refine T_cut ?_ | refine T_block ?_ | refine T_cond rfl ?_ | refine T_loop ?_ | refine storeEq rfl ?_ | refine drawGo (by kernel_rfl) ?_ | fail); (conv => whnf)))
    refine br_b rfl h (fun c3 h => ?_) (fun c3 h => ?_)
    · ((conv => whnf); repeat ((first | refine T_seq ?_ | refine T_z mix ?_ | refine T_cut ?_ | refine T_block ?_ | refine T_cond rfl ?_ | refine T_loop ?_ | refine storeEq rfl ?_ | refine drawGo (by kernel_rfl) ?_ | fail); (conv => whnf)))
      refine grd2 rfl rfl h (fun h => ?_)
      ((conv => whnf); repeat ((first | refine T_seq ?_ | refine T_z mix ?_ | refine T_cut ?_ | refine T_block ?_ | refine T_cond rfl ?_ | refine T_loop ?_ | refine storeEq rfl ?_ | refine drawGo (by kernel_rfl) ?_ | fail); (conv => whnf)))
      refine bnd h (fun y1 hy1 h => ?_)
      refine Or.inl ⟨_, c_contexts_Holds_4 _ _ _ hy1, rfl, ?_⟩
      have e := Option.some.inj h; subst e
      ((conv => whnf); repeat ((first | refine T_seq ?_ | refine T_z mix ?_ | refine T_cut ?_ | refine T_block ?_ | refine T_cond rfl ?_ | refine T_loop ?_ | refine storeEq rfl ?_ | refine drawGo (by kernel_rfl) ?_ | fail); (conv => whnf)))
      exact And.intro (AV.Le.refl _) rfl
    · have e := Option.some.inj h; subst e
      ((conv => whnf); repeat ((first | refine T_seq ?_ | refine T_z mix ?_ | refine T_cut ?_ | refine T_block ?_ | refine T_cond rfl ?_ | refine T_loop ?_ | refine storeEq rfl ?_ | refine drawGo (by kernel_rfl) ?_ | fail); (conv => whnf)))
      exact And.intro (AV.Le.refl _) rfl
  · have e := Option.some.inj h; subst e
    ((conv => whnf); repeat ((first | refine T_seq ?_ | refine T_z mix ?_ | refine T_cut ?_ | refine T_block ?_ | refine T_cond rfl ?_ | refine T_loop ?_ | refine storeEq rfl ?_ | refine drawGo (by kernel_rfl) ?_ | fail); (conv => whnf)))
    exact And.intro (AV.Le.refl _) rfl
theorem c_contexts_some_contexts_Holds_4 (p_l : (List Int)) (p_is : Int) (r : Bool) (h : m_contexts_some_contexts_Holds_4 p_l p_is = some r) : Contract pl 106 [(e_L_i32 p_l), (AV.fn (.func 107) [] [(AV.ip (AV.int .i64 p_is) 0)])] [] (AV.bool r) [] := by
  refine contract_of (.t false .z (.t true .z .z)) Tryd.func106 rfl (by kernel_rfl) ?_
  ((conv => whnf); repeat ((first | refine T_seq ?_ | refine T_z mix ?_ | refine T_cut ?_ | refine T_block ?_ | refine T_cond rfl ?_ | refine T_loop ?_ | refine storeEq rfl ?_ | refine drawGo (by kernel_rfl) ?_ | fail); (conv => whnf)))
  refine bnd h (fun x11 h11 h => ?_)
  refine cut_at (fun s1 : Unit => mkF 16 [] []) (fun s1 : Unit => some false = some r) ?_ ?_
  · intro Kn11 hn11
    ((conv => whnf); repeat ((first | refine T_seq ?_ | refine T_z mix ?_ | refine T_cut ?_ | refine T_block ?_ | refine T_cond rfl ?_ | refine T_loop ?_ | refine storeEq rfl ?_ | refine drawGo (by kernel_rfl) ?_ | fail); (conv => whnf)))
    refine loop_iter (fun s4 : Int => mkF 16 [(0, (e_L_i32 p_l)), (1, (.fn (.func 107) [] [(.ip (.int .i64 p_is) 0)])), (7, (.int .i64 ((p_l.length : Nat) : Int))), (8, (.int .i64 s4))] []) h11 (weak_gen [] rfl rfl storeLe.nil (slotsLe.cons (And.intro rfl (AV.Le.refl _)) (slotsLe.cons (And.intro rfl (AV.Le.refl _)) (slotsLe.cons (And.intro rfl (AV.Le.refl _)) (slotsLe.cons (And.intro rfl (AV.Le.refl _)) slotsLe.nil))))) ?_
    intro k6 s4 st6 Kn6 hn6 h6_ hs6
    ((conv => whnf); repeat ((first | refine T_seq ?_ | refine T_z mix ?_ | refine T_cut ?_ | refine T_block ?_ | refine T_cond rfl ?_ | refine T_loop ?_ | refine storeEq rfl ?_ | refine drawGo (by kernel_rfl) ?_ | fail); (conv => whnf)))
    refine br_b rfl h6_ (fun c12 h6_ => ?_) (fun c12 h6_ => ?_)
    · ((conv => whnf); repeat ((first | refine T_seq ?_ | refine T_z mix ?_ | refine T_cut ?_ | refine T_block ?_ | refine T_cond rfl ?_ | refine T_loop ?_ | refine storeEq rfl ?_ | refine drawGo (by kernel_rfl) ?_ | fail); (conv => whnf)))
      refine bnd h6_ (fun y7 hy7 h6_ => ?_)
      refine Or.inl ⟨_, c_contexts_at_contexts_Holds_4 _ _ _ _ hy7, rfl, ?_⟩
      ((conv => whnf); repeat ((first | refine T_seq ?_ | refine T_z mix ?_ | refine T_cut ?_ | refine T_block ?_ | refine T_cond rfl ?_ | refine T_loop ?_ | refine storeEq rfl ?_ | refine drawGo (by kernel_rfl) ?_ | fail); (conv => whnf)))
      refine br_b rfl h6_ (fun c13 h6_ => ?_) (fun c13 h6_ => ?_)
      · have e := Option.some.inj h6_; subst e
        have e := done_out hs6; subst e
        have e := Option.some.inj h; subst e
        ((conv => whnf); repeat ((first | refine T_seq ?_ | refine T_z mix ?_ | refine T_cut ?_ | refine T_block ?_ | refine T_cond rfl ?_ | refine T_loop ?_ | refine storeEq rfl ?_ | refine drawGo (by kernel_rfl) ?_ | fail); (conv => whnf)))
        exact And.intro (AV.Le.refl _) rfl
      · have e := Option.some.inj h6_; subst e
        ((conv => whnf); repeat ((first | refine T_seq ?_ | refine T_z mix ?_ | refine T_cut ?_ | refine T_block ?_ | refine T_cond rfl ?_ | refine T_loop ?_ | refine storeEq rfl ?_ | refine drawGo (by kernel_rfl) ?_ | fail); (conv => whnf)))
        exact hn6 _ (IntKind.wrap .i64 (s4 + (1 : Int))) hs6 (weak_gen [] rfl rfl storeLe.nil (slotsLe.cons (And.intro rfl (AV.Le.refl _)) (slotsLe.cons (And.intro rfl (AV.Le.refl _)) (slotsLe.cons (And.intro rfl (AV.Le.refl _)) (slotsLe.cons (And.intro rfl (AV.Le.refl _)) slotsLe.nil)))))
    · have e := Option.some.inj h6_; subst e
      have e := done_out hs6; subst e
      ((conv => whnf); repeat ((first | refine T_seq ?_ | refine T_z mix ?_ | refine T_cut ?_ | refine T_block ?_ | refine T_cond rfl ?_ | refine T_loop ?_ | refine storeEq rfl ?_ | refine drawGo (by kernel_rfl) ?_ | fail); (conv => whnf)))
      exact hn11 _ () h (weak_gen [] rfl rfl storeLe.nil slotsLe.nil)
  · clear h h11
    intro s1 hc14
    have e := Option.some.inj hc14; subst e
    ((conv => whnf); repeat ((first | refine T_seq ?_ | refine T_z mix ?_ | refine T_cut ?_ | refine T_block ?_ | refine T_cond rfl ?_ | refine T_loop ?_ | refine storeEq rfl ?_ | refine drawGo (by kernel_rfl) ?_ | fail); (conv => whnf)))
    exact And.intro (AV.Le.refl _) rfl
theorem c_contexts_Holds (p_t : T_api_Tables) (p_l : (List Int)) (p_i : Int) (r : Bool) (h : m_contexts_Holds p_t p_l p_i = some r) : Contract pl 52 [(e_api_Tables p_t), (e_L_i32 p_l), (AV.int .i64 p_i)] [] (AV.bool r) [] := by
  refine contract_of (.t false .z (.t false (.t true .z .z) (.t false .z (.t false .z (.t false (.t false .z (.t false (.t false (.t false (.t false (.t false (.t false (.t false (.t false (.t false (.t false (.t false (.t false (.t false (.t false (.t false (.t false (.t false .z (.t false .z (.t false .z (.t false .z (.t false .z (.t false .z (.t true .z .z))))))) .z) .z) .z) .z) .z) .z) .z) .z) .z) .z) .z) .z) .z) .z) .z) .z)) .z))))) Tryd.func52 rfl (by kernel_rfl) ?_
  ((conv => whnf); repeat ((first | refine T_seq ?_ | refine T_z mix ?_ | refine T_cut ?_ | refine T_block ?_ | refine T_cond rfl ?_ | refine T_loop ?_ | refine storeEq rfl ?_ | refine drawGo (by kernel_rfl) ?_ | fail); (conv => whnf)))
  refine bnd h (fun x18 h18 h => ?_)
  refine cut_at (fun s1 : Bool => mkF 87 [(1, (e_L_i32 p_l)), (2, (.int .i64 p_i)), (3, (.mp 0 0 0)), (18, (.bool s1))] [some ⟨15, 57, (.vals [(e_api_Tables p_t)]), false, false⟩]) (fun s1 : Bool => m_contexts_Holds_K2 p_t p_l p_i s1 = some r) ?_ ?_
  · intro Kn18 hn18
    ((conv => whnf); repeat ((first | refine T_seq ?_ | refine T_z mix ?_ | refine T_cut ?_ | refine T_block ?_ | refine T_cond rfl ?_ | refine T_loop ?_ | refine storeEq rfl ?_ | refine drawGo (by kernel_rfl) ?_ | fail); (conv => whnf)))
    refine br_b rfl h18 (fun c19 h18 => ?_) (fun c19 h18 => ?_)
    · have e := Option.some.inj h18; subst e
      ((conv => whnf); repeat ((first | refine T_seq ?_ | refine T_z mix ?_ | refine T_cut ?_ | refine T_block ?_ | refine T_cond rfl ?_ | refine T_loop ?_ | refine storeEq rfl ?_ | refine drawGo (by kernel_rfl) ?_ | fail); (conv => whnf)))
      exact hn18 _ true h (weak_gen [0] rfl rfl (storeLe.cons rfl (objLe.mk (by intro hf; first | exact hf | rfl) (by intro hf; first | exact hf | rfl) (rowLe_vals (valsLe.cons (cellsLe_refl rfl) valsLe.nil))) storeLe.nil) (slotsLe.cons (And.intro rfl (AV.Le.refl _)) (slotsLe.cons (And.intro rfl (AV.Le.refl _)) (slotsLe.cons (And.intro rfl (AV.Le.refl _)) (slotsLe.cons (And.intro rfl (AV.Le.refl _)) slotsLe.nil)))))
    · have e := Option.some.inj h18; subst e
      ((conv => whnf); repeat ((first | refine T_seq ?_ | refine T_z mix ?_ | refine T_cut ?_ | refine T_block ?_ | refine T_cond rfl ?_ | refine T_loop ?_ | refine storeEq rfl ?_ | refine drawGo (by kernel_rfl) ?_ | fail); (conv => whnf)))
      exact hn18 _ (decide (p_i ≥ ((p_l.length : Nat) : Int))) h (weak_gen [0] rfl rfl (storeLe.cons rfl (objLe.mk (by intro hf; first | exact hf | rfl) (by intro hf; first | exact hf | rfl) (rowLe_vals (valsLe.cons (cellsLe_refl rfl) valsLe.nil))) storeLe.nil) (slotsLe.cons (And.intro rfl (AV.Le.refl _)) (slotsLe.cons (And.intro rfl (AV.Le.refl _)) (slotsLe.cons (And.intro rfl (AV.Le.refl _)) (slotsLe.cons (And.intro rfl (AV.Le.refl _)) slotsLe.nil)))))
  · clear h h18
    intro s1 hc20
    ((conv => whnf); repeat ((first | refine T_seq ?_ | refine T_z mix ?_ | refine T_cut ?_ | refine T_block ?_ | refine T_cond rfl ?_ | refine T_loop ?_ | refine storeEq rfl ?_ | refine drawGo (by kernel_rfl) ?_ | fail); (conv => whnf)))
    refine br_b rfl hc20 (fun c21 hc20 => ?_) (fun c21 hc20 => ?_)
    · have e := Option.some.inj hc20; subst e
      ((conv => whnf); repeat ((first | refine T_seq ?_ | refine T_z mix ?_ | refine T_cut ?_ | refine T_block ?_ | refine T_cond rfl ?_ | refine T_loop ?_ | refine storeEq rfl ?_ | refine drawGo (by kernel_rfl) ?_ | fail); (conv => whnf)))
      exact And.intro (AV.Le.refl _) rfl
    · ((conv => whnf); repeat ((first | refine T_seq ?_ | refine T_z mix ?_ | refine T_cut ?_ | refine T_block ?_ | refine T_cond rfl ?_ | refine T_loop ?_ | refine storeEq rfl ?_ | refine drawGo (by kernel_rfl) ?_ | fail); (conv => whnf)))
      refine grd2 rfl rfl hc20 (fun hc20 => ?_)
      ((conv => whnf); repeat ((first | refine T_seq ?_ | refine T_z mix ?_ | refine T_cut ?_ | refine T_block ?_ | refine T_cond rfl ?_ | refine T_loop ?_ | refine storeEq rfl ?_ | refine drawGo (by kernel_rfl) ?_ | fail); (conv => whnf)))
      refine bnd hc20 (fun y3 hy3 hc20 => ?_)
      refine Or.inl ⟨_, c_contexts_Rule _ _ hy3, rfl, ?_⟩
      ((conv => whnf); repeat ((first | refine T_seq ?_ | refine T_z mix ?_ | refine T_cut ?_ | refine T_block ?_ | refine T_cond rfl ?_ | refine T_loop ?_ | refine storeEq rfl ?_ | refine drawGo (by kernel_rfl) ?_ | fail); (conv => whnf)))
      refine br_b rfl hc20 (fun c22 hc20 => ?_) (fun c22 hc20 => ?_)
      · ((conv => whnf); repeat ((first | refine T_seq ?_ | refine T_z mix ?_ | refine T_cut ?_ | refine T_block ?_ | refine T_cond rfl ?_ | refine T_loop ?_ | refine storeEq rfl ?_ | refine drawGo (by kernel_rfl) ?_ | fail); (conv => whnf)))
        refine bnd hc20 (fun y4 hy4 hc20 => ?_)
        refine Or.inl ⟨_, c_contexts_joined _ _ _ _ hy4, rfl, ?_⟩
        ((conv => whnf); repeat ((first | refine T_seq ?_ | refine T_z mix ?_ | refine T_cut ?_ | refine T_block ?_ | refine T_cond rfl ?_ | refine T_loop ?_ | refine storeEq rfl ?_ | refine drawGo (by kernel_rfl) ?_ | fail); (conv => whnf)))
        refine br_b rfl hc20 (fun c23 hc20 => ?_) (fun c23 hc20 => ?_)
        · have e := Option.some.inj hc20; subst e
          ((conv => whnf); repeat ((first | refine T_seq ?_ | refine T_z mix ?_ | refine T_cut ?_ | refine T_block ?_ | refine T_cond rfl ?_ | refine T_loop ?_ | refine storeEq rfl ?_ | refine drawGo (by kernel_rfl) ?_ | fail); (conv => whnf)))
          exact And.intro (AV.Le.refl _) rfl
        · ((conv => whnf); repeat ((first | refine T_seq ?_ | refine T_z mix ?_ | refine T_cut ?_ | refine T_block ?_ | refine T_cond rfl ?_ | refine T_loop ?_ | refine storeEq rfl ?_ | refine drawGo (by kernel_rfl) ?_ | fail); (conv => whnf)))
          refine bnd hc20 (fun y5 hy5 hc20 => ?_)
          refine Or.inl ⟨_, c_contexts_at_contexts_Holds_2 _ _ _ _ hy5, rfl, ?_⟩
          have e := Option.some.inj hc20; subst e
          ((conv => whnf); repeat ((first | refine T_seq ?_ | refine T_z mix ?_ | refine T_cut ?_ | refine T_block ?_ | refine T_cond rfl ?_ | refine T_loop ?_ | refine storeEq rfl ?_ | refine drawGo (by kernel_rfl) ?_ | fail); (conv => whnf)))
          exact And.intro (AV.Le.refl _) rfl
      · ((conv => whnf); repeat ((first | refine T_seq ?_ | refine T_z mix ?_ | refine T_cut ?_ | refine T_block ?_ | refine T_cond rfl ?_ | refine T_loop ?_ | refine storeEq rfl ?_ | refine drawGo (by kernel_rfl) ?_ | fail); (conv => whnf)))
        refine br_b rfl hc20 (fun c24 hc20 => ?_) (fun c24 hc20 => ?_)
        · ((conv => whnf); repeat ((first | refine T_seq ?_ | refine T_z mix ?_ | refine T_cut ?_ | refine T_block ?_ | refine T_cond rfl ?_ | refine T_loop ?_ | refine storeEq rfl ?_ | refine drawGo (by kernel_rfl) ?_ | fail); (conv => whnf)))
          refine bnd hc20 (fun y6 hy6 hc20 => ?_)
          refine Or.inl ⟨_, c_contexts_at_contexts_Holds_2 _ _ _ _ hy6, rfl, ?_⟩
          have e := Option.some.inj hc20; subst e
          ((conv => whnf); repeat ((first | refine T_seq ?_ | refine T_z mix ?_ | refine T_cut ?_ | refine T_block ?_ | refine T_cond rfl ?_ | refine T_loop ?_ | refine storeEq rfl ?_ | refine drawGo (by kernel_rfl) ?_ | fail); (conv => whnf)))
          exact And.intro (AV.Le.refl _) rfl
        · ((conv => whnf); repeat ((first | refine T_seq ?_ | refine T_z mix ?_ | refine T_cut ?_ | refine T_block ?_ | refine T_cond rfl ?_ | refine T_loop ?_ | refine storeEq rfl ?_ | refine drawGo (by kernel_rfl) ?_ | fail); (conv => whnf)))
          refine br_b rfl hc20 (fun c25 hc20 => ?_) (fun c25 hc20 => ?_)
          · ((conv => whnf); repeat ((first | refine T_seq ?_ | refine T_z mix ?_ | refine T_cut ?_ | refine T_block ?_ | refine T_cond rfl ?_ | refine T_loop ?_ | refine storeEq rfl ?_ | refine drawGo (by kernel_rfl) ?_ | fail); (conv => whnf)))
            refine bnd hc20 (fun y7 hy7 hc20 => ?_)
            refine Or.inl ⟨_, c_contexts_at_contexts_Holds_3 _ _ _ hy7, rfl, ?_⟩
            ((conv => whnf); repeat ((first | refine T_seq ?_ | refine T_z mix ?_ | refine T_cut ?_ | refine T_block ?_ | refine T_cond rfl ?_ | refine T_loop ?_ | refine storeEq rfl ?_ | refine drawGo (by kernel_rfl) ?_ | fail); (conv => whnf)))
            refine br_b rfl hc20 (fun c26 hc20 => ?_) (fun c26 hc20 => ?_)
            · ((conv => whnf); repeat ((first | refine T_seq ?_ | refine T_z mix ?_ | refine T_cut ?_ | refine T_block ?_ | refine T_cond rfl ?_ | refine T_loop ?_ | refine storeEq rfl ?_ | refine drawGo (by kernel_rfl) ?_ | fail); (conv => whnf)))
              refine bnd hc20 (fun y8 hy8 hc20 => ?_)
              refine Or.inl ⟨_, c_contexts_at_contexts_Holds_3 _ _ _ hy8, rfl, ?_⟩
              have e := Option.some.inj hc20; subst e
              ((conv => whnf); repeat ((first | refine T_seq ?_ | refine T_z mix ?_ | refine T_cut ?_ | refine T_block ?_ | refine T_cond rfl ?_ | refine T_loop ?_ | refine storeEq rfl ?_ | refine drawGo (by kernel_rfl) ?_ | fail); (conv => whnf)))
              exact And.intro (AV.Le.refl _) rfl
            · have e := Option.some.inj hc20; subst e
              ((conv => whnf); repeat ((first | refine T_seq ?_ | refine T_z mix ?_ | refine T_cut ?_ | refine T_block ?_ | refine T_cond rfl ?_ | refine T_loop ?_ | refine storeEq rfl ?_ | refine drawGo (by kernel_rfl) ?_ | fail); (conv => whnf)))
              exact And.intro (AV.Le.refl _) rfl
          · ((conv => whnf); repeat ((first | refine T_seq ?_ | refine T_z mix ?_ | refine T_cut ?_ | refine T_block ?_ | refine T_cond rfl ?_ | refine T_loop ?_ | refine storeEq rfl ?_ | refine drawGo (by kernel_rfl) ?_ | fail); (conv => whnf)))
            refine br_b rfl hc20 (fun c27 hc20 => ?_) (fun c27 hc20 => ?_)
            · ((conv => whnf); repeat ((first | refine T_seq ?_ | refine T_z mix ?_ | refine T_cut ?_ | refine T_block ?_ | refine T_cond rfl ?_ | refine T_loop ?_ | refine storeEq rfl ?_ | refine drawGo (by kernel_rfl) ?_ | fail); (conv => whnf)))
              refine bnd hc20 (fun y9 hy9 hc20 => ?_)
              refine Or.inl ⟨_, contract_le (c_contexts_Holds_1 _ _ _ hy9) (argsLe.cons (AV.Le.list (by simp; try omega) (fun j hj => by first | rfl | rw [getD_sub hj] | (rw [getD_take hj]; simp) | simp)) (argsLe.cons (AV.Le.refl _) argsLe.nil)), rfl, ?_⟩
              ((conv => whnf); repeat ((first | refine T_seq ?_ | refine T_z mix ?_ | refine T_cut ?_ | refine T_block ?_ | refine T_cond rfl ?_ | refine T_loop ?_ | refine storeEq rfl ?_ | refine drawGo (by kernel_rfl) ?_ | fail); (conv => whnf)))
              refine bnd hc20 (fun y10 hy10 hc20 => ?_)
              refine Or.inl ⟨_, c_contexts_at_contexts_Holds_1_1 _ _ _ _ _ hy10, rfl, ?_⟩
              have e := Option.some.inj hc20; subst e
              ((conv => whnf); repeat ((first | refine T_seq ?_ | refine T_z mix ?_ | refine T_cut ?_ | refine T_block ?_ | refine T_cond rfl ?_ | refine T_loop ?_ | refine storeEq rfl ?_ | refine drawGo (by kernel_rfl) ?_ | fail); (conv => whnf)))
              exact And.intro (AV.Le.refl _) rfl
            · ((conv => whnf); repeat ((first | refine T_seq ?_ | refine T_z mix ?_ | refine T_cut ?_ | refine T_block ?_ | refine T_cond rfl ?_ | refine T_loop ?_ | refine storeEq rfl ?_ | refine drawGo (by kernel_rfl) ?_ | fail); (conv => whnf)))
              refine br_b rfl hc20 (fun c28 hc20 => ?_) (fun c28 hc20 => ?_)
              · ((conv => whnf); repeat ((first | refine T_seq ?_ | refine T_z mix ?_ | refine T_cut ?_ | refine T_block ?_ | refine T_cond rfl ?_ | refine T_loop ?_ | refine storeEq rfl ?_ | refine drawGo (by kernel_rfl) ?_ | fail); (conv => whnf)))
                refine bnd hc20 (fun y11 hy11 hc20 => ?_)
                refine Or.inl ⟨_, contract_le (c_contexts_Holds_1 _ _ _ hy11) (argsLe.cons (AV.Le.list (by simp; try omega) (fun j hj => by first | rfl | rw [getD_sub hj] | (rw [getD_take hj]; simp) | simp)) (argsLe.cons (AV.Le.refl _) argsLe.nil)), rfl, ?_⟩
                ((conv => whnf); repeat ((first | refine T_seq ?_ | refine T_z mix ?_ | refine T_cut ?_ | refine T_block ?_ | refine T_cond rfl ?_ | refine T_loop ?_ | refine storeEq rfl ?_ | refine drawGo (by kernel_rfl) ?_ | fail); (conv => whnf)))
                refine bnd hc20 (fun y12 hy12 hc20 => ?_)
                refine Or.inl ⟨_, c_contexts_at_contexts_Holds_1_1 _ _ _ _ _ hy12, rfl, ?_⟩
                have e := Option.some.inj hc20; subst e
                ((conv => whnf); repeat ((first | refine T_seq ?_ | refine T_z mix ?_ | refine T_cut ?_ | refine T_block ?_ | refine T_cond rfl ?_ | refine T_loop ?_ | refine storeEq rfl ?_ | refine drawGo (by kernel_rfl) ?_ | fail); (conv => whnf)))
                exact And.intro (AV.Le.refl _) rfl
              · ((conv => whnf); repeat ((first | refine T_seq ?_ | refine T_z mix ?_ | refine T_cut ?_ | refine T_block ?_ | refine T_cond rfl ?_ | refine T_loop ?_ | refine storeEq rfl ?_ | refine drawGo (by kernel_rfl) ?_ | fail); (conv => whnf)))
                refine br_b rfl hc20 (fun c29 hc20 => ?_) (fun c29 hc20 => ?_)
                · ((conv => whnf); repeat ((first | refine T_seq ?_ | refine T_z mix ?_ | refine T_cut ?_ | refine T_block ?_ | refine T_cond rfl ?_ | refine T_loop ?_ | refine storeEq rfl ?_ | refine drawGo (by kernel_rfl) ?_ | fail); (conv => whnf)))
                  refine bnd hc20 (fun y13 hy13 hc20 => ?_)
                  refine Or.inl ⟨_, contract_le (c_contexts_Holds_1 _ _ _ hy13) (argsLe.cons (AV.Le.list (by simp; try omega) (fun j hj => by first | rfl | rw [getD_sub hj] | (rw [getD_take hj]; simp) | simp)) (argsLe.cons (AV.Le.refl _) argsLe.nil)), rfl, ?_⟩
                  ((conv => whnf); repeat ((first | refine T_seq ?_ | refine T_z mix ?_ | refine T_cut ?_ | refine T_block ?_ | refine T_cond rfl ?_ | refine T_loop ?_ | refine storeEq rfl ?_ | refine drawGo (by kernel_rfl) ?_ | fail); (conv => whnf)))
                  refine bnd hc20 (fun y14 hy14 hc20 => ?_)
                  refine Or.inl ⟨_, c_contexts_some_contexts_Holds_1_1 _ _ _ _ hy14, rfl, ?_⟩
                  have e := Option.some.inj hc20; subst e
                  ((conv => whnf); repeat ((first | refine T_seq ?_ | refine T_z mix ?_ | refine T_cut ?_ | refine T_block ?_ | refine T_cond rfl ?_ | refine T_loop ?_ | refine storeEq rfl ?_ | refine drawGo (by kernel_rfl) ?_ | fail); (conv => whnf)))
                  exact And.intro (AV.Le.refl _) rfl
                · ((conv => whnf); repeat ((first | refine T_seq ?_ | refine T_z mix ?_ | refine T_cut ?_ | refine T_block ?_ | refine T_cond rfl ?_ | refine T_loop ?_ | refine storeEq rfl ?_ | refine drawGo (by kernel_rfl) ?_ | fail); (conv => whnf)))
                  refine bnd hc20 (fun x30 h30 hc20 => ?_)
                  refine cut_at (fun s15 : Bool => mkF 87 [(1, (e_L_i32 p_l)), (8, (.int .i64 y3)), (38, (.bool s15))] []) (fun s15 : Bool => m_contexts_Holds_K16 p_l y3 s15 = some r) ?_ ?_
                  · intro Kn30 hn30
                    ((conv => whnf); repeat ((first | refine T_seq ?_ | refine T_z mix ?_ | refine T_cut ?_ | refine T_block ?_ | refine T_cond rfl ?_ | refine T_loop ?_ | refine storeEq rfl ?_ | refine drawGo (by kernel_rfl) ?_ | fail); (conv => whnf)))
                    refine br_b rfl h30 (fun c31 h30 => ?_) (fun c31 h30 => ?_)
                    · have e := Option.some.inj h30; subst e
                      ((conv => whnf); repeat ((first | refine T_seq ?_ | refine T_z mix ?_ | refine T_cut ?_ | refine T_block ?_ | refine T_cond rfl ?_ | refine T_loop ?_ | refine storeEq rfl ?_ | refine drawGo (by kernel_rfl) ?_ | fail); (conv => whnf)))
                      exact hn30 _ (y3 == (7 : Int)) hc20 (weak_gen [] rfl rfl storeLe.nil (slotsLe.cons (And.intro rfl (AV.Le.refl _)) (slotsLe.cons (And.intro rfl (AV.Le.refl _)) (slotsLe.cons (And.intro rfl (AV.Le.refl _)) slotsLe.nil))))
                    · have e := Option.some.inj h30; subst e
                      ((conv => whnf); repeat ((first | refine T_seq ?_ | refine T_z mix ?_ | refine T_cut ?_ | refine T_block ?_ | refine T_cond rfl ?_ | refine T_loop ?_ | refine storeEq rfl ?_ | refine drawGo (by kernel_rfl) ?_ | fail); (conv => whnf)))
                      exact hn30 _ (y3 == (8 : Int)) hc20 (weak_gen [] rfl rfl storeLe.nil (slotsLe.cons (And.intro rfl (AV.Le.refl _)) (slotsLe.cons (And.intro rfl (AV.Le.refl _)) (slotsLe.cons (And.intro rfl (AV.Le.refl _)) slotsLe.nil))))
                  · clear hc20 h30
                    intro s15 hc32
                    ((conv => whnf); repeat ((first | refine T_seq ?_ | refine T_z mix ?_ | refine T_cut ?_ | refine T_block ?_ | refine T_cond rfl ?_ | refine T_loop ?_ | refine storeEq rfl ?_ | refine drawGo (by kernel_rfl) ?_ | fail); (conv => whnf)))
                    refine br_b rfl hc32 (fun c33 hc32 => ?_) (fun c33 hc32 => ?_)
                    · ((conv => whnf); repeat ((first | refine T_seq ?_ | refine T_z mix ?_ | refine T_cut ?_ | refine T_block ?_ | refine T_cond rfl ?_ | refine T_loop ?_ | refine storeEq rfl ?_ | refine drawGo (by kernel_rfl) ?_ | fail); (conv => whnf)))
                      refine bnd hc32 (fun y17 hy17 hc32 => ?_)
                      refine Or.inl ⟨_, c_contexts_some_contexts_Holds_4 _ _ _ hy17, rfl, ?_⟩
                      have e := Option.some.inj hc32; subst e
                      ((conv => whnf); repeat ((first | refine T_seq ?_ | refine T_z mix ?_ | refine T_cut ?_ | refine T_block ?_ | refine T_cond rfl ?_ | refine T_loop ?_ | refine storeEq rfl ?_ | refine drawGo (by kernel_rfl) ?_ | fail); (conv => whnf)))
                      exact And.intro (AV.Le.refl _) rfl
                    · have e := Option.some.inj hc32; subst e
                      ((conv => whnf); repeat ((first | refine T_seq ?_ | refine T_z mix ?_ | refine T_cut ?_ | refine T_block ?_ | refine T_cond rfl ?_ | refine T_loop ?_ | refine storeEq rfl ?_ | refine drawGo (by kernel_rfl) ?_ | fail); (conv => whnf)))
                      exact And.intro (AV.Le.refl _) rfl
theorem c_eponymlaw08_awake  (r : Bool) (h : m_eponymlaw08_awake  = some r) : Contract pl 48 [] [] (AV.bool r) [] := by
  refine contract_of .z Tryd.func48 rfl (by kernel_rfl) ?_
  ((conv => whnf); repeat ((first | refine T_seq ?_ | refine T_z mix ?_ | refine T_cut ?_ | refine T_block ?_ | refine T_cond rfl ?_ | refine T_loop ?_ | refine storeEq rfl ?_ | refine drawGo (by kernel_rfl) ?_ | fail); (conv => whnf)))
  refine bnd h (fun y1 hy1 h => ?_)
  refine Or.inl ⟨_, contract_le (c_contexts_Holds _ _ _ _ hy1) (argsLe.cons (AV.Le.agg (argsLe.cons (AV.Le.list rfl (fun j hj => absurd hj (Nat.not_lt_zero _))) (argsLe.cons (AV.Le.list rfl (fun j hj => absurd hj (Nat.not_lt_zero _))) (argsLe.cons (AV.Le.list rfl (fun j hj => absurd hj (Nat.not_lt_zero _))) (argsLe.cons (AV.Le.list rfl (fun j hj => absurd hj (Nat.not_lt_zero _))) (argsLe.cons (AV.Le.list rfl (fun j hj => absurd hj (Nat.not_lt_zero _))) (argsLe.cons (AV.Le.list rfl (fun j hj => absurd hj (Nat.not_lt_zero _))) (argsLe.cons (AV.Le.list rfl (fun j hj => absurd hj (Nat.not_lt_zero _))) (argsLe.cons (AV.Le.list rfl (fun j hj => absurd hj (Nat.not_lt_zero _))) (argsLe.cons (AV.Le.list rfl (fun j hj => absurd hj (Nat.not_lt_zero _))) (argsLe.cons (AV.Le.list rfl (fun j hj => absurd hj (Nat.not_lt_zero _))) (argsLe.cons (AV.Le.list rfl (fun j hj => absurd hj (Nat.not_lt_zero _))) (argsLe.cons (AV.Le.list rfl (fun j hj => absurd hj (Nat.not_lt_zero _))) (argsLe.cons (AV.Le.list rfl (fun j hj => absurd hj (Nat.not_lt_zero _))) (argsLe.cons (AV.Le.list rfl (fun j hj => absurd hj (Nat.not_lt_zero _))) (argsLe.cons (AV.Le.list rfl (fun j hj => absurd hj (Nat.not_lt_zero _))) argsLe.nil)))))))))))))))) (argsLe.cons (AV.Le.list (by simp; try omega) (fun j hj => by first | rfl | rw [getD_sub hj] | (rw [getD_take hj]; simp) | simp)) (argsLe.cons (AV.Le.refl _) argsLe.nil))), rfl, ?_⟩
  ((conv => whnf); repeat ((first | refine T_seq ?_ | refine T_z mix ?_ | refine T_cut ?_ | refine T_block ?_ | refine T_cond rfl ?_ | refine T_loop ?_ | refine storeEq rfl ?_ | refine drawGo (by kernel_rfl) ?_ | fail); (conv => whnf)))
  refine br_b rfl h (fun c3 h => ?_) (fun c3 h => ?_)
  · ((conv => whnf); repeat ((first | refine T_seq ?_ | refine T_z mix ?_ | refine T_cut ?_ | refine T_block ?_ | refine T_cond rfl ?_ | refine T_loop ?_ | refine storeEq rfl ?_ | refine drawGo (by kernel_rfl) ?_ | fail); (conv => whnf)))
    refine bnd h (fun y2 hy2 h => ?_)
    refine Or.inl ⟨_, contract_le (c_contexts_Holds _ _ _ _ hy2) (argsLe.cons (AV.Le.agg (argsLe.cons (AV.Le.list rfl (fun j hj => absurd hj (Nat.not_lt_zero _))) (argsLe.cons (AV.Le.list rfl (fun j hj => absurd hj (Nat.not_lt_zero _))) (argsLe.cons (AV.Le.list rfl (fun j hj => absurd hj (Nat.not_lt_zero _))) (argsLe.cons (AV.Le.list rfl (fun j hj => absurd hj (Nat.not_lt_zero _))) (argsLe.cons (AV.Le.list rfl (fun j hj => absurd hj (Nat.not_lt_zero _))) (argsLe.cons (AV.Le.list rfl (fun j hj => absurd hj (Nat.not_lt_zero _))) (argsLe.cons (AV.Le.list rfl (fun j hj => absurd hj (Nat.not_lt_zero _))) (argsLe.cons (AV.Le.list rfl (fun j hj => absurd hj (Nat.not_lt_zero _))) (argsLe.cons (AV.Le.list rfl (fun j hj => absurd hj (Nat.not_lt_zero _))) (argsLe.cons (AV.Le.list rfl (fun j hj => absurd hj (Nat.not_lt_zero _))) (argsLe.cons (AV.Le.list rfl (fun j hj => absurd hj (Nat.not_lt_zero _))) (argsLe.cons (AV.Le.list rfl (fun j hj => absurd hj (Nat.not_lt_zero _))) (argsLe.cons (AV.Le.list rfl (fun j hj => absurd hj (Nat.not_lt_zero _))) (argsLe.cons (AV.Le.list rfl (fun j hj => absurd hj (Nat.not_lt_zero _))) (argsLe.cons (AV.Le.list rfl (fun j hj => absurd hj (Nat.not_lt_zero _))) argsLe.nil)))))))))))))))) (argsLe.cons (AV.Le.list (by simp; try omega) (fun j hj => by first | rfl | rw [getD_sub hj] | (rw [getD_take hj]; simp) | simp)) (argsLe.cons (AV.Le.refl _) argsLe.nil))), rfl, ?_⟩
    have e := Option.some.inj h; subst e
    ((conv => whnf); repeat ((first | refine T_seq ?_ | refine T_z mix ?_ | refine T_cut ?_ | refine T_block ?_ | refine T_cond rfl ?_ | refine T_loop ?_ | refine storeEq rfl ?_ | refine drawGo (by kernel_rfl) ?_ | fail); (conv => whnf)))
    exact And.intro (AV.Le.refl _) rfl
  · have e := Option.some.inj h; subst e
    ((conv => whnf); repeat ((first | refine T_seq ?_ | refine T_z mix ?_ | refine T_cut ?_ | refine T_block ?_ | refine T_cond rfl ?_ | refine T_loop ?_ | refine storeEq rfl ?_ | refine drawGo (by kernel_rfl) ?_ | fail); (conv => whnf)))
    exact And.intro (AV.Le.refl _) rfl
theorem c_eponymlaw04_Great (p_t : T_api_Norm) (r : Bool) (h : m_eponymlaw04_Great p_t = some r) : Contract pl 30 [(e_api_Norm p_t)] [] (AV.bool r) [] := by
  refine contract_of (.t false .z (.t false (.t true .z .z) (.t true .z .z))) Tryd.func30 rfl (by kernel_rfl) ?_
  ((conv => whnf); repeat ((first | refine T_seq ?_ | refine T_z mix ?_ | refine T_cut ?_ | refine T_block ?_ | refine T_cond rfl ?_ | refine T_loop ?_ | refine storeEq rfl ?_ | refine drawGo (by kernel_rfl) ?_ | fail); (conv => whnf)))
  refine bnd h (fun x12 h12 h => ?_)
  refine cut_at (fun s1 : Bool => mkF 35 [(1, (.mp 0 0 0)), (19, (.bool s1))] [some ⟨3, 40, (.vals [(e_api_Norm p_t)]), false, false⟩]) (fun s1 : Bool => m_eponymlaw04_Great_K2 p_t s1 = some r) ?_ ?_
  · intro Kn12 hn12
    ((conv => whnf); repeat ((first | refine T_seq ?_ | refine T_z mix ?_ | refine T_cut ?_ | refine T_block ?_ | refine T_cond rfl ?_ | refine T_loop ?_ | refine storeEq rfl ?_ | refine drawGo (by kernel_rfl) ?_ | fail); (conv => whnf)))
    refine br_b rfl h12 (fun c13 h12 => ?_) (fun c13 h12 => ?_)
    · have e := Option.some.inj h12; subst e
      ((conv => whnf); repeat ((first | refine T_seq ?_ | refine T_z mix ?_ | refine T_cut ?_ | refine T_block ?_ | refine T_cond rfl ?_ | refine T_loop ?_ | refine storeEq rfl ?_ | refine drawGo (by kernel_rfl) ?_ | fail); (conv => whnf)))
      exact hn12 _ true h (weak_gen [0] rfl rfl (storeLe.cons rfl (objLe.mk (by intro hf; first | exact hf | rfl) (by intro hf; first | exact hf | rfl) (rowLe_vals (valsLe.cons (cellsLe_refl rfl) valsLe.nil))) storeLe.nil) (slotsLe.cons (And.intro rfl (AV.Le.refl _)) (slotsLe.cons (And.intro rfl (AV.Le.refl _)) slotsLe.nil)))
    · ((conv => whnf); repeat ((first | refine T_seq ?_ | refine T_z mix ?_ | refine T_cut ?_ | refine T_block ?_ | refine T_cond rfl ?_ | refine T_loop ?_ | refine storeEq rfl ?_ | refine drawGo (by kernel_rfl) ?_ | fail); (conv => whnf)))
      refine br_b rfl h12 (fun c14 h12 => ?_) (fun c14 h12 => ?_)
      · have e := Option.some.inj h12; subst e
        ((conv => whnf); repeat ((first | refine T_seq ?_ | refine T_z mix ?_ | refine T_cut ?_ | refine T_block ?_ | refine T_cond rfl ?_ | refine T_loop ?_ | refine storeEq rfl ?_ | refine drawGo (by kernel_rfl) ?_ | fail); (conv => whnf)))
        exact hn12 _ true h (weak_gen [0] rfl rfl (storeLe.cons rfl (objLe.mk (by intro hf; first | exact hf | rfl) (by intro hf; first | exact hf | rfl) (rowLe_vals (valsLe.cons (cellsLe_refl rfl) valsLe.nil))) storeLe.nil) (slotsLe.cons (And.intro rfl (AV.Le.refl _)) (slotsLe.cons (And.intro rfl (AV.Le.refl _)) slotsLe.nil)))
      · have e := Option.some.inj h12; subst e
        ((conv => whnf); repeat ((first | refine T_seq ?_ | refine T_z mix ?_ | refine T_cut ?_ | refine T_block ?_ | refine T_cond rfl ?_ | refine T_loop ?_ | refine storeEq rfl ?_ | refine drawGo (by kernel_rfl) ?_ | fail); (conv => whnf)))
        exact hn12 _ (decide (((p_t.f_Excluded.length : Nat) : Int) > (40 : Int))) h (weak_gen [0] rfl rfl (storeLe.cons rfl (objLe.mk (by intro hf; first | exact hf | rfl) (by intro hf; first | exact hf | rfl) (rowLe_vals (valsLe.cons (cellsLe_refl rfl) valsLe.nil))) storeLe.nil) (slotsLe.cons (And.intro rfl (AV.Le.refl _)) (slotsLe.cons (And.intro rfl (AV.Le.refl _)) slotsLe.nil)))
  · clear h h12
    intro s1 hc15
    ((conv => whnf); repeat ((first | refine T_seq ?_ | refine T_z mix ?_ | refine T_cut ?_ | refine T_block ?_ | refine T_cond rfl ?_ | refine T_loop ?_ | refine storeEq rfl ?_ | refine drawGo (by kernel_rfl) ?_ | fail); (conv => whnf)))
    refine br_b rfl hc15 (fun c16 hc15 => ?_) (fun c16 hc15 => ?_)
    · have e := Option.some.inj hc15; subst e
      ((conv => whnf); repeat ((first | refine T_seq ?_ | refine T_z mix ?_ | refine T_cut ?_ | refine T_block ?_ | refine T_cond rfl ?_ | refine T_loop ?_ | refine storeEq rfl ?_ | refine drawGo (by kernel_rfl) ?_ | fail); (conv => whnf)))
      exact And.intro (AV.Le.refl _) rfl
    · ((conv => whnf); repeat ((first | refine T_seq ?_ | refine T_z mix ?_ | refine T_cut ?_ | refine T_block ?_ | refine T_cond rfl ?_ | refine T_loop ?_ | refine storeEq rfl ?_ | refine drawGo (by kernel_rfl) ?_ | fail); (conv => whnf)))
      refine bnd hc15 (fun x17 h17 hc15 => ?_)
      refine cut_at (fun s3 : Unit => mkF 35 [] []) (fun s3 : Unit => some false = some r) ?_ ?_
      · intro Kn17 hn17
        ((conv => whnf); repeat ((first | refine T_seq ?_ | refine T_z mix ?_ | refine T_cut ?_ | refine T_block ?_ | refine T_cond rfl ?_ | refine T_loop ?_ | refine storeEq rfl ?_ | refine drawGo (by kernel_rfl) ?_ | fail); (conv => whnf)))
        refine loop_iter (fun s6 : Int => mkF 35 [(1, (.mp 0 0 0)), (3, (.int .i64 s6))] [some ⟨3, 40, (.vals [(e_api_Norm p_t)]), false, false⟩]) h17 (weak_gen [0] rfl rfl (storeLe.cons rfl (objLe.mk (by intro hf; first | exact hf | rfl) (by intro hf; first | exact hf | rfl) (rowLe_vals (valsLe.cons (cellsLe_refl rfl) valsLe.nil))) storeLe.nil) (slotsLe.cons (And.intro rfl (AV.Le.refl _)) (slotsLe.cons (And.intro rfl (AV.Le.refl _)) slotsLe.nil))) ?_
        intro k8 s6 st8 Kn8 hn8 h8_ hs8
        ((conv => whnf); repeat ((first | refine T_seq ?_ | refine T_z mix ?_ | refine T_cut ?_ | refine T_block ?_ | refine T_cond rfl ?_ | refine T_loop ?_ | refine storeEq rfl ?_ | refine drawGo (by kernel_rfl) ?_ | fail); (conv => whnf)))
        refine br_b rfl h8_ (fun c18 h8_ => ?_) (fun c18 h8_ => ?_)
        · ((conv => whnf); repeat ((first | refine T_seq ?_ | refine T_z mix ?_ | refine T_cut ?_ | refine T_block ?_ | refine T_cond rfl ?_ | refine T_loop ?_ | refine storeEq rfl ?_ | refine drawGo (by kernel_rfl) ?_ | fail); (conv => whnf)))
          refine grd2 rfl rfl h8_ (fun h8_ => ?_)
          ((conv => whnf); repeat ((first | refine T_seq ?_ | refine T_z mix ?_ | refine T_cut ?_ | refine T_block ?_ | refine T_cond rfl ?_ | refine T_loop ?_ | refine storeEq rfl ?_ | refine drawGo (by kernel_rfl) ?_ | fail); (conv => whnf)))
          refine br_b rfl h8_ (fun c19 h8_ => ?_) (fun c19 h8_ => ?_)
          · have e := Option.some.inj h8_; subst e
            have e := done_out hs8; subst e
            have e := Option.some.inj hc15; subst e
            ((conv => whnf); repeat ((first | refine T_seq ?_ | refine T_z mix ?_ | refine T_cut ?_ | refine T_block ?_ | refine T_cond rfl ?_ | refine T_loop ?_ | refine storeEq rfl ?_ | refine drawGo (by kernel_rfl) ?_ | fail); (conv => whnf)))
            exact And.intro (AV.Le.refl _) rfl
          · have e := Option.some.inj h8_; subst e
            ((conv => whnf); repeat ((first | refine T_seq ?_ | refine T_z mix ?_ | refine T_cut ?_ | refine T_block ?_ | refine T_cond rfl ?_ | refine T_loop ?_ | refine storeEq rfl ?_ | refine drawGo (by kernel_rfl) ?_ | fail); (conv => whnf)))
            exact hn8 _ (IntKind.wrap .i64 (s6 + (1 : Int))) hs8 (weak_gen [0] rfl rfl (storeLe.cons rfl (objLe.mk (by intro hf; first | exact hf | rfl) (by intro hf; first | exact hf | rfl) (rowLe_vals (valsLe.cons (cellsLe_refl rfl) valsLe.nil))) storeLe.nil) (slotsLe.cons (And.intro rfl (AV.Le.refl _)) (slotsLe.cons (And.intro rfl (AV.Le.refl _)) slotsLe.nil)))
        · have e := Option.some.inj h8_; subst e
          have e := done_out hs8; subst e
          ((conv => whnf); repeat ((first | refine T_seq ?_ | refine T_z mix ?_ | refine T_cut ?_ | refine T_block ?_ | refine T_cond rfl ?_ | refine T_loop ?_ | refine storeEq rfl ?_ | refine drawGo (by kernel_rfl) ?_ | fail); (conv => whnf)))
          exact hn17 _ () hc15 (weak_gen [] rfl rfl storeLe.nil slotsLe.nil)
      · clear hc15 h17
        intro s3 hc20
        have e := Option.some.inj hc20; subst e
        ((conv => whnf); repeat ((first | refine T_seq ?_ | refine T_z mix ?_ | refine T_cut ?_ | refine T_block ?_ | refine T_cond rfl ?_ | refine T_loop ?_ | refine storeEq rfl ?_ | refine drawGo (by kernel_rfl) ?_ | fail); (conv => whnf)))
        exact And.intro (AV.Le.refl _) rfl
theorem c_eponymref07_Tables (p_p : T_api_Props) (r : (List (List T_api_Range))) (h : m_eponymref07_Tables p_p = some r) : Contract pl 74 [(e_api_Props p_p)] [] (e_A11_L_api_Range r) [] := by
  refine contract_of .z Tryd.func74 rfl (by kernel_rfl) ?_
  ((conv => whnf); repeat ((first | refine T_seq ?_ | refine T_z mix ?_ | refine T_cut ?_ | refine T_block ?_ | refine T_cond rfl ?_ | refine T_loop ?_ | refine storeEq rfl ?_ | refine drawGo (by kernel_rfl) ?_ | fail); (conv => whnf)))
  refine natEq rfl ?_
  have e := Option.some.inj h; subst e
  ((conv => whnf); repeat ((first | refine T_seq ?_ | refine T_z mix ?_ | refine T_cut ?_ | refine T_block ?_ | refine T_cond rfl ?_ | refine T_loop ?_ | refine storeEq rfl ?_ | refine drawGo (by kernel_rfl) ?_ | fail); (conv => whnf)))
  exact And.intro (AV.Le.agg (argsLe.cons (AV.Le.refl _) (argsLe.cons (AV.Le.refl _) (argsLe.cons (AV.Le.refl _) (argsLe.cons (AV.Le.refl _) (argsLe.cons (AV.Le.refl _) (argsLe.cons (AV.Le.refl _) (argsLe.cons (AV.Le.refl _) (argsLe.cons (AV.Le.refl _) (argsLe.cons (AV.Le.refl _) (argsLe.cons (AV.Le.refl _) (argsLe.cons (AV.Le.refl _) argsLe.nil)))))))))))) rfl
theorem c_eponymlaw07_Great (p_p : T_api_Props) (r : Bool) (h : m_eponymlaw07_Great p_p = some r) : Contract pl 21 [(e_api_Props p_p)] [] (AV.bool r) [] := by
  refine contract_of (.t false .z (.t false .z (.t true .z .z))) Tryd.func21 rfl (by kernel_rfl) ?_
  ((conv => whnf); repeat ((first | refine T_seq ?_ | refine T_z mix ?_ | refine T_cut ?_ | refine T_block ?_ | refine T_cond rfl ?_ | refine T_loop ?_ | refine storeEq rfl ?_ | refine drawGo (by kernel_rfl) ?_ | fail); (conv => whnf)))
  refine bnd h (fun y1 hy1 h => ?_)
  refine Or.inl ⟨_, c_eponymref07_Tables _ _ hy1, rfl, ?_⟩
  ((conv => whnf); repeat ((first | refine T_seq ?_ | refine T_z mix ?_ | refine T_cut ?_ | refine T_block ?_ | refine T_cond rfl ?_ | refine T_loop ?_ | refine storeEq rfl ?_ | refine drawGo (by kernel_rfl) ?_ | fail); (conv => whnf)))
  refine natEq rfl ?_
  ((conv => whnf); repeat ((first | refine T_seq ?_ | refine T_z mix ?_ | refine T_cut ?_ | refine T_block ?_ | refine T_cond rfl ?_ | refine T_loop ?_ | refine storeEq rfl ?_ | refine drawGo (by kernel_rfl) ?_ | fail); (conv => whnf)))
  refine bnd h (fun x11 h11 h => ?_)
  refine cut_at (fun s2 : Unit => mkF 16 [] []) (fun s2 : Unit => some false = some r) ?_ ?_
  · intro Kn11 hn11
    ((conv => whnf); repeat ((first | refine T_seq ?_ | refine T_z mix ?_ | refine T_cut ?_ | refine T_block ?_ | refine T_cond rfl ?_ | refine T_loop ?_ | refine storeEq rfl ?_ | refine drawGo (by kernel_rfl) ?_ | fail); (conv => whnf)))
    refine loop_iter (fun s5 : Int => mkF 16 [(3, (.mp 0 0 0)), (4, (.int .i64 s5))] [some ⟨1, 82, (.imf [(y1.getD 0 []), (y1.getD 1 []), (y1.getD 2 []), (y1.getD 3 []), (y1.getD 4 []), (y1.getD 5 []), (y1.getD 6 []), (y1.getD 7 []), (y1.getD 8 []), (y1.getD 9 []), (y1.getD 10 [])].length fun j => (e_L_api_Range ([(y1.getD 0 []), (y1.getD 1 []), (y1.getD 2 []), (y1.getD 3 []), (y1.getD 4 []), (y1.getD 5 []), (y1.getD 6 []), (y1.getD 7 []), (y1.getD 8 []), (y1.getD 9 []), (y1.getD 10 [])].getD j []))), false, false⟩]) h11 (weak_gen [1] rfl rfl (storeLe.cons rfl (objLe.mk (by intro hf; first | exact hf | rfl) (by intro hf; first | exact hf | rfl) (rowLe_lit (fun x => (e_L_api_Range x)) [] [(y1.getD 0 []), (y1.getD 1 []), (y1.getD 2 []), (y1.getD 3 []), (y1.getD 4 []), (y1.getD 5 []), (y1.getD 6 []), (y1.getD 7 []), (y1.getD 8 []), (y1.getD 9 []), (y1.getD 10 [])])) storeLe.nil) (slotsLe.cons (And.intro rfl (AV.Le.refl _)) (slotsLe.cons (And.intro rfl (AV.Le.refl _)) slotsLe.nil))) ?_
    intro k7 s5 st7 Kn7 hn7 h7_ hs7
    ((conv => whnf); repeat ((first | refine T_seq ?_ | refine T_z mix ?_ | refine T_cut ?_ | refine T_block ?_ | refine T_cond rfl ?_ | refine T_loop ?_ | refine storeEq rfl ?_ | refine drawGo (by kernel_rfl) ?_ | fail); (conv => whnf)))
    refine br_b rfl h7_ (fun c12 h7_ => ?_) (fun c12 h7_ => ?_)
    · ((conv => whnf); repeat ((first | refine T_seq ?_ | refine T_z mix ?_ | refine T_cut ?_ | refine T_block ?_ | refine T_cond rfl ?_ | refine T_loop ?_ | refine storeEq rfl ?_ | refine drawGo (by kernel_rfl) ?_ | fail); (conv => whnf)))
      refine grd2 rfl rfl h7_ (fun h7_ => ?_)
      ((conv => whnf); repeat ((first | refine T_seq ?_ | refine T_z mix ?_ | refine T_cut ?_ | refine T_block ?_ | refine T_cond rfl ?_ | refine T_loop ?_ | refine storeEq rfl ?_ | refine drawGo (by kernel_rfl) ?_ | fail); (conv => whnf)))
      refine br_b rfl h7_ (fun c13 h7_ => ?_) (fun c13 h7_ => ?_)
      · have e := Option.some.inj h7_; subst e
        have e := done_out hs7; subst e
        have e := Option.some.inj h; subst e
        ((conv => whnf); repeat ((first | refine T_seq ?_ | refine T_z mix ?_ | refine T_cut ?_ | refine T_block ?_ | refine T_cond rfl ?_ | refine T_loop ?_ | refine storeEq rfl ?_ | refine drawGo (by kernel_rfl) ?_ | fail); (conv => whnf)))
        exact And.intro (AV.Le.refl _) rfl
      · have e := Option.some.inj h7_; subst e
        ((conv => whnf); repeat ((first | refine T_seq ?_ | refine T_z mix ?_ | refine T_cut ?_ | refine T_block ?_ | refine T_cond rfl ?_ | refine T_loop ?_ | refine storeEq rfl ?_ | refine drawGo (by kernel_rfl) ?_ | fail); (conv => whnf)))
        exact hn7 _ (IntKind.wrap .i64 (s5 + (1 : Int))) hs7 (weak_gen [0] rfl rfl (storeLe.cons rfl (objLe.mk (by intro hf; first | exact hf | rfl) (by intro hf; first | exact hf | rfl) (rowLe_same (fun h i hi => by rfl))) storeLe.nil) (slotsLe.cons (And.intro rfl (AV.Le.refl _)) (slotsLe.cons (And.intro rfl (AV.Le.refl _)) slotsLe.nil)))
    · have e := Option.some.inj h7_; subst e
      have e := done_out hs7; subst e
      ((conv => whnf); repeat ((first | refine T_seq ?_ | refine T_z mix ?_ | refine T_cut ?_ | refine T_block ?_ | refine T_cond rfl ?_ | refine T_loop ?_ | refine storeEq rfl ?_ | refine drawGo (by kernel_rfl) ?_ | fail); (conv => whnf)))
      exact hn11 _ () h (weak_gen [] rfl rfl storeLe.nil slotsLe.nil)
  · clear h h11
    intro s2 hc14
    have e := Option.some.inj hc14; subst e
    ((conv => whnf); repeat ((first | refine T_seq ?_ | refine T_z mix ?_ | refine T_cut ?_ | refine T_block ?_ | refine T_cond rfl ?_ | refine T_loop ?_ | refine storeEq rfl ?_ | refine drawGo (by kernel_rfl) ?_ | fail); (conv => whnf)))
    exact And.intro (AV.Le.refl _) rfl
theorem c_eponymlaw08_Great (p_t : T_api_Tables) (r : Bool) (h : m_eponymlaw08_Great p_t = some r) : Contract pl 49 [(e_api_Tables p_t)] [] (AV.bool r) [] := by
  refine contract_of .z Tryd.func49 rfl (by kernel_rfl) ?_
  ((conv => whnf); repeat ((first | refine T_seq ?_ | refine T_z mix ?_ | refine T_cut ?_ | refine T_block ?_ | refine T_cond rfl ?_ | refine T_loop ?_ | refine storeEq rfl ?_ | refine drawGo (by kernel_rfl) ?_ | fail); (conv => whnf)))
  refine bnd h (fun y1 hy1 h => ?_)
  refine Or.inl ⟨_, c_eponymlaw04_Great _ _ hy1, rfl, ?_⟩
  ((conv => whnf); repeat ((first | refine T_seq ?_ | refine T_z mix ?_ | refine T_cut ?_ | refine T_block ?_ | refine T_cond rfl ?_ | refine T_loop ?_ | refine storeEq rfl ?_ | refine drawGo (by kernel_rfl) ?_ | fail); (conv => whnf)))
  refine br_b rfl h (fun c3 h => ?_) (fun c3 h => ?_)
  · have e := Option.some.inj h; subst e
    ((conv => whnf); repeat ((first | refine T_seq ?_ | refine T_z mix ?_ | refine T_cut ?_ | refine T_block ?_ | refine T_cond rfl ?_ | refine T_loop ?_ | refine storeEq rfl ?_ | refine drawGo (by kernel_rfl) ?_ | fail); (conv => whnf)))
    exact And.intro (AV.Le.refl _) rfl
  · ((conv => whnf); repeat ((first | refine T_seq ?_ | refine T_z mix ?_ | refine T_cut ?_ | refine T_block ?_ | refine T_cond rfl ?_ | refine T_loop ?_ | refine storeEq rfl ?_ | refine drawGo (by kernel_rfl) ?_ | fail); (conv => whnf)))
    refine bnd h (fun y2 hy2 h => ?_)
    refine Or.inl ⟨_, c_eponymlaw07_Great _ _ hy2, rfl, ?_⟩
    have e := Option.some.inj h; subst e
    ((conv => whnf); repeat ((first | refine T_seq ?_ | refine T_z mix ?_ | refine T_cut ?_ | refine T_block ?_ | refine T_cond rfl ?_ | refine T_loop ?_ | refine storeEq rfl ?_ | refine drawGo (by kernel_rfl) ?_ | fail); (conv => whnf)))
    exact And.intro (AV.Le.refl _) rfl
theorem c_decomp_fault (p_at : Int) (p_e : Er) (r : Er) (h : m_decomp_fault p_at p_e = some r) : Contract pl 120 [(AV.int .i64 p_at), (AV.err p_e)] [] (AV.err r) [] := by
  refine contract_of .z Tryd.func120 rfl (by kernel_rfl) ?_
  have e := Option.some.inj h; subst e
  ((conv => whnf); repeat ((first | refine T_seq ?_ | refine T_z mix ?_ | refine T_cut ?_ | refine T_block ?_ | refine T_cond rfl ?_ | refine T_loop ?_ | refine storeEq rfl ?_ | refine drawGo (by kernel_rfl) ?_ | fail); (conv => whnf)))
  exact And.intro (AV.Le.err_box (AV.Le.refl _)) rfl
theorem c_utf_Right (p_r : Int) (r : Bool) (h : m_utf_Right p_r = some r) : Contract pl 126 [(AV.int .i32 p_r)] [] (AV.bool r) [] := by
  refine contract_of .z Tryd.func126 rfl (by kernel_rfl) ?_
  ((conv => whnf); repeat ((first | refine T_seq ?_ | refine T_z mix ?_ | refine T_cut ?_ | refine T_block ?_ | refine T_cond rfl ?_ | refine T_loop ?_ | refine storeEq rfl ?_ | refine drawGo (by kernel_rfl) ?_ | fail); (conv => whnf)))
  refine br_b rfl h (fun c1 h => ?_) (fun c1 h => ?_)
  · ((conv => whnf); repeat ((first | refine T_seq ?_ | refine T_z mix ?_ | refine T_cut ?_ | refine T_block ?_ | refine T_cond rfl ?_ | refine T_loop ?_ | refine storeEq rfl ?_ | refine drawGo (by kernel_rfl) ?_ | fail); (conv => whnf)))
    refine br_b rfl h (fun c2 h => ?_) (fun c2 h => ?_)
    · ((conv => whnf); repeat ((first | refine T_seq ?_ | refine T_z mix ?_ | refine T_cut ?_ | refine T_block ?_ | refine T_cond rfl ?_ | refine T_loop ?_ | refine storeEq rfl ?_ | refine drawGo (by kernel_rfl) ?_ | fail); (conv => whnf)))
      refine br_b rfl h (fun c3 h => ?_) (fun c3 h => ?_)
      · have e := Option.some.inj h; subst e
        ((conv => whnf); repeat ((first | refine T_seq ?_ | refine T_z mix ?_ | refine T_cut ?_ | refine T_block ?_ | refine T_cond rfl ?_ | refine T_loop ?_ | refine storeEq rfl ?_ | refine drawGo (by kernel_rfl) ?_ | fail); (conv => whnf)))
        exact And.intro (AV.Le.refl _) rfl
      · have e := Option.some.inj h; subst e
        ((conv => whnf); repeat ((first | refine T_seq ?_ | refine T_z mix ?_ | refine T_cut ?_ | refine T_block ?_ | refine T_cond rfl ?_ | refine T_loop ?_ | refine storeEq rfl ?_ | refine drawGo (by kernel_rfl) ?_ | fail); (conv => whnf)))
        exact And.intro (AV.Le.refl _) rfl
    · have e := Option.some.inj h; subst e
      ((conv => whnf); repeat ((first | refine T_seq ?_ | refine T_z mix ?_ | refine T_cut ?_ | refine T_block ?_ | refine T_cond rfl ?_ | refine T_loop ?_ | refine storeEq rfl ?_ | refine drawGo (by kernel_rfl) ?_ | fail); (conv => whnf)))
      exact And.intro (AV.Le.refl _) rfl
  · have e := Option.some.inj h; subst e
    ((conv => whnf); repeat ((first | refine T_seq ?_ | refine T_z mix ?_ | refine T_cut ?_ | refine T_block ?_ | refine T_cond rfl ?_ | refine T_loop ?_ | refine storeEq rfl ?_ | refine drawGo (by kernel_rfl) ?_ | fail); (conv => whnf)))
    exact And.intro (AV.Le.refl _) rfl
theorem c_decomp_hangul (p_r : Int) (r : Int) (h : m_decomp_hangul p_r = some r) : Contract pl 86 [(AV.int .i32 p_r)] [] (AV.int .i64 r) [] := by
  refine contract_of (.t false .z (.t false (.t false (.t true .z (.t false .z (.t true .z (.t false .z (.t true .z (.t false .z (.t true .z .z))))))) .z) .z)) Tryd.func86 rfl (by kernel_rfl) ?_
  ((conv => whnf); repeat ((first | refine T_seq ?_ | refine T_z mix ?_ | refine T_cut ?_ | refine T_block ?_ | refine T_cond rfl ?_ | refine T_loop ?_ | refine storeEq rfl ?_ | refine drawGo (by kernel_rfl) ?_ | fail); (conv => whnf)))
  refine bnd h (fun x9 h9 h => ?_)
  refine cut_at (fun s1 : Bool => mkF 31 [(0, (.int .i32 p_r)), (3, (.bool s1))] []) (fun s1 : Bool => m_decomp_hangul_K2 p_r s1 = some r) ?_ ?_
  · intro Kn9 hn9
    ((conv => whnf); repeat ((first | refine T_seq ?_ | refine T_z mix ?_ | refine T_cut ?_ | refine T_block ?_ | refine T_cond rfl ?_ | refine T_loop ?_ | refine storeEq rfl ?_ | refine drawGo (by kernel_rfl) ?_ | fail); (conv => whnf)))
    refine br_b rfl h9 (fun c10 h9 => ?_) (fun c10 h9 => ?_)
    · have e := Option.some.inj h9; subst e
      ((conv => whnf); repeat ((first | refine T_seq ?_ | refine T_z mix ?_ | refine T_cut ?_ | refine T_block ?_ | refine T_cond rfl ?_ | refine T_loop ?_ | refine storeEq rfl ?_ | refine drawGo (by kernel_rfl) ?_ | fail); (conv => whnf)))
      exact hn9 _ (decide (p_r < (4371 : Int))) h (weak_gen [] rfl rfl storeLe.nil (slotsLe.cons (And.intro rfl (AV.Le.refl _)) (slotsLe.cons (And.intro rfl (AV.Le.refl _)) slotsLe.nil)))
    · have e := Option.some.inj h9; subst e
      ((conv => whnf); repeat ((first | refine T_seq ?_ | refine T_z mix ?_ | refine T_cut ?_ | refine T_block ?_ | refine T_cond rfl ?_ | refine T_loop ?_ | refine storeEq rfl ?_ | refine drawGo (by kernel_rfl) ?_ | fail); (conv => whnf)))
      exact hn9 _ false h (weak_gen [] rfl rfl storeLe.nil (slotsLe.cons (And.intro rfl (AV.Le.refl _)) (slotsLe.cons (And.intro rfl (AV.Le.refl _)) slotsLe.nil)))
  · clear h h9
    intro s1 hc11
    ((conv => whnf); repeat ((first | refine T_seq ?_ | refine T_z mix ?_ | refine T_cut ?_ | refine T_block ?_ | refine T_cond rfl ?_ | refine T_loop ?_ | refine storeEq rfl ?_ | refine drawGo (by kernel_rfl) ?_ | fail); (conv => whnf)))
    refine br_b rfl hc11 (fun c12 hc11 => ?_) (fun c12 hc11 => ?_)
    · have e := Option.some.inj hc11; subst e
      ((conv => whnf); repeat ((first | refine T_seq ?_ | refine T_z mix ?_ | refine T_cut ?_ | refine T_block ?_ | refine T_cond rfl ?_ | refine T_loop ?_ | refine storeEq rfl ?_ | refine drawGo (by kernel_rfl) ?_ | fail); (conv => whnf)))
      exact And.intro (AV.Le.refl _) rfl
    · ((conv => whnf); repeat ((first | refine T_seq ?_ | refine T_z mix ?_ | refine T_cut ?_ | refine T_block ?_ | refine T_cond rfl ?_ | refine T_loop ?_ | refine storeEq rfl ?_ | refine drawGo (by kernel_rfl) ?_ | fail); (conv => whnf)))
      refine bnd hc11 (fun x13 h13 hc11 => ?_)
      refine cut_at (fun s3 : Bool => mkF 31 [(0, (.int .i32 p_r)), (10, (.bool s3))] []) (fun s3 : Bool => m_decomp_hangul_K4 p_r s3 = some r) ?_ ?_
      · intro Kn13 hn13
        ((conv => whnf); repeat ((first | refine T_seq ?_ | refine T_z mix ?_ | refine T_cut ?_ | refine T_block ?_ | refine T_cond rfl ?_ | refine T_loop ?_ | refine storeEq rfl ?_ | refine drawGo (by kernel_rfl) ?_ | fail); (conv => whnf)))
        refine br_b rfl h13 (fun c14 h13 => ?_) (fun c14 h13 => ?_)
        · have e := Option.some.inj h13; subst e
          ((conv => whnf); repeat ((first | refine T_seq ?_ | refine T_z mix ?_ | refine T_cut ?_ | refine T_block ?_ | refine T_cond rfl ?_ | refine T_loop ?_ | refine storeEq rfl ?_ | refine drawGo (by kernel_rfl) ?_ | fail); (conv => whnf)))
          exact hn13 _ (decide (p_r < (4470 : Int))) hc11 (weak_gen [] rfl rfl storeLe.nil (slotsLe.cons (And.intro rfl (AV.Le.refl _)) (slotsLe.cons (And.intro rfl (AV.Le.refl _)) slotsLe.nil)))
        · have e := Option.some.inj h13; subst e
          ((conv => whnf); repeat ((first | refine T_seq ?_ | refine T_z mix ?_ | refine T_cut ?_ | refine T_block ?_ | refine T_cond rfl ?_ | refine T_loop ?_ | refine storeEq rfl ?_ | refine drawGo (by kernel_rfl) ?_ | fail); (conv => whnf)))
          exact hn13 _ false hc11 (weak_gen [] rfl rfl storeLe.nil (slotsLe.cons (And.intro rfl (AV.Le.refl _)) (slotsLe.cons (And.intro rfl (AV.Le.refl _)) slotsLe.nil)))
      · clear hc11 h13
        intro s3 hc15
        ((conv => whnf); repeat ((first | refine T_seq ?_ | refine T_z mix ?_ | refine T_cut ?_ | refine T_block ?_ | refine T_cond rfl ?_ | refine T_loop ?_ | refine storeEq rfl ?_ | refine drawGo (by kernel_rfl) ?_ | fail); (conv => whnf)))
        refine br_b rfl hc15 (fun c16 hc15 => ?_) (fun c16 hc15 => ?_)
        · have e := Option.some.inj hc15; subst e
          ((conv => whnf); repeat ((first | refine T_seq ?_ | refine T_z mix ?_ | refine T_cut ?_ | refine T_block ?_ | refine T_cond rfl ?_ | refine T_loop ?_ | refine storeEq rfl ?_ | refine drawGo (by kernel_rfl) ?_ | fail); (conv => whnf)))
          exact And.intro (AV.Le.refl _) rfl
        · ((conv => whnf); repeat ((first | refine T_seq ?_ | refine T_z mix ?_ | refine T_cut ?_ | refine T_block ?_ | refine T_cond rfl ?_ | refine T_loop ?_ | refine storeEq rfl ?_ | refine drawGo (by kernel_rfl) ?_ | fail); (conv => whnf)))
          refine bnd hc15 (fun x17 h17 hc15 => ?_)
          refine cut_at (fun s5 : Bool => mkF 31 [(0, (.int .i32 p_r)), (17, (.bool s5))] []) (fun s5 : Bool => m_decomp_hangul_K6 p_r s5 = some r) ?_ ?_
          · intro Kn17 hn17
            ((conv => whnf); repeat ((first | refine T_seq ?_ | refine T_z mix ?_ | refine T_cut ?_ | refine T_block ?_ | refine T_cond rfl ?_ | refine T_loop ?_ | refine storeEq rfl ?_ | refine drawGo (by kernel_rfl) ?_ | fail); (conv => whnf)))
            refine br_b rfl h17 (fun c18 h17 => ?_) (fun c18 h17 => ?_)
            · have e := Option.some.inj h17; subst e
              ((conv => whnf); repeat ((first | refine T_seq ?_ | refine T_z mix ?_ | refine T_cut ?_ | refine T_block ?_ | refine T_cond rfl ?_ | refine T_loop ?_ | refine storeEq rfl ?_ | refine drawGo (by kernel_rfl) ?_ | fail); (conv => whnf)))
              exact hn17 _ (decide (p_r < (4547 : Int))) hc15 (weak_gen [] rfl rfl storeLe.nil (slotsLe.cons (And.intro rfl (AV.Le.refl _)) (slotsLe.cons (And.intro rfl (AV.Le.refl _)) slotsLe.nil)))
            · have e := Option.some.inj h17; subst e
              ((conv => whnf); repeat ((first | refine T_seq ?_ | refine T_z mix ?_ | refine T_cut ?_ | refine T_block ?_ | refine T_cond rfl ?_ | refine T_loop ?_ | refine storeEq rfl ?_ | refine drawGo (by kernel_rfl) ?_ | fail); (conv => whnf)))
              exact hn17 _ false hc15 (weak_gen [] rfl rfl storeLe.nil (slotsLe.cons (And.intro rfl (AV.Le.refl _)) (slotsLe.cons (And.intro rfl (AV.Le.refl _)) slotsLe.nil)))
          · clear hc15 h17
            intro s5 hc19
            ((conv => whnf); repeat ((first | refine T_seq ?_ | refine T_z mix ?_ | refine T_cut ?_ | refine T_block ?_ | refine T_cond rfl ?_ | refine T_loop ?_ | refine storeEq rfl ?_ | refine drawGo (by kernel_rfl) ?_ | fail); (conv => whnf)))
            refine br_b rfl hc19 (fun c20 hc19 => ?_) (fun c20 hc19 => ?_)
            · have e := Option.some.inj hc19; subst e
              ((conv => whnf); repeat ((first | refine T_seq ?_ | refine T_z mix ?_ | refine T_cut ?_ | refine T_block ?_ | refine T_cond rfl ?_ | refine T_loop ?_ | refine storeEq rfl ?_ | refine drawGo (by kernel_rfl) ?_ | fail); (conv => whnf)))
              exact And.intro (AV.Le.refl _) rfl
            · ((conv => whnf); repeat ((first | refine T_seq ?_ | refine T_z mix ?_ | refine T_cut ?_ | refine T_block ?_ | refine T_cond rfl ?_ | refine T_loop ?_ | refine storeEq rfl ?_ | refine drawGo (by kernel_rfl) ?_ | fail); (conv => whnf)))
              refine bnd hc19 (fun x21 h21 hc19 => ?_)
              refine cut_at (fun s7 : Bool => mkF 31 [(24, (.bool s7))] []) (fun s7 : Bool => m_decomp_hangul_K8 s7 = some r) ?_ ?_
              · intro Kn21 hn21
                ((conv => whnf); repeat ((first | refine T_seq ?_ | refine T_z mix ?_ | refine T_cut ?_ | refine T_block ?_ | refine T_cond rfl ?_ | refine T_loop ?_ | refine storeEq rfl ?_ | refine drawGo (by kernel_rfl) ?_ | fail); (conv => whnf)))
                refine br_b rfl h21 (fun c22 h21 => ?_) (fun c22 h21 => ?_)
                · have e := Option.some.inj h21; subst e
                  ((conv => whnf); repeat ((first | refine T_seq ?_ | refine T_z mix ?_ | refine T_cut ?_ | refine T_block ?_ | refine T_cond rfl ?_ | refine T_loop ?_ | refine storeEq rfl ?_ | refine drawGo (by kernel_rfl) ?_ | fail); (conv => whnf)))
                  exact hn21 _ (decide (p_r < (55204 : Int))) hc19 (weak_gen [] rfl rfl storeLe.nil (slotsLe.cons (And.intro rfl (AV.Le.refl _)) slotsLe.nil))
                · have e := Option.some.inj h21; subst e
                  ((conv => whnf); repeat ((first | refine T_seq ?_ | refine T_z mix ?_ | refine T_cut ?_ | refine T_block ?_ | refine T_cond rfl ?_ | refine T_loop ?_ | refine storeEq rfl ?_ | refine drawGo (by kernel_rfl) ?_ | fail); (conv => whnf)))
                  exact hn21 _ false hc19 (weak_gen [] rfl rfl storeLe.nil (slotsLe.cons (And.intro rfl (AV.Le.refl _)) slotsLe.nil))
              · clear hc19 h21
                intro s7 hc23
                ((conv => whnf); repeat ((first | refine T_seq ?_ | refine T_z mix ?_ | refine T_cut ?_ | refine T_block ?_ | refine T_cond rfl ?_ | refine T_loop ?_ | refine storeEq rfl ?_ | refine drawGo (by kernel_rfl) ?_ | fail); (conv => whnf)))
                refine br_b rfl hc23 (fun c24 hc23 => ?_) (fun c24 hc23 => ?_)
                · have e := Option.some.inj hc23; subst e
                  ((conv => whnf); repeat ((first | refine T_seq ?_ | refine T_z mix ?_ | refine T_cut ?_ | refine T_block ?_ | refine T_cond rfl ?_ | refine T_loop ?_ | refine storeEq rfl ?_ | refine drawGo (by kernel_rfl) ?_ | fail); (conv => whnf)))
                  exact And.intro (AV.Le.refl _) rfl
                · have e := Option.some.inj hc23; subst e
                  ((conv => whnf); repeat ((first | refine T_seq ?_ | refine T_z mix ?_ | refine T_cut ?_ | refine T_block ?_ | refine T_cond rfl ?_ | refine T_loop ?_ | refine storeEq rfl ?_ | refine drawGo (by kernel_rfl) ?_ | fail); (conv => whnf)))
                  exact And.intro (AV.Le.refl _) rfl
theorem c_decomp_rowError (p_t : T_api_Norm) (p_i : Int) (r : Er) (h : m_decomp_rowError p_t p_i = some r) : Contract pl 124 [(e_api_Norm p_t), (AV.int .i64 p_i)] [] (AV.err r) [] := by
  refine contract_of (.t false .z (.t false .z (.t false (.t true .z .z) (.t false (.t true .z .z) (.t false (.t true .z .z) (.t true (.t false .z (.t false (.t false (.t false .z (.t false .z (.t false (.t false (.t false .z (.t true .z .z)) .z) .z))) .z) .z)) .z)))))) Tryd.func124 rfl (by kernel_rfl) ?_
  ((conv => whnf); repeat ((first | refine T_seq ?_ | refine T_z mix ?_ | refine T_cut ?_ | refine T_block ?_ | refine T_cond rfl ?_ | refine T_loop ?_ | refine storeEq rfl ?_ | refine drawGo (by kernel_rfl) ?_ | fail); (conv => whnf)))
  refine grd2 rfl rfl h (fun h => ?_)
  ((conv => whnf); repeat ((first | refine T_seq ?_ | refine T_z mix ?_ | refine T_cut ?_ | refine T_block ?_ | refine T_cond rfl ?_ | refine T_loop ?_ | refine storeEq rfl ?_ | refine drawGo (by kernel_rfl) ?_ | fail); (conv => whnf)))
  refine bnd h (fun x22 h22 h => ?_)
  refine cut_at (fun s1 : Bool => mkF 76 [(1, (.int .i64 p_i)), (2, (.mp 0 0 0)), (5, (.mp 1 0 0)), (22, (.bool s1))] [some ⟨3, 40, (.vals [(e_api_Norm p_t)]), false, false⟩, some ⟨2, 103, (.vals [(e_api_Row (p_t.f_Rows.getD (p_i.toNat) d_api_Row))]), false, false⟩]) (fun s1 : Bool => m_decomp_rowError_K2 p_t p_i s1 = some r) ?_ ?_
  · intro Kn22 hn22
    ((conv => whnf); repeat ((first | refine T_seq ?_ | refine T_z mix ?_ | refine T_cut ?_ | refine T_block ?_ | refine T_cond rfl ?_ | refine T_loop ?_ | refine storeEq rfl ?_ | refine drawGo (by kernel_rfl) ?_ | fail); (conv => whnf)))
    refine bnd h22 (fun y20 hy20 h22 => ?_)
    refine Or.inl ⟨_, c_utf_Right _ _ hy20, rfl, ?_⟩
    ((conv => whnf); repeat ((first | refine T_seq ?_ | refine T_z mix ?_ | refine T_cut ?_ | refine T_block ?_ | refine T_cond rfl ?_ | refine T_loop ?_ | refine storeEq rfl ?_ | refine drawGo (by kernel_rfl) ?_ | fail); (conv => whnf)))
    refine br_b rfl h22 (fun c23 h22 => ?_) (fun c23 h22 => ?_)
    · have e := Option.some.inj h22; subst e
      ((conv => whnf); repeat ((first | refine T_seq ?_ | refine T_z mix ?_ | refine T_cut ?_ | refine T_block ?_ | refine T_cond rfl ?_ | refine T_loop ?_ | refine storeEq rfl ?_ | refine drawGo (by kernel_rfl) ?_ | fail); (conv => whnf)))
      exact hn22 _ true h (weak_gen [0, 1] rfl rfl (storeLe.cons rfl (objLe.mk (by intro hf; first | exact hf | rfl) (by intro hf; first | exact hf | rfl) (rowLe_vals (valsLe.cons (cellsLe_refl rfl) valsLe.nil))) (storeLe.cons rfl (objLe.mk (by intro hf; first | exact hf | rfl) (by intro hf; first | exact hf | rfl) (rowLe_vals (valsLe.cons (cellsLe_refl rfl) valsLe.nil))) storeLe.nil)) (slotsLe.cons (And.intro rfl (AV.Le.refl _)) (slotsLe.cons (And.intro rfl (AV.Le.refl _)) (slotsLe.cons (And.intro rfl (AV.Le.refl _)) (slotsLe.cons (And.intro rfl (AV.Le.refl _)) slotsLe.nil)))))
    · ((conv => whnf); repeat ((first | refine T_seq ?_ | refine T_z mix ?_ | refine T_cut ?_ | refine T_block ?_ | refine T_cond rfl ?_ | refine T_loop ?_ | refine storeEq rfl ?_ | refine drawGo (by kernel_rfl) ?_ | fail); (conv => whnf)))
      refine bnd h22 (fun y21 hy21 h22 => ?_)
      refine Or.inl ⟨_, c_decomp_hangul _ _ hy21, rfl, ?_⟩
      have e := Option.some.inj h22; subst e
      ((conv => whnf); repeat ((first | refine T_seq ?_ | refine T_z mix ?_ | refine T_cut ?_ | refine T_block ?_ | refine T_cond rfl ?_ | refine T_loop ?_ | refine storeEq rfl ?_ | refine drawGo (by kernel_rfl) ?_ | fail); (conv => whnf)))
      exact hn22 _ (y21 != (0 : Int)) h (weak_gen [0, 1] rfl rfl (storeLe.cons rfl (objLe.mk (by intro hf; first | exact hf | rfl) (by intro hf; first | exact hf | rfl) (rowLe_vals (valsLe.cons (cellsLe_refl rfl) valsLe.nil))) (storeLe.cons rfl (objLe.mk (by intro hf; first | exact hf | rfl) (by intro hf; first | exact hf | rfl) (rowLe_vals (valsLe.cons (cellsLe_refl rfl) valsLe.nil))) storeLe.nil)) (slotsLe.cons (And.intro rfl (AV.Le.refl _)) (slotsLe.cons (And.intro rfl (AV.Le.refl _)) (slotsLe.cons (And.intro rfl (AV.Le.refl _)) (slotsLe.cons (And.intro rfl (AV.Le.refl _)) slotsLe.nil)))))
  · clear h h22
    intro s1 hc24
    ((conv => whnf); repeat ((first | refine T_seq ?_ | refine T_z mix ?_ | refine T_cut ?_ | refine T_block ?_ | refine T_cond rfl ?_ | refine T_loop ?_ | refine storeEq rfl ?_ | refine drawGo (by kernel_rfl) ?_ | fail); (conv => whnf)))
    refine br_b rfl hc24 (fun c25 hc24 => ?_) (fun c25 hc24 => ?_)
    · have e := Option.some.inj hc24; subst e
      ((conv => whnf); repeat ((first | refine T_seq ?_ | refine T_z mix ?_ | refine T_cut ?_ | refine T_block ?_ | refine T_cond rfl ?_ | refine T_loop ?_ | refine storeEq rfl ?_ | refine drawGo (by kernel_rfl) ?_ | fail); (conv => whnf)))
      exact And.intro (AV.Le.refl _) rfl
    · ((conv => whnf); repeat ((first | refine T_seq ?_ | refine T_z mix ?_ | refine T_cut ?_ | refine T_block ?_ | refine T_cond rfl ?_ | refine T_loop ?_ | refine storeEq rfl ?_ | refine drawGo (by kernel_rfl) ?_ | fail); (conv => whnf)))
      refine bnd hc24 (fun x26 h26 hc24 => ?_)
      refine cut_at (fun s3 : Bool => mkF 76 [(5, (.mp 0 0 0)), (37, (.bool s3))] [some ⟨2, 103, (.vals [(e_api_Row (p_t.f_Rows.getD (p_i.toNat) d_api_Row))]), false, false⟩]) (fun s3 : Bool => m_decomp_rowError_K4 p_t p_i s3 = some r) ?_ ?_
      · intro Kn26 hn26
        ((conv => whnf); repeat ((first | refine T_seq ?_ | refine T_z mix ?_ | refine T_cut ?_ | refine T_block ?_ | refine T_cond rfl ?_ | refine T_loop ?_ | refine storeEq rfl ?_ | refine drawGo (by kernel_rfl) ?_ | fail); (conv => whnf)))
        refine br_b rfl h26 (fun c27 h26 => ?_) (fun c27 h26 => ?_)
        · ((conv => whnf); repeat ((first | refine T_seq ?_ | refine T_z mix ?_ | refine T_cut ?_ | refine T_block ?_ | refine T_cond rfl ?_ | refine T_loop ?_ | refine storeEq rfl ?_ | refine drawGo (by kernel_rfl) ?_ | fail); (conv => whnf)))
          refine grd2 rfl rfl h26 (fun h26 => ?_)
          have e := Option.some.inj h26; subst e
          ((conv => whnf); repeat ((first | refine T_seq ?_ | refine T_z mix ?_ | refine T_cut ?_ | refine T_block ?_ | refine T_cond rfl ?_ | refine T_loop ?_ | refine storeEq rfl ?_ | refine drawGo (by kernel_rfl) ?_ | fail); (conv => whnf)))
          exact hn26 _ (decide ((p_t.f_Rows.getD (p_i.toNat) d_api_Row).f_From ≤ (p_t.f_Rows.getD ((IntKind.wrap .i64 (p_i - (1 : Int))).toNat) d_api_Row).f_From)) hc24 (weak_gen [1] rfl rfl (storeLe.cons rfl (objLe.mk (by intro hf; first | exact hf | rfl) (by intro hf; first | exact hf | rfl) (rowLe_vals (valsLe.cons (cellsLe_refl rfl) valsLe.nil))) storeLe.nil) (slotsLe.cons (And.intro rfl (AV.Le.refl _)) (slotsLe.cons (And.intro rfl (AV.Le.refl _)) slotsLe.nil)))
        · have e := Option.some.inj h26; subst e
          ((conv => whnf); repeat ((first | refine T_seq ?_ | refine T_z mix ?_ | refine T_cut ?_ | refine T_block ?_ | refine T_cond rfl ?_ | refine T_loop ?_ | refine storeEq rfl ?_ | refine drawGo (by kernel_rfl) ?_ | fail); (conv => whnf)))
          exact hn26 _ false hc24 (weak_gen [1] rfl rfl (storeLe.cons rfl (objLe.mk (by intro hf; first | exact hf | rfl) (by intro hf; first | exact hf | rfl) (rowLe_vals (valsLe.cons (cellsLe_refl rfl) valsLe.nil))) storeLe.nil) (slotsLe.cons (And.intro rfl (AV.Le.refl _)) (slotsLe.cons (And.intro rfl (AV.Le.refl _)) slotsLe.nil)))
      · clear hc24 h26
        intro s3 hc28
        ((conv => whnf); repeat ((first | refine T_seq ?_ | refine T_z mix ?_ | refine T_cut ?_ | refine T_block ?_ | refine T_cond rfl ?_ | refine T_loop ?_ | refine storeEq rfl ?_ | refine drawGo (by kernel_rfl) ?_ | fail); (conv => whnf)))
        refine br_b rfl hc28 (fun c29 hc28 => ?_) (fun c29 hc28 => ?_)
        · have e := Option.some.inj hc28; subst e
          ((conv => whnf); repeat ((first | refine T_seq ?_ | refine T_z mix ?_ | refine T_cut ?_ | refine T_block ?_ | refine T_cond rfl ?_ | refine T_loop ?_ | refine storeEq rfl ?_ | refine drawGo (by kernel_rfl) ?_ | fail); (conv => whnf)))
          exact And.intro (AV.Le.refl _) rfl
        · ((conv => whnf); repeat ((first | refine T_seq ?_ | refine T_z mix ?_ | refine T_cut ?_ | refine T_block ?_ | refine T_cond rfl ?_ | refine T_loop ?_ | refine storeEq rfl ?_ | refine drawGo (by kernel_rfl) ?_ | fail); (conv => whnf)))
          refine bnd hc28 (fun x30 h30 hc28 => ?_)
          refine cut_at (fun s5 : Bool => mkF 76 [(5, (.mp 0 0 0)), (57, (.bool s5))] [some ⟨2, 103, (.vals [(e_api_Row (p_t.f_Rows.getD (p_i.toNat) d_api_Row))]), false, false⟩]) (fun s5 : Bool => m_decomp_rowError_K6 p_t p_i s5 = some r) ?_ ?_
          · intro Kn30 hn30
            ((conv => whnf); repeat ((first | refine T_seq ?_ | refine T_z mix ?_ | refine T_cut ?_ | refine T_block ?_ | refine T_cond rfl ?_ | refine T_loop ?_ | refine storeEq rfl ?_ | refine drawGo (by kernel_rfl) ?_ | fail); (conv => whnf)))
            refine br_b rfl h30 (fun c31 h30 => ?_) (fun c31 h30 => ?_)
            · have e := Option.some.inj h30; subst e
              ((conv => whnf); repeat ((first | refine T_seq ?_ | refine T_z mix ?_ | refine T_cut ?_ | refine T_block ?_ | refine T_cond rfl ?_ | refine T_loop ?_ | refine storeEq rfl ?_ | refine drawGo (by kernel_rfl) ?_ | fail); (conv => whnf)))
              exact hn30 _ true hc28 (weak_gen [0] rfl rfl (storeLe.cons rfl (objLe.mk (by intro hf; first | exact hf | rfl) (by intro hf; first | exact hf | rfl) (rowLe_vals (valsLe.cons (cellsLe_refl rfl) valsLe.nil))) storeLe.nil) (slotsLe.cons (And.intro rfl (AV.Le.refl _)) (slotsLe.cons (And.intro rfl (AV.Le.refl _)) slotsLe.nil)))
            · ((conv => whnf); repeat ((first | refine T_seq ?_ | refine T_z mix ?_ | refine T_cut ?_ | refine T_block ?_ | refine T_cond rfl ?_ | refine T_loop ?_ | refine storeEq rfl ?_ | refine drawGo (by kernel_rfl) ?_ | fail); (conv => whnf)))
              refine br_b rfl h30 (fun c32 h30 => ?_) (fun c32 h30 => ?_)
              · have e := Option.some.inj h30; subst e
                ((conv => whnf); repeat ((first | refine T_seq ?_ | refine T_z mix ?_ | refine T_cut ?_ | refine T_block ?_ | refine T_cond rfl ?_ | refine T_loop ?_ | refine storeEq rfl ?_ | refine drawGo (by kernel_rfl) ?_ | fail); (conv => whnf)))
                exact hn30 _ true hc28 (weak_gen [0] rfl rfl (storeLe.cons rfl (objLe.mk (by intro hf; first | exact hf | rfl) (by intro hf; first | exact hf | rfl) (rowLe_vals (valsLe.cons (cellsLe_refl rfl) valsLe.nil))) storeLe.nil) (slotsLe.cons (And.intro rfl (AV.Le.refl _)) (slotsLe.cons (And.intro rfl (AV.Le.refl _)) slotsLe.nil)))
              · ((conv => whnf); repeat ((first | refine T_seq ?_ | refine T_z mix ?_ | refine T_cut ?_ | refine T_block ?_ | refine T_cond rfl ?_ | refine T_loop ?_ | refine storeEq rfl ?_ | refine drawGo (by kernel_rfl) ?_ | fail); (conv => whnf)))
                refine grd2 rfl rfl h30 (fun h30 => ?_)
                have e := Option.some.inj h30; subst e
                ((conv => whnf); repeat ((first | refine T_seq ?_ | refine T_z mix ?_ | refine T_cut ?_ | refine T_block ?_ | refine T_cond rfl ?_ | refine T_loop ?_ | refine storeEq rfl ?_ | refine drawGo (by kernel_rfl) ?_ | fail); (conv => whnf)))
                exact hn30 _ (decide (((p_t.f_Rows.getD (p_i.toNat) d_api_Row).f_To.getD 0 0) ≥ (p_t.f_Rows.getD (p_i.toNat) d_api_Row).f_From)) hc28 (weak_gen [0] rfl rfl (storeLe.cons rfl (objLe.mk (by intro hf; first | exact hf | rfl) (by intro hf; first | exact hf | rfl) (rowLe_vals (valsLe.cons (cellsLe_refl rfl) valsLe.nil))) storeLe.nil) (slotsLe.cons (And.intro rfl (AV.Le.refl _)) (slotsLe.cons (And.intro rfl (AV.Le.refl _)) slotsLe.nil)))
          · clear hc28 h30
            intro s5 hc33
            ((conv => whnf); repeat ((first | refine T_seq ?_ | refine T_z mix ?_ | refine T_cut ?_ | refine T_block ?_ | refine T_cond rfl ?_ | refine T_loop ?_ | refine storeEq rfl ?_ | refine drawGo (by kernel_rfl) ?_ | fail); (conv => whnf)))
            refine br_b rfl hc33 (fun c34 hc33 => ?_) (fun c34 hc33 => ?_)
            · have e := Option.some.inj hc33; subst e
              ((conv => whnf); repeat ((first | refine T_seq ?_ | refine T_z mix ?_ | refine T_cut ?_ | refine T_block ?_ | refine T_cond rfl ?_ | refine T_loop ?_ | refine storeEq rfl ?_ | refine drawGo (by kernel_rfl) ?_ | fail); (conv => whnf)))
              exact And.intro (AV.Le.refl _) rfl
            · ((conv => whnf); repeat ((first | refine T_seq ?_ | refine T_z mix ?_ | refine T_cut ?_ | refine T_block ?_ | refine T_cond rfl ?_ | refine T_loop ?_ | refine storeEq rfl ?_ | refine drawGo (by kernel_rfl) ?_ | fail); (conv => whnf)))
              refine bnd hc33 (fun x35 h35 hc33 => ?_)
              refine cut_at (fun s7 : Unit => mkF 76 [] []) (fun s7 : Unit => some Er.nil = some r) ?_ ?_
              · intro Kn35 hn35
                ((conv => whnf); repeat ((first | refine T_seq ?_ | refine T_z mix ?_ | refine T_cut ?_ | refine T_block ?_ | refine T_cond rfl ?_ | refine T_loop ?_ | refine storeEq rfl ?_ | refine drawGo (by kernel_rfl) ?_ | fail); (conv => whnf)))
                refine loop_iter (fun s10 : Int => mkF 76 [(60, (e_L_i32 ((p_t.f_Rows.getD (p_i.toNat) d_api_Row).f_To))), (61, (.int .i64 (((p_t.f_Rows.getD (p_i.toNat) d_api_Row).f_To.length : Nat) : Int))), (62, (.int .i64 s10))] []) h35 (weak_gen [] rfl rfl storeLe.nil (slotsLe.cons (And.intro rfl (AV.Le.refl _)) (slotsLe.cons (And.intro rfl (AV.Le.refl _)) (slotsLe.cons (And.intro rfl (AV.Le.refl _)) slotsLe.nil)))) ?_
                intro k12 s10 st12 Kn12 hn12 h12_ hs12
                ((conv => whnf); repeat ((first | refine T_seq ?_ | refine T_z mix ?_ | refine T_cut ?_ | refine T_block ?_ | refine T_cond rfl ?_ | refine T_loop ?_ | refine storeEq rfl ?_ | refine drawGo (by kernel_rfl) ?_ | fail); (conv => whnf)))
                refine br_b rfl h12_ (fun c36 h12_ => ?_) (fun c36 h12_ => ?_)
                · ((conv => whnf); repeat ((first | refine T_seq ?_ | refine T_z mix ?_ | refine T_cut ?_ | refine T_block ?_ | refine T_cond rfl ?_ | refine T_loop ?_ | refine storeEq rfl ?_ | refine drawGo (by kernel_rfl) ?_ | fail); (conv => whnf)))
                  refine grd2 rfl rfl h12_ (fun h12_ => ?_)
                  ((conv => whnf); repeat ((first | refine T_seq ?_ | refine T_z mix ?_ | refine T_cut ?_ | refine T_block ?_ | refine T_cond rfl ?_ | refine T_loop ?_ | refine storeEq rfl ?_ | refine drawGo (by kernel_rfl) ?_ | fail); (conv => whnf)))
                  refine bnd h12_ (fun x37 h37 h12_ => ?_)
                  refine cut_at (fun s13 : Bool => mkF 76 [(60, (e_L_i32 ((p_t.f_Rows.getD (p_i.toNat) d_api_Row).f_To))), (61, (.int .i64 (((p_t.f_Rows.getD (p_i.toNat) d_api_Row).f_To.length : Nat) : Int))), (62, (.int .i64 s10)), (73, (.bool s13))] []) (fun s13 : Bool => m_decomp_rowError_K14 s10 s13 = some st12) ?_ ?_
                  · intro Kn37 hn37
                    ((conv => whnf); repeat ((first | refine T_seq ?_ | refine T_z mix ?_ | refine T_cut ?_ | refine T_block ?_ | refine T_cond rfl ?_ | refine T_loop ?_ | refine storeEq rfl ?_ | refine drawGo (by kernel_rfl) ?_ | fail); (conv => whnf)))
                    refine bnd h37 (fun y15 hy15 h37 => ?_)
                    refine Or.inl ⟨_, c_utf_Right _ _ hy15, rfl, ?_⟩
                    ((conv => whnf); repeat ((first | refine T_seq ?_ | refine T_z mix ?_ | refine T_cut ?_ | refine T_block ?_ | refine T_cond rfl ?_ | refine T_loop ?_ | refine storeEq rfl ?_ | refine drawGo (by kernel_rfl) ?_ | fail); (conv => whnf)))
                    refine br_b rfl h37 (fun c38 h37 => ?_) (fun c38 h37 => ?_)
                    · have e := Option.some.inj h37; subst e
                      ((conv => whnf); repeat ((first | refine T_seq ?_ | refine T_z mix ?_ | refine T_cut ?_ | refine T_block ?_ | refine T_cond rfl ?_ | refine T_loop ?_ | refine storeEq rfl ?_ | refine drawGo (by kernel_rfl) ?_ | fail); (conv => whnf)))
                      exact hn37 _ true h12_ (weak_gen [] rfl rfl storeLe.nil (slotsLe.cons (And.intro rfl (AV.Le.refl _)) (slotsLe.cons (And.intro rfl (AV.Le.refl _)) (slotsLe.cons (And.intro rfl (AV.Le.refl _)) (slotsLe.cons (And.intro rfl (AV.Le.refl _)) slotsLe.nil)))))
                    · ((conv => whnf); repeat ((first | refine T_seq ?_ | refine T_z mix ?_ | refine T_cut ?_ | refine T_block ?_ | refine T_cond rfl ?_ | refine T_loop ?_ | refine storeEq rfl ?_ | refine drawGo (by kernel_rfl) ?_ | fail); (conv => whnf)))
                      refine bnd h37 (fun y16 hy16 h37 => ?_)
                      refine Or.inl ⟨_, c_decomp_hangul _ _ hy16, rfl, ?_⟩
                      have e := Option.some.inj h37; subst e
                      ((conv => whnf); repeat ((first | refine T_seq ?_ | refine T_z mix ?_ | refine T_cut ?_ | refine T_block ?_ | refine T_cond rfl ?_ | refine T_loop ?_ | refine storeEq rfl ?_ | refine drawGo (by kernel_rfl) ?_ | fail); (conv => whnf)))
                      exact hn37 _ (y16 != (0 : Int)) h12_ (weak_gen [] rfl rfl storeLe.nil (slotsLe.cons (And.intro rfl (AV.Le.refl _)) (slotsLe.cons (And.intro rfl (AV.Le.refl _)) (slotsLe.cons (And.intro rfl (AV.Le.refl _)) (slotsLe.cons (And.intro rfl (AV.Le.refl _)) slotsLe.nil)))))
                  · clear h12_ h37
                    intro s13 hc39
                    ((conv => whnf); repeat ((first | refine T_seq ?_ | refine T_z mix ?_ | refine T_cut ?_ | refine T_block ?_ | refine T_cond rfl ?_ | refine T_loop ?_ | refine storeEq rfl ?_ | refine drawGo (by kernel_rfl) ?_ | fail); (conv => whnf)))
                    refine br_b rfl hc39 (fun c40 hc39 => ?_) (fun c40 hc39 => ?_)
                    · have e := Option.some.inj hc39; subst e
                      have e := done_out hs12; subst e
                      have e := Option.some.inj hc33; subst e
                      ((conv => whnf); repeat ((first | refine T_seq ?_ | refine T_z mix ?_ | refine T_cut ?_ | refine T_block ?_ | refine T_cond rfl ?_ | refine T_loop ?_ | refine storeEq rfl ?_ | refine drawGo (by kernel_rfl) ?_ | fail); (conv => whnf)))
                      exact And.intro (AV.Le.refl _) rfl
                    · have e := Option.some.inj hc39; subst e
                      ((conv => whnf); repeat ((first | refine T_seq ?_ | refine T_z mix ?_ | refine T_cut ?_ | refine T_block ?_ | refine T_cond rfl ?_ | refine T_loop ?_ | refine storeEq rfl ?_ | refine drawGo (by kernel_rfl) ?_ | fail); (conv => whnf)))
                      exact hn12 _ (IntKind.wrap .i64 (s10 + (1 : Int))) hs12 (weak_gen [] rfl rfl storeLe.nil (slotsLe.cons (And.intro rfl (AV.Le.refl _)) (slotsLe.cons (And.intro rfl (AV.Le.refl _)) (slotsLe.cons (And.intro rfl (AV.Le.refl _)) slotsLe.nil))))
                · have e := Option.some.inj h12_; subst e
                  have e := done_out hs12; subst e
                  ((conv => whnf); repeat ((first | refine T_seq ?_ | refine T_z mix ?_ | refine T_cut ?_ | refine T_block ?_ | refine T_cond rfl ?_ | refine T_loop ?_ | refine storeEq rfl ?_ | refine drawGo (by kernel_rfl) ?_ | fail); (conv => whnf)))
                  exact hn35 _ () hc33 (weak_gen [] rfl rfl storeLe.nil slotsLe.nil)
              · clear hc33 h35
                intro s7 hc41
                have e := Option.some.inj hc41; subst e
                ((conv => whnf); repeat ((first | refine T_seq ?_ | refine T_z mix ?_ | refine T_cut ?_ | refine T_block ?_ | refine T_cond rfl ?_ | refine T_loop ?_ | refine storeEq rfl ?_ | refine drawGo (by kernel_rfl) ?_ | fail); (conv => whnf)))
                exact And.intro (AV.Le.err_nil) rfl
theorem c_decomp_rises (p_t : T_api_Norm) (r : Int) (h : m_decomp_rises p_t = some r) : Contract pl 121 [(e_api_Norm p_t)] [] (AV.int .i64 r) [] := by
  refine contract_of (.t false .z (.t false .z (.t true (.t false (.t false (.t false (.t true .z .z) .z) .z) .z) .z))) Tryd.func121 rfl (by kernel_rfl) ?_
  ((conv => whnf); repeat ((first | refine T_seq ?_ | refine T_z mix ?_ | refine T_cut ?_ | refine T_block ?_ | refine T_cond rfl ?_ | refine T_loop ?_ | refine storeEq rfl ?_ | refine drawGo (by kernel_rfl) ?_ | fail); (conv => whnf)))
  refine bnd h (fun x11 h11 h => ?_)
  refine cut_at (fun s1 : Int => mkF 18 [(3, (.int .i64 s1))] []) (fun s1 : Int => some s1 = some r) ?_ ?_
  · intro Kn11 hn11
    ((conv => whnf); repeat ((first | refine T_seq ?_ | refine T_z mix ?_ | refine T_cut ?_ | refine T_block ?_ | refine T_cond rfl ?_ | refine T_loop ?_ | refine storeEq rfl ?_ | refine drawGo (by kernel_rfl) ?_ | fail); (conv => whnf)))
    refine loop_iter (fun s4 : Int => mkF 18 [(1, (.mp 0 0 0)), (3, (.int .i64 s4))] [some ⟨3, 40, (.vals [(e_api_Norm p_t)]), false, false⟩]) h11 (weak_gen [0] rfl rfl (storeLe.cons rfl (objLe.mk (by intro hf; first | exact hf | rfl) (by intro hf; first | exact hf | rfl) (rowLe_vals (valsLe.cons (cellsLe_refl rfl) valsLe.nil))) storeLe.nil) (slotsLe.cons (And.intro rfl (AV.Le.refl _)) (slotsLe.cons (And.intro rfl (AV.Le.refl _)) slotsLe.nil))) ?_
    intro k6 s4 st6 Kn6 hn6 h6_ hs6
    ((conv => whnf); repeat ((first | refine T_seq ?_ | refine T_z mix ?_ | refine T_cut ?_ | refine T_block ?_ | refine T_cond rfl ?_ | refine T_loop ?_ | refine storeEq rfl ?_ | refine drawGo (by kernel_rfl) ?_ | fail); (conv => whnf)))
    refine bnd h6_ (fun x12 h12 h6_ => ?_)
    refine cut_at (fun s7 : Bool => mkF 18 [(1, (.mp 0 0 0)), (3, (.int .i64 s4)), (14, (.bool s7))] [some ⟨3, 40, (.vals [(e_api_Norm p_t)]), false, false⟩]) (fun s7 : Bool => m_decomp_rises_K8 s4 s7 = some st6) ?_ ?_
    · intro Kn12 hn12
      ((conv => whnf); repeat ((first | refine T_seq ?_ | refine T_z mix ?_ | refine T_cut ?_ | refine T_block ?_ | refine T_cond rfl ?_ | refine T_loop ?_ | refine storeEq rfl ?_ | refine drawGo (by kernel_rfl) ?_ | fail); (conv => whnf)))
      refine br_b rfl h12 (fun c13 h12 => ?_) (fun c13 h12 => ?_)
      · ((conv => whnf); repeat ((first | refine T_seq ?_ | refine T_z mix ?_ | refine T_cut ?_ | refine T_block ?_ | refine T_cond rfl ?_ | refine T_loop ?_ | refine storeEq rfl ?_ | refine drawGo (by kernel_rfl) ?_ | fail); (conv => whnf)))
        refine bnd h12 (fun y9 hy9 h12 => ?_)
        refine Or.inl ⟨_, c_decomp_rowError _ _ _ hy9, rfl, ?_⟩
        have e := Option.some.inj h12; subst e
        ((conv => whnf); repeat ((first | refine T_seq ?_ | refine T_z mix ?_ | refine T_cut ?_ | refine T_block ?_ | refine T_cond rfl ?_ | refine T_loop ?_ | refine storeEq rfl ?_ | refine drawGo (by kernel_rfl) ?_ | fail); (conv => whnf)))
        exact hn12 _ y9.isNil h6_ (weak_gen [0] rfl rfl (storeLe.cons rfl (objLe.mk (by intro hf; first | exact hf | rfl) (by intro hf; first | exact hf | rfl) (rowLe_vals (valsLe.cons (cellsLe_refl rfl) valsLe.nil))) storeLe.nil) (slotsLe.cons (And.intro rfl (AV.Le.refl _)) (slotsLe.cons (And.intro rfl (AV.Le.refl _)) (slotsLe.cons (And.intro rfl (AV.Le.refl _)) slotsLe.nil))))
      · have e := Option.some.inj h12; subst e
        ((conv => whnf); repeat ((first | refine T_seq ?_ | refine T_z mix ?_ | refine T_cut ?_ | refine T_block ?_ | refine T_cond rfl ?_ | refine T_loop ?_ | refine storeEq rfl ?_ | refine drawGo (by kernel_rfl) ?_ | fail); (conv => whnf)))
        exact hn12 _ false h6_ (weak_gen [0] rfl rfl (storeLe.cons rfl (objLe.mk (by intro hf; first | exact hf | rfl) (by intro hf; first | exact hf | rfl) (rowLe_vals (valsLe.cons (cellsLe_refl rfl) valsLe.nil))) storeLe.nil) (slotsLe.cons (And.intro rfl (AV.Le.refl _)) (slotsLe.cons (And.intro rfl (AV.Le.refl _)) (slotsLe.cons (And.intro rfl (AV.Le.refl _)) slotsLe.nil))))
    · clear h6_ h12
      intro s7 hc14
      ((conv => whnf); repeat ((first | refine T_seq ?_ | refine T_z mix ?_ | refine T_cut ?_ | refine T_block ?_ | refine T_cond rfl ?_ | refine T_loop ?_ | refine storeEq rfl ?_ | refine drawGo (by kernel_rfl) ?_ | fail); (conv => whnf)))
      refine br_b rfl hc14 (fun c15 hc14 => ?_) (fun c15 hc14 => ?_)
      · have e := Option.some.inj hc14; subst e
        ((conv => whnf); repeat ((first | refine T_seq ?_ | refine T_z mix ?_ | refine T_cut ?_ | refine T_block ?_ | refine T_cond rfl ?_ | refine T_loop ?_ | refine storeEq rfl ?_ | refine drawGo (by kernel_rfl) ?_ | fail); (conv => whnf)))
        exact hn6 _ (IntKind.wrap .i64 (s4 + (1 : Int))) hs6 (weak_gen [0] rfl rfl (storeLe.cons rfl (objLe.mk (by intro hf; first | exact hf | rfl) (by intro hf; first | exact hf | rfl) (rowLe_vals (valsLe.cons (cellsLe_refl rfl) valsLe.nil))) storeLe.nil) (slotsLe.cons (And.intro rfl (AV.Le.refl _)) (slotsLe.cons (And.intro rfl (AV.Le.refl _)) slotsLe.nil)))
      · have e := Option.some.inj hc14; subst e
        have e := done_out hs6; subst e
        ((conv => whnf); repeat ((first | refine T_seq ?_ | refine T_z mix ?_ | refine T_cut ?_ | refine T_block ?_ | refine T_cond rfl ?_ | refine T_loop ?_ | refine storeEq rfl ?_ | refine drawGo (by kernel_rfl) ?_ | fail); (conv => whnf)))
        exact hn11 _ s4 h (weak_gen [] rfl rfl storeLe.nil (slotsLe.cons (And.intro rfl (AV.Le.refl _)) slotsLe.nil))
  · clear h h11
    intro s1 hc16
    have e := Option.some.inj hc16; subst e
    ((conv => whnf); repeat ((first | refine T_seq ?_ | refine T_z mix ?_ | refine T_cut ?_ | refine T_block ?_ | refine T_cond rfl ?_ | refine T_loop ?_ | refine storeEq rfl ?_ | refine drawGo (by kernel_rfl) ?_ | fail); (conv => whnf)))
    exact And.intro (AV.Le.refl _) rfl
theorem c_decomp_has_1 (p_x : T_api_Row) (p_a1 : Int) (r : Bool) (h : m_decomp_has_1 p_x p_a1 = some r) : Contract pl 158 [(e_api_Row p_x), (AV.ip (AV.int .i32 p_a1) 0)] [] (AV.bool r) [] := by
  refine contract_of .z Tryd.func158 rfl (by kernel_rfl) ?_
  have e := Option.some.inj h; subst e
  ((conv => whnf); repeat ((first | refine T_seq ?_ | refine T_z mix ?_ | refine T_cut ?_ | refine T_block ?_ | refine T_cond rfl ?_ | refine T_loop ?_ | refine storeEq rfl ?_ | refine drawGo (by kernel_rfl) ?_ | fail); (conv => whnf)))
  exact And.intro (AV.Le.refl _) rfl
theorem c_slices_IndexFunc_api_Row_api_Row_decomp_has_1 (p_s : (List T_api_Row)) (p_f : Int) (r : Int) (h : m_slices_IndexFunc_api_Row_api_Row_decomp_has_1 p_s p_f = some r) : Contract pl 172 [(e_L_api_Row p_s), (AV.fn (.func 158) [] [(AV.ip (AV.int .i32 p_f) 0)])] [] (AV.int .i64 r) [] := by
  refine contract_of (.t false .z (.t true .z .z)) Tryd.func172 rfl (by kernel_rfl) ?_
  ((conv => whnf); repeat ((first | refine T_seq ?_ | refine T_z mix ?_ | refine T_cut ?_ | refine T_block ?_ | refine T_cond rfl ?_ | refine T_loop ?_ | refine storeEq rfl ?_ | refine drawGo (by kernel_rfl) ?_ | fail); (conv => whnf)))
  refine bnd h (fun x11 h11 h => ?_)
  refine cut_at (fun s1 : Unit => mkF 19 [] []) (fun s1 : Unit => some (-1 : Int) = some r) ?_ ?_
  · intro Kn11 hn11
    ((conv => whnf); repeat ((first | refine T_seq ?_ | refine T_z mix ?_ | refine T_cut ?_ | refine T_block ?_ | refine T_cond rfl ?_ | refine T_loop ?_ | refine storeEq rfl ?_ | refine drawGo (by kernel_rfl) ?_ | fail); (conv => whnf)))
    refine loop_iter (fun s4 : Int => mkF 19 [(0, (e_L_api_Row p_s)), (1, (.fn (.func 158) [] [(.ip (.int .i32 p_f) 0)])), (7, (.int .i64 ((p_s.length : Nat) : Int))), (8, (.int .i64 s4))] []) h11 (weak_gen [] rfl rfl storeLe.nil (slotsLe.cons (And.intro rfl (AV.Le.refl _)) (slotsLe.cons (And.intro rfl (AV.Le.refl _)) (slotsLe.cons (And.intro rfl (AV.Le.refl _)) (slotsLe.cons (And.intro rfl (AV.Le.refl _)) slotsLe.nil))))) ?_
    intro k6 s4 st6 Kn6 hn6 h6_ hs6
    ((conv => whnf); repeat ((first | refine T_seq ?_ | refine T_z mix ?_ | refine T_cut ?_ | refine T_block ?_ | refine T_cond rfl ?_ | refine T_loop ?_ | refine storeEq rfl ?_ | refine drawGo (by kernel_rfl) ?_ | fail); (conv => whnf)))
    refine br_b rfl h6_ (fun c12 h6_ => ?_) (fun c12 h6_ => ?_)
    · ((conv => whnf); repeat ((first | refine T_seq ?_ | refine T_z mix ?_ | refine T_cut ?_ | refine T_block ?_ | refine T_cond rfl ?_ | refine T_loop ?_ | refine storeEq rfl ?_ | refine drawGo (by kernel_rfl) ?_ | fail); (conv => whnf)))
      refine grd2 rfl rfl h6_ (fun h6_ => ?_)
      ((conv => whnf); repeat ((first | refine T_seq ?_ | refine T_z mix ?_ | refine T_cut ?_ | refine T_block ?_ | refine T_cond rfl ?_ | refine T_loop ?_ | refine storeEq rfl ?_ | refine drawGo (by kernel_rfl) ?_ | fail); (conv => whnf)))
      refine bnd h6_ (fun y7 hy7 h6_ => ?_)
      refine Or.inl ⟨_, c_decomp_has_1 _ _ _ hy7, rfl, ?_⟩
      ((conv => whnf); repeat ((first | refine T_seq ?_ | refine T_z mix ?_ | refine T_cut ?_ | refine T_block ?_ | refine T_cond rfl ?_ | refine T_loop ?_ | refine storeEq rfl ?_ | refine drawGo (by kernel_rfl) ?_ | fail); (conv => whnf)))
      refine br_b rfl h6_ (fun c13 h6_ => ?_) (fun c13 h6_ => ?_)
      · have e := Option.some.inj h6_; subst e
        have e := done_out hs6; subst e
        have e := Option.some.inj h; subst e
        ((conv => whnf); repeat ((first | refine T_seq ?_ | refine T_z mix ?_ | refine T_cut ?_ | refine T_block ?_ | refine T_cond rfl ?_ | refine T_loop ?_ | refine storeEq rfl ?_ | refine drawGo (by kernel_rfl) ?_ | fail); (conv => whnf)))
        exact And.intro (AV.Le.refl _) rfl
      · have e := Option.some.inj h6_; subst e
        ((conv => whnf); repeat ((first | refine T_seq ?_ | refine T_z mix ?_ | refine T_cut ?_ | refine T_block ?_ | refine T_cond rfl ?_ | refine T_loop ?_ | refine storeEq rfl ?_ | refine drawGo (by kernel_rfl) ?_ | fail); (conv => whnf)))
        exact hn6 _ (IntKind.wrap .i64 (s4 + (1 : Int))) hs6 (weak_gen [] rfl rfl storeLe.nil (slotsLe.cons (And.intro rfl (AV.Le.refl _)) (slotsLe.cons (And.intro rfl (AV.Le.refl _)) (slotsLe.cons (And.intro rfl (AV.Le.refl _)) (slotsLe.cons (And.intro rfl (AV.Le.refl _)) slotsLe.nil)))))
    · have e := Option.some.inj h6_; subst e
      have e := done_out hs6; subst e
      ((conv => whnf); repeat ((first | refine T_seq ?_ | refine T_z mix ?_ | refine T_cut ?_ | refine T_block ?_ | refine T_cond rfl ?_ | refine T_loop ?_ | refine storeEq rfl ?_ | refine drawGo (by kernel_rfl) ?_ | fail); (conv => whnf)))
      exact hn11 _ () h (weak_gen [] rfl rfl storeLe.nil slotsLe.nil)
  · clear h h11
    intro s1 hc14
    have e := Option.some.inj hc14; subst e
    ((conv => whnf); repeat ((first | refine T_seq ?_ | refine T_z mix ?_ | refine T_cut ?_ | refine T_block ?_ | refine T_cond rfl ?_ | refine T_loop ?_ | refine storeEq rfl ?_ | refine drawGo (by kernel_rfl) ?_ | fail); (conv => whnf)))
    exact And.intro (AV.Le.refl _) rfl
theorem c_slices_ContainsFunc_api_Row_api_Row_decomp_has_1 (p_s : (List T_api_Row)) (p_f : Int) (r : Bool) (h : m_slices_ContainsFunc_api_Row_api_Row_decomp_has_1 p_s p_f = some r) : Contract pl 157 [(e_L_api_Row p_s), (AV.fn (.func 158) [] [(AV.ip (AV.int .i32 p_f) 0)])] [] (AV.bool r) [] := by
  refine contract_of .z Tryd.func157 rfl (by kernel_rfl) ?_
  ((conv => whnf); repeat ((first | refine T_seq ?_ | refine T_z mix ?_ | refine T_cut ?_ | refine T_block ?_ | refine T_cond rfl ?_ | refine T_loop ?_ | refine storeEq rfl ?_ | refine drawGo (by kernel_rfl) ?_ | fail); (conv => whnf)))
  refine bnd h (fun y1 hy1 h => ?_)
  refine Or.inl ⟨_, c_slices_IndexFunc_api_Row_api_Row_decomp_has_1 _ _ _ hy1, rfl, ?_⟩
  have e := Option.some.inj h; subst e
  ((conv => whnf); repeat ((first | refine T_seq ?_ | refine T_z mix ?_ | refine T_cut ?_ | refine T_block ?_ | refine T_cond rfl ?_ | refine T_loop ?_ | refine storeEq rfl ?_ | refine drawGo (by kernel_rfl) ?_ | fail); (conv => whnf)))
  exact And.intro (AV.Le.refl _) rfl
theorem c_decomp_has (p_t : T_api_Norm) (p_r : Int) (r : Bool) (h : m_decomp_has p_t p_r = some r) : Contract pl 122 [(e_api_Norm p_t), (AV.int .i32 p_r)] [] (AV.bool r) [] := by
  refine contract_of .z Tryd.func122 rfl (by kernel_rfl) ?_
  ((conv => whnf); repeat ((first | refine T_seq ?_ | refine T_z mix ?_ | refine T_cut ?_ | refine T_block ?_ | refine T_cond rfl ?_ | refine T_loop ?_ | refine storeEq rfl ?_ | refine drawGo (by kernel_rfl) ?_ | fail); (conv => whnf)))
  refine bnd h (fun y1 hy1 h => ?_)
  refine Or.inl ⟨_, c_slices_ContainsFunc_api_Row_api_Row_decomp_has_1 _ _ _ hy1, rfl, ?_⟩
  have e := Option.some.inj h; subst e
  ((conv => whnf); repeat ((first | refine T_seq ?_ | refine T_z mix ?_ | refine T_cut ?_ | refine T_block ?_ | refine T_cond rfl ?_ | refine T_loop ?_ | refine storeEq rfl ?_ | refine drawGo (by kernel_rfl) ?_ | fail); (conv => whnf)))
  exact And.intro (AV.Le.refl _) rfl
theorem c_decomp_find_1 (p_k : Int) (p_a1 : T_api_Norm) (p_a2 : Int) (r : Bool) (h : m_decomp_find_1 p_k p_a1 p_a2 = some r) : Contract pl 138 [(AV.int .i64 p_k), (AV.ip (e_api_Norm p_a1) 0), (AV.ip (AV.int .i32 p_a2) 0)] [] (AV.bool r) [] := by
  refine contract_of .z Tryd.func138 rfl (by kernel_rfl) ?_
  ((conv => whnf); repeat ((first | refine T_seq ?_ | refine T_z mix ?_ | refine T_cut ?_ | refine T_block ?_ | refine T_cond rfl ?_ | refine T_loop ?_ | refine storeEq rfl ?_ | refine drawGo (by kernel_rfl) ?_ | fail); (conv => whnf)))
  refine grd2 rfl rfl h (fun h => ?_)
  have e := Option.some.inj h; subst e
  ((conv => whnf); repeat ((first | refine T_seq ?_ | refine T_z mix ?_ | refine T_cut ?_ | refine T_block ?_ | refine T_cond rfl ?_ | refine T_loop ?_ | refine storeEq rfl ?_ | refine drawGo (by kernel_rfl) ?_ | fail); (conv => whnf)))
  exact And.intro (AV.Le.refl _) rfl
theorem c_sort_Search_decomp_find_1 (p_n : Int) (p_f : T_api_Norm) (p_a2 : Int) (r : Int) (h : m_sort_Search_decomp_find_1 p_n p_f p_a2 = some r) : Contract pl 136 [(AV.int .i64 p_n), (AV.fn (.func 138) [] [(AV.ip (e_api_Norm p_f) 0), (AV.ip (AV.int .i32 p_a2) 0)])] [] (AV.int .i64 r) [] := by
  refine contract_of (.t false .z (.t false .z (.t true .z .z))) Tryd.func136 rfl (by kernel_rfl) ?_
  ((conv => whnf); repeat ((first | refine T_seq ?_ | refine T_z mix ?_ | refine T_cut ?_ | refine T_block ?_ | refine T_cond rfl ?_ | refine T_loop ?_ | refine storeEq rfl ?_ | refine drawGo (by kernel_rfl) ?_ | fail); (conv => whnf)))
  refine bnd h (fun x9 h9 h => ?_)
  refine cut_at (fun s1 : Int => mkF 26 [(5, (.int .i64 s1))] []) (fun s1 : Int => some s1 = some r) ?_ ?_
  · intro Kn9 hn9
    ((conv => whnf); repeat ((first | refine T_seq ?_ | refine T_z mix ?_ | refine T_cut ?_ | refine T_block ?_ | refine T_cond rfl ?_ | refine T_loop ?_ | refine storeEq rfl ?_ | refine drawGo (by kernel_rfl) ?_ | fail); (conv => whnf)))
    refine loop_iter (fun s4 : Int × Int => mkF 26 [(1, (.fn (.func 138) [] [(.ip (e_api_Norm p_f) 0), (.ip (.int .i32 p_a2) 0)])), (5, (.int .i64 s4.1)), (6, (.int .i64 s4.2))] []) h9 (weak_gen [] rfl rfl storeLe.nil (slotsLe.cons (And.intro rfl (AV.Le.refl _)) (slotsLe.cons (And.intro rfl (AV.Le.refl _)) (slotsLe.cons (And.intro rfl (AV.Le.refl _)) slotsLe.nil)))) ?_
    intro k6 s4 st6 Kn6 hn6 h6_ hs6
    ((conv => whnf); repeat ((first | refine T_seq ?_ | refine T_z mix ?_ | refine T_cut ?_ | refine T_block ?_ | refine T_cond rfl ?_ | refine T_loop ?_ | refine storeEq rfl ?_ | refine drawGo (by kernel_rfl) ?_ | fail); (conv => whnf)))
    refine br_b rfl h6_ (fun c10 h6_ => ?_) (fun c10 h6_ => ?_)
    · ((conv => whnf); repeat ((first | refine T_seq ?_ | refine T_z mix ?_ | refine T_cut ?_ | refine T_block ?_ | refine T_cond rfl ?_ | refine T_loop ?_ | refine storeEq rfl ?_ | refine drawGo (by kernel_rfl) ?_ | fail); (conv => whnf)))
      refine And.intro (by decide) ?_
      ((conv => whnf); repeat ((first | refine T_seq ?_ | refine T_z mix ?_ | refine T_cut ?_ | refine T_block ?_ | refine T_cond rfl ?_ | refine T_loop ?_ | refine storeEq rfl ?_ | refine drawGo (by kernel_rfl) ?_ | fail); (conv => whnf)))
      refine bnd h6_ (fun y7 hy7 h6_ => ?_)
      refine Or.inl ⟨_, c_decomp_find_1 _ _ _ _ hy7, rfl, ?_⟩
      ((conv => whnf); repeat ((first | refine T_seq ?_ | refine T_z mix ?_ | refine T_cut ?_ | refine T_block ?_ | refine T_cond rfl ?_ | refine T_loop ?_ | refine storeEq rfl ?_ | refine drawGo (by kernel_rfl) ?_ | fail); (conv => whnf)))
      refine br_b rfl h6_ (fun c11 h6_ => ?_) (fun c11 h6_ => ?_)
      · have e := Option.some.inj h6_; subst e
        ((conv => whnf); repeat ((first | refine T_seq ?_ | refine T_z mix ?_ | refine T_cut ?_ | refine T_block ?_ | refine T_cond rfl ?_ | refine T_loop ?_ | refine storeEq rfl ?_ | refine drawGo (by kernel_rfl) ?_ | fail); (conv => whnf)))
        exact hn6 _ ((IntKind.wrap .i64 ((IntKind.wrap .i64 (Int.fdiv (IntKind.wrap .u64 (IntKind.wrap .i64 (s4.1 + s4.2))) 2)) + (1 : Int))), s4.2) hs6 (weak_gen [] rfl rfl storeLe.nil (slotsLe.cons (And.intro rfl (AV.Le.refl _)) (slotsLe.cons (And.intro rfl (AV.Le.refl _)) (slotsLe.cons (And.intro rfl (AV.Le.refl _)) slotsLe.nil))))
      · have e := Option.some.inj h6_; subst e
        ((conv => whnf); repeat ((first | refine T_seq ?_ | refine T_z mix ?_ | refine T_cut ?_ | refine T_block ?_ | refine T_cond rfl ?_ | refine T_loop ?_ | refine storeEq rfl ?_ | refine drawGo (by kernel_rfl) ?_ | fail); (conv => whnf)))
        exact hn6 _ (s4.1, (IntKind.wrap .i64 (Int.fdiv (IntKind.wrap .u64 (IntKind.wrap .i64 (s4.1 + s4.2))) 2))) hs6 (weak_gen [] rfl rfl storeLe.nil (slotsLe.cons (And.intro rfl (AV.Le.refl _)) (slotsLe.cons (And.intro rfl (AV.Le.refl _)) (slotsLe.cons (And.intro rfl (AV.Le.refl _)) slotsLe.nil))))
    · have e := Option.some.inj h6_; subst e
      have e := done_out hs6; subst e
      ((conv => whnf); repeat ((first | refine T_seq ?_ | refine T_z mix ?_ | refine T_cut ?_ | refine T_block ?_ | refine T_cond rfl ?_ | refine T_loop ?_ | refine storeEq rfl ?_ | refine drawGo (by kernel_rfl) ?_ | fail); (conv => whnf)))
      exact hn9 _ s4.1 h (weak_gen [] rfl rfl storeLe.nil (slotsLe.cons (And.intro rfl (AV.Le.refl _)) slotsLe.nil))
  · clear h h9
    intro s1 hc12
    have e := Option.some.inj hc12; subst e
    ((conv => whnf); repeat ((first | refine T_seq ?_ | refine T_z mix ?_ | refine T_cut ?_ | refine T_block ?_ | refine T_cond rfl ?_ | refine T_loop ?_ | refine storeEq rfl ?_ | refine drawGo (by kernel_rfl) ?_ | fail); (conv => whnf)))
    exact And.intro (AV.Le.refl _) rfl
end Go.Proofs.YtjhgaacecfmadaaDoor
