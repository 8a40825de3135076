/- Contracts of functions, walked by their models; printed by a program of ours. No condition. -/
import Derived.Test.YtjhgaacecfmadaaDoorK0
import Derived.Test.YtjhgaacecfmadaaDoorProg
import Derived.KernelRfl
namespace Go.Proofs.YtjhgaacecfmadaaDoor
open Go Go.SE
set_option linter.unusedVariables false
set_option linter.unusedSimpArgs false
set_option maxRecDepth 10000
set_option maxHeartbeats 2000000
attribute [local irreducible] Contract iter
theorem c_classes_columns (p_p : T_api_Props) (r : (List T_classes_column)) (h : m_classes_columns p_p = some r) : Contract pl 75 [(e_api_Props p_p)] [] (e_L_classes_column r) [] := by
  refine contract_of .z Tryd.func75 rfl (by kernel_rfl) ?_
  have e := Option.some.inj h; subst e
  ((conv => whnf); repeat ((first | refine T_seq ?_ | refine T_z mix ?_ | refine T_cut ?_ | refine T_block ?_ | refine T_cond rfl ?_ | refine T_loop ?_ | refine storeEq rfl ?_ | refine drawGo (by kernel_rfl) ?_ | fail); (conv => whnf)))
  exact And.intro (AV.Le.lits (enc := fun x => (e_classes_column x)) d_classes_column rfl (litsLe.cons (argsLe.cons (AV.Le.refl _) (argsLe.cons (AV.Le.refl _) argsLe.nil)) rfl (litsLe.cons (argsLe.cons (AV.Le.refl _) (argsLe.cons (AV.Le.refl _) argsLe.nil)) rfl (litsLe.cons (argsLe.cons (AV.Le.refl _) (argsLe.cons (AV.Le.refl _) argsLe.nil)) rfl (litsLe.cons (argsLe.cons (AV.Le.refl _) (argsLe.cons (AV.Le.refl _) argsLe.nil)) rfl (litsLe.cons (argsLe.cons (AV.Le.refl _) (argsLe.cons (AV.Le.refl _) argsLe.nil)) rfl (litsLe.cons (argsLe.cons (AV.Le.refl _) (argsLe.cons (AV.Le.refl _) argsLe.nil)) rfl (litsLe.cons (argsLe.cons (AV.Le.refl _) (argsLe.cons (AV.Le.refl _) argsLe.nil)) rfl (litsLe.cons (argsLe.cons (AV.Le.refl _) (argsLe.cons (AV.Le.refl _) argsLe.nil)) rfl (litsLe.cons (argsLe.cons (AV.Le.refl _) (argsLe.cons (AV.Le.refl _) argsLe.nil)) rfl (litsLe.cons (argsLe.cons (AV.Le.refl _) (argsLe.cons (AV.Le.refl _) argsLe.nil)) rfl (litsLe.cons (argsLe.cons (AV.Le.refl _) (argsLe.cons (AV.Le.refl _) argsLe.nil)) rfl litsLe.nil)))))))))))) rfl
theorem c_ranges_may (p_x : T_api_Range) (r : Bool) (h : m_ranges_may p_x = some r) : Contract pl 162 [(e_api_Range p_x)] [] (AV.bool r) [] := by
  refine contract_of .z Tryd.func162 rfl (by kernel_rfl) ?_
  ((conv => whnf); repeat ((first | refine T_seq ?_ | refine T_z mix ?_ | refine T_cut ?_ | refine T_block ?_ | refine T_cond rfl ?_ | refine T_loop ?_ | refine storeEq rfl ?_ | refine drawGo (by kernel_rfl) ?_ | fail); (conv => whnf)))
  refine br_b rfl h (fun c1 h => ?_) (fun c1 h => ?_)
  · ((conv => whnf); repeat ((first | refine T_seq ?_ | refine T_z mix ?_ | refine T_cut ?_ | refine T_block ?_ | refine T_cond rfl ?_ | refine T_loop ?_ | refine storeEq rfl ?_ | refine drawGo (by kernel_rfl) ?_ | fail); (conv => whnf)))
    refine br_b rfl h (fun c2 h => ?_) (fun c2 h => ?_)
    · ((conv => whnf); repeat ((first | refine T_seq ?_ | refine T_z mix ?_ | refine T_cut ?_ | refine T_block ?_ | refine T_cond rfl ?_ | refine T_loop ?_ | refine storeEq rfl ?_ | refine drawGo (by kernel_rfl) ?_ | fail); (conv => whnf)))
      refine br_b rfl h (fun c3 h => ?_) (fun c3 h => ?_)
      · ((conv => whnf); repeat ((first | refine T_seq ?_ | refine T_z mix ?_ | refine T_cut ?_ | refine T_block ?_ | refine T_cond rfl ?_ | refine T_loop ?_ | refine storeEq rfl ?_ | refine drawGo (by kernel_rfl) ?_ | fail); (conv => whnf)))
        refine br_b rfl h (fun c4 h => ?_) (fun c4 h => ?_)
        · have e := Option.some.inj h; subst e
          ((conv => whnf); repeat ((first | refine T_seq ?_ | refine T_z mix ?_ | refine T_cut ?_ | refine T_block ?_ | refine T_cond rfl ?_ | refine T_loop ?_ | refine storeEq rfl ?_ | refine drawGo (by kernel_rfl) ?_ | fail); (conv => whnf)))
          exact And.intro (AV.Le.refl _) rfl
        · have e := Option.some.inj h; subst e
          ((conv => whnf); repeat ((first | refine T_seq ?_ | refine T_z mix ?_ | refine T_cut ?_ | refine T_block ?_ | refine T_cond rfl ?_ | refine T_loop ?_ | refine storeEq rfl ?_ | refine drawGo (by kernel_rfl) ?_ | fail); (conv => whnf)))
          exact And.intro (AV.Le.refl _) rfl
      · have e := Option.some.inj h; subst e
        ((conv => whnf); repeat ((first | refine T_seq ?_ | refine T_z mix ?_ | refine T_cut ?_ | refine T_block ?_ | refine T_cond rfl ?_ | refine T_loop ?_ | refine storeEq rfl ?_ | refine drawGo (by kernel_rfl) ?_ | fail); (conv => whnf)))
        exact And.intro (AV.Le.refl _) rfl
    · have e := Option.some.inj h; subst e
      ((conv => whnf); repeat ((first | refine T_seq ?_ | refine T_z mix ?_ | refine T_cut ?_ | refine T_block ?_ | refine T_cond rfl ?_ | refine T_loop ?_ | refine storeEq rfl ?_ | refine drawGo (by kernel_rfl) ?_ | fail); (conv => whnf)))
      exact And.intro (AV.Le.refl _) rfl
  · have e := Option.some.inj h; subst e
    ((conv => whnf); repeat ((first | refine T_seq ?_ | refine T_z mix ?_ | refine T_cut ?_ | refine T_block ?_ | refine T_cond rfl ?_ | refine T_loop ?_ | refine storeEq rfl ?_ | refine drawGo (by kernel_rfl) ?_ | fail); (conv => whnf)))
    exact And.intro (AV.Le.refl _) rfl
theorem c_ranges_fault (p_at : Int) (p_e : Er) (r : Er) (h : m_ranges_fault p_at p_e = some r) : Contract pl 131 [(AV.int .i64 p_at), (AV.err p_e)] [] (AV.err r) [] := by
  refine contract_of .z Tryd.func131 rfl (by kernel_rfl) ?_
  have e := Option.some.inj h; subst e
  ((conv => whnf); repeat ((first | refine T_seq ?_ | refine T_z mix ?_ | refine T_cut ?_ | refine T_block ?_ | refine T_cond rfl ?_ | refine T_loop ?_ | refine storeEq rfl ?_ | refine drawGo (by kernel_rfl) ?_ | fail); (conv => whnf)))
  exact And.intro (AV.Le.err_box (AV.Le.refl _)) rfl
end Go.Proofs.YtjhgaacecfmadaaDoor
