/- Contracts of functions, walked by their models; printed by a program of ours. No condition. -/
import Derived.Test.YtjhgaacecfmadaaDoorK2
import Derived.Test.YtjhgaacecfmadaaDoorProg
import Derived.KernelRfl
namespace Go.Proofs.YtjhgaacecfmadaaDoor
open Go Go.SE
set_option linter.unusedVariables false
set_option linter.unusedSimpArgs false
set_option maxRecDepth 10000
set_option maxHeartbeats 2000000
attribute [local irreducible] Contract iter
theorem c_eponymlaw04_Right (p_t : T_api_Norm) (r : Bool) (h : m_eponymlaw04_Right p_t = some r) : Contract pl 31 [(e_api_Norm p_t)] [] (AV.bool r) [] := by
  refine contract_of .z Tryd.func31 rfl (by kernel_rfl) ?_
  ((conv=>whnf);repeat((first|refine Ta ?_|refine Tz mix ?_|refine Tc ?_|refine Tb ?_|refine Td rfl ?_|refine Tl ?_|refine sE rfl ?_|refine dG (by kernel_rfl) ?_|fail);(conv=>whnf)))
  refine bnd h (fun y1 hy1 h => ?_)
  refine Or.inl ⟨_, c_eponymref04_Check _ _ hy1, rfl, ?_⟩
  have e := Option.some.inj h; subst e
  ((conv=>whnf);repeat((first|refine Ta ?_|refine Tz mix ?_|refine Tc ?_|refine Tb ?_|refine Td rfl ?_|refine Tl ?_|refine sE rfl ?_|refine dG (by kernel_rfl) ?_|fail);(conv=>whnf)))
  exact And.intro (AV.Le.refl _) rfl
end Go.Proofs.YtjhgaacecfmadaaDoor
