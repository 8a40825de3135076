/- The law of classes' checks. No condition. -/
import Derived.Test.YtjhgaacecfmadaaDoorPLaw7
import Derived.Test.YtjhgaacecfmadaaDoorPErr
namespace Go.Proofs.YtjhgaacecfmadaaDoor
open Go Go.SE
set_option linter.unusedVariables false
set_option linter.unusedSimpArgs false
theorem is_erOf {c : Int × Int} (h : c.2 = 0 ∨ c.2 = 4 ∨ c.2 = 6 ∨ c.2 = 17 ∨ c.2 = 18) : m_eponymlaw01_Is (erOf c) c.1 c.2 = some true := by
  obtain ⟨a, n⟩ := c
  rcases h with h | h | h | h | h <;> cases h
  · exact is_nil a
  · exact is_range a
  · exact is_order a
  · exact is_kind a
  · exact is_full a
theorem law_classesChecks (p : T_api_Props) : m_eponymlaw07_ClassesChecks p = some true := by
  unfold m_eponymlaw07_ClassesChecks
  rw [awake07, bind_some']
  obtain ⟨b, hb, _⟩ := great07 p
  rw [hb, check07_eq, classesCheck_eq]
  simp only [Bool.not_true, cond_false, bind_some', is_erOf (chk07_codes p)]
  cases b <;> rfl
end Go.Proofs.YtjhgaacecfmadaaDoor
