/- Errors: a Fault around a named error is the one of its number, at its place. No condition. -/
import Derived.Test.YtclhniadffljdaaDoorP0
namespace Go.Proofs.YtclhniadffljdaaDoor
open Go Go.SE
set_option linter.unusedVariables false
set_option linter.unusedSimpArgs false
theorem is_nil (at_ : Int) : m_eponymlaw01_Is .nil at_ 0 = some true := rfl
theorem is_fault {n : Int} {g : Nat} (hn : n ≠ 0) (h : m_eponymlaw01_Named n = some (.sent g)) (hg : g ∈ gsL) (at_ : Int) : m_eponymlaw01_Is (.box 62 at_ (.sent g)) at_ n = some true := by
  unfold m_eponymlaw01_Is
  rw [beq_false_of_ne hn]
  simp only [cond_false, Er.isNil, Bool.not_false, cond_true, m_errors_As, if_true, bind_some', h, m_errors_Is, hg, and_self, beq_self_eq_true]
theorem is_range (at_ : Int) : m_eponymlaw01_Is (.box 62 at_ (.sent 3)) at_ 4 = some true := is_fault (by decide) rfl (by decide) at_
theorem is_form (at_ : Int) : m_eponymlaw01_Is (.box 62 at_ (.sent 0)) at_ 5 = some true := is_fault (by decide) rfl (by decide) at_
theorem is_order (at_ : Int) : m_eponymlaw01_Is (.box 62 at_ (.sent 7)) at_ 6 = some true := is_fault (by decide) rfl (by decide) at_
theorem is_there (at_ : Int) : m_eponymlaw01_Is (.box 62 at_ (.sent 2)) at_ 7 = some true := is_fault (by decide) rfl (by decide) at_
theorem is_deep (at_ : Int) : m_eponymlaw01_Is (.box 62 at_ (.sent 11)) at_ 9 = some true := is_fault (by decide) rfl (by decide) at_
theorem is_bidi (at_ : Int) : m_eponymlaw01_Is (.box 62 at_ (.sent 14)) at_ 12 = some true := is_fault (by decide) rfl (by decide) at_
theorem is_empty (at_ : Int) : m_eponymlaw01_Is (.box 62 at_ (.sent 6)) at_ 16 = some true := is_fault (by decide) rfl (by decide) at_
theorem is_kind (at_ : Int) : m_eponymlaw01_Is (.box 62 at_ (.sent 18)) at_ 17 = some true := is_fault (by decide) rfl (by decide) at_
theorem is_full (at_ : Int) : m_eponymlaw01_Is (.box 62 at_ (.sent 1)) at_ 18 = some true := is_fault (by decide) rfl (by decide) at_
end Go.Proofs.YtclhniadffljdaaDoor
