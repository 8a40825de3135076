/- The law of contexts' checks. No condition. -/
import Derived.Test.YtjhgaacecfmadaaDoorPLaw8
import Derived.Test.YtjhgaacecfmadaaDoorPCodes4
namespace Go.Proofs.YtjhgaacecfmadaaDoor
open Go Go.SE
set_option linter.unusedVariables false
set_option linter.unusedSimpArgs false
theorem ruleR_eq (r : Int) : m_eponymref08_Rule r = some (ruleF r) := by
  unfold m_eponymref08_Rule m_eponymref08_Rule_K2 m_eponymref08_Rule_K4 m_eponymref08_Rule_K6 ruleF
  by_cases h1 : r = 8204
  · subst h1; rfl
  by_cases h2 : r = 8205
  · subst h2; rfl
  by_cases h3 : r = 183
  · subst h3; rfl
  by_cases h4 : r = 885
  · subst h4; rfl
  by_cases h5 : r = 1523
  · subst h5; rfl
  by_cases h6 : r = 1524
  · subst h6; rfl
  by_cases h7 : r = 12539
  · subst h7; rfl
  rw [beq_false_of_ne h1, beq_false_of_ne h2, beq_false_of_ne h3, beq_false_of_ne h4, beq_false_of_ne h5, beq_false_of_ne h6, beq_false_of_ne h7, if_neg h1, if_neg h2, if_neg h3, if_neg h4, if_neg (by omega), if_neg h7]
  by_cases g1 : r ≥ 1632 <;> by_cases g2 : r ≤ 1641 <;> by_cases g3 : r ≥ 1776 <;> by_cases g4 : r ≤ 1785 <;> simp [g1, g2, g3, g4]
theorem check08_eq {t : T_api_Tables} (hs : ∀ x ∈ t.f_Norm.f_Rows, x.f_To.length ≤ 4) : m_eponymref08_Check t = some (if (chk04 t.f_Norm).2 = 0 then chk07 t.f_Props else chk04 t.f_Norm) := by
  unfold m_eponymref08_Check
  rw [check04_eq _ hs, bind_some', check07_eq]
  by_cases h : (chk04 t.f_Norm).2 = 0
  · rw [if_pos h, h]; rfl
  · rw [if_neg h, bne_iff_ne.2 h]; rfl
theorem law_contextsChecks (t : T_api_Tables) (r : Int) : m_eponymlaw08_ContextsChecks t r = some true := by
  unfold m_eponymlaw08_ContextsChecks
  rw [awake08, bind_some']
  obtain ⟨g, hg, hs⟩ := great08 t
  rw [hg]
  simp only [Bool.not_true, cond_false, bind_some']
  cases g with
  | true => rfl
  | false =>
    rw [cond_false, check08_eq (hs rfl).1.2.2.2, contextsCheck_eq, rule_eq, ruleR_eq]
    have hc : (if (chk04 t.f_Norm).2 = 0 then chk07 t.f_Props else chk04 t.f_Norm).2 = 0 ∨ (if (chk04 t.f_Norm).2 = 0 then chk07 t.f_Props else chk04 t.f_Norm).2 = 4 ∨ (if (chk04 t.f_Norm).2 = 0 then chk07 t.f_Props else chk04 t.f_Norm).2 = 5 ∨ (if (chk04 t.f_Norm).2 = 0 then chk07 t.f_Props else chk04 t.f_Norm).2 = 6 ∨ (if (chk04 t.f_Norm).2 = 0 then chk07 t.f_Props else chk04 t.f_Norm).2 = 7 ∨ (if (chk04 t.f_Norm).2 = 0 then chk07 t.f_Props else chk04 t.f_Norm).2 = 9 ∨ (if (chk04 t.f_Norm).2 = 0 then chk07 t.f_Props else chk04 t.f_Norm).2 = 17 ∨ (if (chk04 t.f_Norm).2 = 0 then chk07 t.f_Props else chk04 t.f_Norm).2 = 18 := by
      by_cases h : (chk04 t.f_Norm).2 = 0
      · rw [if_pos h]
        rcases chk07_codes t.f_Props with h | h | h | h | h <;> simp [h]
      · rw [if_neg h]; exact chk04_codes t.f_Norm
    simp only [bind_some', is_erOf4 hc, cond_true, beq_self_eq_true]
end Go.Proofs.YtjhgaacecfmadaaDoor
