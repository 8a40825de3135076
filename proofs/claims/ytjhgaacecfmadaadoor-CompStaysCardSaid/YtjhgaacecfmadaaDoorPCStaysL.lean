/- The law of what stays composed. No condition. -/
import Derived.Test.YtjhgaacecfmadaaDoorPNf2
import Derived.Test.YtjhgaacecfmadaaDoorPLaw4A
import Derived.Test.YtjhgaacecfmadaaDoorPEqual
namespace Go.Proofs.YtjhgaacecfmadaaDoor
open Go Go.SE
set_option linter.unusedVariables false
set_option linter.unusedSimpArgs false
theorem wf_r32 {a : Int} (h : (Lit.int .i32 a).wf = true) : r32 a := by
  have e : (Lit.int .i32 a).wf = (decide (-2147483648 ≤ a) && decide (a ≤ 2147483647)) := rfl
  rw [e, Bool.and_eq_true, decide_eq_true_eq, decide_eq_true_eq] at h
  exact h
theorem all_r32 {l : List Int} (hw : ∀ j, j < l.length → (Lit.int .i32 (l.getD j 0)).wf = true) : ∀ x ∈ l, r32 x := fun x hx => by
  obtain ⟨i, hi, rfl⟩ := mem_get hx
  exact wf_r32 (hw i hi)
theorem law_compStays (t : T_api_Norm) (l : List Int) (hw : ∀ j, j < l.length → (Lit.int .i32 (l.getD j 0)).wf = true) : m_eponymlaw05_CompStays t l = some true := by
  unfold m_eponymlaw05_CompStays
  rw [awake05, bind_some']
  obtain ⟨bb, hbb, hs⟩ := great04 t
  rw [hbb]
  simp only [Bool.not_true, cond_false, bind_some']
  have yes : m_eponymlaw05_CompStays_K3 t l true = some true := rfl
  cases bb with
  | true => exact yes
  | false =>
    by_cases hl : l.length > 16
    · rw [cond_false, decide_eq_true (show ((l.length : Nat) : Int) > 16 by omega)]
      exact yes
    rw [cond_false, decide_eq_false (show ¬ ((l.length : Nat) : Int) > 16 by omega), cond_false, decompCheck_eq]
    simp only [bind_some']
    rw [erOf_nil]
    by_cases h0 : (chk04 t).2 = 0
    · have g := Good.of (chk04_right h0)
      rw [decide_eq_true h0]
      show m_eponymlaw05_CompStays_K3 t l false = some true
      have hr := all_r32 hw
      have h1 := allS_len g l
      have h2 : (compS t l).length ≤ (allS t l).length := putS_len t _
      have h3 := compS_len g (compS t l)
      have hr2 := comp_r32 g l hr
      unfold m_eponymlaw05_CompStays_K3 m_comp_Is
      rw [cond_false, comp_all_prog g l (by omega) hr]
      simp only [bind_some']
      have small : (compS t l).length ≤ 100 * l.length := compS_len g l
      have big : m_comp_All t (compS t l) = some (compS t l) := by
        unfold m_comp_All
        rw [all_prog g _ (by omega), bind_some', all_comp g l hr, put_prog g _ (by omega) (allS_r32 g hr)]
        rfl
      rw [all_prog g l (by omega), all_prog g (compS t l) (by omega), big, all_comp g l hr]
      simp only [bind_some']
      rw [same_eq _ _ (by omega), same_eq _ _ (by omega), equal_eq _ _ (by omega), decide_eq_true (show ((compS t l).length : Int) ≤ ((allS t l).length : Int) by omega)]
      simp
    · rw [decide_eq_false h0]
      exact yes
end Go.Proofs.YtjhgaacecfmadaaDoor
