/- The law of what is composed to the same. No condition. -/
import Derived.Test.YtjhgaacecfmadaaDoorPNf2
import Derived.Test.YtjhgaacecfmadaaDoorPLaw4A
import Derived.Test.YtjhgaacecfmadaaDoorPEqual
namespace Go.Proofs.YtjhgaacecfmadaaDoor
open Go Go.SE
set_option linter.unusedVariables false
set_option linter.unusedSimpArgs false
theorem wf_r32 {a : Int} (h : (Lit.int .i32 a).wf = true) : r32 a := by
  have e : (Lit.int .i32 a).wf = (decide (-2147483648 ≤ a) && decide (a ≤ 2147483647)) := rfl
  rw [e, Bool.and_eq_true, decide_eq_true_eq, decide_eq_true_eq] at h
  exact h
theorem all_r32 {l : List Int} (hw : ∀ j, j < l.length → (Lit.int .i32 (l.getD j 0)).wf = true) : ∀ x ∈ l, r32 x := fun x hx => by
  obtain ⟨i, hi, rfl⟩ := mem_get hx
  exact wf_r32 (hw i hi)
theorem law_compSame (t : T_api_Norm) (a b : List Int) (hwa : ∀ j, j < a.length → (Lit.int .i32 (a.getD j 0)).wf = true) (hwb : ∀ j, j < b.length → (Lit.int .i32 (b.getD j 0)).wf = true) : m_eponymlaw05_CompSame t a b = some true := by
  unfold m_eponymlaw05_CompSame
  rw [awake05, bind_some']
  obtain ⟨bb, hbb, hs⟩ := great04 t
  rw [hbb]
  simp only [Bool.not_true, cond_false, bind_some']
  have yes : m_eponymlaw05_CompSame_K3 t a b true = some true := rfl
  cases bb with
  | true => exact yes
  | false =>
    by_cases ha : a.length > 12
    · rw [cond_false, decide_eq_true (show ((a.length : Nat) : Int) > 12 by omega)]
      exact yes
    by_cases hb : b.length > 12
    · rw [cond_false, decide_eq_false (show ¬ ((a.length : Nat) : Int) > 12 by omega), cond_false, decide_eq_true (show ((b.length : Nat) : Int) > 12 by omega)]
      exact yes
    rw [cond_false, decide_eq_false (show ¬ ((a.length : Nat) : Int) > 12 by omega), cond_false, decide_eq_false (show ¬ ((b.length : Nat) : Int) > 12 by omega), cond_false, decompCheck_eq]
    simp only [bind_some']
    rw [erOf_nil]
    by_cases h0 : (chk04 t).2 = 0
    · have g := Good.of (chk04_right h0)
      rw [decide_eq_true h0]
      show m_eponymlaw05_CompSame_K3 t a b false = some true
      have hra := all_r32 hwa
      have hrb := all_r32 hwb
      have h1 := allS_len g a
      have h2 := allS_len g b
      have h3 := compS_len g a
      have h4 := compS_len g b
      have key : decide (compS t a = compS t b) = decide (allS t a = allS t b) := by
        refine decide_eq_decide.2 ⟨fun h => ?_, fun h => by unfold compS; rw [h]⟩
        rw [← all_comp g a hra, ← all_comp g b hrb, h]
      unfold m_eponymlaw05_CompSame_K3 m_comp_Same
      rw [cond_false, all_prog g a (by omega), all_prog g b (by omega), comp_all_prog g a (by omega) hra, comp_all_prog g b (by omega) hrb]
      simp only [bind_some']
      rw [same_eq _ _ (by omega), same_eq _ _ (by omega), equal_eq _ _ (by omega), key]
      simp
    · rw [decide_eq_false h0]
      exact yes
end Go.Proofs.YtjhgaacecfmadaaDoor
