/- The law of pairs. No condition. -/
import Derived.Test.YtjhgaacecfmadaaPPutR
namespace Go.Proofs.Ytjhgaacecfmadaa
open Go Go.SE
set_option linter.unusedVariables false
set_option linter.unusedSimpArgs false
theorem wf_r32 {a : Int} (h : (Lit.int .i32 a).wf = true) : r32 a := by
  have e : (Lit.int .i32 a).wf = (decide (-2147483648 ≤ a) && decide (a ≤ 2147483647)) := rfl
  rw [e, Bool.and_eq_true, decide_eq_true_eq, decide_eq_true_eq] at h
  exact h
theorem law_compPairs (t : T_api_Norm) (a b : Int) (ha : (Lit.int .i32 a).wf = true) (hb : (Lit.int .i32 b).wf = true) : m_eponymlaw05_CompPairs t a b = some true := by
  unfold m_eponymlaw05_CompPairs
  rw [awake05, bind_some']
  obtain ⟨bb, hbb, hs⟩ := great04 t
  rw [hbb]
  simp only [Bool.not_true, cond_false, bind_some']
  have yes : m_eponymlaw05_CompPairs_K3 t a b true = some true := rfl
  cases bb with
  | true => exact yes
  | false =>
    unfold m_eponymlaw04_Right
    rw [cond_false, check04_eq t (hs rfl).2.2.2]
    simp only [bind_some']
    by_cases h0 : (chk04 t).2 = 0
    · have g := Good.of (chk04_right h0)
      rw [h0]
      show m_eponymlaw05_CompPairs_K3 t a b false = some true
      unfold m_eponymlaw05_CompPairs_K3
      rw [cond_false, pair_prog g (wf_r32 ha) (wf_r32 hb), pair_ref g (wf_r32 ha) (wf_r32 hb), bind_some', bind_some']
      by_cases hp : 0 ≤ pairF t a b
      · rw [if_pos hp, decide_eq_true (show pairF t a b ≥ 0 from hp)]
        simp
      · rw [if_neg hp, decide_eq_false (show ¬ pairF t a b ≥ 0 from hp)]
        rfl
    · rw [beq_false_of_ne h0]; exact yes
end Go.Proofs.Ytjhgaacecfmadaa
