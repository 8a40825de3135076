/- The law of what stays taken apart. No condition. -/
import Derived.Test.YtjhgaacecfmadaaDoorPNf1
import Derived.Test.YtjhgaacecfmadaaDoorPLaw4
import Derived.Test.YtjhgaacecfmadaaDoorPEqual
namespace Go.Proofs.YtjhgaacecfmadaaDoor
open Go Go.SE
set_option linter.unusedVariables false
set_option linter.unusedSimpArgs false
theorem law_decompStays (t : T_api_Norm) (a b : List Int) : m_eponymlaw04_DecompStays t a b = some true := by
  unfold m_eponymlaw04_DecompStays
  rw [awake04, bind_some']
  obtain ⟨bb, hbb, hs⟩ := great04 t
  rw [hbb]
  simp only [Bool.not_true, cond_false, bind_some']
  have yes : m_eponymlaw04_DecompStays_K3 t a b true = some true := rfl
  cases bb with
  | true => exact yes
  | false =>
    by_cases ha : a.length > 12
    · rw [cond_false, decide_eq_true (show ((a.length : Nat) : Int) > 12 by omega)]
      exact yes
    by_cases hb : b.length > 12
    · rw [cond_false, decide_eq_false (show ¬ ((a.length : Nat) : Int) > 12 by omega), cond_false, decide_eq_true (show ((b.length : Nat) : Int) > 12 by omega)]
      exact yes
    rw [cond_false, decide_eq_false (show ¬ ((a.length : Nat) : Int) > 12 by omega), cond_false, decide_eq_false (show ¬ ((b.length : Nat) : Int) > 12 by omega), cond_false, decompCheck_eq]
    simp only [bind_some']
    rw [erOf_nil]
    by_cases h0 : (chk04 t).2 = 0
    · have g := Good.of (chk04_right h0)
      rw [decide_eq_true h0]
      show m_eponymlaw04_DecompStays_K3 t a b false = some true
      have h1 := allS_len g a
      have h2 := allS_len g b
      have h3 := allS_len g (a ++ b)
      have hl : (a ++ b).length = a.length + b.length := List.length_append
      have hl2 : (allS t a ++ allS t b).length = (allS t a).length + (allS t b).length := List.length_append
      unfold m_eponymlaw04_DecompStays_K3
      rw [cond_false, all_prog g a (by omega), all_prog g b (by omega)]
      simp only [bind_some']
      rw [if_pos (by omega), if_pos (by omega), if_pos (by omega), if_pos (by omega), bind_some']
      unfold m_eponymlaw04_DecompStays_K7 m_decomp_Is
      simp only
      rw [all_prog g (allS t a) (by omega), all_prog g (a ++ b) (by omega), all_prog g (allS t a ++ allS t b) (by omega)]
      simp only [bind_some']
      rw [allS_idem g a, allS_both g a b, same_eq _ _ (by omega), same_eq _ _ (by omega), equal_eq _ _ (by omega)]
      simp
    · rw [decide_eq_false h0]
      exact yes
end Go.Proofs.YtjhgaacecfmadaaDoor
