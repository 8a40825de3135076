/- The law of what runes are taken apart to. No condition. -/
import Derived.Test.YtjhgaacecfmadaaDoorPAll5
import Derived.Test.YtjhgaacecfmadaaDoorPLaw4
import Derived.Test.YtjhgaacecfmadaaDoorPEqual
namespace Go.Proofs.YtjhgaacecfmadaaDoor
open Go Go.SE
set_option linter.unusedVariables false
set_option linter.unusedSimpArgs false
theorem law_decompAlls (t : T_api_Norm) (l : List Int) : m_eponymlaw04_DecompAlls t l = some true := by
  unfold m_eponymlaw04_DecompAlls
  rw [awake04, bind_some']
  obtain ⟨bb, hbb, hs⟩ := great04 t
  rw [hbb]
  simp only [Bool.not_true, cond_false, bind_some']
  have yes : m_eponymlaw04_DecompAlls_K3 t l true = some true := rfl
  cases bb with
  | true => exact yes
  | false =>
    unfold m_eponymlaw04_Right
    rw [cond_false, check04_eq t (hs rfl).2.2.2]
    simp only [bind_some']
    by_cases h0 : (chk04 t).2 = 0
    · have g := Good.of (chk04_right h0)
      rw [h0]
      by_cases hl : l.length > 20
      · rw [decide_eq_true (show ((l.length : Nat) : Int) > 20 by omega)]
        exact yes
      · rw [decide_eq_false (show ¬ ((l.length : Nat) : Int) > 20 by omega)]
        show m_eponymlaw04_DecompAlls_K3 t l false = some true
        have h1 := allS_len g l
        have h2 := ordS_len (c := clsR t) l
        unfold m_eponymlaw04_DecompAlls_K3 m_decomp_Is
        rw [cond_false, all_ref g l (by omega), all_prog g l (by omega), order_prog g.cls l (by omega), order_ref g.cls l (by omega)]
        simp only [bind_some']
        rw [same_eq _ _ (by omega), same_eq _ _ (by omega), same_eq _ _ (by omega), equal_eq _ _ (by omega)]
        simp
    · rw [beq_false_of_ne h0]; exact yes
end Go.Proofs.YtjhgaacecfmadaaDoor
