/- Layer 4: sameness of rows; what is awake. No condition. -/
import Derived.Test.YtjhgaacecfmadaaDoorPLaw4A
namespace Go.Proofs.YtjhgaacecfmadaaDoor
open Go Go.SE
set_option linter.unusedVariables false
set_option linter.unusedSimpArgs false
theorem awake04 : m_eponymlaw04_awake = some true := by
  have e : m_eponymlaw04_awake = Option.bind (m_decomp_Check demo4) fun y1 => bif y1.isNil then Option.bind (m_decomp_One demo4 233) fun y2 => Option.bind (m_eponymlaw01_Same y2 [101, 769]) fun y3 => bif y3 then
      Option.bind (m_decomp_One demo4 44033) fun y4 => Option.bind (m_eponymlaw01_Same y4 [4352, 4449, 4520]) fun y5 => some y5 else some false else some false := rfl
  rw [e, decompCheck_eq, demo4_chk, demo4_one, demo4_syl]
  simp only [bind_some']
  rw [same_eq _ _ (by decide), same_eq _ _ (by decide)]
  rfl

end Go.Proofs.YtjhgaacecfmadaaDoor
