/- Layer 7: what is awake; a right table with columns blanked is right. No condition. -/
import Derived.Test.YtjhgaacecfmadaaDoorPClass1
import Derived.Test.YtjhgaacecfmadaaDoorPCheckE
namespace Go.Proofs.YtjhgaacecfmadaaDoor
open Go Go.SE
set_option linter.unusedVariables false
set_option linter.unusedSimpArgs false
def demo7 : T_api_Props := { f_Exceptions := [], f_Unassigned := [], f_Joiners := [], f_OldHangul := [], f_Unstable := [{ f_Lo := 201, f_Hi := 201, f_Value := 0 }], f_Ignorable := [], f_Letters := [{ f_Lo := 233, f_Hi := 233, f_Value := 0 }], f_Joining := [], f_Scripts := [], f_Directions := [], f_Marks := [] }
theorem demo7_right : RightP demo7 := by unfold RightP; decide
theorem awake07 : m_eponymlaw07_awake = some true := by
  have h (r : Int) := of_eq demo7_right r
  have e : m_eponymlaw07_awake = Option.bind (m_classes_Of demo7 233) fun y1 => bif (y1 == (1 : Int)) then Option.bind (m_classes_Of demo7 201) fun y2 => bif (y2 == (4 : Int)) then Option.bind (m_classes_Of demo7 97) fun y3 =>
      bif (y3 == (1 : Int)) then Option.bind (m_classes_Of demo7 65) fun y4 => some (y4 == (4 : Int)) else some false else some false else some false := rfl
  rw [e, h, h, h, h]
  decide
theorem chk07_of {p : T_api_Props} (h : ∀ j, j < 11 → (chkR ((tabs p).getD j [])).2 = 0 ∧ ∀ i, i < ((tabs p).getD j []).length → valF (mxs.getD j 0) ((tabs p).getD j []) i = none) : (chk07 p).2 = 0 := by
  unfold chk07
  have : firstSome (tabF p) 11 0 = none := firstSome_none.2 fun j _ hj => by
    have hj := h j (by omega)
    unfold tabF
    rw [if_neg (fun h => h hj.1)]
    exact firstSome_none.2 fun i _ hi => hj.2 i (by omega)
  rw [this]; rfl
end Go.Proofs.YtjhgaacecfmadaaDoor
