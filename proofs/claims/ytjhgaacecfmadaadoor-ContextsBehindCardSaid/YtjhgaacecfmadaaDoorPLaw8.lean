/- Layer 8: tables that are right by the program's check; what is awake. No condition. -/
import Derived.Test.YtjhgaacecfmadaaDoorPCtx1
import Derived.Test.YtjhgaacecfmadaaDoorPCheckE
import Derived.Test.YtjhgaacecfmadaaDoorPDecomp
namespace Go.Proofs.YtjhgaacecfmadaaDoor
open Go Go.SE
set_option linter.unusedVariables false
set_option linter.unusedSimpArgs false
theorem great08 (t : T_api_Tables) : ∃ b, m_eponymlaw08_Great t = some b ∧ (b = false → small04 t.f_Norm ∧ small07 t.f_Props) := by
  obtain ⟨b1, h1, g1⟩ := great04 t.f_Norm
  obtain ⟨b2, h2, g2⟩ := great07 t.f_Props
  unfold m_eponymlaw08_Great
  rw [h1, bind_some', h2]
  cases b1 with
  | true => exact ⟨true, rfl, fun h => by cases h⟩
  | false => exact ⟨b2, rfl, fun h => ⟨g1 rfl, g2 h⟩⟩
theorem rightNone : RightT { f_Norm := { f_Rows := [], f_Classes := [], f_Excluded := [] }, f_Props := { f_Exceptions := [], f_Unassigned := [], f_Joiners := [], f_OldHangul := [], f_Unstable := [], f_Ignorable := [], f_Letters := [], f_Joining := [], f_Scripts := [], f_Directions := [], f_Marks := [] }, f_Lower := [] } := ⟨rfl, rfl⟩
theorem awake08 : m_eponymlaw08_awake = some true := by
  have h1 := holds_eq rightNone [108, 183, 108] (by decide) 1 (by decide)
  have h2 := holds_eq rightNone [108, 183] (by decide) 1 (by decide)
  unfold m_eponymlaw08_awake
  rw [show (1 : Int) = ((1 : Nat) : Int) from rfl, h1, h2]
  rfl
theorem contextsCheck_eq (t : T_api_Tables) : m_contexts_Check t = some (erOf (if (chk04 t.f_Norm).2 = 0 then chk07 t.f_Props else chk04 t.f_Norm)) := by
  unfold m_contexts_Check
  rw [decompCheck_eq, bind_some', erOf_nil, classesCheck_eq]
  by_cases h : (chk04 t.f_Norm).2 = 0
  · rw [decide_eq_true h, if_pos h]; rfl
  · rw [decide_eq_false h, if_neg h]; rfl
theorem contextsCheck_nil (t : T_api_Tables) : ∃ b, (Option.bind (m_contexts_Check t) fun y => some (!y.isNil)) = some b ∧ (b = false → RightT t) := by
  rw [contextsCheck_eq, bind_some', erOf_nil]
  refine ⟨_, rfl, fun h => ?_⟩
  have h : (if (chk04 t.f_Norm).2 = 0 then chk07 t.f_Props else chk04 t.f_Norm).2 = 0 := by simpa using h
  by_cases h4 : (chk04 t.f_Norm).2 = 0
  · rw [if_pos h4] at h; exact ⟨h4, h⟩
  · rw [if_neg h4] at h; exact absurd h h4
end Go.Proofs.YtjhgaacecfmadaaDoor
