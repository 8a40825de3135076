/- The law of classes' letters. No condition. -/
import Derived.Test.YtjhgaacecfmadaaDoorPLaw7
namespace Go.Proofs.YtjhgaacecfmadaaDoor
open Go Go.SE
set_option linter.unusedVariables false
set_option linter.unusedSimpArgs false
def blank (p : T_api_Props) : T_api_Props := { f_Exceptions := [], f_Unassigned := [], f_Joiners := [], f_OldHangul := p.f_OldHangul, f_Unstable := p.f_Unstable, f_Ignorable := p.f_Ignorable, f_Letters := [], f_Joining := p.f_Joining, f_Scripts := p.f_Scripts, f_Directions := p.f_Directions, f_Marks := p.f_Marks }
theorem blank_right {p : T_api_Props} (h : (chk07 p).2 = 0) : RightP (blank p) := by
  refine chk07_of fun j hj => ?_
  have hp := chk07_right h j hj
  have h0 : (chkR []).2 = 0 ∧ ∀ m i, i < ([] : List T_api_Range).length → valF m [] i = none := ⟨rfl, fun m i hi => absurd hi (Nat.not_lt_zero _)⟩
  match j, hj with
  | 0, _ => exact ⟨h0.1, h0.2 _⟩
  | 1, _ => exact ⟨h0.1, h0.2 _⟩
  | 2, _ => exact ⟨h0.1, h0.2 _⟩
  | 3, _ => exact hp
  | 4, _ => exact hp
  | 5, _ => exact hp
  | 6, _ => exact ⟨h0.1, h0.2 _⟩
  | 7, _ => exact hp
  | 8, _ => exact hp
  | 9, _ => exact hp
  | 10, _ => exact hp
  | n + 11, hj => exact absurd hj (by omega)
theorem letters_key {p : T_api_Props} {n : Int} (h0 : 0 ≤ n) (h1 : n ≤ 127) : (ofF (blank p) n == 1) = ldhB n := by
  have hr : rightB n = true := by
    unfold rightB
    rw [decide_eq_true (show n ≥ 0 from h0), decide_eq_true (show n ≤ 1114111 by omega), decide_eq_false (show ¬ n ≥ 55296 by omega)]; rfl
  have he : hasF [] n = false := rfl
  have hw : whyF (blank p) n = if ldhB n = true then 4 else if hasF p.f_OldHangul n = true then 6 else if hasF p.f_Unstable n = true then 7 else if hasF p.f_Ignorable n = true then 8 else 10 := by
    show (if (!rightB n) = true then (1 : Int) else if hasF [] n = true then 2 else if hasF [] n = true then 3 else if ldhB n = true then 4 else if hasF [] n = true then 5 else if hasF p.f_OldHangul n = true then 6 else if hasF p.f_Unstable n = true then 7 else if hasF p.f_Ignorable n = true then 8 else if hasF [] n = true then 9 else 10) = _
    rw [hr, he]; rfl
  unfold ofF
  rw [hw]
  cases ldhB n <;> cases hasF p.f_OldHangul n <;> cases hasF p.f_Unstable n <;> cases hasF p.f_Ignorable n <;> rfl
theorem law_classesLetters (p : T_api_Props) (n : Int) : m_eponymlaw07_ClassesLetters p n = some true := by
  unfold m_eponymlaw07_ClassesLetters
  rw [awake07, bind_some']
  obtain ⟨b, hb, _⟩ := great07 p
  rw [hb, classesCheck_right]
  simp only [Bool.not_true, cond_false, bind_some']
  have yes : m_eponymlaw07_ClassesLetters_K3 p n true = some true := rfl
  cases b with
  | true => exact yes
  | false =>
    by_cases h0 : n < 0
    · rw [decide_eq_true h0]; exact yes
    · by_cases h1 : n > 127
      · rw [decide_eq_false h0, decide_eq_true h1]; exact yes
      · rw [decide_eq_false h0, decide_eq_false h1]
        simp only [cond_false, bind_some']
        by_cases hc : (chk07 p).2 = 0
        · rw [decide_eq_true hc]
          unfold m_eponymlaw07_ClassesLetters_K3
          have e : ∀ r, m_classes_Of ({ f_Exceptions := [], f_Unassigned := [], f_Joiners := [], f_OldHangul := p.f_OldHangul, f_Unstable := p.f_Unstable, f_Ignorable := p.f_Ignorable, f_Letters := [], f_Joining := p.f_Joining, f_Scripts := p.f_Scripts, f_Directions := p.f_Directions, f_Marks := p.f_Marks } : T_api_Props) r = some (ofF (blank p) r) := fun r => of_eq (blank_right hc) r
          rw [w32 (show -2147483648 ≤ n by omega) (by omega)]
          simp only [Bool.not_true, cond_false, e, bind_some', letters_key (p := p) (show 0 ≤ n by omega) (show n ≤ 127 by omega), ldhB]
          cases decide (n ≥ 97) <;> cases decide (n ≤ 122) <;> cases decide (n ≥ 48) <;> cases decide (n ≤ 57) <;> cases (n == 45) <;> rfl
        · rw [decide_eq_false hc]; exact yes
end Go.Proofs.YtjhgaacecfmadaaDoor
