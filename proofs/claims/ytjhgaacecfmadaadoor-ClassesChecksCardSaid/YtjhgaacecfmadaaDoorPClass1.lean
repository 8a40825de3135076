/- A rune's class as the program answers it. No condition. -/
import Derived.Test.YtjhgaacecfmadaaDoorPProps
namespace Go.Proofs.YtjhgaacecfmadaaDoor
open Go Go.SE
set_option linter.unusedVariables false
set_option linter.unusedSimpArgs false
def rightB (r : Int) : Bool := decide (r ≥ 0) && decide (r ≤ 1114111) && !(decide (r ≥ 55296) && decide (r ≤ 57343))
theorem utfRight_eq (r : Int) : m_utf_Right r = some (rightB r) := by
  unfold m_utf_Right rightB
  by_cases h1 : r ≥ 0
  · by_cases h2 : r ≤ 1114111
    · by_cases h3 : r < 55296
      · rw [decide_eq_true h1, decide_eq_true h2, decide_eq_true h3, decide_eq_false (show ¬ r ≥ 55296 by omega)]; rfl
      · rw [decide_eq_true h1, decide_eq_true h2, decide_eq_false h3, decide_eq_true (show r ≥ 55296 by omega)]
        by_cases h4 : r > 57343
        · rw [decide_eq_true h4, decide_eq_false (show ¬ r ≤ 57343 by omega)]; rfl
        · rw [decide_eq_false h4, decide_eq_true (show r ≤ 57343 by omega)]; rfl
    · rw [decide_eq_true h1, decide_eq_false h2]; rfl
  · rw [decide_eq_false h1]; rfl
def ldhB (r : Int) : Bool := (decide (r ≥ 97) && decide (r ≤ 122)) || ((decide (r ≥ 48) && decide (r ≤ 57)) || r == 45)
theorem ldh_eq (r : Int) : m_classes_ldh r = some (ldhB r) := by
  unfold m_classes_ldh ldhB
  cases decide (r ≥ 97) <;> cases decide (r ≤ 122) <;> cases decide (r ≥ 48) <;> cases decide (r ≤ 57) <;> rfl
/-- Right properties. -/
def RightP (p : T_api_Props) : Prop := (chk07 p).2 = 0
def hasF (l : List T_api_Range) (r : Int) : Bool := (fnd l r).2
theorem has_eq {l : List T_api_Range} (ho : ordered l ∧ l.length ≤ 2000) (r : Int) : m_classes_Why_1 l r = some (hasF l r) := by
  unfold m_classes_Why_1 m_classes_in hasF
  rw [ranges_find_eq _ _ (by omega) ho.1]; rfl
def whyF (p : T_api_Props) (r : Int) : Int :=
  if (!rightB r) = true then 1 else if hasF p.f_Exceptions r = true then 2 else if hasF p.f_Unassigned r = true then 3 else if ldhB r = true then 4 else if hasF p.f_Joiners r = true then 5
  else if hasF p.f_OldHangul r = true then 6 else if hasF p.f_Unstable r = true then 7 else if hasF p.f_Ignorable r = true then 8 else if hasF p.f_Letters r = true then 9 else 10
theorem why_eq {p : T_api_Props} (h : RightP p) (r : Int) : m_classes_Why p r = some (whyF p r) := by
  have o0 : ordered p.f_Exceptions ∧ p.f_Exceptions.length ≤ 2000 := tab_ordered h (j := 0) (by omega)
  have o1 : ordered p.f_Unassigned ∧ p.f_Unassigned.length ≤ 2000 := tab_ordered h (j := 1) (by omega)
  have o2 : ordered p.f_Joiners ∧ p.f_Joiners.length ≤ 2000 := tab_ordered h (j := 2) (by omega)
  have o3 : ordered p.f_OldHangul ∧ p.f_OldHangul.length ≤ 2000 := tab_ordered h (j := 3) (by omega)
  have o4 : ordered p.f_Unstable ∧ p.f_Unstable.length ≤ 2000 := tab_ordered h (j := 4) (by omega)
  have o5 : ordered p.f_Ignorable ∧ p.f_Ignorable.length ≤ 2000 := tab_ordered h (j := 5) (by omega)
  have o6 : ordered p.f_Letters ∧ p.f_Letters.length ≤ 2000 := tab_ordered h (j := 6) (by omega)
  unfold m_classes_Why whyF
  rw [utfRight_eq, has_eq o0, has_eq o1, has_eq o2, has_eq o3, has_eq o4, has_eq o5, has_eq o6, ldh_eq]
  simp only [bind_some', cond_ite]
  repeat' split
  all_goals rfl
theorem why_range (p : T_api_Props) (r : Int) : whyF p r = 1 ∨ whyF p r = 2 ∨ whyF p r = 3 ∨ whyF p r = 4 ∨ whyF p r = 5 ∨ whyF p r = 6 ∨ whyF p r = 7 ∨ whyF p r = 8 ∨ whyF p r = 9 ∨ whyF p r = 10 := by
  unfold whyF
  repeat' split
  all_goals simp
def ofF (p : T_api_Props) (r : Int) : Int :=
  if whyF p r = 2 then (fnd p.f_Exceptions r).1 else if whyF p r = 3 then 5 else if whyF p r = 4 ∨ whyF p r = 9 then 1 else if whyF p r = 5 then 2 else 4
theorem of_eq {p : T_api_Props} (h : RightP p) (r : Int) : m_classes_Of p r = some (ofF p r) := by
  have o0 : ordered p.f_Exceptions ∧ p.f_Exceptions.length ≤ 2000 := tab_ordered h (j := 0) (by omega)
  unfold m_classes_Of ofF
  rw [why_eq h, bind_some', ranges_find_eq _ _ (by omega) o0.1]
  rcases why_range p r with e | e | e | e | e | e | e | e | e | e <;> rw [e] <;> rfl
end Go.Proofs.YtjhgaacecfmadaaDoor
