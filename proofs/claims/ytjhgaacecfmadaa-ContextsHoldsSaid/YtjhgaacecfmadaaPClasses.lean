/- A rune's class: the program and the reference answer alike; contexts' First; the law. No condition. -/
import Derived.Test.YtjhgaacecfmadaaPContexts
namespace Go.Proofs.Ytjhgaacecfmadaa
open Go Go.SE
set_option linter.unusedVariables false
set_option linter.unusedSimpArgs false
theorem utfRight_eq (r : Int) : m_utf_Right r = some (rightB r) := by
  unfold m_utf_Right rightB
  by_cases h1 : r ≥ 0
  · by_cases h2 : r ≤ 1114111
    · by_cases h3 : r < 55296
      · rw [decide_eq_true h1, decide_eq_true h2, decide_eq_true h3, decide_eq_false (show ¬ r ≥ 55296 by omega)]; rfl
      · rw [decide_eq_true h1, decide_eq_true h2, decide_eq_false h3, decide_eq_true (show r ≥ 55296 by omega)]
        by_cases h4 : r > 57343
        · rw [decide_eq_true h4, decide_eq_false (show ¬ r ≤ 57343 by omega)]; rfl
        · rw [decide_eq_false h4, decide_eq_true (show r ≤ 57343 by omega)]; rfl
    · rw [decide_eq_true h1, decide_eq_false h2]; rfl
  · rw [decide_eq_false h1]; rfl
def ldhB (r : Int) : Bool := (decide (r ≥ 97) && decide (r ≤ 122)) || ((decide (r ≥ 48) && decide (r ≤ 57)) || r == 45)
theorem ldh_eq (r : Int) : m_classes_ldh r = some (ldhB r) := by
  unfold m_classes_ldh ldhB
  cases decide (r ≥ 97) <;> cases decide (r ≤ 122) <;> cases decide (r ≥ 48) <;> cases decide (r ≤ 57) <;> rfl
/-- Right properties. -/
def RightP (p : T_api_Props) : Prop := (chk07 p).2 = 0
def hasF (l : List T_api_Range) (r : Int) : Bool := (fnd l r).2
theorem hasR_eq {l : List T_api_Range} (hl : l.length ≤ 2000) (r : Int) : m_eponymref07_Has l r = some (hasF l r) := by
  unfold m_eponymref07_Has hasF
  rw [find_eq _ _ (by omega)]; rfl
theorem has_eq {l : List T_api_Range} (ho : ordered l ∧ l.length ≤ 2000) (r : Int) : m_classes_Why_1 l r = some (hasF l r) := by
  unfold m_classes_Why_1 m_classes_in hasF
  rw [ranges_find_eq _ _ (by omega) ho.1]; rfl
def whyF (p : T_api_Props) (r : Int) : Int :=
  if (!rightB r) = true then 1 else if hasF p.f_Exceptions r = true then 2 else if hasF p.f_Unassigned r = true then 3 else if ldhB r = true then 4 else if hasF p.f_Joiners r = true then 5
  else if hasF p.f_OldHangul r = true then 6 else if hasF p.f_Unstable r = true then 7 else if hasF p.f_Ignorable r = true then 8 else if hasF p.f_Letters r = true then 9 else 10
theorem why_eq {p : T_api_Props} (h : RightP p) (r : Int) : m_classes_Why p r = some (whyF p r) := by
  have o0 : ordered p.f_Exceptions ∧ p.f_Exceptions.length ≤ 2000 := tab_ordered h (j := 0) (by omega)
  have o1 : ordered p.f_Unassigned ∧ p.f_Unassigned.length ≤ 2000 := tab_ordered h (j := 1) (by omega)
  have o2 : ordered p.f_Joiners ∧ p.f_Joiners.length ≤ 2000 := tab_ordered h (j := 2) (by omega)
  have o3 : ordered p.f_OldHangul ∧ p.f_OldHangul.length ≤ 2000 := tab_ordered h (j := 3) (by omega)
  have o4 : ordered p.f_Unstable ∧ p.f_Unstable.length ≤ 2000 := tab_ordered h (j := 4) (by omega)
  have o5 : ordered p.f_Ignorable ∧ p.f_Ignorable.length ≤ 2000 := tab_ordered h (j := 5) (by omega)
  have o6 : ordered p.f_Letters ∧ p.f_Letters.length ≤ 2000 := tab_ordered h (j := 6) (by omega)
  unfold m_classes_Why whyF
  rw [utfRight_eq, has_eq o0, has_eq o1, has_eq o2, has_eq o3, has_eq o4, has_eq o5, has_eq o6, ldh_eq]
  simp only [bind_some', cond_ite]
  repeat' split
  all_goals rfl
theorem whyR_loop (s1 y3 y4 y5 y6 y7 y8 y9 y10 : Bool) : iter (m_eponymref07_Why_L15 s1 y3 y4 y5 y6 y7 y8 y9 y10) 0 = some (if (!y3) = true then 0 else if y4 = true then 1 else if y5 = true then 2 else if s1 = true then 3 else if y6 = true then 4 else if y7 = true then 5 else if y8 = true then 6 else if y9 = true then 7 else if y10 = true then 8 else 9) := by
  refine iter_of (k := 11) ?_
  cases y3 with
  | false => rfl
  | true =>
  cases y4 with
  | true => rfl
  | false =>
  cases y5 with
  | true => rfl
  | false =>
  cases s1 with
  | true => rfl
  | false =>
  cases y6 with
  | true => rfl
  | false =>
  cases y7 with
  | true => rfl
  | false =>
  cases y8 with
  | true => rfl
  | false =>
  cases y9 with
  | true => rfl
  | false =>
  cases y10 with
  | true => rfl
  | false =>
  rfl
theorem whyR_eq {p : T_api_Props} (h : RightP p) (r : Int) : m_eponymref07_Why p r = some (whyF p r) := by
  have o0 : ordered p.f_Exceptions ∧ p.f_Exceptions.length ≤ 2000 := tab_ordered h (j := 0) (by omega)
  have o1 : ordered p.f_Unassigned ∧ p.f_Unassigned.length ≤ 2000 := tab_ordered h (j := 1) (by omega)
  have o2 : ordered p.f_Joiners ∧ p.f_Joiners.length ≤ 2000 := tab_ordered h (j := 2) (by omega)
  have o3 : ordered p.f_OldHangul ∧ p.f_OldHangul.length ≤ 2000 := tab_ordered h (j := 3) (by omega)
  have o4 : ordered p.f_Unstable ∧ p.f_Unstable.length ≤ 2000 := tab_ordered h (j := 4) (by omega)
  have o5 : ordered p.f_Ignorable ∧ p.f_Ignorable.length ≤ 2000 := tab_ordered h (j := 5) (by omega)
  have o6 : ordered p.f_Letters ∧ p.f_Letters.length ≤ 2000 := tab_ordered h (j := 6) (by omega)
  have e : m_eponymref07_Why p r = Option.bind (m_classes_ldh r) fun s1 => m_eponymref07_Why_K2 p r s1 := rfl
  rw [e, ldh_eq, bind_some']
  unfold m_eponymref07_Why_K2 whyF
  rw [right_eq, hasR_eq o0.2, hasR_eq o1.2, hasR_eq o2.2, hasR_eq o3.2, hasR_eq o4.2, hasR_eq o5.2, hasR_eq o6.2]
  simp only [bind_some', whyR_loop]
  repeat' split
  all_goals rfl
theorem why_range (p : T_api_Props) (r : Int) : whyF p r = 1 ∨ whyF p r = 2 ∨ whyF p r = 3 ∨ whyF p r = 4 ∨ whyF p r = 5 ∨ whyF p r = 6 ∨ whyF p r = 7 ∨ whyF p r = 8 ∨ whyF p r = 9 ∨ whyF p r = 10 := by
  unfold whyF
  repeat' split
  all_goals simp
def ofF (p : T_api_Props) (r : Int) : Int :=
  if whyF p r = 2 then (fnd p.f_Exceptions r).1 else if whyF p r = 3 then 5 else if whyF p r = 4 ∨ whyF p r = 9 then 1 else if whyF p r = 5 then 2 else 4
theorem of_eq {p : T_api_Props} (h : RightP p) (r : Int) : m_classes_Of p r = some (ofF p r) := by
  have o0 : ordered p.f_Exceptions ∧ p.f_Exceptions.length ≤ 2000 := tab_ordered h (j := 0) (by omega)
  unfold m_classes_Of ofF
  rw [why_eq h, bind_some', ranges_find_eq _ _ (by omega) o0.1]
  rcases why_range p r with e | e | e | e | e | e | e | e | e | e <;> rw [e] <;> rfl
theorem ofR_eq {p : T_api_Props} (h : RightP p) (r : Int) : m_eponymref07_Of p r = some (ofF p r) := by
  have o0 : ordered p.f_Exceptions ∧ p.f_Exceptions.length ≤ 2000 := tab_ordered h (j := 0) (by omega)
  unfold m_eponymref07_Of ofF
  rw [whyR_eq h, bind_some', find_eq _ _ (by omega)]
  rcases why_range p r with e | e | e | e | e | e | e | e | e | e <;> rw [e] <;> rfl
/-! ### First -/
def firstF (t : T_api_Tables) (l : List Int) (i : Nat) : Option Int := if (ofF t.f_Props (l.getD i 0) = 2 ∨ ofF t.f_Props (l.getD i 0) = 3) ∧ holdsF t l i = false then some (i : Int) else none
theorem first_eq {t : T_api_Tables} (h : RightT t) (l : List Int) (hl : l.length ≤ 1000) : m_contexts_First t l = some ((firstSome (firstF t l) l.length 0).getD (-1)) := by
  unfold m_contexts_First
  rw [iter_scan l.length (firstF t l) (fun i hi _ => ?_) (fun _ => ?_)]
  · cases firstSome (firstF t l) l.length 0 <;> rfl
  · unfold m_contexts_First_L5 m_contexts_First_K9 firstF
    rw [decide_eq_true (by omega), cond_true, if_pos ⟨by omega, by omega⟩, Int.toNat_natCast, of_eq h.props, bind_some', holds_eq h l hl i hi, up (by omega)]
    by_cases c2 : ofF t.f_Props (l.getD i 0) = 2
    · rw [c2]; cases hh : holdsF t l i <;> simp
    · by_cases c3 : ofF t.f_Props (l.getD i 0) = 3
      · rw [c3]; cases hh : holdsF t l i <;> simp
      · rw [beq_false_of_ne c2, beq_false_of_ne c3, if_neg (fun h => h.1.elim c2 c3)]; rfl
  · unfold m_contexts_First_L5
    rw [decide_eq_false (by omega)]; rfl
theorem firstR_eq {t : T_api_Tables} (h : RightT t) (l : List Int) (hl : l.length ≤ 1000) : m_eponymref08_First t l = some ((firstSome (firstF t l) l.length 0).getD (-1)) := by
  unfold m_eponymref08_First
  rw [iter_scan l.length (firstF t l) (fun i hi _ => ?_) (fun _ => ?_)]
  · cases firstSome (firstF t l) l.length 0 <;> rfl
  · unfold m_eponymref08_First_L5 m_eponymref08_First_K9 firstF
    rw [decide_eq_true (by omega), cond_true, if_pos ⟨by omega, by omega⟩, Int.toNat_natCast, ofR_eq h.props, bind_some', holdsR_eq h l hl i hi, up (by omega)]
    by_cases c2 : ofF t.f_Props (l.getD i 0) = 2
    · rw [c2]; cases hh : holdsF t l i <;> simp
    · by_cases c3 : ofF t.f_Props (l.getD i 0) = 3
      · rw [c3]; cases hh : holdsF t l i <;> simp
      · rw [beq_false_of_ne c2, beq_false_of_ne c3, if_neg (fun h => h.1.elim c2 c3)]; rfl
  · unfold m_eponymref08_First_L5
    rw [decide_eq_false (by omega)]; rfl
/-! ### The law -/
theorem great08 (t : T_api_Tables) : ∃ b, m_eponymlaw08_Great t = some b ∧ (b = false → small04 t.f_Norm ∧ small07 t.f_Props) := by
  obtain ⟨b1, h1, g1⟩ := great04 t.f_Norm
  obtain ⟨b2, h2, g2⟩ := great07 t.f_Props
  unfold m_eponymlaw08_Great
  rw [h1, bind_some', h2]
  cases b1 with
  | true => exact ⟨true, rfl, fun h => by cases h⟩
  | false => exact ⟨b2, rfl, fun h => ⟨g1 rfl, g2 h⟩⟩
theorem right08 (t : T_api_Tables) (hs : small04 t.f_Norm) : ∃ b, m_eponymlaw08_Right t = some b ∧ (b = true → RightT t) := by
  unfold m_eponymlaw08_Right m_eponymref08_Check
  rw [check04_eq _ hs.2.2.2, bind_some', check07_eq]
  by_cases h : (chk04 t.f_Norm).2 = 0
  · rw [show ((chk04 t.f_Norm).2 != 0) = false by rw [h]; rfl]
    refine ⟨(chk07 t.f_Props).2 == 0, rfl, fun hb => ⟨h, by simpa using hb⟩⟩
  · rw [show ((chk04 t.f_Norm).2 != 0) = true from bne_iff_ne.2 h]
    refine ⟨(chk04 t.f_Norm).2 == 0, rfl, fun hb => absurd (by simpa using hb) h⟩
theorem rightNone : RightT { f_Norm := { f_Rows := [], f_Classes := [], f_Excluded := [] }, f_Props := { f_Exceptions := [], f_Unassigned := [], f_Joiners := [], f_OldHangul := [], f_Unstable := [], f_Ignorable := [], f_Letters := [], f_Joining := [], f_Scripts := [], f_Directions := [], f_Marks := [] }, f_Lower := [] } := ⟨rfl, rfl⟩
theorem awake08 : m_eponymlaw08_awake = some true := by
  have h1 := holds_eq rightNone [108, 183, 108] (by decide) 1 (by decide)
  have h2 := holds_eq rightNone [108, 183] (by decide) 1 (by decide)
  unfold m_eponymlaw08_awake
  rw [show (1 : Int) = ((1 : Nat) : Int) from rfl, h1, h2]
  rfl
theorem law_contextsHolds (t : T_api_Tables) (l : List Int) (i : Int) : m_eponymlaw08_ContextsHolds t l i = some true := by
  unfold m_eponymlaw08_ContextsHolds
  rw [awake08, bind_some']
  obtain ⟨g, hg, hs⟩ := great08 t
  rw [hg, bind_some']
  cases g with
  | true => rfl
  | false =>
    have hs := hs rfl
    obtain ⟨b, hb, hr⟩ := right08 t hs.1
    rw [hb, bind_some']
    cases b with
    | false => rfl
    | true =>
      have h := hr rfl
      by_cases hl : 20 < l.length
      · rw [decide_eq_true (show ((l.length : Nat) : Int) > 20 by omega)]; rfl
      · rw [decide_eq_false (show ¬ ((l.length : Nat) : Int) > 20 by omega)]
        show m_eponymlaw08_ContextsHolds_K3 t l i false = some true
        unfold m_eponymlaw08_ContextsHolds_K3
        rw [cond_false, first_eq h l (by omega), firstR_eq h l (by omega)]
        by_cases hi : i < 0 ∨ i ≥ l.length
        · obtain ⟨e1, e2⟩ := holds_out (t := t) l i hi
          rw [e1, e2]; simp
        · obtain ⟨j, rfl⟩ : ∃ j : Nat, i = j := ⟨i.toNat, by omega⟩
          rw [holds_eq h l (by omega) j (by omega), holdsR_eq h l (by omega) j (by omega)]; simp
end Go.Proofs.Ytjhgaacecfmadaa
