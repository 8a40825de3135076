/- What layer 9 answers: labels, the right kind; what is awake. No condition. -/
import Derived.Test.YtjhgaacecfmadaaDoorPBidi2
namespace Go.Proofs.YtjhgaacecfmadaaDoor
open Go Go.SE
set_option linter.unusedVariables false
set_option linter.unusedSimpArgs false
theorem br_pos (d : List Int) : 0 ≤ (brF d).1 := by
  unfold brF
  repeat' split
  all_goals simp
theorem label_eq {p : T_api_Props} (h : RightP p) (l : List Int) (hl : l.length ≤ 1000) : m_bidi_Label p l = some (if (brF (dirs p l)).1 = 0 then .nil else .box 89 (brF (dirs p l)).2 (.sent 1)) := by
  unfold m_bidi_Label
  rw [broken_eq h l hl, bind_some']
  by_cases hb : (brF (dirs p l)).1 = 0
  · rw [if_pos hb, hb]; rfl
  · rw [if_neg hb, bne_iff_ne.2 hb]; rfl
def rightF (p : T_api_Props) (l : List Int) : Bool := (dirs p l).any isRB
theorem any_isR (d : List Int) : (match firstSome (isR d) d.length 0 with | none => false | some _ => true) = d.any isRB := by
  cases hf : firstSome (isR d) d.length 0 with
  | none =>
    have h := firstSome_none.1 hf
    refine Eq.symm (List.any_eq_false.2 fun x hx => ?_)
    obtain ⟨i, hi, rfl⟩ := List.getElem_of_mem hx
    have := h i (Nat.zero_le _) (by omega)
    have e : d.getD i 0 = d[i] := by simp [List.getD_eq_getElem?_getD, hi]
    unfold isR at this
    rw [e] at this
    split at this
    · cases this
    · assumption
  | some w =>
    obtain ⟨j, _, hj, h, _⟩ := firstSome_some hf
    refine Eq.symm (List.any_eq_true.2 ⟨d.getD j 0, getD_mem (by omega), ?_⟩)
    unfold isR at h
    split at h
    · assumption
    · cases h
theorem bright_eq {p : T_api_Props} (h : RightP p) (l : List Int) (hl : l.length ≤ 1000) : m_bidi_Right p l = some (rightF p l) := by
  unfold m_bidi_Right rightF
  have hD := dirs_dirs h l
  have hld : (dirs p l).length ≤ 1000 := by rw [dirs_len]; exact hl
  rw [row_eq h l hl, bind_some', of235, bind_some', show (44 : Int) = ((44 : Nat) : Int) from rfl, bfirst_eq hD hld (by omega), first44 hD, bind_some', ← any_isR]
  cases hf : firstSome (isR (dirs p l)) (dirs p l).length 0 with
  | none => rfl
  | some v =>
    have := fs_nonneg (isR_val _) hf
    simp only [Option.getD_some, decide_eq_true (show v ≥ 0 from this)]
theorem brightR_eq {p : T_api_Props} (h : RightP p) (l : List Int) (hl : l.length ≤ 1000) : m_eponymref09_Right p l = some (rightF p l) := by
  unfold m_eponymref09_Right rightF
  rw [iter_scan l.length (fun k => if isRB ((dirs p l).getD k 0) = true then some true else none) (fun i hi _ => ?_) (fun _ => ?_)]
  · have := any_scan' (dirs p l) 0 isRB
    rw [dirs_len] at this
    rw [← this]
    cases firstSome (fun k => if isRB ((dirs p l).getD k 0) = true then some true else none) l.length 0 <;> rfl
  · unfold m_eponymref09_Right_L5 isRB
    rw [decide_eq_true (by omega), cond_true, if_pos ⟨by omega, by omega⟩, Int.toNat_natCast, dirR_eq h, bind_some', ← dirs_get p l hi]
    unfold m_eponymref09_Right_K9
    rw [up (by omega)]
    cases ((dirs p l).getD i 0 == 2) <;> cases ((dirs p l).getD i 0 == 3) <;> cases ((dirs p l).getD i 0 == 5) <;> rfl
  · unfold m_eponymref09_Right_L5
    rw [decide_eq_false (by omega)]; rfl
def demoP : T_api_Props := { f_Exceptions := [], f_Unassigned := [], f_Joiners := [], f_OldHangul := [], f_Unstable := [], f_Ignorable := [], f_Letters := [], f_Joining := [], f_Scripts := [], f_Directions := [{ f_Lo := 48, f_Hi := 57, f_Value := 4 }, { f_Lo := 1488, f_Hi := 1514, f_Value := 2 }], f_Marks := [] }
theorem demoRight : RightP demoP := by unfold RightP; decide
theorem awake09 : m_eponymlaw09_awake = some true := by
  have h1 := broken_eq demoRight [1488, 48] (by decide)
  have h2 := broken_eq demoRight [48, 1488] (by decide)
  have h3 := broken_eq demoRight [1488, 97] (by decide)
  have e : m_eponymlaw09_awake = Option.bind (m_bidi_Broken demoP [1488, 48]) fun y1 => Option.bind (m_bidi_Broken demoP [48, 1488]) fun y2 => Option.bind (m_bidi_Broken demoP [1488, 97]) fun y3 =>
      bif (y1.1 == (0 : Int)) then bif (y2.1 == (1 : Int)) then bif (y3.1 == (2 : Int)) then some (y3.2 == (1 : Int)) else some false else some false else some false := rfl
  rw [e, h1, h2, h3]
  decide
end Go.Proofs.YtjhgaacecfmadaaDoor
