/- What the program's checks of tables answer: the reference's word as an error. No condition. -/
import Derived.Test.YtjhgaacecfmadaaDoorPProps
import Derived.Test.YtjhgaacecfmadaaDoorPCheckR
namespace Go.Proofs.YtjhgaacecfmadaaDoor
open Go Go.SE
set_option linter.unusedVariables false
set_option linter.unusedSimpArgs false
/-! ### classes.Check -/
def cols (p : T_api_Props) : List T_classes_column := [({ f_l := p.f_Exceptions, f_most := 5 }), ({ f_l := p.f_Unassigned, f_most := 0 }), ({ f_l := p.f_Joiners, f_most := 0 }), ({ f_l := p.f_OldHangul, f_most := 0 }), ({ f_l := p.f_Unstable, f_most := 0 }), ({ f_l := p.f_Ignorable, f_most := 0 }), ({ f_l := p.f_Letters, f_most := 0 }), ({ f_l := p.f_Joining, f_most := 4 }), ({ f_l := p.f_Scripts, f_most := 5 }), ({ f_l := p.f_Directions, f_most := 11 }), ({ f_l := p.f_Marks, f_most := 0 })]
theorem cols_get (p : T_api_Props) : ∀ j, j < 11 → (cols p).getD j d_classes_column = { f_l := (tabs p).getD j [], f_most := mxs.getD j 0 }
  | 0, _ => rfl | 1, _ => rfl | 2, _ => rfl | 3, _ => rfl | 4, _ => rfl | 5, _ => rfl | 6, _ => rfl | 7, _ => rfl | 8, _ => rfl | 9, _ => rfl | 10, _ => rfl
  | n + 11, h => absurd h (by omega)
theorem colval_loop (p : T_api_Props) (j : Nat) (hj : j < 11) (hl : ((tabs p).getD j []).length ≤ 2000) : iter (m_classes_Check_L13 (cols p) (j : Int)) 0 = some (scanX (firstSome (fun i => (valF (mxs.getD j 0) ((tabs p).getD j []) i).map erOf) ((tabs p).getD j []).length 0)) := by
  refine iter_scan _ _ (fun i hi _ => ?_) (fun _ => ?_)
  · unfold m_classes_Check_L13 valF
    simp only [Int.toNat_natCast, cols_get p j hj]
    rw [decide_eq_true (by omega), cond_true, if_pos ⟨by omega, by omega⟩]
    by_cases h0 : 0 < mxs.getD j 0
    · rw [decide_eq_true (show mxs.getD j 0 > 0 from h0), cond_true]
      by_cases h1 : (((tabs p).getD j []).getD i d_api_Range).f_Value < 1
      · simp only [h0, h1, true_or, and_self, if_true, decide_true, cond_true, bind_some']; rfl
      · by_cases h2 : (((tabs p).getD j []).getD i d_api_Range).f_Value > mxs.getD j 0
        · simp only [h0, h1, h2, or_true, and_self, if_true, decide_true, decide_false, cond_false, bind_some']; rfl
        · simp only [h0, h1, h2, or_self, and_false, if_false, decide_false, cond_false, bind_some', m_classes_Check_K16, up (show i < 9223372036854775807 by omega)]; rfl
    · rw [decide_eq_false (show ¬ mxs.getD j 0 > 0 from h0)]
      simp only [h0, false_and, if_false, cond_false, bind_some', m_classes_Check_K16, up (show i < 9223372036854775807 by omega)]; rfl
  · unfold m_classes_Check_L13
    simp only [Int.toNat_natCast, cols_get p j hj]
    rw [decide_eq_false (by omega)]; rfl
theorem classesCheck_eq (p : T_api_Props) : m_classes_Check p = some (erOf (chk07 p)) := by
  unfold m_classes_Check chk07
  rw [show m_classes_columns p = some (cols p) from rfl, bind_some']
  rw [iter_scan 11 (fun j => (tabF p j).map erOf) (fun j hj _ => ?_) (fun _ => ?_)]
  · rw [firstSome_map]
    cases firstSome (tabF p) 11 0 <;> rfl
  · unfold m_classes_Check_L6 tabF
    simp only [Int.toNat_natCast, cols_get p j hj]
    rw [show (((cols p).length : Nat) : Int) = 11 from rfl, decide_eq_true (by omega), cond_true, if_pos ⟨by omega, by omega⟩, rangesCheck_eq, bind_some', erOf_nil]
    by_cases h : (chkR ((tabs p).getD j [])).2 = 0
    · rw [decide_eq_true h, if_neg (fun h' => h' h), Bool.not_true, cond_false, colval_loop p j hj (chk_right h).1, firstSome_map]
      cases firstSome (valF (mxs.getD j 0) ((tabs p).getD j [])) ((tabs p).getD j []).length 0 with
      | none => simp only [bind_some', scanX, up (show j < 9223372036854775807 by omega)]; rfl
      | some v => rfl
    · rw [decide_eq_false h, if_pos h]; rfl
  · unfold m_classes_Check_L6
    rw [show (((cols p).length : Nat) : Int) = 11 from rfl, decide_eq_false (by omega)]; rfl
theorem classesCheck_right (p : T_api_Props) : (Option.bind (m_classes_Check p) fun y => some (!y.isNil)) = some (!decide ((chk07 p).2 = 0)) := by
  rw [classesCheck_eq, bind_some', erOf_nil]
/-- The codes that a check may give. -/
theorem chk07_codes (p : T_api_Props) : (chk07 p).2 = 0 ∨ (chk07 p).2 = 4 ∨ (chk07 p).2 = 6 ∨ (chk07 p).2 = 17 ∨ (chk07 p).2 = 18 := by
  have hR : ∀ l, (chkR l).2 = 0 ∨ (chkR l).2 = 4 ∨ (chkR l).2 = 6 ∨ (chkR l).2 = 18 := fun l => by
    unfold chkR
    split
    · simp
    · cases hf : firstSome (chkF l) l.length 0 with
      | none => simp
      | some v =>
        obtain ⟨j, _, _, hj, _⟩ := firstSome_some hf
        unfold chkF at hj
        split at hj
        · cases hj; simp
        · split at hj
          · cases hj; simp
          · cases hj
  unfold chk07
  cases hf : firstSome (tabF p) 11 0 with
  | none => simp
  | some v =>
    obtain ⟨j, _, _, hj, _⟩ := firstSome_some hf
    unfold tabF at hj
    split at hj
    · cases hj
      rcases hR ((tabs p).getD j []) with h | h | h | h
      · exact .inl h
      · exact .inr (.inl h)
      · exact .inr (.inr (.inl h))
      · exact .inr (.inr (.inr (.inr h)))
    · obtain ⟨i, _, _, hi, _⟩ := firstSome_some hj
      unfold valF at hi
      split at hi
      · cases hi; simp
      · cases hi
end Go.Proofs.YtjhgaacecfmadaaDoor
