/- The reference's check of properties and of tables. No condition. -/
import Derived.Test.YtjhgaacecfmadaaDoorPChecks
namespace Go.Proofs.YtjhgaacecfmadaaDoor
open Go Go.SE
set_option linter.unusedVariables false
set_option linter.unusedSimpArgs false
def tabs (p : T_api_Props) : List (List T_api_Range) := [p.f_Exceptions, p.f_Unassigned, p.f_Joiners, p.f_OldHangul, p.f_Unstable, p.f_Ignorable, p.f_Letters, p.f_Joining, p.f_Scripts, p.f_Directions, p.f_Marks]
theorem tabs_lit (p : T_api_Props) : [(tabs p).getD 0 [], (tabs p).getD 1 [], (tabs p).getD 2 [], (tabs p).getD 3 [], (tabs p).getD 4 [], (tabs p).getD 5 [], (tabs p).getD 6 [], (tabs p).getD 7 [], (tabs p).getD 8 [], (tabs p).getD 9 [], (tabs p).getD 10 []] = tabs p := rfl
def small07 (p : T_api_Props) : Prop := ∀ l ∈ tabs p, l.length ≤ 40
theorem great07 (p : T_api_Props) : ∃ b, m_eponymlaw07_Great p = some b ∧ (b = false → small07 p) := by
  unfold m_eponymlaw07_Great
  rw [show m_eponymref07_Tables p = some (tabs p) from rfl, bind_some']
  rw [iter_scan 11 (fun i => if 40 < ((tabs p).getD i []).length then some true else none) (fun i hi _ => ?_) (fun _ => ?_)]
  · cases hf : firstSome (fun i => if 40 < ((tabs p).getD i []).length then some true else none) 11 0 with
    | some v =>
      obtain ⟨j, _, _, hj, _⟩ := firstSome_some hf
      have : v = true := by
        split at hj
        · cases hj; rfl
        · cases hj
      subst this
      exact ⟨true, rfl, fun h => by cases h⟩
    | none =>
      refine ⟨false, rfl, fun _ l hl => ?_⟩
      obtain ⟨i, hi, rfl⟩ := List.getElem_of_mem hl
      have h := firstSome_none.1 hf i (Nat.zero_le _) (by have : (tabs p).length = 11 := rfl; omega)
      have e : (tabs p).getD i [] = (tabs p)[i] := by simp [List.getD_eq_getElem?_getD, hi]
      simp only [e] at h
      split at h
      · cases h
      · omega
  · unfold m_eponymlaw07_Great_L6
    rw [tabs_lit, decide_eq_true (by omega), cond_true, if_pos ⟨by omega, by omega⟩, Int.toNat_natCast]
    by_cases h : 40 < ((tabs p).getD i []).length
    · rw [decide_eq_true (by omega), if_pos h]; rfl
    · rw [decide_eq_false (by omega), if_neg h, cond_false, up (by omega)]
  · unfold m_eponymlaw07_Great_L6
    rw [decide_eq_false (by omega)]; rfl
def mxs : List Int := [5, 0, 0, 0, 0, 0, 0, 4, 5, 11, 0]
def valF (m : Int) (l : List T_api_Range) (i : Nat) : Option (Int × Int) :=
  if 0 < m ∧ ((l.getD i d_api_Range).f_Value < 1 ∨ (l.getD i d_api_Range).f_Value > m) then some (i, 17) else none
def tabF (p : T_api_Props) (j : Nat) : Option (Int × Int) :=
  if (chkR ((tabs p).getD j [])).2 ≠ 0 then some (chkR ((tabs p).getD j [])) else firstSome (valF (mxs.getD j 0) ((tabs p).getD j [])) ((tabs p).getD j []).length 0
def chk07 (p : T_api_Props) : Int × Int := (firstSome (tabF p) 11 0).getD (0, 0)
theorem val_loop (p : T_api_Props) (j : Nat) (hj : j < 11) (hl : ((tabs p).getD j []).length ≤ 2000) : iter (m_eponymref07_Check_L13 (tabs p) (j : Int)) 0 = some (scanX (firstSome (valF (mxs.getD j 0) ((tabs p).getD j [])) ((tabs p).getD j []).length 0)) := by
  refine iter_scan _ _ (fun i hi _ => ?_) (fun _ => ?_)
  · unfold m_eponymref07_Check_L13 valF
    rw [tabs_lit, if_pos ⟨by omega, by omega⟩]
    simp only [Int.toNat_natCast]
    rw [decide_eq_true (by omega), cond_true]
    have q1 : 0 ≤ (j : Int) ∧ (j : Int) < 11 := by omega
    have q2 : 0 ≤ (i : Int) ∧ (i : Int) < (((tabs p).getD j []).length : Int) := by omega
    simp only [if_pos q1, if_pos q2]
    rw [show ([(5 : Int), (0 : Int), (0 : Int), (0 : Int), (0 : Int), (0 : Int), (0 : Int), (4 : Int), (5 : Int), (11 : Int), (0 : Int)] : List Int) = mxs from rfl]
    by_cases h0 : 0 < mxs.getD j 0
    · rw [decide_eq_true (show mxs.getD j 0 > 0 from h0), cond_true]
      by_cases h1 : (((tabs p).getD j []).getD i d_api_Range).f_Value < 1
      · simp only [h0, h1, true_or, and_self, if_true, decide_true, cond_true, bind_some']; rfl
      · by_cases h2 : (((tabs p).getD j []).getD i d_api_Range).f_Value > mxs.getD j 0
        · simp only [h0, h1, h2, or_true, and_self, if_true, decide_true, decide_false, cond_false, bind_some']; rfl
        · simp only [h0, h1, h2, or_self, and_false, if_false, decide_false, cond_false, bind_some', m_eponymref07_Check_K16, up (show i < 9223372036854775807 by omega)]
    · rw [decide_eq_false (show ¬ mxs.getD j 0 > 0 from h0)]
      simp only [h0, false_and, if_false, cond_false, bind_some', m_eponymref07_Check_K16, up (show i < 9223372036854775807 by omega)]
  · unfold m_eponymref07_Check_L13
    rw [tabs_lit, if_pos ⟨by omega, by omega⟩]
    simp only [Int.toNat_natCast]
    rw [decide_eq_false (by omega)]; rfl
theorem check07_eq (p : T_api_Props) : m_eponymref07_Check p = some (chk07 p) := by
  unfold m_eponymref07_Check chk07
  rw [show m_eponymref07_Tables p = some (tabs p) from rfl, bind_some']
  rw [iter_scan 11 (tabF p) (fun j hj _ => ?_) (fun _ => ?_)]
  · cases firstSome (tabF p) 11 0 <;> rfl
  · unfold m_eponymref07_Check_L6 tabF
    rw [tabs_lit, decide_eq_true (by omega), cond_true, if_pos ⟨by omega, by omega⟩, Int.toNat_natCast, check03_eq, bind_some']
    by_cases h : (chkR ((tabs p).getD j [])).2 = 0
    · rw [show ((chkR ((tabs p).getD j [])).2 != 0) = false by rw [h]; rfl, cond_false, if_neg (fun h' => h' h), val_loop p j hj (chk_right h).1]
      cases firstSome (valF (mxs.getD j 0) ((tabs p).getD j [])) ((tabs p).getD j []).length 0 with
      | none => simp only [bind_some', scanX, up (show j < 9223372036854775807 by omega)]
      | some v => rfl
    · rw [show ((chkR ((tabs p).getD j [])).2 != 0) = true from bne_iff_ne.2 h, if_pos h]; rfl
  · unfold m_eponymref07_Check_L6
    rw [decide_eq_false (by omega)]; rfl
theorem chk07_right {p : T_api_Props} (h : (chk07 p).2 = 0) : ∀ j, j < 11 → (chkR ((tabs p).getD j [])).2 = 0 ∧ ∀ i, i < ((tabs p).getD j []).length → valF (mxs.getD j 0) ((tabs p).getD j []) i = none := by
  unfold chk07 at h
  have hnone : firstSome (tabF p) 11 0 = none := by
    cases hv : firstSome (tabF p) 11 0 with
    | none => rfl
    | some v =>
      obtain ⟨j, _, _, hj, _⟩ := firstSome_some hv
      rw [hv] at h
      unfold tabF at hj
      split at hj
      · rename_i hne; cases hj; exact absurd h hne
      · obtain ⟨i, _, _, hi, _⟩ := firstSome_some hj
        unfold valF at hi
        split at hi
        · cases hi; cases h
        · cases hi
  intro j hj
  have := firstSome_none.1 hnone j (Nat.zero_le _) (by omega)
  unfold tabF at this
  split at this
  · cases this
  · rename_i h0
    exact ⟨Decidable.not_not.1 h0, fun i hi => firstSome_none.1 this i (Nat.zero_le _) (by omega)⟩
theorem tab_ordered {p : T_api_Props} (h : (chk07 p).2 = 0) {j : Nat} (hj : j < 11) : ordered ((tabs p).getD j []) ∧ ((tabs p).getD j []).length ≤ 2000 :=
  let c := chk_right (chk07_right h j hj).1
  ⟨c.2.1, c.1⟩
end Go.Proofs.YtjhgaacecfmadaaDoor
