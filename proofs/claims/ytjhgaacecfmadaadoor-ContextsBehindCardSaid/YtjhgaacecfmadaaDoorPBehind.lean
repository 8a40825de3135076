/- The law of what is put behind. No condition. -/
import Derived.Test.YtjhgaacecfmadaaDoorPLaw8
namespace Go.Proofs.YtjhgaacecfmadaaDoor
open Go Go.SE
set_option linter.unusedVariables false
set_option linter.unusedSimpArgs false
theorem getD_behind (l more : List Int) {i : Nat} (hi : i < l.length) : (l ++ more).getD i 0 = l.getD i 0 := by
  simp [List.getD_eq_getElem?_getD, List.getElem?_append_left hi]
theorem atF_behind (l more : List Int) (p : Int → Bool) {i : Nat} (hi : i < l.length) : atF (l ++ more) ((i : Int) - 1) p = atF l ((i : Int) - 1) p := by
  rw [at_left hi, at_left (show i < (l ++ more).length by rw [List.length_append]; omega)]
  by_cases h0 : 0 < i
  · rw [getD_behind l more (show i - 1 < l.length by omega)]
  · rw [decide_eq_false h0]; rfl
theorem holds_behind (t : T_api_Tables) (l more : List Int) {i : Nat} (hi : i < l.length) (hr : ruleF (l.getD i 0) = 2 ∨ ruleF (l.getD i 0) = 5) : holdsF t (l ++ more) i = holdsF t l i := by
  unfold holdsF
  rw [getD_behind l more hi]
  rcases hr with h | h
  · rw [if_neg (by omega), if_pos h, if_neg (by omega), if_pos h, atF_behind l more _ hi]
  · rw [if_neg (by omega), if_neg (by omega), if_neg (by omega), if_neg (by omega), if_pos h, if_neg (by omega), if_neg (by omega), if_neg (by omega), if_neg (by omega), if_pos h, atF_behind l more _ hi]
theorem behind_loop {t : T_api_Tables} (h : RightT t) (l more : List Int) (hl : l.length ≤ 12) (hm : more.length ≤ 12) : iter (m_eponymlaw08_ContextsBehind_L8 t l more) 0 = some (.inl ()) := by
  rw [iter_scan l.length (fun _ => none) (fun i hi _ => ?_) (fun _ => ?_)]
  · rw [firstSome_none.2 fun _ _ _ => rfl]; rfl
  · have h1 := holds_eq h l (by omega) i hi
    have h2 := holds_eq h (l ++ more) (by rw [List.length_append]; omega) i (by rw [List.length_append]; omega)
    unfold m_eponymlaw08_ContextsBehind_L8 m_eponymlaw08_ContextsBehind_K12
    rw [decide_eq_true (by omega), cond_true, if_pos ⟨by omega, by omega⟩, Int.toNat_natCast, rule_eq, bind_some', h1, h2, up (by omega)]
    simp only [bind_some']
    by_cases r2 : ruleF (l.getD i 0) = 2
    · rw [r2, holds_behind t l more hi (.inl r2)]; simp
    · by_cases r5 : ruleF (l.getD i 0) = 5
      · rw [r5, holds_behind t l more hi (.inr r5)]; simp
      · rw [beq_false_of_ne r2, beq_false_of_ne r5]; rfl
  · unfold m_eponymlaw08_ContextsBehind_L8
    rw [decide_eq_false (by omega)]; rfl
theorem law_contextsBehind (t : T_api_Tables) (l more : List Int) : m_eponymlaw08_ContextsBehind t l more = some true := by
  unfold m_eponymlaw08_ContextsBehind
  rw [awake08, bind_some']
  obtain ⟨g, hg, hs⟩ := great08 t
  obtain ⟨b, hb, hr⟩ := contextsCheck_nil t
  rw [hg, hb]
  simp only [Bool.not_true, cond_false, bind_some']
  have yes : m_eponymlaw08_ContextsBehind_K3 t l more true = some true := rfl
  cases g with
  | true => exact yes
  | false =>
    by_cases hl : 12 < l.length
    · rw [decide_eq_true (show ((l.length : Nat) : Int) > 12 by omega)]; exact yes
    · by_cases hm : 12 < more.length
      · rw [decide_eq_false (show ¬ ((l.length : Nat) : Int) > 12 by omega), decide_eq_true (show ((more.length : Nat) : Int) > 12 by omega)]; exact yes
      · rw [decide_eq_false (show ¬ ((l.length : Nat) : Int) > 12 by omega), decide_eq_false (show ¬ ((more.length : Nat) : Int) > 12 by omega)]
        simp only [cond_false, bind_some']
        cases b with
        | true => exact yes
        | false =>
          unfold m_eponymlaw08_ContextsBehind_K3
          rw [cond_false, if_pos (by omega), if_pos (by omega), behind_loop (hr rfl) l more (by omega) (by omega)]; rfl
end Go.Proofs.YtjhgaacecfmadaaDoor
