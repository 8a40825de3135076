/- The law of Arabic digits. No condition. -/
import Derived.Test.YtjhgaacecfmadaaDoorPLaw8
namespace Go.Proofs.YtjhgaacecfmadaaDoor
open Go Go.SE
set_option linter.unusedVariables false
set_option linter.unusedSimpArgs false
theorem digits_loop {t : T_api_Tables} (h : RightT t) (l : List Int) (hl : l.length ≤ 1000) : ∀ (k i : Nat) (a b : Bool), i + k = l.length → (a = true → ∃ j, j < i ∧ ruleF (l.getD j 0) = 7 ∧ holdsF t l j = true) → (b = true → ∃ j, j < i ∧ ruleF (l.getD j 0) = 8) →
    ∃ z, iter (m_eponymlaw08_ContextsDigits_L8 t l) (a, b, (i : Int)) = some z ∧ (match z with | .inl s => (s.1 && s.2) = false | .inr v => v = true) := by
  intro k
  induction k with
  | zero =>
    intro i a b hi ha hb
    refine ⟨.inl (a, b), iter_done ?_, ?_⟩
    · unfold m_eponymlaw08_ContextsDigits_L8
      simp only
      rw [decide_eq_false (by omega)]; rfl
    · cases a with
      | false => rfl
      | true =>
        cases b with
        | false => rfl
        | true =>
          obtain ⟨j, hj, h7, hh⟩ := ha rfl
          obtain ⟨m, hm, h8⟩ := hb rfl
          unfold holdsF at hh
          rw [if_neg (by omega), if_neg (by omega), if_neg (by omega), if_neg (by omega), if_neg (by omega), if_neg (by omega), if_pos h7] at hh
          have : (l.any fun r => ruleF r == 8) = true := List.any_eq_true.2 ⟨l.getD m 0, getD_mem (by omega), by simpa using h8⟩
          rw [this] at hh
          cases hh
  | succ k ih =>
    intro i a b hi ha hb
    have hil : i < l.length := by omega
    -- a rune that has a rule
    have step : ∀ (a' b' : Bool), ruleF (l.getD i 0) ≠ 0 → m_eponymlaw08_ContextsDigits_L8 t l (a, b, (i : Int)) = m_eponymlaw08_ContextsDigits_K11 t l (a, b, (i : Int)) (a', b') → (holdsF t l i = true → a' = true → ∃ j, j < i + 1 ∧ ruleF (l.getD j 0) = 7 ∧ holdsF t l j = true) → (b' = true → ∃ j, j < i + 1 ∧ ruleF (l.getD j 0) = 8) →
        ∃ z, iter (m_eponymlaw08_ContextsDigits_L8 t l) (a, b, (i : Int)) = some z ∧ (match z with | .inl s => (s.1 && s.2) = false | .inr v => v = true) := fun a' b' _ e ha' hb' => by
      have e2 : m_eponymlaw08_ContextsDigits_K11 t l (a, b, (i : Int)) (a', b') = if holdsF t l i = true then some (.next (a', b', ((i + 1 : Nat) : Int))) else some (.done (.inr true)) := by
        unfold m_eponymlaw08_ContextsDigits_K11
        simp only
        rw [holds_eq h l hl i hil, bind_some', up (by omega)]
        cases holdsF t l i <;> rfl
      by_cases hh : holdsF t l i = true
      · rw [if_pos hh] at e2
        obtain ⟨z, hz, hp⟩ := ih (i + 1) a' b' (by omega) (ha' hh) hb'
        exact ⟨z, by rw [iter_next (e.trans e2)]; exact hz, hp⟩
      · rw [if_neg hh] at e2
        exact ⟨.inr true, iter_done (e.trans e2), rfl⟩
    have up1 : ∀ {p : Nat → Prop}, (∃ j, j < i ∧ p j) → ∃ j, j < i + 1 ∧ p j := fun ⟨j, hj, hp⟩ => ⟨j, by omega, hp⟩
    have body : m_eponymlaw08_ContextsDigits_L8 t l (a, b, (i : Int)) = (match (if ruleF (l.getD i 0) = 7 then Sum.inl (true, b) else if ruleF (l.getD i 0) = 8 then .inl (a, true) else if ruleF (l.getD i 0) = 0 then .inr () else .inl (a, b) : Sum (Bool × Bool) Unit) with
        | .inl s => m_eponymlaw08_ContextsDigits_K11 t l (a, b, (i : Int)) s
        | .inr _ => some (.next (a, b, ((i + 1 : Nat) : Int)))) := by
      unfold m_eponymlaw08_ContextsDigits_L8
      simp only [Int.toNat_natCast]
      rw [decide_eq_true (by omega), cond_true, if_pos ⟨by omega, by omega⟩, rule_eq, bind_some', up (by omega)]
      by_cases h7 : ruleF (l.getD i 0) = 7
      · rw [h7]; rfl
      · rw [if_neg h7, beq_false_of_ne h7, cond_false]
        by_cases h8 : ruleF (l.getD i 0) = 8
        · rw [h8]; rfl
        · rw [if_neg h8, beq_false_of_ne h8, cond_false]
          by_cases h0 : ruleF (l.getD i 0) = 0
          · rw [h0]; rfl
          · rw [if_neg h0, beq_false_of_ne h0]; rfl
    by_cases h7 : ruleF (l.getD i 0) = 7
    · rw [if_pos h7] at body
      exact step true b (by omega) body (fun hh _ => ⟨i, by omega, h7, hh⟩) (fun hb' => up1 (hb hb'))
    · rw [if_neg h7] at body
      by_cases h8 : ruleF (l.getD i 0) = 8
      · rw [if_pos h8] at body
        exact step a true (by omega) body (fun _ ha' => up1 (ha ha')) (fun _ => ⟨i, by omega, h8⟩)
      · rw [if_neg h8] at body
        by_cases h0 : ruleF (l.getD i 0) = 0
        · rw [if_pos h0] at body
          obtain ⟨z, hz, hp⟩ := ih (i + 1) a b (by omega) (fun ha' => up1 (ha ha')) (fun hb' => up1 (hb hb'))
          exact ⟨z, by rw [iter_next body]; exact hz, hp⟩
        · rw [if_neg h0] at body
          exact step a b h0 body (fun _ ha' => up1 (ha ha')) (fun hb' => up1 (hb hb'))
theorem law_contextsDigits (t : T_api_Tables) (l : List Int) : m_eponymlaw08_ContextsDigits t l = some true := by
  unfold m_eponymlaw08_ContextsDigits
  rw [awake08, bind_some']
  obtain ⟨g, hg, hs⟩ := great08 t
  obtain ⟨b, hb, hr⟩ := contextsCheck_nil t
  rw [hg, hb]
  simp only [Bool.not_true, cond_false, bind_some']
  have yes : m_eponymlaw08_ContextsDigits_K3 t l true = some true := rfl
  cases g with
  | true => exact yes
  | false =>
    by_cases hl : 20 < l.length
    · rw [decide_eq_true (show ((l.length : Nat) : Int) > 20 by omega)]; exact yes
    · rw [decide_eq_false (show ¬ ((l.length : Nat) : Int) > 20 by omega)]
      simp only [cond_false, bind_some']
      cases b with
      | true => exact yes
      | false =>
        obtain ⟨z, hz, hp⟩ := digits_loop (hr rfl) l (by omega) l.length 0 false false (by omega) (fun h => by cases h) (fun h => by cases h)
        unfold m_eponymlaw08_ContextsDigits_K3
        rw [cond_false, show (0 : Int) = ((0 : Nat) : Int) from rfl, hz, bind_some']
        cases z with
        | inl s =>
          obtain ⟨x, y⟩ := s
          unfold m_eponymlaw08_ContextsDigits_K5
          simp only at hp ⊢
          cases x <;> cases y <;> first | rfl | (cases hp)
        | inr v => simp only at hp; subst hp; rfl
end Go.Proofs.YtjhgaacecfmadaaDoor
