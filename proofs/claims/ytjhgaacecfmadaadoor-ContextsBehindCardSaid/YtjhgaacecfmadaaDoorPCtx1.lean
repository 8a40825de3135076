/- The program's side of: Contexts: the program and the reference answer alike. No condition. -/
import Derived.Test.YtjhgaacecfmadaaDoorPProps
import Derived.Test.YtjhgaacecfmadaaDoorPNorm2
namespace Go.Proofs.YtjhgaacecfmadaaDoor
open Go Go.SE
set_option linter.unusedVariables false
set_option linter.unusedSimpArgs false
def ruleF (r : Int) : Int :=
  if r = 8204 then 1 else if r = 8205 then 2 else if r = 183 then 3 else if r = 885 then 4 else if r = 1523 ∨ r = 1524 then 5 else if r = 12539 then 6
  else if r ≥ 1632 ∧ r ≤ 1641 then 7 else if r ≥ 1776 ∧ r ≤ 1785 then 8 else 0
theorem rule_eq (r : Int) : m_contexts_Rule r = some (ruleF r) := by
  unfold m_contexts_Rule m_contexts_Rule_K2 m_contexts_Rule_K4 m_contexts_Rule_K6 ruleF
  by_cases h1 : r = 8204
  · subst h1; rfl
  by_cases h2 : r = 8205
  · subst h2; rfl
  by_cases h3 : r = 183
  · subst h3; rfl
  by_cases h4 : r = 885
  · subst h4; rfl
  by_cases h5 : r = 1523
  · subst h5; rfl
  by_cases h6 : r = 1524
  · subst h6; rfl
  by_cases h7 : r = 12539
  · subst h7; rfl
  rw [beq_false_of_ne h1, beq_false_of_ne h2, beq_false_of_ne h3, beq_false_of_ne h4, beq_false_of_ne h5, beq_false_of_ne h6, beq_false_of_ne h7, if_neg h1, if_neg h2, if_neg h3, if_neg h4, if_neg (by omega), if_neg h7]
  by_cases g1 : r ≥ 1632 <;> by_cases g2 : r ≤ 1641 <;> by_cases g3 : r ≥ 1776 <;> by_cases g4 : r ≤ 1785 <;> simp [g1, g2, g3, g4]
/-- Right tables, of such as aren't great. -/
structure RightT (t : T_api_Tables) : Prop where
  norm : (chk04 t.f_Norm).2 = 0
  props : (chk07 t.f_Props).2 = 0
def joinF (t : T_api_Tables) (r : Int) : Int := (fnd t.f_Props.f_Joining r).1
def scriF (t : T_api_Tables) (r : Int) : Int := (fnd t.f_Props.f_Scripts r).1
def cclsF (t : T_api_Tables) (r : Int) : Int := clsR t.f_Norm r
theorem RightT.cls {t : T_api_Tables} (h : RightT t) : ordered t.f_Norm.f_Classes ∧ t.f_Norm.f_Classes.length ≤ 2000 :=
  let c := chk_right (chk04_right h.norm).cls
  ⟨c.2.1, c.1⟩
theorem join_eq {t : T_api_Tables} (h : RightT t) (r : Int) : m_classes_Joins t.f_Props r = some (joinF t r) := by
  have ho := tab_ordered h.props (j := 7) (by omega)
  have ho : ordered t.f_Props.f_Joining ∧ t.f_Props.f_Joining.length ≤ 2000 := ho
  unfold m_classes_Joins joinF
  rw [ranges_find_eq _ _ (by omega) ho.1]; rfl
theorem scri_eq {t : T_api_Tables} (h : RightT t) (r : Int) : m_classes_Script t.f_Props r = some (scriF t r) := by
  have ho := tab_ordered h.props (j := 8) (by omega)
  have ho : ordered t.f_Props.f_Scripts ∧ t.f_Props.f_Scripts.length ≤ 2000 := ho
  unfold m_classes_Script scriF
  rw [ranges_find_eq _ _ (by omega) ho.1]; rfl
theorem ccls_eq {t : T_api_Tables} (h : RightT t) (r : Int) : m_decomp_Class t.f_Norm r = some (cclsF t r) := by
  unfold m_decomp_Class cclsF clsR
  have := h.cls.2
  rw [ranges_find_eq _ _ (by omega) h.cls.1]; rfl
/-! ### Neighbours -/
/-- Is there a rune at a place, for which something is so? -/
def atF (l : List Int) (i : Int) (p : Int → Bool) : Bool := decide (0 ≤ i ∧ i < l.length) && p (l.getD i.toNat 0)
theorem at2_eq {t : T_api_Tables} (h : RightT t) (l : List Int) (i : Int) : m_contexts_at_contexts_Holds_2 l i t = some (atF l i fun r => cclsF t r == 9) := by
  unfold m_contexts_at_contexts_Holds_2 m_contexts_Holds_2 atF
  by_cases h1 : i ≥ 0
  · by_cases h2 : i < l.length
    · rw [decide_eq_true h1, decide_eq_true h2, decide_eq_true (show 0 ≤ i ∧ i < (l.length : Int) from ⟨h1, h2⟩), cond_true, cond_true, if_pos ⟨h1, h2⟩, ccls_eq h]; rfl
    · rw [decide_eq_true h1, decide_eq_false h2, decide_eq_false (show ¬ (0 ≤ i ∧ i < (l.length : Int)) by omega)]; rfl
  · rw [decide_eq_false h1, decide_eq_false (show ¬ (0 ≤ i ∧ i < (l.length : Int)) by omega)]; rfl
theorem at3_eq (l : List Int) (i : Int) : m_contexts_at_contexts_Holds_3 l i = some (atF l i fun r => r == 108) := by
  unfold m_contexts_at_contexts_Holds_3 m_contexts_Holds_3 atF
  by_cases h1 : i ≥ 0
  · by_cases h2 : i < l.length
    · rw [decide_eq_true h1, decide_eq_true h2, decide_eq_true (show 0 ≤ i ∧ i < (l.length : Int) from ⟨h1, h2⟩), cond_true, cond_true, if_pos ⟨h1, h2⟩]; rfl
    · rw [decide_eq_true h1, decide_eq_false h2, decide_eq_false (show ¬ (0 ≤ i ∧ i < (l.length : Int)) by omega)]; rfl
  · rw [decide_eq_false h1, decide_eq_false (show ¬ (0 ≤ i ∧ i < (l.length : Int)) by omega)]; rfl
theorem at4_eq (l : List Int) (i o : Int) : m_contexts_at_contexts_Holds_4 l i o = some (atF l i fun r => ruleF r == o) := by
  unfold m_contexts_at_contexts_Holds_4 m_contexts_Holds_4 atF
  by_cases h1 : i ≥ 0
  · by_cases h2 : i < l.length
    · rw [decide_eq_true h1, decide_eq_true h2, decide_eq_true (show 0 ≤ i ∧ i < (l.length : Int) from ⟨h1, h2⟩), cond_true, cond_true, if_pos ⟨h1, h2⟩, rule_eq]; rfl
    · rw [decide_eq_true h1, decide_eq_false h2, decide_eq_false (show ¬ (0 ≤ i ∧ i < (l.length : Int)) by omega)]; rfl
  · rw [decide_eq_false h1, decide_eq_false (show ¬ (0 ≤ i ∧ i < (l.length : Int)) by omega)]; rfl
theorem script_eq {t : T_api_Tables} (h : RightT t) (r : Int) (w : List Int) (hw : w.length ≤ 100) : m_contexts_Holds_1_1 r w t = some (w.any fun x => scriF t r == x) := by
  unfold m_contexts_Holds_1_1
  rw [iter_scan w.length (fun i => if (scriF t r == w.getD i 0) = true then some true else none) (fun i hi _ => ?_) (fun _ => ?_)]
  · rw [← any_scan' w 0 fun x => scriF t r == x]
    cases firstSome (fun i => if (scriF t r == w.getD i 0) = true then some true else none) w.length 0 with
    | none => rfl
    | some v => rfl
  · unfold m_contexts_Holds_1_1_L5
    rw [decide_eq_true (by omega), cond_true, if_pos ⟨by omega, by omega⟩, scri_eq h, bind_some', Int.toNat_natCast]
    rcases Bool.eq_false_or_eq_true (scriF t r == w.getD i 0) with h1 | h1
    · simp only [h1, cond_true, if_true]
    · simp only [h1, cond_false, Bool.false_eq_true, if_false, up (show i < 9223372036854775807 by omega)]
  · unfold m_contexts_Holds_1_1_L5
    rw [decide_eq_false (by omega)]; rfl
theorem at1_eq {t : T_api_Tables} (h : RightT t) (l : List Int) (i : Int) (w : List Int) (hw : w.length ≤ 100) : m_contexts_at_contexts_Holds_1_1 l i w t = some (atF l i fun r => w.any fun x => scriF t r == x) := by
  unfold m_contexts_at_contexts_Holds_1_1 atF
  by_cases h1 : i ≥ 0
  · by_cases h2 : i < l.length
    · rw [decide_eq_true h1, decide_eq_true h2, decide_eq_true (show 0 ≤ i ∧ i < (l.length : Int) from ⟨h1, h2⟩), cond_true, cond_true, if_pos ⟨h1, h2⟩, script_eq h _ _ hw]; rfl
    · rw [decide_eq_true h1, decide_eq_false h2, decide_eq_false (show ¬ (0 ≤ i ∧ i < (l.length : Int)) by omega)]; rfl
  · rw [decide_eq_false h1, decide_eq_false (show ¬ (0 ≤ i ∧ i < (l.length : Int)) by omega)]; rfl
theorem atF_in {l : List Int} {p : Int → Bool} {i : Nat} (hi : i < l.length) : atF l i p = p (l.getD i 0) := by
  unfold atF; rw [decide_eq_true (by omega), Int.toNat_natCast]; rfl
theorem some1_eq {t : T_api_Tables} (h : RightT t) (l w : List Int) (hw : w.length ≤ 100) (hl : l.length ≤ 1000) : m_contexts_some_contexts_Holds_1_1 l w t = some (l.any fun r => w.any fun x => scriF t r == x) := by
  unfold m_contexts_some_contexts_Holds_1_1
  rw [iter_scan l.length (fun i => if (w.any fun x => scriF t (l.getD i 0) == x) = true then some true else none) (fun i hi _ => ?_) (fun _ => ?_)]
  · rw [← any_scan' l 0 fun r => w.any fun x => scriF t r == x]
    cases firstSome (fun i => if (w.any fun x => scriF t (l.getD i 0) == x) = true then some true else none) l.length 0 with
    | none => rfl
    | some v => rfl
  · unfold m_contexts_some_contexts_Holds_1_1_L5
    rw [decide_eq_true (by omega), cond_true, at1_eq h l i w hw, bind_some', atF_in hi]
    rcases Bool.eq_false_or_eq_true (w.any fun x => scriF t (l.getD i 0) == x) with h1 | h1
    · simp only [h1, cond_true, if_true]
    · simp only [h1, cond_false, Bool.false_eq_true, if_false, up (show i < 9223372036854775807 by omega)]
  · unfold m_contexts_some_contexts_Holds_1_1_L5
    rw [decide_eq_false (by omega)]; rfl
theorem some4_eq (l : List Int) (o : Int) (hl : l.length ≤ 1000) : m_contexts_some_contexts_Holds_4 l o = some (l.any fun r => ruleF r == o) := by
  unfold m_contexts_some_contexts_Holds_4
  rw [iter_scan l.length (fun i => if (ruleF (l.getD i 0) == o) = true then some true else none) (fun i hi _ => ?_) (fun _ => ?_)]
  · rw [← any_scan' l 0 fun r => ruleF r == o]
    cases firstSome (fun i => if (ruleF (l.getD i 0) == o) = true then some true else none) l.length 0 with
    | none => rfl
    | some v => rfl
  · unfold m_contexts_some_contexts_Holds_4_L5
    rw [decide_eq_true (by omega), cond_true, at4_eq l i o, bind_some', atF_in hi]
    rcases Bool.eq_false_or_eq_true (ruleF (l.getD i 0) == o) with h1 | h1
    · simp only [h1, cond_true, if_true]
    · simp only [h1, cond_false, Bool.false_eq_true, if_false, up (show i < 9223372036854775807 by omega)]
  · unfold m_contexts_some_contexts_Holds_4_L5
    rw [decide_eq_false (by omega)]; rfl
/-! ### Joining -/
def joinAt (t : T_api_Tables) (l : List Int) (i : Int) : Int := if 0 ≤ i ∧ i < l.length then joinF t (l.getD i.toNat 0) else 0
theorem joinAt_eq {t : T_api_Tables} (h : RightT t) (l : List Int) (i : Int) : m_contexts_joined_1 i l t = some (joinAt t l i) := by
  unfold m_contexts_joined_1 m_contexts_joined_1_K2
  by_cases h1 : i < 0
  · have e : joinAt t l i = 0 := if_neg (by omega)
    rw [decide_eq_true h1, e]; rfl
  · by_cases h2 : i ≥ l.length
    · have e : joinAt t l i = 0 := if_neg (by omega)
      rw [decide_eq_false h1, decide_eq_true h2, e]; rfl
    · have e : joinAt t l i = joinF t (l.getD i.toNat 0) := if_pos (by omega)
      rw [decide_eq_false h1, decide_eq_false h2, cond_false, bind_some', cond_false, if_pos ⟨by omega, by omega⟩, join_eq h, e]; rfl
/-- The place behind those that are passed on the left of place k. -/
def skipL (t : T_api_Tables) (l : List Int) : Nat → Nat
  | 0 => 0
  | k + 1 => if joinF t (l.getD k 0) = 4 then skipL t l k else k + 1
def skipR (t : T_api_Tables) (l : List Int) : Nat → Nat → Nat
  | 0, i => i
  | d + 1, i => if joinF t (l.getD i 0) = 4 then skipR t l d (i + 1) else i
theorem left_eq {t : T_api_Tables} (h : RightT t) (l : List Int) (hl : l.length ≤ 1000) : ∀ k : Nat, k ≤ l.length → iter (m_contexts_joined_2_contexts_joined_1_L6 (-1) l t) ((k : Int) - 1) = some ((skipL t l k : Int) - 1)
  | 0, hk => by
    refine iter_done ?_
    unfold m_contexts_joined_2_contexts_joined_1_L6
    rw [joinAt_eq h, bind_some', joinAt, if_neg (by omega)]; rfl
  | k + 1, hk => by
    have ih := left_eq h l hl k (by omega)
    rw [skipL]
    have hj : joinAt t l (((k + 1 : Nat) : Int) - 1) = joinF t (l.getD k 0) := by
      rw [show (((k + 1 : Nat) : Int) - 1) = (k : Int) by omega, joinAt, if_pos ⟨by omega, by omega⟩, Int.toNat_natCast]
    by_cases h4 : joinF t (l.getD k 0) = 4
    · rw [if_pos h4, ← ih]
      refine iter_next ?_
      unfold m_contexts_joined_2_contexts_joined_1_L6
      rw [joinAt_eq h, bind_some', hj, beq_iff_eq.2 h4, cond_true, w64 (by omega) (by omega)]
      rw [show (((k + 1 : Nat) : Int) - 1 + -1) = (k : Int) - 1 by omega]
    · rw [if_neg h4]
      refine iter_done ?_
      unfold m_contexts_joined_2_contexts_joined_1_L6
      rw [joinAt_eq h, bind_some', hj, beq_false_of_ne h4]; rfl
theorem right_eq' {t : T_api_Tables} (h : RightT t) (l : List Int) (hl : l.length ≤ 1000) : ∀ (d i : Nat), i + d = l.length → iter (m_contexts_joined_2_contexts_joined_1_L6 1 l t) (i : Int) = some (skipR t l d i : Int)
  | 0, i, hd => by
    refine iter_done ?_
    unfold m_contexts_joined_2_contexts_joined_1_L6
    rw [joinAt_eq h, bind_some', joinAt, if_neg (by omega)]; rfl
  | d + 1, i, hd => by
    have ih := right_eq' h l hl d (i + 1) (by omega)
    rw [skipR]
    have hj : joinAt t l (i : Int) = joinF t (l.getD i 0) := by
      rw [joinAt, if_pos ⟨by omega, by omega⟩, Int.toNat_natCast]
    by_cases h4 : joinF t (l.getD i 0) = 4
    · rw [if_pos h4, ← ih]
      refine iter_next ?_
      unfold m_contexts_joined_2_contexts_joined_1_L6
      rw [joinAt_eq h, bind_some', hj, beq_iff_eq.2 h4, cond_true, up (by omega)]
    · rw [if_neg h4]
      refine iter_done ?_
      unfold m_contexts_joined_2_contexts_joined_1_L6
      rw [joinAt_eq h, bind_some', hj, beq_false_of_ne h4]; rfl
theorem skipL_le (t : T_api_Tables) (l : List Int) : ∀ k, skipL t l k ≤ k
  | 0 => Nat.le_refl _
  | k + 1 => by
    rw [skipL]
    have := skipL_le t l k
    split <;> omega
theorem skipR_le (t : T_api_Tables) (l : List Int) : ∀ d i, i ≤ skipR t l d i ∧ skipR t l d i ≤ i + d
  | 0, i => ⟨Nat.le_refl _, Nat.le_refl _⟩
  | d + 1, i => by
    rw [skipR]
    have := skipR_le t l d (i + 1)
    split <;> omega
def joinedF (t : T_api_Tables) (l : List Int) (i : Nat) : Bool :=
  (joinAt t l ((skipL t l i : Int) - 1) == 1 || joinAt t l ((skipL t l i : Int) - 1) == 3) && (joinAt t l (skipR t l (l.length - (i + 1)) (i + 1)) == 2 || joinAt t l (skipR t l (l.length - (i + 1)) (i + 1)) == 3)
theorem joined_eq {t : T_api_Tables} (h : RightT t) (l : List Int) (hl : l.length ≤ 1000) (i : Nat) (hi : i < l.length) : m_contexts_joined t l (i : Int) = some (joinedF t l i) := by
  unfold m_contexts_joined m_contexts_joined_2_contexts_joined_1 m_contexts_joined_2_contexts_joined_1_K2
  rw [up (by omega), right_eq' h l hl (l.length - (i + 1)) (i + 1) (by omega), w64 (by omega) (by omega), left_eq h l hl i (by omega)]
  simp only [bind_some', joinAt_eq h]
  unfold joinedF
  cases (joinAt t l ((skipL t l i : Int) - 1) == 1) <;> cases (joinAt t l ((skipL t l i : Int) - 1) == 3) <;> cases (joinAt t l (skipR t l (l.length - (i + 1)) (i + 1)) == 2) <;> rfl
/-! ### The rules -/
def asianB (t : T_api_Tables) (r : Int) : Bool := decide (scriF t r ≥ 3) && decide (scriF t r ≤ 5)
def holdsF (t : T_api_Tables) (l : List Int) (i : Nat) : Bool :=
  if ruleF (l.getD i 0) = 1 then joinedF t l i || atF l ((i : Int) - 1) fun r => cclsF t r == 9
  else if ruleF (l.getD i 0) = 2 then atF l ((i : Int) - 1) fun r => cclsF t r == 9
  else if ruleF (l.getD i 0) = 3 then atF l ((i : Int) - 1) (fun r => r == 108) && atF l ((i + 1 : Nat) : Int) fun r => r == 108
  else if ruleF (l.getD i 0) = 4 then atF l ((i + 1 : Nat) : Int) fun r => scriF t r == 1
  else if ruleF (l.getD i 0) = 5 then atF l ((i : Int) - 1) fun r => scriF t r == 2
  else if ruleF (l.getD i 0) = 6 then l.any (asianB t)
  else if ruleF (l.getD i 0) = 7 then !l.any fun r => ruleF r == 8
  else if ruleF (l.getD i 0) = 8 then !l.any fun r => ruleF r == 7
  else false
theorem rule_range (r : Int) : ruleF r = 0 ∨ ruleF r = 1 ∨ ruleF r = 2 ∨ ruleF r = 3 ∨ ruleF r = 4 ∨ ruleF r = 5 ∨ ruleF r = 6 ∨ ruleF r = 7 ∨ ruleF r = 8 := by
  unfold ruleF
  repeat' split
  all_goals simp
theorem bind_some_id {α : Type} (x : Option α) : (Option.bind x fun y => some y) = x := by cases x <;> rfl
theorem holds_eq {t : T_api_Tables} (h : RightT t) (l : List Int) (hl : l.length ≤ 1000) (i : Nat) (hi : i < l.length) : m_contexts_Holds t l (i : Int) = some (holdsF t l i) := by
  unfold m_contexts_Holds
  rw [decide_eq_false (by omega), decide_eq_false (by omega), cond_false, bind_some']
  unfold m_contexts_Holds_K2 m_contexts_Holds_K16
  rw [cond_false, if_pos ⟨by omega, by omega⟩, rule_eq, bind_some', joined_eq h l hl i hi, at2_eq h, at3_eq, at3_eq, up (by omega), w64 (x := (i : Int) - 1) (by omega) (by omega)]
  simp only [bind_some', bind_some_id, m_contexts_Holds_1, at1_eq h l _ [1] (by decide), at1_eq h l _ [2] (by decide), some1_eq h l [3, 4, 5] (by decide) hl, some4_eq l _ hl, Int.toNat_natCast]
  unfold holdsF
  rcases rule_range (l.getD i 0) with e | e | e | e | e | e | e | e | e <;> rw [e]
  · rfl
  · cases joinedF t l i <;> rfl
  · rfl
  · cases (atF l ((i : Int) - 1) fun r => r == 108) <;> rfl
  · show some (atF l ((i + 1 : Nat) : Int) fun r => [1].any fun x => scriF t r == x) = some (atF l ((i + 1 : Nat) : Int) fun r => scriF t r == 1)
    simp only [List.any_cons, List.any_nil, Bool.or_false]
  · show some (atF l ((i : Int) - 1) fun r => [2].any fun x => scriF t r == x) = some (atF l ((i : Int) - 1) fun r => scriF t r == 2)
    simp only [List.any_cons, List.any_nil, Bool.or_false]
  · show some (l.any fun r => [3, 4, 5].any fun x => scriF t r == x) = some (l.any (asianB t))
    have : (fun r => [3, 4, 5].any fun x => scriF t r == x) = asianB t := by
      funext r
      rw [Bool.eq_iff_iff]
      simp only [asianB, List.any_cons, List.any_nil, Bool.or_false, Bool.or_eq_true, beq_iff_eq, Bool.and_eq_true, decide_eq_true_eq]
      omega
    rw [this]
  · rfl
  · rfl
theorem at_left {l : List Int} {p : Int → Bool} {i : Nat} (hi : i < l.length) : atF l ((i : Int) - 1) p = (decide (0 < i) && p (l.getD (i - 1) 0)) := by
  unfold atF
  by_cases h0 : 0 < i
  · rw [decide_eq_true (show 0 ≤ (i : Int) - 1 ∧ (i : Int) - 1 < (l.length : Int) by omega), decide_eq_true h0, show ((i : Int) - 1).toNat = i - 1 by omega]
  · rw [decide_eq_false (show ¬ (0 ≤ (i : Int) - 1 ∧ (i : Int) - 1 < (l.length : Int)) by omega), decide_eq_false h0]
    rfl
theorem at_right {l : List Int} {p : Int → Bool} {i : Nat} : atF l ((i + 1 : Nat) : Int) p = (decide (i + 1 < l.length) && p (l.getD (i + 1) 0)) := by
  unfold atF
  by_cases h0 : i + 1 < l.length
  · rw [decide_eq_true (show 0 ≤ ((i + 1 : Nat) : Int) ∧ ((i + 1 : Nat) : Int) < (l.length : Int) by omega), decide_eq_true h0, Int.toNat_natCast]
  · rw [decide_eq_false (show ¬ (0 ≤ ((i + 1 : Nat) : Int) ∧ ((i + 1 : Nat) : Int) < (l.length : Int)) by omega), decide_eq_false h0]
    rfl
end Go.Proofs.YtjhgaacecfmadaaDoor
