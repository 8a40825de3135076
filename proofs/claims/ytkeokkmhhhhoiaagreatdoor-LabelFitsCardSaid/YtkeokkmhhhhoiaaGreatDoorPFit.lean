/- LabelFits: which tables are fit, in the code and in the document. No condition. -/
import Derived.Test.YtkeokkmhhhhoiaaGreatDoorPCodes4
namespace Go.Proofs.YtkeokkmhhhhoiaaGreatDoor
open Go Go.SE
set_option linter.unusedVariables false
set_option linter.unusedSimpArgs false
/-! ### What holds of right tables -/
def base10 (t : T_api_Tables) : Int × Int := if (chk04 t.f_Norm).2 = 0 then chk07 t.f_Props else chk04 t.f_Norm
theorem base_code (t : T_api_Tables) : m_contexts_Check t = some (erOf (base10 t)) := by
  unfold m_contexts_Check base10
  rw [decompCheck_eq, bind_some', erOf_nil, classesCheck_eq]
  by_cases h : (chk04 t.f_Norm).2 = 0
  · rw [decide_eq_true h, if_pos h]; rfl
  · rw [decide_eq_false h, if_neg h]; rfl
theorem base_ref {t : T_api_Tables} (hs : ∀ x ∈ t.f_Norm.f_Rows, x.f_To.length ≤ 4) : m_eponymref08_Check t = some (base10 t) := by
  unfold m_eponymref08_Check base10
  rw [check04_eq _ hs, bind_some', check07_eq]
  by_cases h : (chk04 t.f_Norm).2 = 0
  · rw [if_pos h, h]; rfl
  · rw [if_neg h, bne_iff_ne.2 h]; rfl
theorem base_codes (t : T_api_Tables) : (base10 t).2 = 0 ∨ (base10 t).2 = 4 ∨ (base10 t).2 = 5 ∨ (base10 t).2 = 6 ∨ (base10 t).2 = 7 ∨ (base10 t).2 = 9 ∨ (base10 t).2 = 17 ∨ (base10 t).2 = 18 := by
  unfold base10
  by_cases h : (chk04 t.f_Norm).2 = 0
  · rw [if_pos h]
    rcases chk07_codes t.f_Props with h | h | h | h | h <;> simp [h]
  · rw [if_neg h]; exact chk04_codes t.f_Norm
theorem great10 (t : T_api_Tables) : ∃ b, m_eponymlaw10_Great t = some b ∧ (b = false → small04 t.f_Norm ∧ small07 t.f_Props ∧ t.f_Lower.length ≤ 40) := by
  obtain ⟨b1, h1, g1⟩ := great04 t.f_Norm
  obtain ⟨b2, h2, g2⟩ := great07 t.f_Props
  have h8 : m_eponymlaw08_Great t = some (b1 || b2) := by
    unfold m_eponymlaw08_Great
    rw [h1, bind_some', h2]
    cases b1 <;> cases b2 <;> rfl
  unfold m_eponymlaw10_Great
  rw [h8, bind_some']
  cases b1 with
  | true => exact ⟨true, rfl, fun h => by cases h⟩
  | false =>
    cases b2 with
    | true => exact ⟨true, rfl, fun h => by cases h⟩
    | false =>
      refine ⟨decide (((t.f_Lower.length : Nat) : Int) > 40), rfl, fun h => ⟨g1 rfl, g2 rfl, ?_⟩⟩
      have := of_decide_eq_false h
      omega
structure Right10 (t : T_api_Tables) : Prop where
  from0 : ∀ i, i < t.f_Norm.f_Rows.length → 0 ≤ (t.f_Norm.f_Rows.getD i d_api_Row).f_From
  to0 : ∀ i, i < t.f_Norm.f_Rows.length → ∀ x ∈ (t.f_Norm.f_Rows.getD i d_api_Row).f_To, 0 ≤ x
  lo0 : ∀ i, i < t.f_Norm.f_Classes.length → 0 ≤ (t.f_Norm.f_Classes.getD i d_api_Range).f_Lo
  n1 : t.f_Norm.f_Rows.length ≤ 2000
  n2 : t.f_Norm.f_Classes.length ≤ 2000
theorem rightB_in {r : Int} (h : rightB r = true) : 0 ≤ r := by
  unfold rightB at h
  simp only [Bool.and_eq_true, decide_eq_true_eq] at h
  omega
theorem right10 {t : T_api_Tables} (h : (base10 t).2 = 0) : Right10 t := by
  have h4 : (chk04 t.f_Norm).2 = 0 := by
    unfold base10 at h
    by_cases h4 : (chk04 t.f_Norm).2 = 0
    · exact h4
    · rw [if_neg h4] at h; exact h
  obtain ⟨n, hn⟩ : ∃ n, n = t.f_Norm := ⟨_, rfl⟩
  rw [← hn] at h4
  unfold chk04 at h4
  split at h4
  · cases h4
  · rename_i hbig
    split at h4
    · rename_i v hv
      obtain ⟨j, _, _, hj, _⟩ := firstSome_some hv
      split at hj
      · rename_i hne
        cases hj
        exact absurd h4 hne
      · cases hj
    · rename_i hrows
      have hrow : ∀ i, i < n.f_Rows.length → rowF n i = 0 := fun i hi => by
        have := firstSome_none.1 hrows i (Nat.zero_le _) (by omega)
        split at this
        · cases this
        · rename_i hn; exact Classical.not_not.1 hn
      have hcls : (chkR n.f_Classes).2 = 0 := by
        by_cases hc : (chkR n.f_Classes).2 = 0
        · exact hc
        · rw [if_pos hc] at h4; exact h4
      have r1 : ∀ i, i < n.f_Rows.length → rightB (n.f_Rows.getD i d_api_Row).f_From = true ∧ (n.f_Rows.getD i d_api_Row).f_To.any badTo = false := fun i hi => by
        have := hrow i hi
        unfold rowF at this
        split at this
        · cases this
        · rename_i g1
          split at this
          · cases this
          · split at this
            · cases this
            · split at this
              · cases this
              · rename_i g2
                refine ⟨?_, by simpa using g2⟩
                cases hb : rightB (n.f_Rows.getD i d_api_Row).f_From with
                | true => rfl
                | false => exact absurd (by rw [hb]; rfl) g1
      have hcn : n.f_Classes.length ≤ 2000 ∧ ∀ i, i < n.f_Classes.length → mayB (n.f_Classes.getD i d_api_Range) = true := by
        unfold chkR at hcls
        split at hcls
        · cases hcls
        · rename_i hl
          refine ⟨by omega, fun i hi => ?_⟩
          cases hf : firstSome (chkF n.f_Classes) n.f_Classes.length 0 with
          | some v =>
            rw [hf] at hcls
            obtain ⟨j, _, _, hj, _⟩ := firstSome_some hf
            unfold chkF at hj
            split at hj
            · cases hj; cases hcls
            · split at hj
              · cases hj; cases hcls
              · cases hj
          | none =>
            have := firstSome_none.1 hf i (Nat.zero_le _) (by omega)
            unfold chkF at this
            split at this
            · cases this
            · rename_i hm; simpa using hm
      subst hn
      refine ⟨fun i hi => rightB_in (r1 i hi).1, fun i hi x hx => ?_, fun i hi => ?_, by omega, hcn.1⟩
      · have := List.any_eq_false.1 (r1 i hi).2 x hx
        unfold badTo at this
        cases hb : rightB x with
        | true => exact rightB_in hb
        | false => exact absurd (by rw [hb]; simp) this
      · have := hcn.2 i hi
        unfold mayB at this
        simp only [Bool.and_eq_true, decide_eq_true_eq] at this
        omega
/-! ### The questions -/
def rowK (t : T_api_Tables) (i : Nat) : Option (Int × Int) :=
  if (t.f_Norm.f_Rows.getD i d_api_Row).f_From < 128 ∨ ((t.f_Norm.f_Rows.getD i d_api_Row).f_To.length = 2 ∧ (t.f_Norm.f_Rows.getD i d_api_Row).f_To.getD 1 0 < 128) then some ((i : Int), 17) else none
def clsK (t : T_api_Tables) (i : Nat) : Option (Int × Int) := if (t.f_Norm.f_Classes.getD i d_api_Range).f_Lo < 128 then some ((i : Int), 17) else none
def fr (l : List T_api_Pair) (i : Nat) : Int := (l.getD i d_api_Pair).f_From
def to (l : List T_api_Pair) (i : Nat) : Int := (l.getD i d_api_Pair).f_To
def pairF (l : List T_api_Pair) (i : Nat) : Option (Int × Int) :=
  if rightB (fr l i) = false ∨ fr l i < 128 ∨ rightB (to l i) = false ∨ (65 ≤ to l i ∧ to l i ≤ 90) then some ((i : Int), 4)
  else if 0 < i ∧ fr l i ≤ fr l (i - 1) then some ((i : Int), 6) else none
def turnB (l : List T_api_Pair) (r : Int) : Bool := l.any fun x => x.f_From == r
def thereF (l : List T_api_Pair) (i : Nat) : Option (Int × Int) := if turnB l (to l i) = true then some ((i : Int), 7) else none
def chk10 (t : T_api_Tables) : Int × Int :=
  if (base10 t).2 = 0 then
    match firstSome (rowK t) t.f_Norm.f_Rows.length 0 with
    | some v => v
    | none => match firstSome (clsK t) t.f_Norm.f_Classes.length 0 with
      | some v => v
      | none => if 2000 < t.f_Lower.length then (0, 18) else match firstSome (pairF t.f_Lower) t.f_Lower.length 0 with
        | some v => v
        | none => match firstSome (thereF t.f_Lower) t.f_Lower.length 0 with
          | some v => v
          | none => (0, 0)
  else base10 t
theorem right_code (r : Int) : m_utf_Right r = some (rightB r) := by
  unfold m_utf_Right rightB
  by_cases h1 : r ≥ 0 <;> by_cases h2 : r ≤ 1114111 <;> by_cases h3 : r < 55296 <;> by_cases h4 : r > 57343 <;> simp [h1, h2, h3, h4] <;> omega
theorem right_ref (r : Int) : m_eponymref01_Right r = some (rightB r) := by
  unfold m_eponymref01_Right rightB
  by_cases h1 : r ≥ 0 <;> by_cases h2 : r ≤ 1114111 <;> by_cases h3 : r ≥ 55296 <;> by_cases h4 : r ≤ 57343 <;> simp [h1, h2, h3, h4]
theorem plain_eq (r : Int) : m_label_plain r = some (decide (0 ≤ r ∧ r < 128)) := by
  unfold m_label_plain
  by_cases h1 : r ≥ 0 <;> by_cases h2 : r < 128 <;> simp [h1, h2]
theorem capital_eq (r : Int) : m_label_capital r = some (decide (65 ≤ r ∧ r ≤ 90)) := by
  unfold m_label_capital
  by_cases h1 : r ≥ 65 <;> by_cases h2 : r ≤ 90 <;> simp [h1, h2]
theorem fault_eq (a : Int) (g : Nat) : m_label_fault a (.sent g) = some (.box 70 a (.sent g)) := rfl
end Go.Proofs.YtkeokkmhhhhoiaaGreatDoor
