/- Ranges: the linear and the binary search answer alike where the ranges are in order. No condition. -/
import Derived.Test.YtjhgaacecfmadaaDoorP0
namespace Go.Proofs.YtjhgaacecfmadaaDoor
open Go Go.SE
set_option linter.unusedVariables false
set_option linter.unusedSimpArgs false
def hitR (r : Int) (x : T_api_Range) : Bool := decide (x.f_Lo ≤ r) && decide (r ≤ x.f_Hi)
def fndO : Option T_api_Range → Int × Bool
  | some x => (x.f_Value, true)
  | none => (0, false)
/-- What a search of ranges answers. -/
def fnd (l : List T_api_Range) (r : Int) : Int × Bool := fndO (l.find? (hitR r))
theorem find_loop (l : List T_api_Range) (r : Int) (hl : l.length < 4611686018427387904) : ∀ (k i : Nat), i + k = l.length → iter (m_eponymref03_Find_L5 l r) (i : Int) = some (match (l.drop i).find? (hitR r) with | some x => .inr (x.f_Value, true) | none => .inl ())
  | 0, i, h => by
    rw [iter_step]
    simp [m_eponymref03_Find_L5, show ¬ i < l.length by omega, List.drop_of_length_le (show l.length ≤ i by omega)]
  | k + 1, i, h => by
    have ih := find_loop l r hl k (i + 1) (by omega)
    rw [iter_step, drop_getD (d := d_api_Range) (show i < l.length by omega)]
    by_cases h1 : (l.getD i d_api_Range).f_Lo ≤ r <;> by_cases h2 : r ≤ (l.getD i d_api_Range).f_Hi <;>
      simp [m_eponymref03_Find_L5, m_eponymref03_Find_K8, show i < l.length by omega, h1, h2, hitR, up (show i < 9223372036854775807 by omega), ih, List.find?_cons, -List.getD_eq_getElem?_getD, -Int.natCast_add]
theorem find_eq (l : List T_api_Range) (r : Int) (hl : l.length < 4611686018427387904) : m_eponymref03_Find l r = some (fnd l r) := by
  have h := find_loop l r hl l.length 0 (by omega)
  simp only [m_eponymref03_Find]
  rw [show (0 : Int) = ((0 : Nat) : Int) from rfl, h]
  unfold fnd
  rw [List.drop_zero]
  cases l.find? (hitR r) <;> rfl
/-- In order. -/
def ordered (l : List T_api_Range) : Prop := (∀ x ∈ l, x.f_Lo ≤ x.f_Hi) ∧ l.Pairwise fun x y => x.f_Hi < y.f_Lo
theorem search_eq (l : List T_api_Range) (r : Int) (hl : l.length < 4611686018427387904) (ho : ordered l) : ∃ y : Nat, m_sort_Search_ranges_Find_1 (l.length : Int) l r = some ((y : Nat) : Int) ∧ isFirst (fun k => (l.getD k d_api_Range).f_Hi ≥ r) l.length y := by
  have hmono : ∀ i j, i < j → j < l.length → (l.getD i d_api_Range).f_Hi < (l.getD j d_api_Range).f_Hi := fun i j hij hj => by
    have h1 := getD_pair (d := d_api_Range) ho.2 hij hj
    have h2 := ho.1 _ (getD_mem (d := d_api_Range) hj)
    omega
  have key : ∃ x, iter (m_sort_Search_ranges_Find_1_L5 l r) ((0 : Int), (l.length : Int)) = some x ∧ ∃ y : Nat, x = (y : Int) ∧ isFirst (fun k => (l.getD k d_api_Range).f_Hi ≥ r) l.length y := by
    refine iter_inv (fun s => ∃ i j : Nat, s = ((i : Int), (j : Int)) ∧ i ≤ j ∧ j ≤ l.length ∧ (∀ k, k < i → ¬ (l.getD k d_api_Range).f_Hi ≥ r) ∧ (j < l.length → (l.getD j d_api_Range).f_Hi ≥ r)) (fun s => (s.2 - s.1).toNat) _ ?_ _ ⟨0, l.length, rfl, Nat.zero_le _, Nat.le_refl _, fun k hk => absurd hk (Nat.not_lt_zero _), fun h => absurd h (Nat.lt_irrefl _)⟩
    rintro s ⟨i, j, rfl, hij, hjn, hlo, hhi⟩
    by_cases hlt : i < j
    · left
      have hm := mid (i := i) (j := j) (by omega)
      have hmi : (i + j) / 2 < l.length := by omega
      by_cases hp : (l.getD ((i + j) / 2) d_api_Range).f_Hi ≥ r
      · refine ⟨((i : Int), (((i + j) / 2 : Nat) : Int)), ?_, ⟨i, (i + j) / 2, rfl, by omega, by omega, hlo, fun _ => hp⟩, ?_⟩
        · simp only [m_sort_Search_ranges_Find_1_L5, m_ranges_Find_1, hm]
          rw [if_pos ⟨by omega, by omega⟩]
          simp only [Int.toNat_natCast, Option.bind_some, decide_eq_true hp, decide_eq_true (show (i : Int) < j by omega)]
          rfl
        · show ((((i + j) / 2 : Nat) : Int) - i).toNat < ((j : Int) - i).toNat
          omega
      · refine ⟨((((i + j) / 2 + 1 : Nat) : Int), (j : Int)), ?_, ⟨(i + j) / 2 + 1, j, rfl, by omega, hjn, fun k hk hkr => ?_, hhi⟩, ?_⟩
        · simp only [m_sort_Search_ranges_Find_1_L5, m_ranges_Find_1, hm]
          rw [if_pos ⟨by omega, by omega⟩]
          simp only [Int.toNat_natCast, Option.bind_some, decide_eq_false hp, decide_eq_true (show (i : Int) < j by omega), up (show (i + j) / 2 < 9223372036854775807 by omega)]
          rfl
        · by_cases e : k = (i + j) / 2
          · subst e; exact hp hkr
          · have := hmono k ((i + j) / 2) (by omega) hmi
            omega
        · show ((j : Int) - (((i + j) / 2 + 1 : Nat) : Int)).toNat < ((j : Int) - i).toNat
          omega
    · right
      have e : i = j := by omega
      subst e
      refine ⟨(i : Int), ?_, i, rfl, hjn, hlo, hhi⟩
      simp [m_sort_Search_ranges_Find_1_L5]
  obtain ⟨x, hx, y, rfl, hq⟩ := key
  refine ⟨y, ?_, hq⟩
  simp only [m_sort_Search_ranges_Find_1, hx, Option.bind_some]
theorem first_find {l : List T_api_Range} {r : Int} (ho : ordered l) {y : Nat} (h : isFirst (fun k => (l.getD k d_api_Range).f_Hi ≥ r) l.length y) :
    fnd l r = if y < l.length then (if (l.getD y d_api_Range).f_Lo ≤ r then ((l.getD y d_api_Range).f_Value, true) else (0, false)) else (0, false) := by
  obtain ⟨h1, h2, h3⟩ := h
  -- nothing ahead of y is hit
  have hno : (l.take y).find? (hitR r) = none := by
    rw [List.find?_eq_none]
    intro x hx
    obtain ⟨k, hk, rfl⟩ := List.getElem_of_mem hx
    have hk' : k < y := by rw [List.length_take] at hk; omega
    have : ¬ (l.getD k d_api_Range).f_Hi ≥ r := h2 k hk'
    have e : l.getD k d_api_Range = (l.take y)[k] := by simp [List.getD_eq_getElem?_getD, show k < l.length by omega]
    rw [e] at this
    simp only [hitR, Bool.and_eq_true, decide_eq_true_eq]
    omega
  have hsp : fnd l r = fndO ((l.drop y).find? (hitR r)) := by
    unfold fnd
    conv => lhs; rw [← List.take_append_drop y l, List.find?_append, hno]
    simp
  rw [hsp]
  by_cases hy : y < l.length
  · rw [if_pos hy, drop_getD (d := d_api_Range) hy]
    have hhi : (l.getD y d_api_Range).f_Hi ≥ r := h3 hy
    by_cases hlo : (l.getD y d_api_Range).f_Lo ≤ r
    · have : hitR r (l.getD y d_api_Range) = true := by simp only [hitR, Bool.and_eq_true, decide_eq_true_eq]; omega
      rw [if_pos hlo, List.find?_cons, this]
      rfl
    · have : hitR r (l.getD y d_api_Range) = false := by simp [hitR, hlo, -List.getD_eq_getElem?_getD]
      rw [if_neg hlo, List.find?_cons, this]
      have hrest : (l.drop (y + 1)).find? (hitR r) = none := by
        rw [List.find?_eq_none]
        intro x hx
        obtain ⟨k, hk, rfl⟩ := List.getElem_of_mem hx
        rw [List.length_drop] at hk
        have e : l.getD (y + 1 + k) d_api_Range = (l.drop (y + 1))[k]'(by rw [List.length_drop]; exact hk) := by simp [List.getD_eq_getElem?_getD, show y + 1 + k < l.length by omega]
        have h4 := getD_pair (d := d_api_Range) ho.2 (show y < y + 1 + k by omega) (by omega)
        rw [e] at h4
        simp only [hitR, Bool.and_eq_true, decide_eq_true_eq]
        omega
      simp only [hrest]
      rfl
  · rw [if_neg hy, List.drop_of_length_le (by omega)]
    rfl
theorem ranges_find_eq (l : List T_api_Range) (r : Int) (hl : l.length < 4611686018427387904) (ho : ordered l) : m_ranges_Find l r = some (fnd l r) := by
  obtain ⟨y, hy, hf⟩ := search_eq l r hl ho
  rw [first_find ho hf]
  simp only [m_ranges_Find, hy, Option.bind_some]
  by_cases h1 : y < l.length
  · have e1 : ((y : Int) == (l.length : Int)) = false := by simp; omega
    have e2 : (0 : Int) ≤ y ∧ (y : Int) < l.length := by omega
    by_cases h2 : (l.getD y d_api_Range).f_Lo ≤ r
    · rw [e1, cond_false, if_pos e2, if_pos h1, if_pos h2]
      simp only [Int.toNat_natCast, Option.bind_some, m_ranges_Find_K3, if_pos e2]
      rw [decide_eq_false (by omega)]
      rfl
    · rw [e1, cond_false, if_pos e2, if_pos h1, if_neg h2]
      simp only [Int.toNat_natCast, Option.bind_some, m_ranges_Find_K3]
      rw [decide_eq_true (by omega)]
      rfl
  · have e1 : ((y : Int) == (l.length : Int)) = true := by have := hf.1; simp; omega
    rw [e1, if_neg h1]
    rfl
end Go.Proofs.YtjhgaacecfmadaaDoor
