/- A rune sought in a rising row (the same lemmas as in PDecomp, for programs without decomp). No condition. -/
import Derived.Test.YtclhniadffljdaaP0
namespace Go.Proofs.Ytclhniadffljdaa
open Go Go.SE
set_option linter.unusedVariables false
set_option linter.unusedSimpArgs false
/-! ### A rune sought in a rising row -/
def risingL (l : List Int) : Prop := ∀ i j, i < j → j < l.length → l.getD i 0 < l.getD j 0
theorem less_eq (x y : Int) : m_cmp_Less_rune x y = some (decide (x < y)) := by
  unfold m_cmp_Less_rune m_cmp_isNaN_rune
  rw [bind_some', show (x != x) = false by simp]; rfl
theorem bsearch_eq (l : List Int) (r : Int) (hl : l.length < 4611686018427387904) (hmono : risingL l) : ∃ y : Nat, iter (m_slices_BinarySearch_rune_rune_L7 l r) ((0 : Int), (l.length : Int)) = some ((y : Nat) : Int) ∧ isFirst (fun k => l.getD k 0 ≥ r) l.length y := by
  have key : ∃ x, iter (m_slices_BinarySearch_rune_rune_L7 l r) ((0 : Int), (l.length : Int)) = some x ∧ ∃ y : Nat, x = (y : Int) ∧ isFirst (fun k => l.getD k 0 ≥ r) l.length y := by
    refine iter_inv (fun s => ∃ i j : Nat, s = ((i : Int), (j : Int)) ∧ i ≤ j ∧ j ≤ l.length ∧ (∀ k, k < i → ¬ l.getD k 0 ≥ r) ∧ (j < l.length → l.getD j 0 ≥ r)) (fun s => (s.2 - s.1).toNat) _ ?_ _ ⟨0, l.length, rfl, Nat.zero_le _, Nat.le_refl _, fun k hk => absurd hk (Nat.not_lt_zero _), fun h => absurd h (Nat.lt_irrefl _)⟩
    rintro s ⟨i, j, rfl, hij, hjn, hlo, hhi⟩
    by_cases hlt : i < j
    · left
      have hm := mid (i := i) (j := j) (by omega)
      have hmi : (i + j) / 2 < l.length := by omega
      by_cases hp : l.getD ((i + j) / 2) 0 ≥ r
      · refine ⟨((i : Int), (((i + j) / 2 : Nat) : Int)), ?_, ⟨i, (i + j) / 2, rfl, by omega, by omega, hlo, fun _ => hp⟩, ?_⟩
        · simp only [m_slices_BinarySearch_rune_rune_L7, less_eq, hm]
          rw [if_pos ⟨by omega, by omega⟩]
          simp only [Int.toNat_natCast, Option.bind_some, decide_eq_false (show ¬ l.getD ((i + j) / 2) 0 < r by omega), decide_eq_true (show (i : Int) < j by omega)]
          rfl
        · show ((((i + j) / 2 : Nat) : Int) - i).toNat < ((j : Int) - i).toNat
          omega
      · refine ⟨((((i + j) / 2 + 1 : Nat) : Int), (j : Int)), ?_, ⟨(i + j) / 2 + 1, j, rfl, by omega, hjn, fun k hk hkr => ?_, hhi⟩, ?_⟩
        · simp only [m_slices_BinarySearch_rune_rune_L7, less_eq, hm]
          rw [if_pos ⟨by omega, by omega⟩]
          simp only [Int.toNat_natCast, Option.bind_some, decide_eq_true (show l.getD ((i + j) / 2) 0 < r by omega), decide_eq_true (show (i : Int) < j by omega), up (show (i + j) / 2 < 9223372036854775807 by omega)]
          rfl
        · by_cases e : k = (i + j) / 2
          · subst e; exact hp hkr
          · have := hmono k ((i + j) / 2) (by omega) hmi
            omega
        · show ((j : Int) - (((i + j) / 2 + 1 : Nat) : Int)).toNat < ((j : Int) - i).toNat
          omega
    · right
      have e : i = j := by omega
      subst e
      refine ⟨(i : Int), ?_, i, rfl, hjn, hlo, hhi⟩
      simp [m_slices_BinarySearch_rune_rune_L7]
  obtain ⟨x, hx, y, rfl, hq⟩ := key
  exact ⟨y, hx, hq⟩
theorem bs_eq (l : List Int) (r : Int) (hl : l.length ≤ 2000) (hmono : risingL l) : ∃ y, m_slices_BinarySearch_rune_rune l r = some (y, l.any fun x => x == r) := by
  obtain ⟨y, hy, h1, h2, h3⟩ := bsearch_eq l r (by omega) hmono
  unfold m_slices_BinarySearch_rune_rune m_slices_BinarySearch_rune_rune_K2 m_slices_isNaN_rune
  rw [hy, bind_some']
  have nohit : (∀ j, j < l.length → l.getD j 0 ≠ r) → (l.any fun x => x == r) = false := fun h => List.any_eq_false.2 fun x hx => by
    obtain ⟨i, hi, rfl⟩ := List.getElem_of_mem hx
    have := h i hi
    have e : l.getD i 0 = l[i] := by simp [List.getD_eq_getElem?_getD, hi]
    rw [e] at this
    simpa using this
  by_cases hlt : y < l.length
  · have hge : l.getD y 0 ≥ r := h3 hlt
    rw [decide_eq_true (by omega), cond_true, if_pos ⟨by omega, by omega⟩, Int.toNat_natCast]
    by_cases he : l.getD y 0 = r
    · refine ⟨(y : Int), ?_⟩
      rw [beq_iff_eq.2 he, cond_true, List.any_eq_true.2 ⟨l.getD y 0, getD_mem hlt, by simpa using he⟩]
    · refine ⟨(y : Int), ?_⟩
      rw [beq_false_of_ne he, cond_false, if_pos ⟨by omega, by omega⟩, bind_some', show (l.getD y 0 != l.getD y 0) = false by simp, cond_false, nohit fun j hj => ?_]
      by_cases e : j < y
      · have : ¬ l.getD j 0 ≥ r := h2 j e
        omega
      · by_cases e2 : j = y
        · subst e2; exact he
        · have := hmono y j (by omega) hj
          omega
  · refine ⟨(y : Int), ?_⟩
    rw [decide_eq_false (by omega), cond_false, nohit fun j hj => ?_]
    have : ¬ l.getD j 0 ≥ r := h2 j (by omega)
    omega
end Go.Proofs.Ytclhniadffljdaa
