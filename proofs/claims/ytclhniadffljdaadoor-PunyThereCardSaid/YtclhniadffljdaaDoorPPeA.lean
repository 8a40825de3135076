/- slices.Compact of runes: each is kept that is not the one ahead of it; of a sorted list they rise. No condition. -/
import Derived.Test.YtclhniadffljdaaDoorPSqF
namespace Go.Proofs.YtclhniadffljdaaDoor
open Go Go.SE
set_option linter.unusedVariables false
set_option linter.unusedSimpArgs false
/-- Those of the first m that are not the one ahead. -/
def ddN (l : List Int) : Nat → List Int
  | 0 => []
  | j + 1 => if j = 0 ∨ l.getD j 0 ≠ l.getD (j - 1) 0 then ddN l j ++ [l.getD j 0] else ddN l j
theorem bneF {a b : Int} (h : a = b) : (a != b) = false := by subst h; simp
theorem bneT {a b : Int} (h : ¬ a = b) : (a != b) = true := by simp [h]
theorem beqT {a b : Int} (h : a = b) : (a == b) = true := by subst h; simp
theorem beqF {a b : Int} (h : ¬ a = b) : (a == b) = false := by simp [h]
theorem take_snoc (l : List Int) (m : Nat) (h : m < l.length) : l.take (m + 1) = l.take m ++ [l.getD m 0] := by
  rw [List.take_add_one, List.getD_eq_getElem?_getD, List.getElem?_eq_getElem h]
  rfl
theorem ddN_same (l : List Int) : ∀ m, m ≤ l.length → (∀ j, 1 ≤ j → j < m → l.getD j 0 ≠ l.getD (j - 1) 0) → ddN l m = l.take m
  | 0, _, _ => by simp [ddN]
  | m + 1, h, hd => by
    have ih := ddN_same l m (by omega) (fun j h1 h2 => hd j h1 (by omega))
    rw [ddN, if_pos (if h0 : m = 0 then .inl h0 else .inr (hd m (by omega) (by omega))), ih, take_snoc l m (by omega)]
theorem getD_set (l : List Int) (i j : Nat) (x : Int) : (l.set i x).getD j 0 = if i = j ∧ i < l.length then x else l.getD j 0 := by
  simp only [List.getD_eq_getElem?_getD, List.getElem?_set]
  by_cases h : i = j
  · subst h
    by_cases h2 : i < l.length
    · simp [h2]
    · simp [h2]
  · simp [h]
theorem cp_inner (l : List Int) (k0 : Nat) (h0 : 1 ≤ k0) (hk0 : k0 < l.length) (hL : l.length ≤ 1000000000) : ∀ (n k k2 : Nat) (mem : List Int), k2 + n = l.length - k0 → 1 ≤ k2 → mem.length = l.length → k ≤ k0 + k2 - 1 → mem.take k = ddN l (k0 + k2) → (∀ j, k0 + k2 - 1 ≤ j → mem.getD j 0 = l.getD j 0) →
    ∃ mem' k', iter (m_slices_Compact_rune_rune_own_L13 l (k0 : Int)) (mem, (k : Int), (k2 : Int)) = some (mem', ((k' : Nat) : Int)) ∧ mem'.length = l.length ∧ k' ≤ l.length ∧ mem'.take k' = ddN l l.length := by
  intro n
  induction n with
  | zero =>
    intro k k2 mem hn h1 hm hk ht hr
    have hc : decide ((k2 : Int) < (((l.length - k0 : Nat)) : Int)) = false := by simp; omega
    refine ⟨mem, k, iter_done ?_, hm, by omega, ?_⟩
    · simp only [m_slices_Compact_rune_rune_own_L13, Int.toNat_natCast, hc, cond_false]
    · rw [ht]; congr 1; omega
  | succ n ih =>
    intro k k2 mem hn h1 hm hk ht hr
    have hc : decide ((k2 : Int) < (((l.length - k0 : Nat)) : Int)) = true := by simp; omega
    have hml : (mem.length : Int) = l.length := by omega
    have e1 := hr (k0 + k2) (by omega)
    have e2 := hr (k0 + (k2 - 1)) (by omega)
    have e3 : k0 + k2 - 1 = k0 + (k2 - 1) := by omega
    by_cases hne : l.getD (k0 + k2) 0 = l.getD (k0 + (k2 - 1)) 0
    · have hb : (l.getD (k0 + k2) 0 != l.getD (k0 + (k2 - 1)) 0) = false := bneF hne
      have hs : m_slices_Compact_rune_rune_own_L13 l (k0 : Int) (mem, (k : Int), (k2 : Int)) = some (.next (mem, (k : Int), ((k2 + 1 : Nat) : Int))) := by
        simp (disch := omega) only [m_slices_Compact_rune_rune_own_L13, Int.toNat_natCast, hc, cond_true, if_pos, ws1, e1, e2, hb, cond_false, wa1]
      rw [iter_next hs]
      refine ih k (k2 + 1) mem (by omega) (by omega) hm (by omega) ?_ (fun j hj => hr j (by omega))
      rw [show k0 + (k2 + 1) = (k0 + k2) + 1 by omega, ddN, if_neg (by rw [e3]; omega), ht]
    · have hb : (l.getD (k0 + k2) 0 != l.getD (k0 + (k2 - 1)) 0) = true := bneT hne
      have hs : m_slices_Compact_rune_rune_own_L13 l (k0 : Int) (mem, (k : Int), (k2 : Int)) = some (.next (mem.set k (l.getD (k0 + k2) 0), ((k + 1 : Nat) : Int), ((k2 + 1 : Nat) : Int))) := by
        simp (disch := omega) only [m_slices_Compact_rune_rune_own_L13, Int.toNat_natCast, hc, cond_true, if_pos, ws1, e1, e2, hb, cond_true, wa1, hml]
      rw [iter_next hs]
      refine ih (k + 1) (k2 + 1) _ (by omega) (by omega) (by simp [hm]) (by omega) ?_ (fun j hj => ?_)
      · rw [take_snoc _ _ (by simp; omega), getD_set, if_pos ⟨rfl, by omega⟩, List.take_set_of_le (Nat.le_refl _), ht]
        rw [show k0 + (k2 + 1) = (k0 + k2) + 1 by omega, ddN, if_pos (by rw [e3]; exact .inr hne)]
      · rw [getD_set, if_neg (by omega)]
        exact hr j (by omega)
theorem cp_outer (l : List Int) (hL : l.length ≤ 1000000000) : ∀ (n k : Nat), k + n = l.length → 1 ≤ k → (∀ j, 1 ≤ j → j < k → l.getD j 0 ≠ l.getD (j - 1) 0) →
    (iter (m_slices_Compact_rune_rune_own_L5 l) (k : Int) = some (.inl ()) ∧ ddN l l.length = l) ∨ ∃ mem k', iter (m_slices_Compact_rune_rune_own_L5 l) (k : Int) = some (.inr (mem, k')) ∧ mem.length = l.length ∧ k' ≤ l.length ∧ mem.take k' = ddN l l.length := by
  intro n
  induction n with
  | zero =>
    intro k hn h1 hd
    have hc : decide ((k : Int) < ((l.length : Nat) : Int)) = false := by simp; omega
    refine .inl ⟨iter_done (by simp only [m_slices_Compact_rune_rune_own_L5, hc, cond_false]), ?_⟩
    rw [ddN_same l l.length (Nat.le_refl _) (fun j h h' => hd j h (by omega)), List.take_length]
  | succ n ih =>
    intro k hn h1 hd
    have hc : decide ((k : Int) < ((l.length : Nat) : Int)) = true := by simp; omega
    by_cases he : l.getD k 0 = l.getD (k - 1) 0
    · have hb : (l.getD k 0 == l.getD (k - 1) 0) = true := beqT he
      obtain ⟨mem, k', r1, r2, r3, r4⟩ := cp_inner l k h1 (by omega) hL (l.length - k - 1) k 1 l (by omega) (by omega) rfl (by omega) (by
        rw [ddN, if_neg (by omega)]
        exact (ddN_same l k (by omega) hd).symm) (fun _ _ => rfl)
      rw [show ((1 : Nat) : Int) = 1 from rfl] at r1
      have hml : (mem.length : Int) = l.length := by omega
      refine .inr ⟨mem.take k' ++ (List.replicate (mem.length - k') 0 ++ mem.drop (k' + (mem.length - k'))), k', iter_done ?_, ?_, r3, ?_⟩
      · simp (disch := omega) only [m_slices_Compact_rune_rune_own_L5, Int.toNat_natCast, hc, cond_true, if_pos, ws1, hb, r1, bindS, m_slices_Compact_rune_rune_own_K10, hml]
      · simp; omega
      · rw [List.take_append_of_le_length (by simp; omega), List.take_take, Nat.min_self, r4]
    · have hb : (l.getD k 0 == l.getD (k - 1) 0) = false := beqF he
      rw [iter_next (s' := ((k + 1 : Nat) : Int)) (by simp (disch := omega) only [m_slices_Compact_rune_rune_own_L5, Int.toNat_natCast, hc, cond_true, if_pos, ws1, hb, cond_false, bindS, wa1])]
      refine ih (k + 1) (by omega) (by omega) (fun j h h' => ?_)
      by_cases hj : j = k
      · subst hj; exact he
      · exact hd j h (by omega)
theorem compact_eq (l : List Int) (hL : l.length ≤ 1000000000) : ∃ mem k, m_slices_Compact_rune_rune_own l = some (mem, k) ∧ mem.length = l.length ∧ k ≤ l.length ∧ mem.take k = ddN l l.length := by
  unfold m_slices_Compact_rune_rune_own
  by_cases h2 : l.length < 2
  · have hc : decide (((l.length : Nat) : Int) < 2) = true := by simp; omega
    rw [hc, cond_true]
    refine ⟨l, l.length, rfl, rfl, Nat.le_refl _, ?_⟩
    rw [ddN_same l l.length (Nat.le_refl _) (fun j h h' => by omega)]
  · have hc : decide (((l.length : Nat) : Int) < 2) = false := by simp; omega
    rw [hc, cond_false]
    rcases cp_outer l hL (l.length - 1) 1 (by omega) (Nat.le_refl _) (fun j h h' => by omega) with ⟨r1, r2⟩ | ⟨mem, k, r1, r2, r3, r4⟩
    · rw [show ((1 : Nat) : Int) = 1 from rfl] at r1
      rw [r1, bindS]
      exact ⟨l, l.length, rfl, rfl, Nat.le_refl _, by rw [r2, List.take_length]⟩
    · rw [show ((1 : Nat) : Int) = 1 from rfl] at r1
      rw [r1, bindS]
      exact ⟨mem, k, rfl, r2, r3, r4⟩
/-! ### Of a sorted list -/
/-- The different ones, rising. -/
def dst (l : List Int) : List Int := ddN (l.mergeSort fun x y => decide (x ≤ y)) l.length
theorem ddN_mem (l : List Int) : ∀ m, m ≤ l.length → ∀ x, x ∈ ddN l m ↔ ∃ j, j < m ∧ l.getD j 0 = x
  | 0, _, x => by simp [ddN]
  | m + 1, h, x => by
    have ih := ddN_mem l m (by omega) x
    rw [ddN]
    split
    · rw [List.mem_append, ih, List.mem_singleton]
      constructor
      · rintro (⟨j, h1, h2⟩ | h2)
        · exact ⟨j, by omega, h2⟩
        · exact ⟨m, by omega, h2.symm⟩
      · rintro ⟨j, h1, h2⟩
        by_cases hj : j = m
        · subst hj; exact .inr h2.symm
        · exact .inl ⟨j, by omega, h2⟩
    · rename_i hc
      rw [ih]
      constructor
      · rintro ⟨j, h1, h2⟩
        exact ⟨j, by omega, h2⟩
      · rintro ⟨j, h1, h2⟩
        by_cases hj : j = m
        · subst hj
          refine ⟨j - 1, by omega, ?_⟩
          rw [← h2]
          by_cases h3 : l.getD j 0 = l.getD (j - 1) 0
          · exact h3.symm
          · exact absurd (.inr h3) hc
        · exact ⟨j, by omega, h2⟩
theorem ddN_rise (l : List Int) (hs : l.Pairwise (· ≤ ·)) : ∀ m, m ≤ l.length → (ddN l m).Pairwise (· < ·)
  | 0, _ => by simp [ddN]
  | m + 1, h => by
    have ih := ddN_rise l hs m (by omega)
    rw [ddN]
    split
    · rename_i hc
      rw [List.pairwise_append]
      refine ⟨ih, List.pairwise_singleton _ _, fun x hx y hy => ?_⟩
      rw [List.mem_singleton] at hy
      subst hy
      obtain ⟨j, hj, rfl⟩ := (ddN_mem l m (by omega) x).1 hx
      have hm : 0 < m := by omega
      have h1 : l.getD (m - 1) 0 ≤ l.getD m 0 := getD_pair hs (by omega) (by omega)
      have h2 : l.getD j 0 ≤ l.getD (m - 1) 0 := by
        by_cases hj2 : j = m - 1
        · rw [hj2]; exact Int.le_refl _
        · exact getD_pair hs (by omega) (by omega)
      rcases hc with hc | hc
      · omega
      · omega
    · exact ih
theorem dst_rise (l : List Int) : (dst l).Pairwise (· < ·) := by
  refine ddN_rise _ ?_ _ (by rw [List.length_mergeSort]; exact Nat.le_refl _)
  have := List.pairwise_mergeSort (le := fun x y : Int => decide (x ≤ y)) (fun a b c h1 h2 => by simp at *; omega) (fun a b => by simp; omega) l
  exact this.imp (fun h => by simpa using h)
theorem dst_mem (l : List Int) (x : Int) : x ∈ dst l ↔ x ∈ l := by
  unfold dst
  rw [ddN_mem _ _ (by rw [List.length_mergeSort]; exact Nat.le_refl _), ← (List.mergeSort_perm l fun x y => decide (x ≤ y)).mem_iff]
  have hl := List.length_mergeSort (le := fun x y : Int => decide (x ≤ y)) l
  generalize (l.mergeSort fun x y => decide (x ≤ y)) = q at hl
  constructor
  · rintro ⟨j, h1, rfl⟩
    exact getD_mem (by omega)
  · intro h
    obtain ⟨j, hj, rfl⟩ := List.mem_iff_getElem.1 h
    exact ⟨j, by omega, by simp [List.getD_eq_getElem?_getD, hj]⟩
end Go.Proofs.YtclhniadffljdaaDoor
