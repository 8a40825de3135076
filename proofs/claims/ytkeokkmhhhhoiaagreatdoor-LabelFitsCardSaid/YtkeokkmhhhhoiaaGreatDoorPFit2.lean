/- LabelFits: the law. No condition. -/
import Derived.Test.YtkeokkmhhhhoiaaGreatDoorPFit
import Derived.KernelRfl
namespace Go.Proofs.YtkeokkmhhhhoiaaGreatDoor
open Go Go.SE
set_option linter.unusedVariables false
set_option linter.unusedSimpArgs false
/-! ### The document -/
theorem rowK_ref (t : T_api_Tables) (hn : t.f_Norm.f_Rows.length ≤ 2000) : iter (m_eponymref10_Fit_L40 t) 0 = some (scanX (firstSome (rowK t) t.f_Norm.f_Rows.length 0)) := by
  refine iter_scan _ _ (fun i hi _ => ?_) (fun _ => ?_)
  · unfold m_eponymref10_Fit_L40 rowK
    rw [decide_eq_true (by omega), cond_true, if_pos ⟨by omega, by omega⟩, Int.toNat_natCast]
    generalize t.f_Norm.f_Rows.getD i d_api_Row = x
    by_cases h1 : x.f_From < 128
    · rw [decide_eq_true h1, cond_true, bind_some', if_pos (Or.inl h1)]; rfl
    · rw [decide_eq_false h1, cond_false]
      by_cases h2 : x.f_To.length = 2
      · rw [show (((x.f_To.length : Nat) : Int) == 2) = true by rw [h2]; rfl, cond_true, if_pos ⟨by omega, by omega⟩]
        by_cases h3 : x.f_To.getD 1 0 < 128
        · rw [decide_eq_true h3, bind_some', if_pos (Or.inr ⟨h2, h3⟩)]; rfl
        · rw [decide_eq_false h3, if_neg (by rintro (h | h); exact h1 h; exact h3 h.2), bind_some']
          unfold m_eponymref10_Fit_K43
          rw [cond_false, up (by omega)]
      · rw [beq_false_of_ne (show ((x.f_To.length : Nat) : Int) ≠ 2 by omega), cond_false, if_neg (by rintro (h | h); exact h1 h; exact h2 h.1), bind_some']
        unfold m_eponymref10_Fit_K43
        rw [cond_false, up (by omega)]
  · unfold m_eponymref10_Fit_L40
    rw [decide_eq_false (by omega)]; rfl
theorem clsK_ref (t : T_api_Tables) (hn : t.f_Norm.f_Classes.length ≤ 2000) : iter (m_eponymref10_Fit_L33 t) 0 = some (scanX (firstSome (clsK t) t.f_Norm.f_Classes.length 0)) := by
  refine iter_scan _ _ (fun i hi _ => ?_) (fun _ => ?_)
  · unfold m_eponymref10_Fit_L33 clsK
    rw [decide_eq_true (by omega), cond_true, if_pos ⟨by omega, by omega⟩, Int.toNat_natCast]
    by_cases h1 : (t.f_Norm.f_Classes.getD i d_api_Range).f_Lo < 128
    · rw [decide_eq_true h1, if_pos h1]; rfl
    · rw [decide_eq_false h1, if_neg h1, cond_false, up (by omega)]
  · unfold m_eponymref10_Fit_L33
    rw [decide_eq_false (by omega)]; rfl
theorem pairF_ref (t : T_api_Tables) (hn : t.f_Lower.length ≤ 2000) : iter (m_eponymref10_Fit_L20 t) 0 = some (scanX (firstSome (pairF t.f_Lower) t.f_Lower.length 0)) := by
  refine iter_scan _ _ (fun i hi _ => ?_) (fun _ => ?_)
  · unfold m_eponymref10_Fit_L20
    rw [decide_eq_true (by omega), cond_true, if_pos ⟨by omega, by omega⟩, Int.toNat_natCast]
    simp only [right_ref, bind_some']
    have hA : (bif !rightB (fr t.f_Lower i) then some true else bif decide (fr t.f_Lower i < 128) then some true else bif !rightB (to t.f_Lower i) then some true else bif decide (to t.f_Lower i ≥ 65) then some (decide (to t.f_Lower i ≤ 90)) else some false) =
        some (decide (rightB (fr t.f_Lower i) = false ∨ fr t.f_Lower i < 128 ∨ rightB (to t.f_Lower i) = false ∨ (65 ≤ to t.f_Lower i ∧ to t.f_Lower i ≤ 90))) := by
      cases rightB (fr t.f_Lower i) <;> by_cases h1 : fr t.f_Lower i < 128 <;> cases rightB (to t.f_Lower i) <;> by_cases h2 : to t.f_Lower i ≥ 65 <;> by_cases h3 : to t.f_Lower i ≤ 90 <;> simp [h1, h2, h3]
    have hA' := hA
    unfold fr to at hA'
    rw [hA', bind_some']
    unfold m_eponymref10_Fit_K23 m_eponymref10_Fit_K25 pairF
    by_cases hb : rightB (fr t.f_Lower i) = false ∨ fr t.f_Lower i < 128 ∨ rightB (to t.f_Lower i) = false ∨ (65 ≤ to t.f_Lower i ∧ to t.f_Lower i ≤ 90)
    · rw [if_pos hb]
      unfold fr to at hb
      rw [decide_eq_true hb, cond_true]
    · rw [if_neg hb]
      unfold fr to at hb
      rw [decide_eq_false hb, cond_false]
      by_cases h0 : 0 < i
      · rw [decide_eq_true (show (i : Int) > 0 by omega), cond_true, down h0 (by omega), if_pos ⟨by omega, by omega⟩, Int.toNat_natCast, Int.toNat_natCast, bind_some']
        by_cases h6 : fr t.f_Lower i ≤ fr t.f_Lower (i - 1)
        · rw [if_pos ⟨h0, h6⟩]
          unfold fr at h6
          rw [decide_eq_true h6, cond_true]
        · rw [if_neg (fun h => h6 h.2)]
          unfold fr at h6
          rw [decide_eq_false h6, cond_false, up (by omega)]
      · rw [decide_eq_false (show ¬ (i : Int) > 0 by omega), cond_false, bind_some', cond_false, if_neg (fun h => h0 h.1), up (by omega)]
  · unfold m_eponymref10_Fit_L20
    rw [decide_eq_false (by omega)]; rfl
theorem turned_ref (t : T_api_Tables) (r : Int) (hn : t.f_Lower.length ≤ 2000) : m_eponymref10_turned t r = some (turnB t.f_Lower r) := by
  unfold m_eponymref10_turned turnB
  rw [iter_scan t.f_Lower.length (fun k => if ((t.f_Lower.getD k d_api_Pair).f_From == r) = true then some true else none) (fun i hi _ => ?_) (fun _ => ?_), bind_some']
  · rw [← any_scan' t.f_Lower d_api_Pair fun x => x.f_From == r]
    cases firstSome (fun k => if ((t.f_Lower.getD k d_api_Pair).f_From == r) = true then some true else none) t.f_Lower.length 0 <;> rfl
  · unfold m_eponymref10_turned_L5
    rw [decide_eq_true (by omega), cond_true, if_pos ⟨by omega, by omega⟩, Int.toNat_natCast]
    cases (t.f_Lower.getD i d_api_Pair).f_From == r
    · rw [cond_false, if_neg (by simp), up (by omega)]
    · rw [cond_true, if_pos rfl]
  · unfold m_eponymref10_turned_L5
    rw [decide_eq_false (by omega)]; rfl
theorem thereF_ref (t : T_api_Tables) (hn : t.f_Lower.length ≤ 2000) : iter (m_eponymref10_Fit_L12 t) 0 = some (scanX (firstSome (thereF t.f_Lower) t.f_Lower.length 0)) := by
  refine iter_scan _ _ (fun i hi _ => ?_) (fun _ => ?_)
  · unfold m_eponymref10_Fit_L12 thereF
    rw [decide_eq_true (by omega), cond_true, if_pos ⟨by omega, by omega⟩, Int.toNat_natCast, turned_ref t _ hn, bind_some']
    show (bif turnB t.f_Lower (to t.f_Lower i) then _ else _) = _
    cases turnB t.f_Lower (to t.f_Lower i)
    · rw [cond_false, if_neg (by simp), up (by omega)]
    · rw [cond_true, if_pos rfl]
  · unfold m_eponymref10_Fit_L12
    rw [decide_eq_false (by omega)]; rfl
theorem fit_ref (t : T_api_Tables) (hs : ∀ x ∈ t.f_Norm.f_Rows, x.f_To.length ≤ 4) : m_eponymref10_Fit t = some (chk10 t) := by
  unfold m_eponymref10_Fit chk10
  rw [base_ref hs, bind_some']
  by_cases h0 : (base10 t).2 = 0
  · have hR := right10 h0
    rw [if_pos h0, show ((base10 t).2 != 0) = false by simp [h0], cond_false, rowK_ref t hR.n1, bind_some']
    cases firstSome (rowK t) t.f_Norm.f_Rows.length 0 with
    | some v => rfl
    | none =>
      simp only [scanX]
      unfold m_eponymref10_Fit_K3
      rw [clsK_ref t hR.n2, bind_some']
      cases firstSome (clsK t) t.f_Norm.f_Classes.length 0 with
      | some v => rfl
      | none =>
        simp only [scanX]
        unfold m_eponymref10_Fit_K5
        by_cases hl : 2000 < t.f_Lower.length
        · rw [if_pos hl, decide_eq_true (by omega), cond_true]
        · rw [if_neg hl, decide_eq_false (by omega), cond_false, pairF_ref t (by omega), bind_some']
          cases firstSome (pairF t.f_Lower) t.f_Lower.length 0 with
          | some v => rfl
          | none =>
            simp only [scanX]
            unfold m_eponymref10_Fit_K7
            rw [thereF_ref t (by omega), bind_some']
            cases firstSome (thereF t.f_Lower) t.f_Lower.length 0 <;> rfl
  · rw [if_neg h0, show ((base10 t).2 != 0) = true by simp [h0], cond_true]
/-! ### The code -/
theorem rowK_code (t : T_api_Tables) (hR : Right10 t) : iter (m_label_Fit_L18 t) 0 = some (scanX ((firstSome (rowK t) t.f_Norm.f_Rows.length 0).map erOf)) := by
  rw [← firstSome_map]
  refine iter_scan _ _ (fun i hi _ => ?_) (fun _ => ?_)
  · have f0 := hR.from0 i hi
    have t0 := hR.to0 i hi
    have hn := hR.n1
    unfold m_label_Fit_L18 rowK
    rw [decide_eq_true (by omega), cond_true, if_pos ⟨by omega, by omega⟩, Int.toNat_natCast]
    generalize t.f_Norm.f_Rows.getD i d_api_Row = x at f0 t0
    simp only [plain_eq, bind_some']
    by_cases h1 : x.f_From < 128
    · rw [decide_eq_true ⟨f0, h1⟩, cond_true, bind_some', if_pos (Or.inl h1)]; rfl
    · rw [decide_eq_false (fun h => h1 h.2), cond_false]
      by_cases h2 : x.f_To.length = 2
      · have t1 := t0 _ (getD_mem (d := 0) (show 1 < x.f_To.length by omega))
        rw [show (((x.f_To.length : Nat) : Int) == 2) = true by rw [h2]; rfl, cond_true, if_pos ⟨by omega, by omega⟩]
        by_cases h3 : x.f_To.getD 1 0 < 128
        · rw [decide_eq_true ⟨t1, h3⟩, bind_some', if_pos (Or.inr ⟨h2, h3⟩)]; rfl
        · rw [decide_eq_false (fun h => h3 h.2), if_neg (by rintro (h | h); exact h1 h; exact h3 h.2), bind_some']
          unfold m_label_Fit_K21
          rw [cond_false, up (by omega)]; rfl
      · rw [beq_false_of_ne (show ((x.f_To.length : Nat) : Int) ≠ 2 by omega), cond_false, if_neg (by rintro (h | h); exact h1 h; exact h2 h.1), bind_some']
        unfold m_label_Fit_K21
        rw [cond_false, up (by omega)]; rfl
  · have hn := hR.n1
    unfold m_label_Fit_L18
    rw [decide_eq_false (by omega)]; rfl
theorem clsK_code (t : T_api_Tables) (hR : Right10 t) : iter (m_label_Fit_L9 t) 0 = some (scanX ((firstSome (clsK t) t.f_Norm.f_Classes.length 0).map erOf)) := by
  rw [← firstSome_map]
  have hn := hR.n2
  refine iter_scan _ _ (fun i hi _ => ?_) (fun _ => ?_)
  · have f0 := hR.lo0 i hi
    unfold m_label_Fit_L9 clsK
    rw [decide_eq_true (by omega), cond_true, if_pos ⟨by omega, by omega⟩, Int.toNat_natCast, plain_eq, bind_some']
    by_cases h1 : (t.f_Norm.f_Classes.getD i d_api_Range).f_Lo < 128
    · rw [decide_eq_true ⟨f0, h1⟩, if_pos h1]; rfl
    · rw [decide_eq_false (fun h => h1 h.2), if_neg h1, cond_false, up (by omega)]; rfl
  · unfold m_label_Fit_L9
    rw [decide_eq_false (by omega)]; rfl
theorem pairF_code (l : List T_api_Pair) (hn : l.length ≤ 2000) : iter (m_label_fitLower_L17 l) 0 = some (scanX ((firstSome (pairF l) l.length 0).map erOf)) := by
  rw [← firstSome_map]
  refine iter_scan _ _ (fun i hi _ => ?_) (fun _ => ?_)
  · unfold m_label_fitLower_L17
    rw [decide_eq_true (by omega), cond_true, if_pos ⟨by omega, by omega⟩, Int.toNat_natCast]
    simp only [right_code, plain_eq, capital_eq, bind_some']
    have hA : (bif !rightB (fr l i) then some (!rightB (fr l i)) else bif decide (0 ≤ fr l i ∧ fr l i < 128) then some (decide (0 ≤ fr l i ∧ fr l i < 128)) else bif !rightB (to l i) then some (!rightB (to l i)) else some (decide (65 ≤ to l i ∧ to l i ≤ 90))) =
        some (decide (rightB (fr l i) = false ∨ fr l i < 128 ∨ rightB (to l i) = false ∨ (65 ≤ to l i ∧ to l i ≤ 90))) := by
      cases hr : rightB (fr l i) with
      | false => simp
      | true =>
        have := rightB_in hr
        by_cases h1 : fr l i < 128
        · simp [this, h1]
        · cases rightB (to l i) <;> by_cases h2 : 65 ≤ to l i <;> by_cases h3 : to l i ≤ 90 <;> simp [h1, h2, h3]
    have hA' := hA
    unfold fr to at hA'
    rw [hA', bind_some']
    unfold m_label_fitLower_K20 m_label_fitLower_K23 pairF
    by_cases hb : rightB (fr l i) = false ∨ fr l i < 128 ∨ rightB (to l i) = false ∨ (65 ≤ to l i ∧ to l i ≤ 90)
    · rw [if_pos hb]
      unfold fr to at hb
      rw [decide_eq_true hb, cond_true]; rfl
    · rw [if_neg hb]
      unfold fr to at hb
      rw [decide_eq_false hb, cond_false]
      by_cases h0 : 0 < i
      · rw [decide_eq_true (show (i : Int) > 0 by omega), cond_true, down h0 (by omega), if_pos ⟨by omega, by omega⟩, Int.toNat_natCast, Int.toNat_natCast, bind_some']
        by_cases h6 : fr l i ≤ fr l (i - 1)
        · rw [if_pos ⟨h0, h6⟩]
          unfold fr at h6
          rw [decide_eq_true h6, cond_true]; rfl
        · rw [if_neg (fun h => h6 h.2)]
          unfold fr at h6
          rw [decide_eq_false h6, cond_false, up (by omega)]; rfl
      · rw [decide_eq_false (show ¬ (i : Int) > 0 by omega), cond_false, bind_some', cond_false, if_neg (fun h => h0 h.1), up (by omega)]; rfl
  · unfold m_label_fitLower_L17
    rw [decide_eq_false (by omega)]; rfl
theorem rise_of {l : List T_api_Pair} (h : ∀ i, 0 < i → i < l.length → fr l (i - 1) < fr l i) : ∀ j i, i < j → j < l.length → fr l i < fr l j
  | 0, i, hij, _ => by omega
  | j + 1, i, hij, hj => by
    have h1 := h (j + 1) (by omega) hj
    rw [Nat.add_sub_cancel] at h1
    by_cases e : i = j
    · subst e; exact h1
    · have := rise_of h j i (by omega) (by omega)
      omega
theorem lower_search (l : List T_api_Pair) (r : Int) (hl : l.length ≤ 2000) (ho : ∀ j i, i < j → j < l.length → fr l i < fr l j) : ∃ y : Nat, m_sort_Search_label_lower_1 (l.length : Int) l r = some ((y : Nat) : Int) ∧ isFirst (fun k => fr l k ≥ r) l.length y := by
  have key : ∃ x, iter (m_sort_Search_label_lower_1_L5 l r) ((0 : Int), (l.length : Int)) = some x ∧ ∃ y : Nat, x = (y : Int) ∧ isFirst (fun k => fr l k ≥ r) l.length y := by
    refine iter_inv (fun s => ∃ i j : Nat, s = ((i : Int), (j : Int)) ∧ i ≤ j ∧ j ≤ l.length ∧ (∀ k, k < i → ¬ fr l k ≥ r) ∧ (j < l.length → fr l j ≥ r)) (fun s => (s.2 - s.1).toNat) _ ?_ _ ⟨0, l.length, rfl, Nat.zero_le _, Nat.le_refl _, fun k hk => absurd hk (Nat.not_lt_zero _), fun h => absurd h (Nat.lt_irrefl _)⟩
    rintro s ⟨i, j, rfl, hij, hjn, hlo, hhi⟩
    by_cases hlt : i < j
    · left
      have hm := mid (i := i) (j := j) (by omega)
      have hmi : (i + j) / 2 < l.length := by omega
      by_cases hp : fr l ((i + j) / 2) ≥ r
      · refine ⟨((i : Int), (((i + j) / 2 : Nat) : Int)), ?_, ⟨i, (i + j) / 2, rfl, by omega, by omega, hlo, fun _ => hp⟩, ?_⟩
        · unfold fr at hp
          simp only [m_sort_Search_label_lower_1_L5, m_label_lower_1, hm]
          rw [if_pos ⟨by omega, by omega⟩]
          simp only [Int.toNat_natCast, Option.bind_some, decide_eq_true hp, decide_eq_true (show (i : Int) < j by omega)]
          rfl
        · show ((((i + j) / 2 : Nat) : Int) - i).toNat < ((j : Int) - i).toNat
          omega
      · refine ⟨((((i + j) / 2 + 1 : Nat) : Int), (j : Int)), ?_, ⟨(i + j) / 2 + 1, j, rfl, by omega, hjn, fun k hk hkr => ?_, hhi⟩, ?_⟩
        · unfold fr at hp
          simp only [m_sort_Search_label_lower_1_L5, m_label_lower_1, hm]
          rw [if_pos ⟨by omega, by omega⟩]
          simp only [Int.toNat_natCast, Option.bind_some, decide_eq_false hp, decide_eq_true (show (i : Int) < j by omega), up (show (i + j) / 2 < 9223372036854775807 by omega)]
          rfl
        · by_cases e : k = (i + j) / 2
          · subst e; exact hp hkr
          · have := ho ((i + j) / 2) k (by omega) hmi
            omega
        · show ((j : Int) - (((i + j) / 2 + 1 : Nat) : Int)).toNat < ((j : Int) - i).toNat
          omega
    · right
      have : i = j := by omega
      subst this
      refine ⟨(i : Int), ?_, i, rfl, hjn, hlo, hhi⟩
      simp [m_sort_Search_label_lower_1_L5]
  obtain ⟨x, h1, y, rfl, h2⟩ := key
  refine ⟨y, ?_, h2⟩
  unfold m_sort_Search_label_lower_1
  rw [h1]; rfl
theorem lower_code (l : List T_api_Pair) (r : Int) (hl : l.length ≤ 2000) (ho : ∀ j i, i < j → j < l.length → fr l i < fr l j) : ∃ x, m_label_lower l r = some (x, turnB l r) := by
  obtain ⟨y, h1, hy, hlo, hhi⟩ := lower_search l r hl ho
  unfold m_label_lower m_label_lower_K3
  rw [h1, bind_some']
  have key : turnB l r = true ↔ y < l.length ∧ fr l y = r := by
    unfold turnB
    rw [List.any_eq_true]
    constructor
    · rintro ⟨x, hx, he⟩
      obtain ⟨k, hk, rfl⟩ := List.mem_iff_getElem.1 hx
      have hfk : fr l k = r := by
        unfold fr
        rw [List.getD_eq_getElem?_getD, List.getElem?_eq_getElem hk]
        simpa using he
      have hyk : y ≤ k := by
        by_cases h : k < y
        · exact absurd (show fr l k ≥ r by omega) (hlo k h)
        · omega
      have hyl : y < l.length := by omega
      have hge : fr l y ≥ r := hhi hyl
      by_cases e : y = k
      · subst e; exact ⟨hyl, hfk⟩
      · have := ho k y (by omega) hk
        omega
    · rintro ⟨hyl, he⟩
      exact ⟨_, getD_mem (d := d_api_Pair) hyl, by unfold fr at he; rw [he]; simp⟩
  by_cases hyl : y = l.length
  · rw [show ((y : Int) == ((l.length : Nat) : Int)) = true by simp [hyl], cond_true, bind_some', cond_true]
    refine ⟨r, ?_⟩
    cases ht : turnB l r with
    | false => rfl
    | true => have := key.1 ht; omega
  · have hlt : y < l.length := by omega
    rw [beq_false_of_ne (show (y : Int) ≠ ((l.length : Nat) : Int) by omega), cond_false, if_pos ⟨by omega, by omega⟩, Int.toNat_natCast, bind_some']
    by_cases he : fr l y = r
    · have ht := key.2 ⟨hlt, he⟩
      unfold fr at he
      rw [he, show (r != r) = false by simp, cond_false, if_pos ⟨by omega, by omega⟩, ht]
      exact ⟨_, rfl⟩
    · have ht : turnB l r = false := by
        cases ht : turnB l r with
        | false => rfl
        | true => exact absurd (key.1 ht).2 he
      unfold fr at he
      rw [show ((l.getD y d_api_Pair).f_From != r) = true by simp only [bne_iff_ne]; exact he, cond_true, ht]
      exact ⟨_, rfl⟩
theorem thereF_code (l : List T_api_Pair) (hn : l.length ≤ 2000) (ho : ∀ j i, i < j → j < l.length → fr l i < fr l j) : iter (m_label_fitLower_L8 l) 0 = some (scanX ((firstSome (thereF l) l.length 0).map erOf)) := by
  rw [← firstSome_map]
  refine iter_scan _ _ (fun i hi _ => ?_) (fun _ => ?_)
  · unfold m_label_fitLower_L8 thereF
    obtain ⟨x, hx⟩ := lower_code l (to l i) hn ho
    have hx' := hx
    unfold to at hx'
    rw [decide_eq_true (by omega), cond_true, if_pos ⟨by omega, by omega⟩, Int.toNat_natCast, hx', bind_some']
    show (bif turnB l (to l i) then _ else _) = _
    cases turnB l (to l i)
    · rw [cond_false, if_neg (by simp), up (by omega)]; rfl
    · rw [cond_true, if_pos rfl]; rfl
  · unfold m_label_fitLower_L8
    rw [decide_eq_false (by omega)]; rfl
theorem fit_code (t : T_api_Tables) : m_label_Fit t = some (erOf (chk10 t)) := by
  unfold m_label_Fit chk10
  rw [base_code, bind_some', erOf_nil]
  by_cases h0 : (base10 t).2 = 0
  · have hR := right10 h0
    rw [if_pos h0, decide_eq_true h0, Bool.not_true, cond_false, rowK_code t hR, bind_some']
    cases firstSome (rowK t) t.f_Norm.f_Rows.length 0 with
    | some v => rfl
    | none =>
      simp only [scanX, Option.map_none]
      unfold m_label_Fit_K3
      rw [clsK_code t hR, bind_some']
      cases firstSome (clsK t) t.f_Norm.f_Classes.length 0 with
      | some v => rfl
      | none =>
        simp only [scanX, Option.map_none]
        unfold m_label_Fit_K5 m_label_fitLower
        by_cases hl : 2000 < t.f_Lower.length
        · rw [if_pos hl, decide_eq_true (by omega), cond_true]; rfl
        · rw [if_neg hl, decide_eq_false (by omega), cond_false, pairF_code t.f_Lower (by omega), bind_some']
          cases hp : firstSome (pairF t.f_Lower) t.f_Lower.length 0 with
          | some v => rfl
          | none =>
            simp only [scanX, Option.map_none]
            have ho := rise_of (l := t.f_Lower) fun i h0 hi => by
              have := firstSome_none.1 hp i (Nat.zero_le _) (by omega)
              unfold pairF at this
              split at this
              · cases this
              · split at this
                · cases this
                · rename_i hn; omega
            unfold m_label_fitLower_K3
            rw [thereF_code t.f_Lower (by omega) ho, bind_some']
            cases firstSome (thereF t.f_Lower) t.f_Lower.length 0 <;> rfl
  · rw [if_neg h0, decide_eq_false h0, Bool.not_false, cond_true]
theorem chk10_codes (t : T_api_Tables) : (chk10 t).2 = 0 ∨ (chk10 t).2 = 4 ∨ (chk10 t).2 = 5 ∨ (chk10 t).2 = 6 ∨ (chk10 t).2 = 7 ∨ (chk10 t).2 = 9 ∨ (chk10 t).2 = 17 ∨ (chk10 t).2 = 18 := by
  unfold chk10
  by_cases h0 : (base10 t).2 = 0
  · rw [if_pos h0]
    cases hf : firstSome (rowK t) t.f_Norm.f_Rows.length 0 with
    | some v =>
      obtain ⟨j, _, _, hj, _⟩ := firstSome_some hf
      unfold rowK at hj
      split at hj
      · cases hj; simp
      · cases hj
    | none =>
      simp only
      cases hg : firstSome (clsK t) t.f_Norm.f_Classes.length 0 with
      | some v =>
        obtain ⟨j, _, _, hj, _⟩ := firstSome_some hg
        unfold clsK at hj
        split at hj
        · cases hj; simp
        · cases hj
      | none =>
        simp only
        by_cases hl : 2000 < t.f_Lower.length
        · rw [if_pos hl]; simp
        · rw [if_neg hl]
          cases hp : firstSome (pairF t.f_Lower) t.f_Lower.length 0 with
          | some v =>
            obtain ⟨j, _, _, hj, _⟩ := firstSome_some hp
            unfold pairF at hj
            split at hj
            · cases hj; simp
            · split at hj
              · cases hj; simp
              · cases hj
          | none =>
            simp only
            cases hq : firstSome (thereF t.f_Lower) t.f_Lower.length 0 with
            | some v =>
              obtain ⟨j, _, _, hj, _⟩ := firstSome_some hq
              unfold thereF at hj
              split at hj
              · cases hj; simp
              · cases hj
            | none => simp
  · rw [if_neg h0]; exact base_codes t
theorem awake10 : m_eponymlaw10_awake = some true := by kernel_rfl
theorem law_labelFits (t : T_api_Tables) : m_eponymlaw10_LabelFits t = some true := by
  unfold m_eponymlaw10_LabelFits
  rw [awake10, bind_some', Bool.not_true, cond_false]
  obtain ⟨g, hg, hs⟩ := great10 t
  rw [hg, bind_some']
  cases g with
  | true => rfl
  | false =>
    rw [cond_false, fit_ref t (hs rfl).1.2.2.2, bind_some', fit_code, bind_some', is_erOf4 (chk10_codes t)]
    rfl
end Go.Proofs.YtkeokkmhhhhoiaaGreatDoor
