/- The program's check of a norm. No condition. -/
import Derived.Test.YtjhgaacecfmadaaPNorm2
import Derived.Test.YtjhgaacecfmadaaPCheckRA
namespace Go.Proofs.Ytjhgaacecfmadaa
open Go Go.SE
set_option linter.unusedVariables false
set_option linter.unusedSimpArgs false
def hangC (r : Int) : Int := if r ≥ 4352 ∧ r < 4371 then 1 else if r ≥ 4449 ∧ r < 4470 then 2 else if r > 4519 ∧ r < 4547 then 3 else if r ≥ 44032 ∧ r < 55204 then 4 else 0
theorem and_bif (p q : Prop) [Decidable p] [Decidable q] : (bif decide p then some (decide q) else some false) = some (decide (p ∧ q)) := by
  by_cases hp : p <;> by_cases hq : q <;> simp [hp, hq]
theorem dhang_eq (r : Int) : m_decomp_hangul r = some (hangC r) := by
  unfold m_decomp_hangul m_decomp_hangul_K2 m_decomp_hangul_K4 m_decomp_hangul_K6 m_decomp_hangul_K8 hangC
  simp only [and_bif, bind_some']
  by_cases h1 : r ≥ 4352 ∧ r < 4371
  · rw [if_pos h1, decide_eq_true h1]; rfl
  · rw [if_neg h1, decide_eq_false h1, cond_false]
    by_cases h2 : r ≥ 4449 ∧ r < 4470
    · rw [if_pos h2, decide_eq_true h2]; rfl
    · rw [if_neg h2, decide_eq_false h2, cond_false]
      by_cases h3 : r > 4519 ∧ r < 4547
      · rw [if_pos h3, decide_eq_true h3]; rfl
      · rw [if_neg h3, decide_eq_false h3, cond_false]
        by_cases h4 : r ≥ 44032 ∧ r < 55204
        · rw [if_pos h4, decide_eq_true h4]; rfl
        · rw [if_neg h4, decide_eq_false h4]; rfl
theorem hangC_ne (r : Int) : (hangC r != 0) = hangB r := by
  rw [Bool.eq_iff_iff]
  unfold hangC hangB
  simp only [bne_iff_ne, ne_eq, Bool.and_eq_true, Bool.or_eq_true, decide_eq_true_eq]
  repeat' split
  all_goals omega
/-- What is wrong with row i by itself. -/
def rowE (t : T_api_Norm) (i : Nat) : Int :=
  if (!rightB (t.f_Rows.getD i d_api_Row).f_From || hangB (t.f_Rows.getD i d_api_Row).f_From) = true then 4
  else if 0 < i ∧ (t.f_Rows.getD i d_api_Row).f_From ≤ (t.f_Rows.getD (i - 1) d_api_Row).f_From then 6
  else if (t.f_Rows.getD i d_api_Row).f_To.length ≠ 1 ∧ (t.f_Rows.getD i d_api_Row).f_To.length ≠ 2 ∨ (t.f_Rows.getD i d_api_Row).f_To.getD 0 0 ≥ (t.f_Rows.getD i d_api_Row).f_From then 5
  else if (t.f_Rows.getD i d_api_Row).f_To.any badTo = true then 5 else 0
def deepB (t : T_api_Norm) (i : Nat) : Bool := (decide ((t.f_Rows.getD i d_api_Row).f_To.length = 2) && decide (0 ≤ rowIdx t ((t.f_Rows.getD i d_api_Row).f_To.getD 1 0))) || deepF t 8 i
theorem rowF_rowE (t : T_api_Norm) (i : Nat) : rowF t i = if rowE t i ≠ 0 then rowE t i else if deepB t i = true then 9 else 0 := by
  unfold rowF rowE deepB
  split
  · rfl
  · split
    · rfl
    · split
      · rfl
      · split
        · rfl
        · simp only [ne_eq, not_true_eq_false, if_false, Bool.or_eq_true, Bool.and_eq_true, decide_eq_true_eq]
          split
          · rename_i h; rw [if_pos (.inl h)]
          · rename_i h
            by_cases hd : deepF t 8 i = true
            · rw [if_pos hd, if_pos (.inr hd)]
            · rw [if_neg hd, if_neg (fun h' => h'.elim h hd)]
def risesN (t : T_api_Norm) : Nat := (firstSome (fun i => if rowE t i ≠ 0 then some i else none) t.f_Rows.length 0).getD t.f_Rows.length
theorem rises_le (t : T_api_Norm) : risesN t ≤ t.f_Rows.length ∧ (∀ i, i < risesN t → rowE t i = 0) ∧ (risesN t < t.f_Rows.length → rowE t (risesN t) ≠ 0) := by
  unfold risesN
  cases hf : firstSome (fun i => if rowE t i ≠ 0 then some i else none) t.f_Rows.length 0 with
  | none =>
    refine ⟨Nat.le_refl _, fun i hi => ?_, fun h => absurd h (Nat.lt_irrefl _)⟩
    have := firstSome_none.1 hf i (Nat.zero_le _) (by simp only [Option.getD_none] at hi; omega)
    split at this
    · cases this
    · rename_i h; exact Decidable.not_not.1 h
  | some v =>
    obtain ⟨j, _, h2, hj, h4⟩ := firstSome_some hf
    split at hj
    · rename_i hne
      cases hj
      refine ⟨by simp only [Option.getD_some]; omega, fun i hi => ?_, fun _ => hne⟩
      have := h4 i (Nat.zero_le _) hi
      split at this
      · cases this
      · rename_i h; exact Decidable.not_not.1 h
    · cases hj
def risingR (t : T_api_Norm) : Prop := ∀ i j, i < j → j < t.f_Rows.length → (t.f_Rows.getD i d_api_Row).f_From < (t.f_Rows.getD j d_api_Row).f_From
theorem dsearch_eq (t : T_api_Norm) (r : Int) (hl : t.f_Rows.length < 4611686018427387904) (hmono : risingR t) : ∃ y : Nat, m_sort_Search_decomp_find_1 (t.f_Rows.length : Int) t r = some ((y : Nat) : Int) ∧ isFirst (fun k => (t.f_Rows.getD k d_api_Row).f_From ≥ r) t.f_Rows.length y := by
  have key : ∃ x, iter (m_sort_Search_decomp_find_1_L5 t r) ((0 : Int), (t.f_Rows.length : Int)) = some x ∧ ∃ y : Nat, x = (y : Int) ∧ isFirst (fun k => (t.f_Rows.getD k d_api_Row).f_From ≥ r) t.f_Rows.length y := by
    refine iter_inv (fun s => ∃ i j : Nat, s = ((i : Int), (j : Int)) ∧ i ≤ j ∧ j ≤ t.f_Rows.length ∧ (∀ k, k < i → ¬ (t.f_Rows.getD k d_api_Row).f_From ≥ r) ∧ (j < t.f_Rows.length → (t.f_Rows.getD j d_api_Row).f_From ≥ r)) (fun s => (s.2 - s.1).toNat) _ ?_ _ ⟨0, t.f_Rows.length, rfl, Nat.zero_le _, Nat.le_refl _, fun k hk => absurd hk (Nat.not_lt_zero _), fun h => absurd h (Nat.lt_irrefl _)⟩
    rintro s ⟨i, j, rfl, hij, hjn, hlo, hhi⟩
    by_cases hlt : i < j
    · left
      have hm := mid (i := i) (j := j) (by omega)
      have hmi : (i + j) / 2 < t.f_Rows.length := by omega
      by_cases hp : (t.f_Rows.getD ((i + j) / 2) d_api_Row).f_From ≥ r
      · refine ⟨((i : Int), (((i + j) / 2 : Nat) : Int)), ?_, ⟨i, (i + j) / 2, rfl, by omega, by omega, hlo, fun _ => hp⟩, ?_⟩
        · simp only [m_sort_Search_decomp_find_1_L5, m_decomp_find_1, hm]
          rw [if_pos ⟨by omega, by omega⟩]
          simp only [Int.toNat_natCast, Option.bind_some, decide_eq_true hp, decide_eq_true (show (i : Int) < j by omega)]
          rfl
        · show ((((i + j) / 2 : Nat) : Int) - i).toNat < ((j : Int) - i).toNat
          omega
      · refine ⟨((((i + j) / 2 + 1 : Nat) : Int), (j : Int)), ?_, ⟨(i + j) / 2 + 1, j, rfl, by omega, hjn, fun k hk hkr => ?_, hhi⟩, ?_⟩
        · simp only [m_sort_Search_decomp_find_1_L5, m_decomp_find_1, hm]
          rw [if_pos ⟨by omega, by omega⟩]
          simp only [Int.toNat_natCast, Option.bind_some, decide_eq_false hp, decide_eq_true (show (i : Int) < j by omega), up (show (i + j) / 2 < 9223372036854775807 by omega)]
          rfl
        · by_cases e : k = (i + j) / 2
          · subst e; exact hp hkr
          · have := hmono k ((i + j) / 2) (by omega) hmi
            omega
        · show ((j : Int) - (((i + j) / 2 + 1 : Nat) : Int)).toNat < ((j : Int) - i).toNat
          omega
    · right
      have e : i = j := by omega
      subst e
      refine ⟨(i : Int), ?_, i, rfl, hjn, hlo, hhi⟩
      simp [m_sort_Search_decomp_find_1_L5]
  obtain ⟨x, hx, y, rfl, hq⟩ := key
  refine ⟨y, ?_, hq⟩
  simp only [m_sort_Search_decomp_find_1, hx, Option.bind_some]
theorem firstSome_at {V : Type} {f : Nat → Option V} {v : V} : ∀ {k i j : Nat}, i ≤ j → j < i + k → f j = some v → (∀ j', i ≤ j' → j' < j → f j' = none) → firstSome f k i = some v
  | 0, i, j, h1, h2, _, _ => by omega
  | k + 1, i, j, h1, h2, h3, h4 => by
    rw [firstSome]
    by_cases e : i = j
    · subst e; rw [h3]
    · rw [h4 i (Nat.le_refl _) (by omega)]
      exact firstSome_at (k := k) (i := i + 1) (j := j) (by omega) (by omega) h3 fun j' g1 g2 => h4 j' (by omega) g2
theorem dfind_eq (t : T_api_Norm) (r : Int) (hl : t.f_Rows.length ≤ 2000) (hmono : risingR t) : m_decomp_find t r = some (rowIdx t r) := by
  obtain ⟨y, hy, h1, h2, h3⟩ := dsearch_eq t r (by omega) hmono
  unfold m_decomp_find rowIdx
  rw [hy, bind_some']
  by_cases hlt : y < t.f_Rows.length
  · rw [beq_false_of_ne (show ((y : Nat) : Int) ≠ (t.f_Rows.length : Int) by omega), cond_false, if_pos ⟨by omega, by omega⟩, Int.toNat_natCast, bind_some']
    have hge : (t.f_Rows.getD y d_api_Row).f_From ≥ r := h3 hlt
    unfold m_decomp_find_K3
    by_cases he : (t.f_Rows.getD y d_api_Row).f_From = r
    · rw [show ((t.f_Rows.getD y d_api_Row).f_From != r) = false by rw [he]; simp, cond_false]
      rw [firstSome_at (v := (y : Int)) (j := y) (Nat.zero_le _) (by omega) (by rw [if_pos he]) (fun j _ hj => by
        have : ¬ (t.f_Rows.getD j d_api_Row).f_From ≥ r := h2 j hj
        rw [if_neg (by omega)])]
      rfl
    · rw [show ((t.f_Rows.getD y d_api_Row).f_From != r) = true from bne_iff_ne.2 he, cond_true]
      rw [firstSome_none.2 fun j _ hj => ?_]
      · rfl
      · by_cases e : j < y
        · have : ¬ (t.f_Rows.getD j d_api_Row).f_From ≥ r := h2 j e
          rw [if_neg (by omega)]
        · by_cases e2 : j = y
          · subst e2; rw [if_neg he]
          · have := hmono y j (by omega) (by omega)
            rw [if_neg (by omega)]
  · have hyl : y = t.f_Rows.length := by omega
    rw [show (((y : Nat) : Int) == (t.f_Rows.length : Int)) = true by rw [hyl]; simp, cond_true, bind_some']
    unfold m_decomp_find_K3
    rw [cond_true, firstSome_none.2 fun j _ hj => ?_]
    · rfl
    · have : ¬ (t.f_Rows.getD j d_api_Row).f_From ≥ r := h2 j (by omega)
      rw [if_neg (by omega)]
def lead (t : T_api_Norm) (n : Nat) : T_api_Norm := { f_Rows := t.f_Rows.take n, f_Classes := [], f_Excluded := [] }
theorem lead_get (t : T_api_Norm) (n : Nat) {i : Nat} (h : i < n) : (lead t n).f_Rows.getD i d_api_Row = t.f_Rows.getD i d_api_Row := by
  simp [lead, List.getD_eq_getElem?_getD, List.getElem?_take, h]
theorem lead_len (t : T_api_Norm) {n : Nat} (h : n ≤ t.f_Rows.length) : (lead t n).f_Rows.length = n := by simp [lead, h]
theorem rowE_to {t : T_api_Norm} {i : Nat} (h : rowE t i = 0) : ((t.f_Rows.getD i d_api_Row).f_To.length = 1 ∨ (t.f_Rows.getD i d_api_Row).f_To.length = 2) ∧ (t.f_Rows.getD i d_api_Row).f_To.getD 0 0 < (t.f_Rows.getD i d_api_Row).f_From ∧ (t.f_Rows.getD i d_api_Row).f_To.any badTo = false ∧ (0 < i → (t.f_Rows.getD (i - 1) d_api_Row).f_From < (t.f_Rows.getD i d_api_Row).f_From) := by
  unfold rowE at h
  split at h
  · cases h
  · split at h
    · cases h
    · split at h
      · cases h
      · split at h
        · cases h
        · rename_i hb
          exact ⟨by omega, by omega, by simpa using hb, fun h0 => by omega⟩
theorem lead_rising {t : T_api_Norm} {n : Nat} (hn : n ≤ t.f_Rows.length) (h : ∀ i, i < n → rowE t i = 0) : risingR (lead t n) := by
  intro i j hij hj
  rw [lead_len t hn] at hj
  rw [lead_get t n (by omega), lead_get t n hj]
  obtain ⟨d, rfl⟩ : ∃ d, j = i + 1 + d := ⟨j - i - 1, by omega⟩
  clear hij
  induction d with
  | zero => exact (rowE_to (h (i + 1) hj)).2.2.2 (by omega)
  | succ d ih =>
    have h1 := ih (by omega)
    have h2 := (rowE_to (h (i + 1 + d + 1) hj)).2.2.2 (by omega)
    rw [show i + 1 + d + 1 - 1 = i + 1 + d by omega] at h2
    exact Int.lt_trans h1 h2
theorem firstSome_cut {V : Type} {f : Nat → Option V} : ∀ {n k i : Nat}, k ≤ n → (∀ j, i + k ≤ j → j < i + n → f j = none) → firstSome f n i = firstSome f k i
  | n, 0, i, _, h => firstSome_none.2 fun j h1 h2 => h j (by omega) h2
  | 0, k + 1, i, hk, _ => absurd hk (by omega)
  | n + 1, k + 1, i, hk, h => by
    rw [firstSome, firstSome, firstSome_cut (n := n) (k := k) (i := i + 1) (by omega) fun j h1 h2 => h j (by omega) (by omega)]
theorem lead_ahead {t : T_api_Norm} {n : Nat} (hn : n ≤ t.f_Rows.length) (h : ∀ i, i < n → rowE t i = 0) {k : Nat} (hk : k < n) : rowIdx (lead t n) ((t.f_Rows.getD k d_api_Row).f_To.getD 0 0) = aheadF t k := by
  have hr := lead_rising hn h
  have hto := (rowE_to (h k hk)).2.1
  unfold rowIdx aheadF
  rw [lead_len t hn]
  congr 1
  rw [firstSome_cut (k := k) (by omega) fun j h1 h2 => ?_]
  · exact firstSome_congr fun j _ hj => by rw [lead_get t n (by omega)]
  · rw [lead_get t n (by omega)]
    have : (t.f_Rows.getD k d_api_Row).f_From ≤ (t.f_Rows.getD j d_api_Row).f_From := by
      by_cases e : j = k
      · subst e; exact Int.le_refl _
      · have := hr k j (by omega) (by rw [lead_len t hn]; omega)
        rw [lead_get t n hk, lead_get t n (by omega)] at this
        omega
    rw [if_neg (by omega)]
theorem mayB_le {x : T_api_Range} (h : mayB x = true) : x.f_Lo ≤ x.f_Hi := by
  simp only [mayB, Bool.and_eq_true, decide_eq_true_eq] at h; omega
def risingL (l : List Int) : Prop := ∀ i j, i < j → j < l.length → l.getD i 0 < l.getD j 0
theorem less_eq (x y : Int) : m_cmp_Less_rune x y = some (decide (x < y)) := by
  unfold m_cmp_Less_rune m_cmp_isNaN_rune
  rw [bind_some', show (x != x) = false by simp]; rfl
theorem bsearch_eq (l : List Int) (r : Int) (hl : l.length < 4611686018427387904) (hmono : risingL l) : ∃ y : Nat, iter (m_slices_BinarySearch_rune_rune_L7 l r) ((0 : Int), (l.length : Int)) = some ((y : Nat) : Int) ∧ isFirst (fun k => l.getD k 0 ≥ r) l.length y := by
  have key : ∃ x, iter (m_slices_BinarySearch_rune_rune_L7 l r) ((0 : Int), (l.length : Int)) = some x ∧ ∃ y : Nat, x = (y : Int) ∧ isFirst (fun k => l.getD k 0 ≥ r) l.length y := by
    refine iter_inv (fun s => ∃ i j : Nat, s = ((i : Int), (j : Int)) ∧ i ≤ j ∧ j ≤ l.length ∧ (∀ k, k < i → ¬ l.getD k 0 ≥ r) ∧ (j < l.length → l.getD j 0 ≥ r)) (fun s => (s.2 - s.1).toNat) _ ?_ _ ⟨0, l.length, rfl, Nat.zero_le _, Nat.le_refl _, fun k hk => absurd hk (Nat.not_lt_zero _), fun h => absurd h (Nat.lt_irrefl _)⟩
    rintro s ⟨i, j, rfl, hij, hjn, hlo, hhi⟩
    by_cases hlt : i < j
    · left
      have hm := mid (i := i) (j := j) (by omega)
      have hmi : (i + j) / 2 < l.length := by omega
      by_cases hp : l.getD ((i + j) / 2) 0 ≥ r
      · refine ⟨((i : Int), (((i + j) / 2 : Nat) : Int)), ?_, ⟨i, (i + j) / 2, rfl, by omega, by omega, hlo, fun _ => hp⟩, ?_⟩
        · simp only [m_slices_BinarySearch_rune_rune_L7, less_eq, hm]
          rw [if_pos ⟨by omega, by omega⟩]
          simp only [Int.toNat_natCast, Option.bind_some, decide_eq_false (show ¬ l.getD ((i + j) / 2) 0 < r by omega), decide_eq_true (show (i : Int) < j by omega)]
          rfl
        · show ((((i + j) / 2 : Nat) : Int) - i).toNat < ((j : Int) - i).toNat
          omega
      · refine ⟨((((i + j) / 2 + 1 : Nat) : Int), (j : Int)), ?_, ⟨(i + j) / 2 + 1, j, rfl, by omega, hjn, fun k hk hkr => ?_, hhi⟩, ?_⟩
        · simp only [m_slices_BinarySearch_rune_rune_L7, less_eq, hm]
          rw [if_pos ⟨by omega, by omega⟩]
          simp only [Int.toNat_natCast, Option.bind_some, decide_eq_true (show l.getD ((i + j) / 2) 0 < r by omega), decide_eq_true (show (i : Int) < j by omega), up (show (i + j) / 2 < 9223372036854775807 by omega)]
          rfl
        · by_cases e : k = (i + j) / 2
          · subst e; exact hp hkr
          · have := hmono k ((i + j) / 2) (by omega) hmi
            omega
        · show ((j : Int) - (((i + j) / 2 + 1 : Nat) : Int)).toNat < ((j : Int) - i).toNat
          omega
    · right
      have e : i = j := by omega
      subst e
      refine ⟨(i : Int), ?_, i, rfl, hjn, hlo, hhi⟩
      simp [m_slices_BinarySearch_rune_rune_L7]
  obtain ⟨x, hx, y, rfl, hq⟩ := key
  exact ⟨y, hx, hq⟩
theorem bs_eq (l : List Int) (r : Int) (hl : l.length ≤ 2000) (hmono : risingL l) : ∃ y, m_slices_BinarySearch_rune_rune l r = some (y, l.any fun x => x == r) := by
  obtain ⟨y, hy, h1, h2, h3⟩ := bsearch_eq l r (by omega) hmono
  unfold m_slices_BinarySearch_rune_rune m_slices_BinarySearch_rune_rune_K2 m_slices_isNaN_rune
  rw [hy, bind_some']
  have nohit : (∀ j, j < l.length → l.getD j 0 ≠ r) → (l.any fun x => x == r) = false := fun h => List.any_eq_false.2 fun x hx => by
    obtain ⟨i, hi, rfl⟩ := List.getElem_of_mem hx
    have := h i hi
    have e : l.getD i 0 = l[i] := by simp [List.getD_eq_getElem?_getD, hi]
    rw [e] at this
    simpa using this
  by_cases hlt : y < l.length
  · have hge : l.getD y 0 ≥ r := h3 hlt
    rw [decide_eq_true (by omega), cond_true, if_pos ⟨by omega, by omega⟩, Int.toNat_natCast]
    by_cases he : l.getD y 0 = r
    · refine ⟨(y : Int), ?_⟩
      rw [beq_iff_eq.2 he, cond_true, List.any_eq_true.2 ⟨l.getD y 0, getD_mem hlt, by simpa using he⟩]
    · refine ⟨(y : Int), ?_⟩
      rw [beq_false_of_ne he, cond_false, if_pos ⟨by omega, by omega⟩, bind_some', show (l.getD y 0 != l.getD y 0) = false by simp, cond_false, nohit fun j hj => ?_]
      by_cases e : j < y
      · have : ¬ l.getD j 0 ≥ r := h2 j e
        omega
      · by_cases e2 : j = y
        · subst e2; exact he
        · have := hmono y j (by omega) hj
          omega
  · refine ⟨(y : Int), ?_⟩
    rw [decide_eq_false (by omega), cond_false, nohit fun j hj => ?_]
    have : ¬ l.getD j 0 ≥ r := h2 j (by omega)
    omega
theorem ex_rising {t : T_api_Norm} (h : ∀ i, i < t.f_Excluded.length → exF t i = none) : risingL t.f_Excluded := by
  have step : ∀ i, 0 < i → i < t.f_Excluded.length → t.f_Excluded.getD (i - 1) 0 < t.f_Excluded.getD i 0 := fun i h0 hi => by
    have := h i hi
    unfold exF at this
    split at this
    · cases this
    · split at this
      · cases this
      · rename_i hc; omega
  intro i j hij hj
  obtain ⟨d, rfl⟩ : ∃ d, j = i + 1 + d := ⟨j - i - 1, by omega⟩
  clear hij
  induction d with
  | zero => exact step (i + 1) (by omega) hj
  | succ d ih =>
    have h1 := ih (by omega)
    have h2 := step (i + 1 + d + 1) (by omega) hj
    rw [show i + 1 + d + 1 - 1 = i + 1 + d by omega] at h2
    exact Int.lt_trans h1 h2
/-! ### What composes -/
theorem dclass_eq (t : T_api_Norm) (r : Int) (hc : ordered t.f_Classes ∧ t.f_Classes.length ≤ 2000) : m_decomp_Class t r = some (clsR t r) := by
  unfold m_decomp_Class clsR
  rw [ranges_find_eq _ _ (by omega) hc.1]; rfl
theorem dcomp_eq (t : T_api_Norm) (i : Nat) (hi : i < t.f_Rows.length) (hn : t.f_Rows.length ≤ 2000) (hc : ordered t.f_Classes ∧ t.f_Classes.length ≤ 2000) (he : t.f_Excluded.length ≤ 2000) (hx : risingL t.f_Excluded) : m_decomp_Composes t (i : Int) = some (compB t i) := by
  unfold m_decomp_Composes m_decomp_Composes_K2 compB
  rw [decide_eq_false (show ¬ (i : Int) < 0 by omega), cond_false, decide_eq_false (show ¬ (i : Int) ≥ (t.f_Rows.length : Int) by omega), cond_false, if_pos ⟨by omega, by omega⟩]
  simp only [Int.toNat_natCast, bind_some']
  by_cases h2 : (t.f_Rows.getD i d_api_Row).f_To.length = 2
  · obtain ⟨y, hy⟩ := bs_eq t.f_Excluded (t.f_Rows.getD i d_api_Row).f_From he hx
    rw [show ((((t.f_Rows.getD i d_api_Row).f_To.length : Nat) : Int) != 2) = false by rw [h2]; rfl, cond_false, if_pos ⟨by omega, by omega⟩, hy, bind_some', dclass_eq _ _ hc, dclass_eq _ _ hc, if_pos ⟨by omega, by omega⟩, decide_eq_true h2, Bool.true_and]
    simp only [bind_some']
    unfold exclB
    cases (t.f_Excluded.any fun x => x == (t.f_Rows.getD i d_api_Row).f_From) <;> cases (clsR t (t.f_Rows.getD i d_api_Row).f_From == 0) <;> rfl
  · rw [show ((((t.f_Rows.getD i d_api_Row).f_To.length : Nat) : Int) != 2) = true by rw [bne_iff_ne]; omega, decide_eq_false h2]
    rfl
def pairOf (t : T_api_Norm) (i : Nat) : Int × Int := ((t.f_Rows.getD i d_api_Row).f_To.getD 0 0, (t.f_Rows.getD i d_api_Row).f_To.getD 1 0)
theorem twB_iff (t : T_api_Norm) (i k : Nat) (hi : compB t i = true) : twB t i k = true ↔ compB t k = true ∧ pairOf t i = pairOf t k := by
  unfold twB pairOf
  simp only [hi, Bool.true_and, Bool.and_eq_true, beq_iff_eq, Prod.mk.injEq]
theorem twF_iff (t : T_api_Norm) (i : Nat) (hi : compB t i = true) : twF t i = if ∃ k, k < i ∧ compB t k = true ∧ pairOf t i = pairOf t k then some ((i : Int), 7) else none := by
  unfold twF
  by_cases h : ∃ k, k < i ∧ compB t k = true ∧ pairOf t i = pairOf t k
  · rw [if_pos h]
    obtain ⟨k, hk, h1⟩ := h
    cases hf : firstSome (fun k => if twB t i k = true then some ((i : Int), (7 : Int)) else none) i 0 with
    | none =>
      have := firstSome_none.1 hf k (Nat.zero_le _) (by omega)
      rw [if_pos ((twB_iff t i k hi).2 h1)] at this
      cases this
    | some v =>
      obtain ⟨j, _, _, hj, _⟩ := firstSome_some hf
      split at hj
      · cases hj; rfl
      · cases hj
  · rw [if_neg h]
    refine firstSome_none.2 fun k _ hk => ?_
    rw [if_neg]
    intro hb
    exact h ⟨k, by omega, (twB_iff t i k hi).1 hb⟩
theorem twF_no (t : T_api_Norm) (i : Nat) (hi : compB t i = false) : twF t i = none := by
  unfold twF
  refine firstSome_none.2 fun k _ hk => ?_
  rw [if_neg]
  unfold twB
  rw [hi]; simp
theorem right_range {x : Int} (h : badTo x = false) : -2147483648 ≤ x ∧ x ≤ 2147483647 := by
  unfold badTo rightB at h
  simp only [Bool.or_eq_false_iff, Bool.not_eq_false', Bool.and_eq_true, decide_eq_true_eq] at h
  omega
end Go.Proofs.Ytjhgaacecfmadaa
