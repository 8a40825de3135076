/- Merged of texts of ours: PNorm, PNorm2. No condition. -/
import Derived.Test.YtjhgaacecfmadaaPChecks
namespace Go.Proofs.Ytjhgaacecfmadaa
open Go Go.SE
set_option linter.unusedVariables false
set_option linter.unusedSimpArgs false
def rightB (r : Int) : Bool := decide (r ≥ 0) && decide (r ≤ 1114111) && !(decide (r ≥ 55296) && decide (r ≤ 57343))
theorem right_eq (r : Int) : m_eponymref01_Right r = some (rightB r) := by
  unfold m_eponymref01_Right rightB
  cases decide (r ≥ 0) <;> cases decide (r ≤ 1114111) <;> cases decide (r ≥ 55296) <;> rfl
def hangB (r : Int) : Bool := (decide (r ≥ 44032) && decide (r ≤ 55203)) || ((decide (r ≥ 4352) && decide (r ≤ 4370)) || ((decide (r ≥ 4449) && decide (r ≤ 4469)) || (decide (r ≥ 4520) && decide (r ≤ 4546))))
theorem hang_eq (r : Int) : m_eponymref04_hangul r = some (hangB r) := by
  unfold m_eponymref04_hangul hangB
  cases decide (r ≥ 44032) <;> cases decide (r ≤ 55203) <;> cases decide (r ≥ 4352) <;> cases decide (r ≤ 4370) <;> cases decide (r ≥ 4449) <;> cases decide (r ≤ 4469) <;> cases decide (r ≥ 4520) <;> rfl
def small04 (t : T_api_Norm) : Prop := t.f_Rows.length ≤ 40 ∧ t.f_Classes.length ≤ 40 ∧ t.f_Excluded.length ≤ 40 ∧ ∀ x ∈ t.f_Rows, x.f_To.length ≤ 4
theorem great04 (t : T_api_Norm) : ∃ b, m_eponymlaw04_Great t = some b ∧ (b = false → small04 t) := by
  unfold m_eponymlaw04_Great m_eponymlaw04_Great_K2
  by_cases h1 : 40 < t.f_Rows.length
  · exact ⟨true, by rw [decide_eq_true (by omega)]; rfl, fun h => by cases h⟩
  by_cases h2 : 40 < t.f_Classes.length
  · exact ⟨true, by rw [decide_eq_false (by omega), decide_eq_true (by omega)]; rfl, fun h => by cases h⟩
  by_cases h3 : 40 < t.f_Excluded.length
  · exact ⟨true, by rw [decide_eq_false (by omega), decide_eq_false (by omega), decide_eq_true (by omega)]; rfl, fun h => by cases h⟩
  rw [decide_eq_false (by omega), decide_eq_false (by omega), decide_eq_false (by omega)]
  simp only [cond_false, bind_some']
  rw [iter_scan t.f_Rows.length (fun i => if 4 < (t.f_Rows.getD i d_api_Row).f_To.length then some true else none) (fun i hi _ => ?_) (fun _ => ?_)]
  · cases hf : firstSome (fun i => if 4 < (t.f_Rows.getD i d_api_Row).f_To.length then some true else none) t.f_Rows.length 0 with
    | some v =>
      obtain ⟨j, _, _, hj, _⟩ := firstSome_some hf
      have : v = true := by
        split at hj
        · cases hj; rfl
        · cases hj
      subst this
      exact ⟨true, rfl, fun h => by cases h⟩
    | none =>
      refine ⟨false, rfl, fun _ => ⟨by omega, by omega, by omega, fun x hx => ?_⟩⟩
      obtain ⟨i, hi, rfl⟩ := List.getElem_of_mem hx
      have := firstSome_none.1 hf i (Nat.zero_le _) (by omega)
      have e : t.f_Rows.getD i d_api_Row = t.f_Rows[i] := by simp [List.getD_eq_getElem?_getD, hi]
      simp only [e] at this
      split at this
      · cases this
      · omega
  · unfold m_eponymlaw04_Great_L7
    rw [decide_eq_true (by omega), cond_true, if_pos ⟨by omega, by omega⟩, Int.toNat_natCast]
    by_cases h4 : 4 < (t.f_Rows.getD i d_api_Row).f_To.length
    · rw [decide_eq_true (by omega), if_pos h4]; rfl
    · rw [decide_eq_false (by omega), if_neg h4, cond_false, up (by omega)]
  · unfold m_eponymlaw04_Great_L7
    rw [decide_eq_false (by omega)]; rfl
/-! ### Rows -/
def rowIdx (t : T_api_Norm) (r : Int) : Int := (firstSome (fun i => if (t.f_Rows.getD i d_api_Row).f_From = r then some (i : Int) else none) t.f_Rows.length 0).getD (-1)
theorem rowIdx_eq (t : T_api_Norm) (r : Int) (hn : t.f_Rows.length ≤ 2000) : m_eponymref04_Row t r = some (rowIdx t r) := by
  unfold m_eponymref04_Row rowIdx
  rw [iter_scan t.f_Rows.length (fun i => if (t.f_Rows.getD i d_api_Row).f_From = r then some (i : Int) else none) (fun i hi _ => ?_) (fun _ => ?_)]
  · cases firstSome (fun i => if (t.f_Rows.getD i d_api_Row).f_From = r then some (i : Int) else none) t.f_Rows.length 0 <;> rfl
  · unfold m_eponymref04_Row_L5
    rw [decide_eq_true (by omega), cond_true, if_pos ⟨by omega, by omega⟩, Int.toNat_natCast]
    by_cases h : (t.f_Rows.getD i d_api_Row).f_From = r
    · rw [if_pos h, beq_iff_eq.2 h]; rfl
    · rw [if_neg h, beq_false_of_ne h, cond_false, up (by omega)]
  · unfold m_eponymref04_Row_L5
    rw [decide_eq_false (by omega)]; rfl
def aheadF (t : T_api_Norm) (i : Nat) : Int := (firstSome (fun k => if (t.f_Rows.getD k d_api_Row).f_From = (t.f_Rows.getD i d_api_Row).f_To.getD 0 0 then some (k : Int) else none) i 0).getD (-1)
theorem ahead_eq (t : T_api_Norm) (i : Nat) (hn : t.f_Rows.length ≤ 2000) (hi : i < t.f_Rows.length) (hto : 0 < (t.f_Rows.getD i d_api_Row).f_To.length) : m_eponymref04_ahead t (i : Int) = some (aheadF t i) := by
  unfold m_eponymref04_ahead aheadF
  rw [iter_scan i (fun k => if (t.f_Rows.getD k d_api_Row).f_From = (t.f_Rows.getD i d_api_Row).f_To.getD 0 0 then some (k : Int) else none) (fun k hk _ => ?_) (fun _ => ?_)]
  · cases firstSome (fun k => if (t.f_Rows.getD k d_api_Row).f_From = (t.f_Rows.getD i d_api_Row).f_To.getD 0 0 then some (k : Int) else none) i 0 <;> rfl
  · unfold m_eponymref04_ahead_L5
    rw [decide_eq_true (by omega), cond_true, if_pos ⟨by omega, by omega⟩, if_pos ⟨by omega, by omega⟩]
    simp only [Int.toNat_natCast]
    rw [if_pos ⟨by omega, by omega⟩]
    by_cases h : (t.f_Rows.getD k d_api_Row).f_From = (t.f_Rows.getD i d_api_Row).f_To.getD 0 0
    · rw [if_pos h, beq_iff_eq.2 h]; rfl
    · rw [if_neg h, beq_false_of_ne h, cond_false, up (by omega)]
  · unfold m_eponymref04_ahead_L5
    rw [decide_eq_false (by omega)]; rfl
theorem ahead_lt (t : T_api_Norm) (i : Nat) : aheadF t i < i ∧ -1 ≤ aheadF t i := by
  unfold aheadF
  cases hf : firstSome (fun k => if (t.f_Rows.getD k d_api_Row).f_From = (t.f_Rows.getD i d_api_Row).f_To.getD 0 0 then some (k : Int) else none) i 0 with
  | none => simp only [Option.getD_none]; omega
  | some v =>
    obtain ⟨j, _, h2, hj, _⟩ := firstSome_some hf
    split at hj
    · cases hj; simp only [Option.getD_some]; omega
    · cases hj
/-- Is there a chain of more rows from row k on? -/
def deepF (t : T_api_Norm) : Nat → Int → Bool
  | 0, k => decide (0 ≤ k)
  | n + 1, k => if k < 0 then false else deepF t n (aheadF t k.toNat)
theorem deep_loop (t : T_api_Norm) (hn : t.f_Rows.length ≤ 2000) (i : Nat) (hi : i < t.f_Rows.length) (hto : ∀ j, j ≤ i → 0 < (t.f_Rows.getD j d_api_Row).f_To.length) : ∀ (d n : Nat) (k : Int), n + d = 8 → k ≤ i → iter (m_eponymref04_row_L15 t) ((n : Int), k) = some (if deepF t d k = true then .inr 9 else .inl ())
  | 0, n, k, h, hk => by
    obtain rfl : n = 8 := by omega
    have e : IntKind.wrap .i64 (((8 : Nat) : Int) + 1) = 9 := up (i := 8) (by omega)
    by_cases h0 : 0 ≤ k
    · refine iter_done ?_
      simp only [m_eponymref04_row_L15, e]
      rw [decide_eq_true (show k ≥ 0 by omega), show deepF t 0 k = true from decide_eq_true h0]
      rfl
    · refine iter_done ?_
      simp only [m_eponymref04_row_L15, e]
      rw [decide_eq_false (show ¬ k ≥ 0 by omega), show deepF t 0 k = false from decide_eq_false h0]
      rfl
  | d + 1, n, k, h, hk => by
    by_cases h0 : 0 ≤ k
    · obtain ⟨j, rfl⟩ : ∃ j : Nat, k = j := ⟨k.toNat, by omega⟩
      have hl := ahead_lt t j
      have ih := deep_loop t hn i hi hto d (n + 1) (aheadF t j) (by omega) (by omega)
      have e : deepF t (d + 1) (j : Int) = deepF t d (aheadF t j) := by rw [deepF, if_neg (by omega), Int.toNat_natCast]
      rw [e, ← ih]
      refine iter_next ?_
      simp only [m_eponymref04_row_L15]
      rw [decide_eq_true (show (j : Int) ≥ 0 by omega), up (show n < 9223372036854775807 by omega), decide_eq_false (show ¬ ((n + 1 : Nat) : Int) > 8 by omega), ahead_eq t j hn (by omega) (hto j (by omega))]
      rfl
    · have e : deepF t (d + 1) k = false := by rw [deepF, if_pos (by omega)]
      rw [e]
      refine iter_done ?_
      simp only [m_eponymref04_row_L15]
      rw [decide_eq_false (show ¬ k ≥ 0 by omega)]
      rfl
def badTo (x : Int) : Bool := !rightB x || hangB x
/-- What is wrong with row i. -/
def rowF (t : T_api_Norm) (i : Nat) : Int :=
  if (!rightB (t.f_Rows.getD i d_api_Row).f_From || hangB (t.f_Rows.getD i d_api_Row).f_From) = true then 4
  else if 0 < i ∧ (t.f_Rows.getD i d_api_Row).f_From ≤ (t.f_Rows.getD (i - 1) d_api_Row).f_From then 6
  else if (t.f_Rows.getD i d_api_Row).f_To.length ≠ 1 ∧ (t.f_Rows.getD i d_api_Row).f_To.length ≠ 2 ∨ (t.f_Rows.getD i d_api_Row).f_To.getD 0 0 ≥ (t.f_Rows.getD i d_api_Row).f_From then 5
  else if (t.f_Rows.getD i d_api_Row).f_To.any badTo = true then 5
  else if (t.f_Rows.getD i d_api_Row).f_To.length = 2 ∧ 0 ≤ rowIdx t ((t.f_Rows.getD i d_api_Row).f_To.getD 1 0) then 9
  else if deepF t 8 i = true then 9 else 0
theorem any_scan {α : Type} (l : List α) (d : α) (p : α → Bool) (v : Int) : (match firstSome (fun k => if p (l.getD k d) = true then some v else none) l.length 0 with | none => false | some _ => true) = l.any p := by
  cases hf : firstSome (fun k => if p (l.getD k d) = true then some v else none) l.length 0 with
  | none =>
    have h := firstSome_none.1 hf
    refine Eq.symm (List.any_eq_false.2 fun x hx => ?_)
    obtain ⟨i, hi, rfl⟩ := List.getElem_of_mem hx
    have := h i (Nat.zero_le _) (by omega)
    have e : l.getD i d = l[i] := by simp [List.getD_eq_getElem?_getD, hi]
    simp only [e] at this
    split at this
    · cases this
    · assumption
  | some w =>
    obtain ⟨j, _, hj, h, _⟩ := firstSome_some hf
    refine Eq.symm (List.any_eq_true.2 ⟨l.getD j d, getD_mem (by omega), ?_⟩)
    split at h
    · assumption
    · cases h
theorem to_loop (t : T_api_Norm) (i : Nat) (hto : (t.f_Rows.getD i d_api_Row).f_To.length ≤ 4) : iter (m_eponymref04_row_L24 t (i : Int)) 0 = some (if (t.f_Rows.getD i d_api_Row).f_To.any badTo = true then .inr 5 else .inl ()) := by
  have h := iter_scan (body := m_eponymref04_row_L24 t (i : Int)) (t.f_Rows.getD i d_api_Row).f_To.length (fun k => if badTo ((t.f_Rows.getD i d_api_Row).f_To.getD k 0) = true then some (5 : Int) else none) (fun k hk _ => ?_) (fun _ => ?_)
  · rw [h, ← any_scan (t.f_Rows.getD i d_api_Row).f_To 0 badTo 5]
    cases hf : firstSome (fun k => if badTo ((t.f_Rows.getD i d_api_Row).f_To.getD k 0) = true then some (5 : Int) else none) (t.f_Rows.getD i d_api_Row).f_To.length 0 with
    | none => rfl
    | some w =>
      obtain ⟨j, _, hj, h, _⟩ := firstSome_some hf
      split at h
      · cases h; rfl
      · cases h
  · unfold m_eponymref04_row_L24
    simp only [Int.toNat_natCast]
    rw [decide_eq_true (by omega), cond_true, if_pos ⟨by omega, by omega⟩, right_eq, hang_eq]
    simp only [bind_some', badTo, m_eponymref04_row_K27, up (show k < 9223372036854775807 by omega)]
    rcases Bool.eq_false_or_eq_true (rightB ((t.f_Rows.getD i d_api_Row).f_To.getD k 0)) with h1 | h1
    · rcases Bool.eq_false_or_eq_true (hangB ((t.f_Rows.getD i d_api_Row).f_To.getD k 0)) with h2 | h2
      · simp only [h1, h2, Bool.not_true, cond_false, Bool.false_or, if_true]
        rw [if_pos ⟨by omega, by omega⟩]; rfl
      · simp only [h1, h2, Bool.not_true, cond_false, Bool.false_or, Bool.false_eq_true, if_false]
        rw [if_pos ⟨by omega, by omega⟩]; rfl
    · simp only [h1, Bool.not_false, cond_true, Bool.true_or, if_true]; rfl
  · unfold m_eponymref04_row_L24
    simp only [Int.toNat_natCast]
    rw [decide_eq_false (by omega)]; rfl
theorem row_eq (t : T_api_Norm) (i : Nat) (hn : t.f_Rows.length ≤ 2000) (hi : i < t.f_Rows.length) (hs : (t.f_Rows.getD i d_api_Row).f_To.length ≤ 4) (hto : ∀ j, j < i → 0 < (t.f_Rows.getD j d_api_Row).f_To.length) : m_eponymref04_row t (i : Int) = some (rowF t i) := by
  unfold m_eponymref04_row
  rw [if_pos ⟨by omega, by omega⟩, right_eq, hang_eq]
  simp only [bind_some', Int.toNat_natCast]
  have e1 : (bif !rightB (t.f_Rows.getD i d_api_Row).f_From then some true else some (hangB (t.f_Rows.getD i d_api_Row).f_From)) = some (!rightB (t.f_Rows.getD i d_api_Row).f_From || hangB (t.f_Rows.getD i d_api_Row).f_From) := by
    cases rightB (t.f_Rows.getD i d_api_Row).f_From <;> rfl
  rw [e1, bind_some']
  unfold rowF m_eponymref04_row_K2
  cases hb : (!rightB (t.f_Rows.getD i d_api_Row).f_From || hangB (t.f_Rows.getD i d_api_Row).f_From) with
  | true => rfl
  | false =>
  simp only [cond_false, Bool.false_eq_true, if_false]
  have e2 : (bif decide ((i : Int) > 0) then
        if 0 ≤ IntKind.wrap .i64 ((i : Int) - 1) ∧ IntKind.wrap .i64 ((i : Int) - 1) < (t.f_Rows.length : Int) then
          some (decide ((t.f_Rows.getD i d_api_Row).f_From ≤ (t.f_Rows.getD (IntKind.wrap .i64 ((i : Int) - 1)).toNat d_api_Row).f_From))
        else none
      else some false) = some (decide (0 < i ∧ (t.f_Rows.getD i d_api_Row).f_From ≤ (t.f_Rows.getD (i - 1) d_api_Row).f_From)) := by
    by_cases h0 : 0 < i
    · rw [decide_eq_true (show (i : Int) > 0 by omega), cond_true, down h0 (by omega), if_pos ⟨by omega, by omega⟩]
      simp only [Int.toNat_natCast, h0, true_and]
    · rw [decide_eq_false (show ¬ (i : Int) > 0 by omega), cond_false]
      simp only [h0, false_and, decide_false]
  simp only [Int.toNat_natCast]
  rw [e2, bind_some']
  unfold m_eponymref04_row_K4
  by_cases h2 : 0 < i ∧ (t.f_Rows.getD i d_api_Row).f_From ≤ (t.f_Rows.getD (i - 1) d_api_Row).f_From
  · rw [decide_eq_true h2, if_pos h2]; rfl
  rw [decide_eq_false h2, if_neg h2, cond_false]
  simp only [Int.toNat_natCast]
  by_cases h3 : (t.f_Rows.getD i d_api_Row).f_To.length = 1 ∨ (t.f_Rows.getD i d_api_Row).f_To.length = 2
  · have e3 : (bif (((t.f_Rows.getD i d_api_Row).f_To.length : Int) != 1) then
          bif (((t.f_Rows.getD i d_api_Row).f_To.length : Int) != 2) then some true
          else if 0 ≤ (0 : Int) ∧ (0 : Int) < ((t.f_Rows.getD i d_api_Row).f_To.length : Int) then some (decide ((t.f_Rows.getD i d_api_Row).f_To.getD 0 0 ≥ (t.f_Rows.getD i d_api_Row).f_From)) else none
        else if 0 ≤ (0 : Int) ∧ (0 : Int) < ((t.f_Rows.getD i d_api_Row).f_To.length : Int) then some (decide ((t.f_Rows.getD i d_api_Row).f_To.getD 0 0 ≥ (t.f_Rows.getD i d_api_Row).f_From)) else none) = some (decide ((t.f_Rows.getD i d_api_Row).f_To.getD 0 0 ≥ (t.f_Rows.getD i d_api_Row).f_From)) := by
      rw [if_pos ⟨by omega, by omega⟩]
      rcases h3 with h3 | h3 <;> rw [h3] <;> rfl
    rw [e3, bind_some']
    by_cases h4 : (t.f_Rows.getD i d_api_Row).f_To.getD 0 0 ≥ (t.f_Rows.getD i d_api_Row).f_From
    · rw [decide_eq_true h4, if_pos (.inr h4)]; rfl
    rw [decide_eq_false h4, if_neg (by omega)]
    unfold m_eponymref04_row_K6
    rw [cond_false, to_loop t i hs]
    cases ha : (t.f_Rows.getD i d_api_Row).f_To.any badTo with
    | true => rfl
    | false =>
    simp only [Bool.false_eq_true, if_false, bind_some']
    unfold m_eponymref04_row_K8
    simp only [Int.toNat_natCast]
    have hd := deep_loop t hn i hi (fun j hj => by
      by_cases e : j = i
      · subst e; omega
      · exact hto j (by omega)) 8 0 (i : Int) (by omega) (by omega)
    have hd : iter (m_eponymref04_row_L15 t) (0, (i : Int)) = some (if deepF t 8 (i : Int) = true then .inr 9 else .inl ()) := hd
    rcases h3 with h3 | h3
    · rw [h3, if_neg (by omega)]
      have e5 : ((((1 : Nat) : Int)) == 2) = false := by decide
      rw [e5, cond_false, bind_some']
      unfold m_eponymref04_row_K10
      rw [cond_false, hd]
      cases deepF t 8 (i : Int) <;> rfl
    · rw [h3]
      have e5 : ((((2 : Nat) : Int)) == 2) = true := by decide
      rw [e5, cond_true, if_pos ⟨by omega, by omega⟩, rowIdx_eq t _ hn]
      simp only [bind_some']
      unfold m_eponymref04_row_K10
      by_cases h6 : 0 ≤ rowIdx t ((t.f_Rows.getD i d_api_Row).f_To.getD 1 0)
      · rw [decide_eq_true (show rowIdx t ((t.f_Rows.getD i d_api_Row).f_To.getD 1 0) ≥ 0 from h6), if_pos ⟨trivial, h6⟩]; rfl
      · rw [decide_eq_false (show ¬ rowIdx t ((t.f_Rows.getD i d_api_Row).f_To.getD 1 0) ≥ 0 from h6), if_neg (fun h => h6 h.2), cond_false, hd]
        cases deepF t 8 (i : Int) <;> rfl
  · have e3 : (bif (((t.f_Rows.getD i d_api_Row).f_To.length : Int) != 1) then
          bif (((t.f_Rows.getD i d_api_Row).f_To.length : Int) != 2) then some true
          else if 0 ≤ (0 : Int) ∧ (0 : Int) < ((t.f_Rows.getD i d_api_Row).f_To.length : Int) then some (decide ((t.f_Rows.getD i d_api_Row).f_To.getD 0 0 ≥ (t.f_Rows.getD i d_api_Row).f_From)) else none
        else if 0 ≤ (0 : Int) ∧ (0 : Int) < ((t.f_Rows.getD i d_api_Row).f_To.length : Int) then some (decide ((t.f_Rows.getD i d_api_Row).f_To.getD 0 0 ≥ (t.f_Rows.getD i d_api_Row).f_From)) else none) = some true := by
      rw [show (((t.f_Rows.getD i d_api_Row).f_To.length : Int) != 1) = true by rw [bne_iff_ne]; omega, show (((t.f_Rows.getD i d_api_Row).f_To.length : Int) != 2) = true by rw [bne_iff_ne]; omega]
      rfl
    rw [e3, if_pos (.inl ⟨by omega, by omega⟩)]
    rfl
theorem row_to {t : T_api_Norm} {i : Nat} (h : rowF t i = 0) : ((t.f_Rows.getD i d_api_Row).f_To.length = 1 ∨ (t.f_Rows.getD i d_api_Row).f_To.length = 2) ∧ (t.f_Rows.getD i d_api_Row).f_To.getD 0 0 < (t.f_Rows.getD i d_api_Row).f_From := by
  unfold rowF at h
  split at h
  · cases h
  · split at h
    · cases h
    · split at h
      · cases h
      · omega
/-- Is there a rune of Hangul from a on to b? -/
def hangIn (a b : Int) : Bool := decide (a ≤ b) && ((decide (a ≤ 55203) && decide (b ≥ 44032)) || ((decide (a ≤ 4370) && decide (b ≥ 4352)) || ((decide (a ≤ 4469) && decide (b ≥ 4449)) || (decide (a ≤ 4546) && decide (b ≥ 4520)))))
theorem hangIn_step (a b : Int) (h : a ≤ b) : hangIn a b = (hangB a || hangIn (a + 1) b) := by
  rw [Bool.eq_iff_iff]
  simp only [hangIn, hangB, Bool.and_eq_true, Bool.or_eq_true, decide_eq_true_eq]
  omega
def clsF (t : T_api_Norm) (i : Nat) : Option (Int × Int) :=
  if (t.f_Classes.getD i d_api_Range).f_Value < 1 ∨ (t.f_Classes.getD i d_api_Range).f_Value > 254 ∨ hangIn (t.f_Classes.getD i d_api_Range).f_Lo (t.f_Classes.getD i d_api_Range).f_Hi = true then some (i, 17) else none
theorem cls_loop (t : T_api_Norm) (i : Nat) (hi : i < t.f_Classes.length) (hh : (t.f_Classes.getD i d_api_Range).f_Hi ≤ 1114111) : ∀ (k : Nat) (r : Int), 0 ≤ r → (t.f_Classes.getD i d_api_Range).f_Hi + 1 - r ≤ k → iter (m_eponymref04_Check_L52 t (i : Int)) r = some (if hangIn r (t.f_Classes.getD i d_api_Range).f_Hi = true then .inr ((i : Int), 17) else .inl ())
  | 0, r, h0, h => by
    have e : hangIn r (t.f_Classes.getD i d_api_Range).f_Hi = false := by simp only [hangIn]; rw [decide_eq_false (by omega)]; rfl
    rw [e]
    refine iter_done ?_
    unfold m_eponymref04_Check_L52
    rw [if_pos ⟨by omega, by omega⟩, Int.toNat_natCast, decide_eq_false (by omega)]
    rfl
  | k + 1, r, h0, h => by
    by_cases hr : r ≤ (t.f_Classes.getD i d_api_Range).f_Hi
    · have ih := cls_loop t i hi hh k (r + 1) (by omega) (by omega)
      have hb : m_eponymref04_Check_L52 t (i : Int) r = if hangB r = true then some (.done (.inr ((i : Int), 17))) else some (.next (r + 1)) := by
        unfold m_eponymref04_Check_L52
        rw [if_pos ⟨by omega, by omega⟩, Int.toNat_natCast, decide_eq_true (by omega), hang_eq, w32 (by omega) (by omega)]
        simp only [bind_some', cond_true]
        cases hangB r <;> rfl
      rw [hangIn_step _ _ hr]
      cases hg : hangB r with
      | true => rw [hg] at hb; exact iter_done hb
      | false => rw [hg] at hb; rw [iter_next hb, ih]; rfl
    · have e : hangIn r (t.f_Classes.getD i d_api_Range).f_Hi = false := by simp only [hangIn]; rw [decide_eq_false (by omega)]; rfl
      rw [e]
      refine iter_done ?_
      unfold m_eponymref04_Check_L52
      rw [if_pos ⟨by omega, by omega⟩, Int.toNat_natCast, decide_eq_false (by omega)]
      rfl
def exF (t : T_api_Norm) (i : Nat) : Option (Int × Int) :=
  if rightB (t.f_Excluded.getD i 0) = false then some (i, 4) else if 0 < i ∧ t.f_Excluded.getD i 0 ≤ t.f_Excluded.getD (i - 1) 0 then some (i, 6) else none
def exclB (t : T_api_Norm) (r : Int) : Bool := t.f_Excluded.any fun x => x == r
theorem excl_eq (t : T_api_Norm) (r : Int) (hn : t.f_Excluded.length ≤ 2000) : m_eponymref04_excluded t r = some (exclB t r) := by
  unfold m_eponymref04_excluded
  rw [iter_scan t.f_Excluded.length (fun i => if (t.f_Excluded.getD i 0 == r) = true then some true else none) (fun i hi _ => ?_) (fun _ => ?_)]
  · have := any_scan' t.f_Excluded 0 (fun x => x == r)
    unfold exclB
    rw [← this]
    cases firstSome (fun i => if (t.f_Excluded.getD i 0 == r) = true then some true else none) t.f_Excluded.length 0 with
    | none => rfl
    | some v => cases v <;> rfl
  · unfold m_eponymref04_excluded_L5
    rw [decide_eq_true (by omega), cond_true, if_pos ⟨by omega, by omega⟩, Int.toNat_natCast]
    cases h : (t.f_Excluded.getD i 0 == r) with
    | true => rfl
    | false => rw [cond_false, up (by omega)]; rfl
  · unfold m_eponymref04_excluded_L5
    rw [decide_eq_false (by omega)]; rfl
def clsR (t : T_api_Norm) (r : Int) : Int := (fnd t.f_Classes r).1
theorem class_eq (t : T_api_Norm) (r : Int) (hn : t.f_Classes.length ≤ 2000) : m_eponymref04_Class t r = some (clsR t r) := by
  unfold m_eponymref04_Class clsR
  rw [find_eq _ _ (by omega)]; rfl
/-- Does row i compose? -/
def compB (t : T_api_Norm) (i : Nat) : Bool := decide ((t.f_Rows.getD i d_api_Row).f_To.length = 2) && !exclB t (t.f_Rows.getD i d_api_Row).f_From && clsR t (t.f_Rows.getD i d_api_Row).f_From == 0 && clsR t ((t.f_Rows.getD i d_api_Row).f_To.getD 0 0) == 0
theorem comp_eq (t : T_api_Norm) (i : Nat) (hi : i < t.f_Rows.length) (hn : t.f_Rows.length ≤ 2000) (he : t.f_Excluded.length ≤ 2000) (hc : t.f_Classes.length ≤ 2000) : m_eponymref04_Composes t (i : Int) = some (compB t i) := by
  unfold m_eponymref04_Composes compB
  rw [decide_eq_false (by omega), cond_false, decide_eq_false (by omega), cond_false, if_pos ⟨by omega, by omega⟩, bind_some']
  unfold m_eponymref04_Composes_K2
  simp only [Int.toNat_natCast]
  by_cases h2 : (t.f_Rows.getD i d_api_Row).f_To.length = 2
  · rw [h2, show ((((2 : Nat) : Int)) != 2) = false by decide, cond_false, if_pos ⟨by omega, by omega⟩, excl_eq t _ he]
    simp only [bind_some', class_eq t _ hc]
    rcases Bool.eq_false_or_eq_true (exclB t (t.f_Rows.getD i d_api_Row).f_From) with h3 | h3
    · simp only [h3, Bool.not_true, cond_false, decide_true, Bool.and_false, Bool.false_and]
    · rcases Bool.eq_false_or_eq_true (clsR t (t.f_Rows.getD i d_api_Row).f_From == 0) with h4 | h4
      · simp only [h3, h4, Bool.not_false, cond_true, bind_some', class_eq t _ hc, decide_true, Bool.true_and]
        rw [if_pos ⟨by omega, by omega⟩, if_pos ⟨by omega, by omega⟩, if_pos ⟨by omega, by omega⟩]
      · simp only [h3, h4, Bool.not_false, cond_true, cond_false, bind_some', class_eq t _ hc, decide_true, Bool.true_and, Bool.false_and]
        rw [if_pos ⟨by omega, by omega⟩]
  · rw [show (((t.f_Rows.getD i d_api_Row).f_To.length : Int) != 2) = true by rw [bne_iff_ne]; omega, decide_eq_false h2]
    rfl
theorem comp_two {t : T_api_Norm} {i : Nat} (h : compB t i = true) : (t.f_Rows.getD i d_api_Row).f_To.length = 2 := by
  simp only [compB, Bool.and_eq_true, decide_eq_true_eq] at h
  exact h.1.1.1
/-- Do rows i and k compose of the same? -/
def twB (t : T_api_Norm) (i k : Nat) : Bool := compB t i && (compB t k && ((t.f_Rows.getD i d_api_Row).f_To.getD 0 0 == (t.f_Rows.getD k d_api_Row).f_To.getD 0 0 && (t.f_Rows.getD i d_api_Row).f_To.getD 1 0 == (t.f_Rows.getD k d_api_Row).f_To.getD 1 0))
def twF (t : T_api_Norm) (i : Nat) : Option (Int × Int) := firstSome (fun k => if twB t i k = true then some ((i : Int), (7 : Int)) else none) i 0
theorem tw_loop (t : T_api_Norm) (i : Nat) (hi : i < t.f_Rows.length) (hn : t.f_Rows.length ≤ 2000) (he : t.f_Excluded.length ≤ 2000) (hc : t.f_Classes.length ≤ 2000) : iter (m_eponymref04_Check_L20 t (i : Int)) 0 = some (scanX (twF t i)) := by
  refine iter_scan i (fun k => if twB t i k = true then some ((i : Int), (7 : Int)) else none) (fun k hk _ => ?_) (fun _ => ?_)
  · unfold m_eponymref04_Check_L20
    rw [decide_eq_true (by omega), cond_true, comp_eq t i hi hn he hc, comp_eq t k (by omega) hn he hc]
    simp only [bind_some', Int.toNat_natCast]
    have key : (bif compB t i then
          bif compB t k then
            if 0 ≤ (i : Int) ∧ (i : Int) < (t.f_Rows.length : Int) then
              if 0 ≤ (0 : Int) ∧ (0 : Int) < ((t.f_Rows.getD i d_api_Row).f_To.length : Int) then
                if 0 ≤ (k : Int) ∧ (k : Int) < (t.f_Rows.length : Int) then
                  if 0 ≤ (0 : Int) ∧ (0 : Int) < ((t.f_Rows.getD k d_api_Row).f_To.length : Int) then
                    bif ((t.f_Rows.getD i d_api_Row).f_To.getD 0 0 == (t.f_Rows.getD k d_api_Row).f_To.getD 0 0) then
                      if 0 ≤ (i : Int) ∧ (i : Int) < (t.f_Rows.length : Int) then
                        if 0 ≤ (1 : Int) ∧ (1 : Int) < ((t.f_Rows.getD i d_api_Row).f_To.length : Int) then
                          if 0 ≤ (k : Int) ∧ (k : Int) < (t.f_Rows.length : Int) then
                            if 0 ≤ (1 : Int) ∧ (1 : Int) < ((t.f_Rows.getD k d_api_Row).f_To.length : Int) then
                              some ((t.f_Rows.getD i d_api_Row).f_To.getD 1 0 == (t.f_Rows.getD k d_api_Row).f_To.getD 1 0)
                            else none
                          else none
                        else none
                      else none
                    else some false
                  else none
                else none
              else none
            else none
          else some false
        else some false) = some (twB t i k) := by
      rcases Bool.eq_false_or_eq_true (compB t i) with h1 | h1
      · rcases Bool.eq_false_or_eq_true (compB t k) with h2 | h2
        · have l1 := comp_two h1
          have l2 := comp_two h2
          have q1 : 0 ≤ (i : Int) ∧ (i : Int) < (t.f_Rows.length : Int) := by omega
          have q2 : 0 ≤ (k : Int) ∧ (k : Int) < (t.f_Rows.length : Int) := by omega
          have q3 : 0 ≤ (0 : Int) ∧ (0 : Int) < ((t.f_Rows.getD i d_api_Row).f_To.length : Int) := by omega
          have q4 : 0 ≤ (0 : Int) ∧ (0 : Int) < ((t.f_Rows.getD k d_api_Row).f_To.length : Int) := by omega
          have q5 : 0 ≤ (1 : Int) ∧ (1 : Int) < ((t.f_Rows.getD i d_api_Row).f_To.length : Int) := by omega
          have q6 : 0 ≤ (1 : Int) ∧ (1 : Int) < ((t.f_Rows.getD k d_api_Row).f_To.length : Int) := by omega
          rw [if_pos q1, if_pos q3, if_pos q2, if_pos q4, if_pos q1, if_pos q5, if_pos q2, if_pos q6]
          rcases Bool.eq_false_or_eq_true ((t.f_Rows.getD i d_api_Row).f_To.getD 0 0 == (t.f_Rows.getD k d_api_Row).f_To.getD 0 0) with h3 | h3 <;> simp only [twB, h1, h2, h3, cond_true, cond_false, Bool.true_and, Bool.false_and]
        · simp only [twB, h1, h2, cond_true, cond_false, Bool.true_and, Bool.false_and]
      · simp only [twB, h1, cond_false, Bool.false_and]
    rw [key]
    simp only [bind_some', m_eponymref04_Check_K23, up (show k < 9223372036854775807 by omega)]
    cases twB t i k <;> rfl
  · unfold m_eponymref04_Check_L20
    rw [decide_eq_false (by omega)]; rfl
def chk04 (t : T_api_Norm) : Int × Int :=
  if 2000 < t.f_Rows.length ∨ 2000 < t.f_Excluded.length then (0, 18)
  else match firstSome (fun i => if rowF t i ≠ 0 then some ((i : Int), rowF t i) else none) t.f_Rows.length 0 with
    | some v => v
    | none =>
      if (chkR t.f_Classes).2 ≠ 0 then chkR t.f_Classes
      else match firstSome (clsF t) t.f_Classes.length 0 with
        | some v => v
        | none => match firstSome (exF t) t.f_Excluded.length 0 with
          | some v => v
          | none => (firstSome (twF t) t.f_Rows.length 0).getD (0, 0)
theorem check04_eq (t : T_api_Norm) (hs : ∀ x ∈ t.f_Rows, x.f_To.length ≤ 4) : m_eponymref04_Check t = some (chk04 t) := by
  unfold m_eponymref04_Check chk04
  by_cases h1 : 2000 < t.f_Rows.length
  · rw [decide_eq_true (by omega), if_pos (.inl h1)]; rfl
  by_cases h2 : 2000 < t.f_Excluded.length
  · rw [decide_eq_false (by omega), decide_eq_true (by omega), if_pos (.inr h2)]; rfl
  rw [decide_eq_false (by omega), decide_eq_false (by omega), if_neg (by omega)]
  simp only [cond_false, bind_some']
  unfold m_eponymref04_Check_K2
  rw [cond_false, iter_scan t.f_Rows.length (fun i => if rowF t i ≠ 0 then some ((i : Int), rowF t i) else none) (fun i hi hp => ?_) (fun _ => ?_)]
  · cases hf : firstSome (fun i => if rowF t i ≠ 0 then some ((i : Int), rowF t i) else none) t.f_Rows.length 0 with
    | some v => rfl
    | none =>
      simp only [bind_some', scanX]
      unfold m_eponymref04_Check_K4
      rw [check03_eq, bind_some']
      by_cases h3 : (chkR t.f_Classes).2 = 0
      · rw [show ((chkR t.f_Classes).2 != 0) = false by rw [h3]; rfl, cond_false, if_neg (fun h => h h3)]
        obtain ⟨c1, c2, c3⟩ := chk_right h3
        rw [iter_scan t.f_Classes.length (clsF t) (fun i hi _ => ?_) (fun _ => ?_)]
        · cases hf2 : firstSome (clsF t) t.f_Classes.length 0 with
          | some v => rfl
          | none =>
            simp only [bind_some', scanX]
            unfold m_eponymref04_Check_K7
            rw [iter_scan t.f_Excluded.length (exF t) (fun i hi _ => ?_) (fun _ => ?_)]
            · cases hf3 : firstSome (exF t) t.f_Excluded.length 0 with
              | some v => rfl
              | none =>
                simp only [bind_some', scanX]
                unfold m_eponymref04_Check_K9
                rw [iter_scan t.f_Rows.length (twF t) (fun i hi _ => ?_) (fun _ => ?_)]
                · cases firstSome (twF t) t.f_Rows.length 0 <;> rfl
                · unfold m_eponymref04_Check_L14
                  rw [decide_eq_true (by omega), cond_true, tw_loop t i hi (by omega) (by omega) c1]
                  cases twF t i with
                  | none => simp only [bind_some', scanX, up (show i < 9223372036854775807 by omega)]
                  | some v => rfl
                · unfold m_eponymref04_Check_L14
                  rw [decide_eq_false (by omega)]; rfl
            · unfold m_eponymref04_Check_L34 exF
              rw [decide_eq_true (by omega), cond_true, if_pos ⟨by omega, by omega⟩, Int.toNat_natCast, right_eq, bind_some']
              rcases Bool.eq_false_or_eq_true (rightB (t.f_Excluded.getD i 0)) with h4 | h4
              · simp only [h4, Bool.not_true, cond_false, Bool.true_eq_false, if_false]
                by_cases h0 : 0 < i
                · rw [decide_eq_true (show (i : Int) > 0 by omega), cond_true, if_pos ⟨by omega, by omega⟩, down h0 (by omega), if_pos ⟨by omega, by omega⟩, bind_some', Int.toNat_natCast]
                  by_cases h5 : t.f_Excluded.getD i 0 ≤ t.f_Excluded.getD (i - 1) 0
                  · rw [if_pos ⟨h0, h5⟩, decide_eq_true h5]; rfl
                  · rw [if_neg (fun h => h5 h.2), decide_eq_false h5]
                    simp only [m_eponymref04_Check_K38, cond_false, up (show i < 9223372036854775807 by omega)]
                · rw [decide_eq_false (show ¬ (i : Int) > 0 by omega), cond_false, bind_some', if_neg (fun h => h0 h.1)]
                  simp only [m_eponymref04_Check_K38, cond_false, up (show i < 9223372036854775807 by omega)]
              · simp only [h4, Bool.not_false, cond_true, if_true]
            · unfold m_eponymref04_Check_L34
              rw [decide_eq_false (by omega)]; rfl
        · have hm := c3 _ (getD_mem (d := d_api_Range) hi)
          simp only [mayB, Bool.and_eq_true, decide_eq_true_eq] at hm
          unfold m_eponymref04_Check_L44 clsF
          rw [decide_eq_true (by omega), cond_true, if_pos ⟨by omega, by omega⟩, if_pos ⟨by omega, by omega⟩, Int.toNat_natCast]
          have e : (bif decide ((t.f_Classes.getD i d_api_Range).f_Value < 1) then some true else some (decide ((t.f_Classes.getD i d_api_Range).f_Value > 254))) = some (decide ((t.f_Classes.getD i d_api_Range).f_Value < 1) || decide ((t.f_Classes.getD i d_api_Range).f_Value > 254)) := by
            cases decide ((t.f_Classes.getD i d_api_Range).f_Value < 1) <;> rfl
          rw [e, bind_some']
          unfold m_eponymref04_Check_K49
          rw [if_pos ⟨by omega, by omega⟩, Int.toNat_natCast, cls_loop t i hi (by omega) 1114112 _ (by omega) (by omega)]
          by_cases g1 : (t.f_Classes.getD i d_api_Range).f_Value < 1
          · simp only [g1, true_or, if_true, decide_true, Bool.true_or, cond_true]; rfl
          by_cases g2 : (t.f_Classes.getD i d_api_Range).f_Value > 254
          · simp only [g1, g2, true_or, false_or, or_true, if_true, decide_true, decide_false, Bool.or_true, Bool.false_or, cond_true]; rfl
          rw [decide_eq_false g1, decide_eq_false g2]
          simp only [g1, g2, false_or, Bool.or_false, cond_false]
          cases hangIn (t.f_Classes.getD i d_api_Range).f_Lo (t.f_Classes.getD i d_api_Range).f_Hi with
          | true => rfl
          | false => simp only [Bool.false_eq_true, if_false, bind_some', up (show i < 9223372036854775807 by omega)]
        · unfold m_eponymref04_Check_L44
          rw [decide_eq_false (by omega)]; rfl
      · rw [show ((chkR t.f_Classes).2 != 0) = true from bne_iff_ne.2 h3, if_pos h3]; rfl
  · have hto : ∀ j, j < i → 0 < (t.f_Rows.getD j d_api_Row).f_To.length := fun j hj => by
      have := hp j hj
      split at this
      · cases this
      · rename_i h0
        have := row_to (Decidable.not_not.1 h0)
        omega
    unfold m_eponymref04_Check_L63
    rw [decide_eq_true (by omega), cond_true, row_eq t i (by omega) hi (hs _ (getD_mem hi)) hto, bind_some']
    by_cases h0 : rowF t i = 0
    · rw [show (rowF t i != 0) = false by rw [h0]; rfl, cond_false, up (by omega), if_neg (fun h => h h0)]
    · rw [show (rowF t i != 0) = true from bne_iff_ne.2 h0, if_pos h0]; rfl
  · unfold m_eponymref04_Check_L63
    rw [decide_eq_false (by omega)]; rfl
/-- A right norm. -/
structure Right04 (t : T_api_Norm) : Prop where
  rows : t.f_Rows.length ≤ 2000
  exc : t.f_Excluded.length ≤ 2000
  row : ∀ i, i < t.f_Rows.length → rowF t i = 0
  cls : (chkR t.f_Classes).2 = 0
  clsV : ∀ i, i < t.f_Classes.length → clsF t i = none
  exV : ∀ i, i < t.f_Excluded.length → exF t i = none
  two : ∀ i, i < t.f_Rows.length → twF t i = none
theorem chk04_right {t : T_api_Norm} (h : (chk04 t).2 = 0) : Right04 t := by
  unfold chk04 at h
  split at h
  · cases h
  · rename_i h0
    split at h
    · rename_i v hv
      obtain ⟨j, _, _, hj, _⟩ := firstSome_some hv
      split at hj
      · rename_i hne; cases hj; exact absurd h hne
      · cases hj
    · rename_i hrow
      split at h
      · rename_i hne; exact absurd h hne
      · rename_i hcls
        split at h
        · rename_i v hv
          obtain ⟨j, _, _, hj, _⟩ := firstSome_some hv
          unfold clsF at hj
          split at hj
          · cases hj; cases h
          · cases hj
        · rename_i hc
          split at h
          · rename_i v hv
            obtain ⟨j, _, _, hj, _⟩ := firstSome_some hv
            unfold exF at hj
            split at hj
            · cases hj; cases h
            · split at hj
              · cases hj; cases h
              · cases hj
          · rename_i hx
            have htw : firstSome (twF t) t.f_Rows.length 0 = none := by
              cases hv : firstSome (twF t) t.f_Rows.length 0 with
              | none => rfl
              | some v =>
                obtain ⟨j, _, _, hj, _⟩ := firstSome_some hv
                unfold twF at hj
                obtain ⟨k, _, _, hk, _⟩ := firstSome_some hj
                rw [hv] at h
                split at hk
                · cases hk; cases h
                · cases hk
            refine ⟨by omega, by omega, fun i hi => ?_, Decidable.not_not.1 hcls, fun i hi => firstSome_none.1 hc i (Nat.zero_le _) (by omega), fun i hi => firstSome_none.1 hx i (Nat.zero_le _) (by omega), fun i hi => firstSome_none.1 htw i (Nat.zero_le _) (by omega)⟩
            have := firstSome_none.1 hrow i (Nat.zero_le _) (by omega)
            split at this
            · cases this
            · rename_i h1; exact Decidable.not_not.1 h1
end Go.Proofs.Ytjhgaacecfmadaa
