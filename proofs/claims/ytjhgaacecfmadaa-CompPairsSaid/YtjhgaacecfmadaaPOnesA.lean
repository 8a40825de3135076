/- The law of a rune's parts. No condition. -/
import Derived.Test.YtjhgaacecfmadaaPLaw4A
namespace Go.Proofs.Ytjhgaacecfmadaa
open Go Go.SE
set_option linter.unusedVariables false
set_option linter.unusedSimpArgs false
theorem syl_one (n : Int) (h0 : 0 ≤ n) (h1 : n < 11172) (t : T_api_Norm) : m_decomp_One t (44032 + n) = some (if n % 28 > 0 then [4352 + n / 588, 4449 + n / 28 % 21, 4519 + n % 28] else [4352 + n / 588, 4449 + n / 28 % 21]) := by
  unfold m_decomp_One
  have hc : hangC (44032 + n) = 4 := by
    unfold hangC
    rw [if_neg (by omega), if_neg (by omega), if_neg (by omega), if_pos (by omega)]
  have e0 : IntKind.wrap .i64 ((IntKind.wrap .i64 (44032 + n)) - 44032) = n := by
    rw [w64 (x := 44032 + n) (by omega) (by omega), w64 (by omega) (by omega)]; omega
  rw [dhang_eq, bind_some', hc]
  simp only [beq_self_eq_true, cond_true, e0]
  rw [Int.tmod_eq_emod_of_nonneg h0, Int.tdiv_eq_ediv_of_nonneg h0, Int.tdiv_eq_ediv_of_nonneg h0, w64 (x := n / 588) (by omega) (by omega), w64 (x := n / 28) (by omega) (by omega), Int.tmod_eq_emod_of_nonneg (a := n / 28) (by omega)]
  rw [w64 (x := 4352 + n / 588) (by omega) (by omega), w32 (x := 4352 + n / 588) (by omega) (by omega), w64 (x := 4449 + n / 28 % 21) (by omega) (by omega), w32 (x := 4449 + n / 28 % 21) (by omega) (by omega), w64 (x := 4519 + n % 28) (by omega) (by omega), w32 (x := 4519 + n % 28) (by omega) (by omega)]
  by_cases h : n % 28 > 0
  · rw [if_pos h, decide_eq_true h]; rfl
  · rw [if_neg h, decide_eq_false h]; rfl
/-! ### A row turned round -/
theorem getD_set (l : List Int) (i k : Nat) (v : Int) (hi : i < l.length) : (l.set i v).getD k 0 = if k = i then v else l.getD k 0 := by
  by_cases h : k = i
  · subst h; simp [List.getD_eq_getElem?_getD, hi]
  · rw [if_neg h]; simp [List.getD_eq_getElem?_getD, List.getElem?_set, Ne.symm h]
theorem rev_loop (l : List Int) (hl : l.length ≤ 1000) : ∀ (d i : Nat) (s : List Int) (j : Int), (i : Int) + j = (l.length : Int) - 1 → j - i ≤ d → s.length = l.length → (∀ k, k < l.length → s.getD k 0 = if k < i ∨ j < (k : Int) then l.getD (l.length - 1 - k) 0 else l.getD k 0) →
    iter (m_slices_Reverse_rune_rune_own_L3) (s, (i : Int), j) = some l.reverse := by
  intro d
  induction d with
  | zero =>
    intro i s j hij hd hs hk
    refine iter_done ?_
    unfold m_slices_Reverse_rune_rune_own_L3
    simp only
    rw [decide_eq_false (by omega), cond_false]
    congr 2
    refine List.ext_getElem (by simp [hs]) fun k h1 h2 => ?_
    have := hk k (by omega)
    have e1 : s.getD k 0 = s[k] := by simp [List.getD_eq_getElem?_getD, h1]
    rw [e1] at this
    rw [this, List.getElem_reverse]
    have e2 : ∀ q, (hq : q < l.length) → l.getD q 0 = l[q] := fun q hq => by simp [List.getD_eq_getElem?_getD, hq]
    split
    · rw [e2 _ (by omega)]
    · rw [e2 _ (by omega)]
      congr 1
      omega
  | succ d ih =>
    intro i s j hij hd hs hk
    by_cases hlt : (i : Int) < j
    · obtain ⟨m, rfl⟩ : ∃ m : Nat, j = m := ⟨j.toNat, by omega⟩
      have step : m_slices_Reverse_rune_rune_own_L3 (s, (i : Int), (m : Int)) = some (.next ((s.set i (s.getD m 0)).set m (s.getD i 0), ((i + 1 : Nat) : Int), ((m - 1 : Nat) : Int))) := by
        unfold m_slices_Reverse_rune_rune_own_L3
        simp only [Int.toNat_natCast]
        rw [decide_eq_true hlt, cond_true, if_pos ⟨by omega, by omega⟩, if_pos ⟨by omega, by omega⟩, if_pos ⟨by omega, by omega⟩, if_pos ⟨by omega, by omega⟩, up (by omega), down (by omega) (by omega)]
      rw [iter_next step]
      refine ih (i + 1) _ _ (by omega) (by omega) (by simp [hs]) fun k hkl => ?_
      rw [getD_set _ _ _ _ (by simp; omega), getD_set _ _ _ _ (by omega)]
      have hi := hk i (by omega)
      have hm := hk m (by omega)
      have hkk := hk k hkl
      rw [if_neg (by omega)] at hi
      rw [if_neg (by omega)] at hm
      by_cases e1 : k = m
      · subst e1
        rw [if_pos rfl, if_pos (.inr (by omega)), hi]
        congr 1; omega
      · rw [if_neg e1]
        by_cases e2 : k = i
        · subst e2
          rw [if_pos rfl, if_pos (.inl (by omega)), hm]
          congr 1; omega
        · rw [if_neg e2, hkk]
          by_cases e3 : k < i ∨ (m : Int) < (k : Int)
          · rw [if_pos e3, if_pos (by omega)]
          · rw [if_neg e3, if_neg (by omega)]
    · exact ih i s j hij (by omega) hs hk
theorem rev_eq (l : List Int) (hl : l.length ≤ 1000) : m_slices_Reverse_rune_rune_own l = some l.reverse := by
  unfold m_slices_Reverse_rune_rune_own
  rw [w64 (by omega) (by omega), show (0 : Int) = ((0 : Nat) : Int) from rfl, rev_loop l hl l.length 0 l ((l.length : Int) - 1) (by omega) (by omega) rfl fun k hk => by rw [if_neg (by omega)]]
  rfl
/-! ### Chains -/
structure Sound (t : T_api_Norm) : Prop where
  len : t.f_Rows.length ≤ 2000
  row : ∀ i, i < t.f_Rows.length → rowE t i = 0
  deep : ∀ i, i < t.f_Rows.length → deepF t 8 (i : Int) = false
theorem Sound.of {t : T_api_Norm} (h : Right04 t) : Sound t where
  len := h.rows
  row i hi := by
    have := h.row i hi
    rw [rowF_rowE] at this
    by_cases h0 : rowE t i = 0
    · exact h0
    · rw [if_pos h0] at this; exact absurd this h0
  deep i hi := by
    have := h.row i hi
    rw [rowF_rowE] at this
    by_cases h0 : rowE t i = 0
    · rw [if_neg (fun h => h h0)] at this
      cases hd : deepF t 8 (i : Int) with
      | false => rfl
      | true =>
        have : deepB t i = true := by unfold deepB; rw [hd, Bool.or_true]
        simp_all
    · rw [if_pos h0] at this; exact absurd this h0
theorem Sound.rising {t : T_api_Norm} (h : Sound t) : risingR t := by
  have := lead_rising (Nat.le_refl t.f_Rows.length) h.row
  have e : (lead t t.f_Rows.length).f_Rows = t.f_Rows := by simp [lead]
  intro i j hij hj
  have q := this i j hij (by rw [e]; exact hj)
  rwa [e] at q
theorem Sound.ahead {t : T_api_Norm} (h : Sound t) {k : Nat} (hk : k < t.f_Rows.length) : rowIdx t ((t.f_Rows.getD k d_api_Row).f_To.getD 0 0) = aheadF t k := by
  have := lead_ahead (Nat.le_refl t.f_Rows.length) h.row hk
  have e : (lead t t.f_Rows.length).f_Rows = t.f_Rows := by simp [lead]
  unfold rowIdx at this ⊢
  rwa [e] at this
theorem rowIdx_lt (t : T_api_Norm) (r : Int) : rowIdx t r < t.f_Rows.length ∧ -1 ≤ rowIdx t r := by
  unfold rowIdx
  cases hf : firstSome (fun i => if (t.f_Rows.getD i d_api_Row).f_From = r then some (i : Int) else none) t.f_Rows.length 0 with
  | none => simp only [Option.getD_none]; omega
  | some v =>
    obtain ⟨j, _, h2, hj, _⟩ := firstSome_some hf
    split at hj
    · cases hj; simp only [Option.getD_some]; omega
    · cases hj
theorem to_noSyl {t : T_api_Norm} {k : Nat} (h : rowE t k = 0) : ¬ (44032 ≤ (t.f_Rows.getD k d_api_Row).f_To.getD 0 0 ∧ (t.f_Rows.getD k d_api_Row).f_To.getD 0 0 ≤ 55203) := by
  have hto := rowE_to h
  have hb := List.any_eq_false.1 hto.2.2.1 _ (getD_mem (d := (0 : Int)) (i := 0) (by omega))
  intro ⟨h1, h2⟩
  apply hb
  unfold badTo hangB
  rw [decide_eq_true (show (t.f_Rows.getD k d_api_Row).f_To.getD 0 0 ≥ 44032 from h1), decide_eq_true h2]
  simp
theorem chain_one {t : T_api_Norm} (h : Sound t) : ∀ (m : Nat) (r : Int), m ≤ 100 → ¬ (44032 ≤ r ∧ r ≤ 55203) → deepF t m (rowIdx t r) = false →
    ∃ (r' : Int) (B : List Int), B.length ≤ m ∧ (∀ fuel, m + 1 ≤ fuel → m_eponymref04_One_n t fuel r = some ([r'] ++ B.reverse)) ∧
      (∀ (n : Nat) (back : List Int), n + m ≤ 9 → back.length + m ≤ 1000 → iter (m_decomp_One_L7 t) (r, back, (n : Int)) = some (r', back ++ B)) := by
  -- where the chain ends
  have stop : ∀ (m : Nat) (r : Int), ¬ (44032 ≤ r ∧ r ≤ 55203) → rowIdx t r < 0 →
      ∃ (r' : Int) (B : List Int), B.length ≤ m ∧ (∀ fuel, m + 1 ≤ fuel → m_eponymref04_One_n t fuel r = some ([r'] ++ B.reverse)) ∧
        (∀ (n : Nat) (back : List Int), n + m ≤ 9 → back.length + m ≤ 1000 → iter (m_decomp_One_L7 t) (r, back, (n : Int)) = some (r', back ++ B)) := fun m r hs hneg => by
    refine ⟨r, [], by simp, fun fuel hf => ?_, fun n back hn _ => ?_⟩
    · obtain ⟨f, rfl⟩ : ∃ f, fuel = f + 1 := ⟨fuel - 1, by omega⟩
      rw [m_eponymref04_One_n, if_neg hs, rowIdx_eq t r h.len, bind_some', if_pos hneg]
      rfl
    · rw [List.append_nil]
      refine iter_done ?_
      unfold m_decomp_One_L7 m_decomp_One_K11
      simp only
      by_cases h9 : (n : Int) ≤ 8
      · rw [decide_eq_true h9, cond_true, dfind_eq t r h.len h.rising, bind_some', decide_eq_true hneg]; rfl
      · rw [decide_eq_false h9]; rfl
  intro m
  induction m with
  | zero =>
    intro r hm hs hd
    refine stop 0 r hs ?_
    simpa [deepF] using hd
  | succ m ih =>
    intro r hm hs hd
    by_cases hneg : rowIdx t r < 0
    · exact stop (m + 1) r hs hneg
    · obtain ⟨j, hj⟩ : ∃ j : Nat, rowIdx t r = j := ⟨(rowIdx t r).toNat, by omega⟩
      have hjl : j < t.f_Rows.length := by have := (rowIdx_lt t r).1; omega
      have hto := rowE_to (h.row j hjl)
      rw [hj, deepF, if_neg (by omega), Int.toNat_natCast, ← h.ahead hjl] at hd
      obtain ⟨r', B1, hB, hR, hP⟩ := ih _ (by omega) (to_noSyl (h.row j hjl)) hd
      by_cases h2 : (t.f_Rows.getD j d_api_Row).f_To.length = 2
      · refine ⟨r', (t.f_Rows.getD j d_api_Row).f_To.getD 1 0 :: B1, by simp; omega, fun fuel hf => ?_, fun n back hn hb => ?_⟩
        · obtain ⟨f, rfl⟩ : ∃ f, fuel = f + 1 := ⟨fuel - 1, by omega⟩
          rw [m_eponymref04_One_n, if_neg hs, rowIdx_eq t r h.len, bind_some', hj, if_neg (by omega), if_pos (by omega), Int.toNat_natCast, if_pos (by omega), hR f (by omega), bind_some', if_pos h2, if_pos (by simp; omega)]
          simp
        · have step : m_decomp_One_L7 t (r, back, (n : Int)) = some (.next ((t.f_Rows.getD j d_api_Row).f_To.getD 0 0, back ++ [(t.f_Rows.getD j d_api_Row).f_To.getD 1 0], ((n + 1 : Nat) : Int))) := by
            unfold m_decomp_One_L7 m_decomp_One_K11
            simp only
            rw [decide_eq_true (by omega), cond_true, dfind_eq t r h.len h.rising, bind_some', hj, decide_eq_false (by omega), cond_false, if_pos ⟨by omega, by omega⟩, bind_some', if_pos ⟨by omega, by omega⟩]
            simp only [Int.toNat_natCast]
            rw [beq_false_of_ne (show (((t.f_Rows.getD j d_api_Row).f_To.length : Nat) : Int) ≠ 0 by omega), cond_false, show (((t.f_Rows.getD j d_api_Row).f_To.length : Nat) : Int) == 2 from by rw [h2]; rfl, cond_true, if_pos ⟨by omega, by omega⟩, if_pos (by omega), if_pos ⟨by omega, by omega⟩, up (by omega)]
          rw [iter_next step, hP (n + 1) _ (by omega) (by simp; omega)]
          simp
      · refine ⟨r', B1, by omega, fun fuel hf => ?_, fun n back hn hb => ?_⟩
        · obtain ⟨f, rfl⟩ : ∃ f, fuel = f + 1 := ⟨fuel - 1, by omega⟩
          rw [m_eponymref04_One_n, if_neg hs, rowIdx_eq t r h.len, bind_some', hj, if_neg (by omega), if_pos (by omega), Int.toNat_natCast, if_pos (by omega), hR f (by omega), bind_some', if_neg h2]
        · have step : m_decomp_One_L7 t (r, back, (n : Int)) = some (.next ((t.f_Rows.getD j d_api_Row).f_To.getD 0 0, back, ((n + 1 : Nat) : Int))) := by
            unfold m_decomp_One_L7 m_decomp_One_K11
            simp only
            rw [decide_eq_true (by omega), cond_true, dfind_eq t r h.len h.rising, bind_some', hj, decide_eq_false (by omega), cond_false, if_pos ⟨by omega, by omega⟩, bind_some', if_pos ⟨by omega, by omega⟩]
            simp only [Int.toNat_natCast]
            rw [beq_false_of_ne (show (((t.f_Rows.getD j d_api_Row).f_To.length : Nat) : Int) ≠ 0 by omega), cond_false, beq_false_of_ne (show (((t.f_Rows.getD j d_api_Row).f_To.length : Nat) : Int) ≠ 2 by omega), cond_false, if_pos ⟨by omega, by omega⟩, up (by omega)]
          rw [iter_next step, hP (n + 1) _ (by omega) (by omega)]
theorem ones_eq {t : T_api_Norm} (h : Sound t) (r : Int) : ∃ l : List Int, l.length ≤ 100 ∧ m_decomp_One t r = some l ∧ m_eponymref04_One t r = some l := by
  unfold m_eponymref04_One
  by_cases hs : 44032 ≤ r ∧ r ≤ 55203
  · have h1 := syl_one (r - 44032) (by omega) (by omega) t
    rw [show 44032 + (r - 44032) = r by omega] at h1
    refine ⟨_, ?_, h1, ?_⟩
    · split <;> simp
    · rw [show (50 : Nat) = 49 + 1 from rfl, m_eponymref04_One_n, if_pos hs]
  · have hd : deepF t 8 (rowIdx t r) = false := by
      by_cases hneg : rowIdx t r < 0
      · rw [deepF, if_pos hneg]
      · obtain ⟨j, hj⟩ : ∃ j : Nat, rowIdx t r = j := ⟨(rowIdx t r).toNat, by omega⟩
        rw [hj]
        exact h.deep j (by have := (rowIdx_lt t r).1; omega)
    obtain ⟨r', B, hB, hR, hP⟩ := chain_one h 8 r (by omega) hs hd
    have hp := hP 0 [] (by omega) (by simp)
    refine ⟨[r'] ++ B.reverse, by simp; omega, ?_, hR 50 (by omega)⟩
    unfold m_decomp_One
    have hc : (hangC r == 4) = false := by
      refine beq_false_of_ne ?_
      unfold hangC
      repeat' split
      all_goals omega
    rw [dhang_eq, bind_some', hc, cond_false, show (0 : Int) = ((0 : Nat) : Int) from rfl, hp, bind_some']
    unfold m_decomp_One_K3
    simp only [List.nil_append]
    rw [rev_eq B (by omega), bind_some', if_pos (by simp), if_pos (by omega)]
theorem comp_out (t : T_api_Norm) (i : Int) (h : i < 0 ∨ i ≥ t.f_Rows.length) : m_decomp_Composes t i = some false ∧ m_eponymref04_Composes t i = some false := by
  unfold m_decomp_Composes m_eponymref04_Composes
  by_cases h0 : i < 0
  · rw [decide_eq_true h0]; exact ⟨rfl, rfl⟩
  · rw [decide_eq_false h0, decide_eq_true (show i ≥ ((t.f_Rows.length : Nat) : Int) by omega)]; exact ⟨rfl, rfl⟩
end Go.Proofs.Ytjhgaacecfmadaa
