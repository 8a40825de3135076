/- Merged of texts of ours: POnesA, PSort, PSortM, PSortR, PSortS, PSortT, PSortU, PSortV, POrder, PAll5, PPairA, PPair, PPut, PPutRA, PPutR. No condition. -/
import Derived.Test.YtjhgaacecfmadaaGreatDoorPLaw4A
namespace Go.Proofs.YtjhgaacecfmadaaGreatDoor
open Go Go.SE
set_option linter.unusedVariables false
set_option linter.unusedSimpArgs false
theorem syl_one (n : Int) (h0 : 0 ≤ n) (h1 : n < 11172) (t : T_api_Norm) : m_decomp_One t (44032 + n) = some (if n % 28 > 0 then [4352 + n / 588, 4449 + n / 28 % 21, 4519 + n % 28] else [4352 + n / 588, 4449 + n / 28 % 21]) := by
  unfold m_decomp_One
  have hc : hangC (44032 + n) = 4 := by
    unfold hangC
    rw [if_neg (by omega), if_neg (by omega), if_neg (by omega), if_pos (by omega)]
  have e0 : IntKind.wrap .i64 ((IntKind.wrap .i64 (44032 + n)) - 44032) = n := by
    rw [w64 (x := 44032 + n) (by omega) (by omega), w64 (by omega) (by omega)]; omega
  rw [dhang_eq, bind_some', hc]
  simp only [beq_self_eq_true, cond_true, e0]
  rw [Int.tmod_eq_emod_of_nonneg h0, Int.tdiv_eq_ediv_of_nonneg h0, Int.tdiv_eq_ediv_of_nonneg h0, w64 (x := n / 588) (by omega) (by omega), w64 (x := n / 28) (by omega) (by omega), Int.tmod_eq_emod_of_nonneg (a := n / 28) (by omega)]
  rw [w64 (x := 4352 + n / 588) (by omega) (by omega), w32 (x := 4352 + n / 588) (by omega) (by omega), w64 (x := 4449 + n / 28 % 21) (by omega) (by omega), w32 (x := 4449 + n / 28 % 21) (by omega) (by omega), w64 (x := 4519 + n % 28) (by omega) (by omega), w32 (x := 4519 + n % 28) (by omega) (by omega)]
  by_cases h : n % 28 > 0
  · rw [if_pos h, decide_eq_true h]; rfl
  · rw [if_neg h, decide_eq_false h]; rfl
/-! ### A row turned round -/
theorem getD_set (l : List Int) (i k : Nat) (v : Int) (hi : i < l.length) : (l.set i v).getD k 0 = if k = i then v else l.getD k 0 := by
  by_cases h : k = i
  · subst h; simp [List.getD_eq_getElem?_getD, hi]
  · rw [if_neg h]; simp [List.getD_eq_getElem?_getD, List.getElem?_set, Ne.symm h]
theorem rev_loop (l : List Int) (hl : l.length ≤ 1000) : ∀ (d i : Nat) (s : List Int) (j : Int), (i : Int) + j = (l.length : Int) - 1 → j - i ≤ d → s.length = l.length → (∀ k, k < l.length → s.getD k 0 = if k < i ∨ j < (k : Int) then l.getD (l.length - 1 - k) 0 else l.getD k 0) →
    iter (m_slices_Reverse_rune_rune_own_L3) (s, (i : Int), j) = some l.reverse := by
  intro d
  induction d with
  | zero =>
    intro i s j hij hd hs hk
    refine iter_done ?_
    unfold m_slices_Reverse_rune_rune_own_L3
    simp only
    rw [decide_eq_false (by omega), cond_false]
    congr 2
    refine List.ext_getElem (by simp [hs]) fun k h1 h2 => ?_
    have := hk k (by omega)
    have e1 : s.getD k 0 = s[k] := by simp [List.getD_eq_getElem?_getD, h1]
    rw [e1] at this
    rw [this, List.getElem_reverse]
    have e2 : ∀ q, (hq : q < l.length) → l.getD q 0 = l[q] := fun q hq => by simp [List.getD_eq_getElem?_getD, hq]
    split
    · rw [e2 _ (by omega)]
    · rw [e2 _ (by omega)]
      congr 1
      omega
  | succ d ih =>
    intro i s j hij hd hs hk
    by_cases hlt : (i : Int) < j
    · obtain ⟨m, rfl⟩ : ∃ m : Nat, j = m := ⟨j.toNat, by omega⟩
      have step : m_slices_Reverse_rune_rune_own_L3 (s, (i : Int), (m : Int)) = some (.next ((s.set i (s.getD m 0)).set m (s.getD i 0), ((i + 1 : Nat) : Int), ((m - 1 : Nat) : Int))) := by
        unfold m_slices_Reverse_rune_rune_own_L3
        simp only [Int.toNat_natCast]
        rw [decide_eq_true hlt, cond_true, if_pos ⟨by omega, by omega⟩, if_pos ⟨by omega, by omega⟩, if_pos ⟨by omega, by omega⟩, if_pos ⟨by omega, by omega⟩, up (by omega), down (by omega) (by omega)]
      rw [iter_next step]
      refine ih (i + 1) _ _ (by omega) (by omega) (by simp [hs]) fun k hkl => ?_
      rw [getD_set _ _ _ _ (by simp; omega), getD_set _ _ _ _ (by omega)]
      have hi := hk i (by omega)
      have hm := hk m (by omega)
      have hkk := hk k hkl
      rw [if_neg (by omega)] at hi
      rw [if_neg (by omega)] at hm
      by_cases e1 : k = m
      · subst e1
        rw [if_pos rfl, if_pos (.inr (by omega)), hi]
        congr 1; omega
      · rw [if_neg e1]
        by_cases e2 : k = i
        · subst e2
          rw [if_pos rfl, if_pos (.inl (by omega)), hm]
          congr 1; omega
        · rw [if_neg e2, hkk]
          by_cases e3 : k < i ∨ (m : Int) < (k : Int)
          · rw [if_pos e3, if_pos (by omega)]
          · rw [if_neg e3, if_neg (by omega)]
    · exact ih i s j hij (by omega) hs hk
theorem rev_eq (l : List Int) (hl : l.length ≤ 1000) : m_slices_Reverse_rune_rune_own l = some l.reverse := by
  unfold m_slices_Reverse_rune_rune_own
  rw [w64 (by omega) (by omega), show (0 : Int) = ((0 : Nat) : Int) from rfl, rev_loop l hl l.length 0 l ((l.length : Int) - 1) (by omega) (by omega) rfl fun k hk => by rw [if_neg (by omega)]]
  rfl
/-! ### Chains -/
structure Sound (t : T_api_Norm) : Prop where
  len : t.f_Rows.length ≤ 2000
  row : ∀ i, i < t.f_Rows.length → rowE t i = 0
  deep : ∀ i, i < t.f_Rows.length → deepF t 8 (i : Int) = false
theorem Sound.of {t : T_api_Norm} (h : Right04 t) : Sound t where
  len := h.rows
  row i hi := by
    have := h.row i hi
    rw [rowF_rowE] at this
    by_cases h0 : rowE t i = 0
    · exact h0
    · rw [if_pos h0] at this; exact absurd this h0
  deep i hi := by
    have := h.row i hi
    rw [rowF_rowE] at this
    by_cases h0 : rowE t i = 0
    · rw [if_neg (fun h => h h0)] at this
      cases hd : deepF t 8 (i : Int) with
      | false => rfl
      | true =>
        have : deepB t i = true := by unfold deepB; rw [hd, Bool.or_true]
        simp_all
    · rw [if_pos h0] at this; exact absurd this h0
theorem Sound.rising {t : T_api_Norm} (h : Sound t) : risingR t := by
  have := lead_rising (Nat.le_refl t.f_Rows.length) h.row
  have e : (lead t t.f_Rows.length).f_Rows = t.f_Rows := by simp [lead]
  intro i j hij hj
  have q := this i j hij (by rw [e]; exact hj)
  rwa [e] at q
theorem Sound.ahead {t : T_api_Norm} (h : Sound t) {k : Nat} (hk : k < t.f_Rows.length) : rowIdx t ((t.f_Rows.getD k d_api_Row).f_To.getD 0 0) = aheadF t k := by
  have := lead_ahead (Nat.le_refl t.f_Rows.length) h.row hk
  have e : (lead t t.f_Rows.length).f_Rows = t.f_Rows := by simp [lead]
  unfold rowIdx at this ⊢
  rwa [e] at this
theorem rowIdx_lt (t : T_api_Norm) (r : Int) : rowIdx t r < t.f_Rows.length ∧ -1 ≤ rowIdx t r := by
  unfold rowIdx
  cases hf : firstSome (fun i => if (t.f_Rows.getD i d_api_Row).f_From = r then some (i : Int) else none) t.f_Rows.length 0 with
  | none => simp only [Option.getD_none]; omega
  | some v =>
    obtain ⟨j, _, h2, hj, _⟩ := firstSome_some hf
    split at hj
    · cases hj; simp only [Option.getD_some]; omega
    · cases hj
theorem to_noSyl {t : T_api_Norm} {k : Nat} (h : rowE t k = 0) : ¬ (44032 ≤ (t.f_Rows.getD k d_api_Row).f_To.getD 0 0 ∧ (t.f_Rows.getD k d_api_Row).f_To.getD 0 0 ≤ 55203) := by
  have hto := rowE_to h
  have hb := List.any_eq_false.1 hto.2.2.1 _ (getD_mem (d := (0 : Int)) (i := 0) (by omega))
  intro ⟨h1, h2⟩
  apply hb
  unfold badTo hangB
  rw [decide_eq_true (show (t.f_Rows.getD k d_api_Row).f_To.getD 0 0 ≥ 44032 from h1), decide_eq_true h2]
  simp
theorem chain_one {t : T_api_Norm} (h : Sound t) : ∀ (m : Nat) (r : Int), m ≤ 100 → ¬ (44032 ≤ r ∧ r ≤ 55203) → deepF t m (rowIdx t r) = false →
    ∃ (r' : Int) (B : List Int), B.length ≤ m ∧ (∀ fuel, m + 1 ≤ fuel → m_eponymref04_One_n t fuel r = some ([r'] ++ B.reverse)) ∧
      (∀ (n : Nat) (back : List Int), n + m ≤ 9 → back.length + m ≤ 1000 → iter (m_decomp_One_L7 t) (r, back, (n : Int)) = some (r', back ++ B)) := by
  -- where the chain ends
  have stop : ∀ (m : Nat) (r : Int), ¬ (44032 ≤ r ∧ r ≤ 55203) → rowIdx t r < 0 →
      ∃ (r' : Int) (B : List Int), B.length ≤ m ∧ (∀ fuel, m + 1 ≤ fuel → m_eponymref04_One_n t fuel r = some ([r'] ++ B.reverse)) ∧
        (∀ (n : Nat) (back : List Int), n + m ≤ 9 → back.length + m ≤ 1000 → iter (m_decomp_One_L7 t) (r, back, (n : Int)) = some (r', back ++ B)) := fun m r hs hneg => by
    refine ⟨r, [], by simp, fun fuel hf => ?_, fun n back hn _ => ?_⟩
    · obtain ⟨f, rfl⟩ : ∃ f, fuel = f + 1 := ⟨fuel - 1, by omega⟩
      rw [m_eponymref04_One_n, if_neg hs, rowIdx_eq t r h.len, bind_some', if_pos hneg]
      rfl
    · rw [List.append_nil]
      refine iter_done ?_
      unfold m_decomp_One_L7 m_decomp_One_K11
      simp only
      by_cases h9 : (n : Int) ≤ 8
      · rw [decide_eq_true h9, cond_true, dfind_eq t r h.len h.rising, bind_some', decide_eq_true hneg]; rfl
      · rw [decide_eq_false h9]; rfl
  intro m
  induction m with
  | zero =>
    intro r hm hs hd
    refine stop 0 r hs ?_
    simpa [deepF] using hd
  | succ m ih =>
    intro r hm hs hd
    by_cases hneg : rowIdx t r < 0
    · exact stop (m + 1) r hs hneg
    · obtain ⟨j, hj⟩ : ∃ j : Nat, rowIdx t r = j := ⟨(rowIdx t r).toNat, by omega⟩
      have hjl : j < t.f_Rows.length := by have := (rowIdx_lt t r).1; omega
      have hto := rowE_to (h.row j hjl)
      rw [hj, deepF, if_neg (by omega), Int.toNat_natCast, ← h.ahead hjl] at hd
      obtain ⟨r', B1, hB, hR, hP⟩ := ih _ (by omega) (to_noSyl (h.row j hjl)) hd
      by_cases h2 : (t.f_Rows.getD j d_api_Row).f_To.length = 2
      · refine ⟨r', (t.f_Rows.getD j d_api_Row).f_To.getD 1 0 :: B1, by simp; omega, fun fuel hf => ?_, fun n back hn hb => ?_⟩
        · obtain ⟨f, rfl⟩ : ∃ f, fuel = f + 1 := ⟨fuel - 1, by omega⟩
          rw [m_eponymref04_One_n, if_neg hs, rowIdx_eq t r h.len, bind_some', hj, if_neg (by omega), if_pos (by omega), Int.toNat_natCast, if_pos (by omega), hR f (by omega), bind_some', if_pos h2, if_pos (by simp; omega)]
          simp
        · have step : m_decomp_One_L7 t (r, back, (n : Int)) = some (.next ((t.f_Rows.getD j d_api_Row).f_To.getD 0 0, back ++ [(t.f_Rows.getD j d_api_Row).f_To.getD 1 0], ((n + 1 : Nat) : Int))) := by
            unfold m_decomp_One_L7 m_decomp_One_K11
            simp only
            rw [decide_eq_true (by omega), cond_true, dfind_eq t r h.len h.rising, bind_some', hj, decide_eq_false (by omega), cond_false, if_pos ⟨by omega, by omega⟩, bind_some', if_pos ⟨by omega, by omega⟩]
            simp only [Int.toNat_natCast]
            rw [beq_false_of_ne (show (((t.f_Rows.getD j d_api_Row).f_To.length : Nat) : Int) ≠ 0 by omega), cond_false, show (((t.f_Rows.getD j d_api_Row).f_To.length : Nat) : Int) == 2 from by rw [h2]; rfl, cond_true, if_pos ⟨by omega, by omega⟩, if_pos (by omega), if_pos ⟨by omega, by omega⟩, up (by omega)]
          rw [iter_next step, hP (n + 1) _ (by omega) (by simp; omega)]
          simp
      · refine ⟨r', B1, by omega, fun fuel hf => ?_, fun n back hn hb => ?_⟩
        · obtain ⟨f, rfl⟩ : ∃ f, fuel = f + 1 := ⟨fuel - 1, by omega⟩
          rw [m_eponymref04_One_n, if_neg hs, rowIdx_eq t r h.len, bind_some', hj, if_neg (by omega), if_pos (by omega), Int.toNat_natCast, if_pos (by omega), hR f (by omega), bind_some', if_neg h2]
        · have step : m_decomp_One_L7 t (r, back, (n : Int)) = some (.next ((t.f_Rows.getD j d_api_Row).f_To.getD 0 0, back, ((n + 1 : Nat) : Int))) := by
            unfold m_decomp_One_L7 m_decomp_One_K11
            simp only
            rw [decide_eq_true (by omega), cond_true, dfind_eq t r h.len h.rising, bind_some', hj, decide_eq_false (by omega), cond_false, if_pos ⟨by omega, by omega⟩, bind_some', if_pos ⟨by omega, by omega⟩]
            simp only [Int.toNat_natCast]
            rw [beq_false_of_ne (show (((t.f_Rows.getD j d_api_Row).f_To.length : Nat) : Int) ≠ 0 by omega), cond_false, beq_false_of_ne (show (((t.f_Rows.getD j d_api_Row).f_To.length : Nat) : Int) ≠ 2 by omega), cond_false, if_pos ⟨by omega, by omega⟩, up (by omega)]
          rw [iter_next step, hP (n + 1) _ (by omega) (by omega)]
theorem ones_eq {t : T_api_Norm} (h : Sound t) (r : Int) : ∃ l : List Int, l.length ≤ 100 ∧ m_decomp_One t r = some l ∧ m_eponymref04_One t r = some l := by
  unfold m_eponymref04_One
  by_cases hs : 44032 ≤ r ∧ r ≤ 55203
  · have h1 := syl_one (r - 44032) (by omega) (by omega) t
    rw [show 44032 + (r - 44032) = r by omega] at h1
    refine ⟨_, ?_, h1, ?_⟩
    · split <;> simp
    · rw [show (50 : Nat) = 49 + 1 from rfl, m_eponymref04_One_n, if_pos hs]
  · have hd : deepF t 8 (rowIdx t r) = false := by
      by_cases hneg : rowIdx t r < 0
      · rw [deepF, if_pos hneg]
      · obtain ⟨j, hj⟩ : ∃ j : Nat, rowIdx t r = j := ⟨(rowIdx t r).toNat, by omega⟩
        rw [hj]
        exact h.deep j (by have := (rowIdx_lt t r).1; omega)
    obtain ⟨r', B, hB, hR, hP⟩ := chain_one h 8 r (by omega) hs hd
    have hp := hP 0 [] (by omega) (by simp)
    refine ⟨[r'] ++ B.reverse, by simp; omega, ?_, hR 50 (by omega)⟩
    unfold m_decomp_One
    have hc : (hangC r == 4) = false := by
      refine beq_false_of_ne ?_
      unfold hangC
      repeat' split
      all_goals omega
    rw [dhang_eq, bind_some', hc, cond_false, show (0 : Int) = ((0 : Nat) : Int) from rfl, hp, bind_some']
    unfold m_decomp_One_K3
    simp only [List.nil_append]
    rw [rev_eq B (by omega), bind_some', if_pos (by simp), if_pos (by omega)]
theorem comp_out (t : T_api_Norm) (i : Int) (h : i < 0 ∨ i ≥ t.f_Rows.length) : m_decomp_Composes t i = some false ∧ m_eponymref04_Composes t i = some false := by
  unfold m_decomp_Composes m_eponymref04_Composes
  by_cases h0 : i < 0
  · rw [decide_eq_true h0]; exact ⟨rfl, rfl⟩
  · rw [decide_eq_false h0, decide_eq_true (show i ≥ ((t.f_Rows.length : Nat) : Int) by omega)]; exact ⟨rfl, rfl⟩
section
variable (c : Int → Int)
/-- Put behind whatever isn't greater. -/
def insS (r : Int) : List Int → List Int
  | [] => [r]
  | x :: l => if c x ≤ c r then x :: insS r l else r :: x :: l
def ssort (l : List Int) : List Int := l.foldl (fun acc r => insS c r acc) []
def Srt (l : List Int) : Prop := l.Pairwise fun x y => c x ≤ c y
/-- What has one key, in order. -/
def keyF (v : Int) (l : List Int) : List Int := l.filter fun x => c x == v
end
variable {c : Int → Int}
theorem keyF_append (v : Int) (l m : List Int) : keyF c v (l ++ m) = keyF c v l ++ keyF c v m := by simp [keyF]
theorem keyF_cons (v x : Int) (l : List Int) : keyF c v (x :: l) = if c x = v then x :: keyF c v l else keyF c v l := by
  simp [keyF, List.filter_cons]
theorem keyF_nil (v : Int) : keyF c v [] = [] := rfl
theorem keyF_none {v : Int} {l : List Int} (h : ∀ x ∈ l, c x ≠ v) : keyF c v l = [] := by
  simp only [keyF, List.filter_eq_nil_iff, beq_iff_eq]
  exact h
theorem mem_insS {r y : Int} : ∀ {l : List Int}, y ∈ insS c r l ↔ y = r ∨ y ∈ l
  | [] => by simp [insS]
  | x :: l => by
    unfold insS
    split
    · simp only [List.mem_cons, mem_insS (l := l)]
      constructor <;> rintro (h | h | h) <;> simp [h]
    · simp
theorem insS_len (r : Int) : ∀ (l : List Int), (insS c r l).length = l.length + 1
  | [] => rfl
  | x :: l => by
    unfold insS
    split <;> simp [insS_len r l]
theorem insS_srt {r : Int} : ∀ {l : List Int}, Srt c l → Srt c (insS c r l)
  | [], _ => by simp [insS, Srt]
  | x :: l, h => by
    unfold Srt at h
    rw [List.pairwise_cons] at h
    unfold insS Srt
    split
    · rename_i hle
      rw [List.pairwise_cons]
      refine ⟨fun y hy => ?_, insS_srt (show Srt c l from h.2)⟩
      rcases mem_insS.1 hy with rfl | hy
      · exact hle
      · exact h.1 y hy
    · rename_i hgt
      rw [List.pairwise_cons, List.pairwise_cons]
      refine ⟨fun y hy => ?_, h⟩
      rcases List.mem_cons.1 hy with rfl | hy
      · omega
      · have := h.1 y hy; omega
theorem insS_key {r : Int} (v : Int) : ∀ {l : List Int}, Srt c l → keyF c v (insS c r l) = keyF c v l ++ keyF c v [r]
  | [], _ => by simp [insS, keyF_nil]
  | x :: l, h => by
    unfold Srt at h
    rw [List.pairwise_cons] at h
    unfold insS
    split
    · rename_i hle
      rw [keyF_cons, insS_key v (show Srt c l from h.2), keyF_cons (l := l)]
      split <;> rfl
    · rename_i hgt
      rw [keyF_cons]
      by_cases hv : c r = v
      · have : keyF c v (x :: l) = [] := keyF_none fun y hy => by
          rcases List.mem_cons.1 hy with rfl | hy
          · omega
          · have := h.1 y hy; omega
        rw [if_pos hv, this, keyF_cons, if_pos hv]
        rfl
      · rw [if_neg hv, keyF_cons (l := []), if_neg hv, keyF_nil, List.append_nil]
theorem insS_ge {r : Int} : ∀ {l : List Int}, (∀ x ∈ l, c x ≤ c r) → insS c r l = l ++ [r]
  | [], _ => rfl
  | x :: l, h => by
    unfold insS
    rw [if_pos (h x (by simp)), insS_ge fun y hy => h y (by simp [hy])]
    rfl
theorem insS_lt {r x : Int} (hx : c r < c x) : ∀ (l : List Int), insS c r (l ++ [x]) = insS c r l ++ [x]
  | [] => by simp [insS]; omega
  | y :: l => by
    simp only [List.cons_append]
    unfold insS
    split
    · rw [insS_lt hx l]; rfl
    · rfl
theorem fold_sort : ∀ (l acc : List Int), Srt c acc → Srt c (l.foldl (fun acc r => insS c r acc) acc) ∧ (∀ v, keyF c v (l.foldl (fun acc r => insS c r acc) acc) = keyF c v acc ++ keyF c v l) ∧ (l.foldl (fun acc r => insS c r acc) acc).length = acc.length + l.length
  | [], acc, h => ⟨h, fun v => by simp [keyF_nil], rfl⟩
  | x :: l, acc, h => by
    obtain ⟨h1, h2, h3⟩ := fold_sort l (insS c x acc) (insS_srt h)
    refine ⟨h1, fun v => ?_, ?_⟩
    · simp only [List.foldl_cons]
      rw [h2, insS_key v h, List.append_assoc, ← keyF_append]
      rfl
    · simp only [List.foldl_cons]
      rw [h3, insS_len, List.length_cons]
      omega
theorem ssort_srt (l : List Int) : Srt c (ssort c l) := (fold_sort l [] List.Pairwise.nil).1
theorem ssort_key (l : List Int) (v : Int) : keyF c v (ssort c l) = keyF c v l := by
  have := (fold_sort (c := c) l [] List.Pairwise.nil).2.1 v
  simpa [keyF_nil, ssort] using this
theorem ssort_len (l : List Int) : (ssort c l).length = l.length := by
  have := (fold_sort (c := c) l [] List.Pairwise.nil).2.2
  simpa [ssort] using this
theorem ssort_snoc (l : List Int) (r : Int) : ssort c (l ++ [r]) = insS c r (ssort c l) := by simp [ssort]
/-- There is one. -/
theorem sort_uniq : ∀ (l l' : List Int), Srt c l → Srt c l' → (∀ v, keyF c v l = keyF c v l') → l = l'
  | [], l', _, _, h => by
    cases l' with
    | nil => rfl
    | cons y l' =>
      have := h (c y)
      rw [keyF_cons, if_pos rfl, keyF_nil] at this
      cases this
  | x :: l, l', hs, hs', h => by
    unfold Srt at hs
    rw [List.pairwise_cons] at hs
    cases l' with
    | nil =>
      have := h (c x)
      rw [keyF_cons, if_pos rfl, keyF_nil] at this
      cases this
    | cons y l' =>
      unfold Srt at hs'
      rw [List.pairwise_cons] at hs'
      have le1 : c y ≤ c x := by
        have hm : x ∈ keyF c (c x) (y :: l') := by rw [← h (c x), keyF_cons, if_pos rfl]; simp
        have hm' := (List.mem_filter.1 hm).1
        rcases List.mem_cons.1 hm' with rfl | hm'
        · exact Int.le_refl _
        · exact hs'.1 _ hm'
      have le2 : c x ≤ c y := by
        have hm : y ∈ keyF c (c y) (x :: l) := by rw [h (c y), keyF_cons, if_pos rfl]; simp
        have hm' := (List.mem_filter.1 hm).1
        rcases List.mem_cons.1 hm' with rfl | hm'
        · exact Int.le_refl _
        · exact hs.1 _ hm'
      have he : c x = c y := by omega
      have h0 := h (c x)
      rw [keyF_cons, if_pos rfl, keyF_cons, if_pos he.symm] at h0
      obtain ⟨rfl, h1⟩ := List.cons.inj h0
      rw [sort_uniq l l' hs.2 hs'.2 fun v => ?_]
      have hv := h v
      rw [keyF_cons, keyF_cons] at hv
      by_cases hc : c x = v
      · rw [if_pos hc, if_pos hc] at hv; exact (List.cons.inj hv).2
      · rw [if_neg hc, if_neg hc] at hv; exact hv
theorem ssort_cong {l l' : List Int} (h : ∀ v, keyF c v l = keyF c v l') : ssort c l = ssort c l' :=
  sort_uniq _ _ (ssort_srt l) (ssort_srt l') fun v => by rw [ssort_key, ssort_key, h]
theorem ssort_eq {m l : List Int} (hs : Srt c m) (h : ∀ v, keyF c v m = keyF c v l) : m = ssort c l :=
  sort_uniq _ _ hs (ssort_srt l) fun v => by rw [ssort_key, h]
theorem ssort_of {l : List Int} (h : Srt c l) : ssort c l = l := (ssort_eq h fun _ => rfl).symm
theorem ssort_mem {l : List Int} {x : Int} : x ∈ ssort c l ↔ x ∈ l := by
  have : ∀ (l : List Int) (x : Int), x ∈ l ↔ x ∈ keyF c (c x) l := fun l x => by simp [keyF]
  rw [this, ssort_key, ← this]
theorem Srt.append {l m : List Int} (h1 : Srt c l) (h2 : Srt c m) (h : ∀ x ∈ l, ∀ y ∈ m, c x ≤ c y) : Srt c (l ++ m) := List.pairwise_append.2 ⟨h1, h2, h⟩
theorem Srt.left {l m : List Int} (h : Srt c (l ++ m)) : Srt c l := (List.pairwise_append.1 h).1
theorem Srt.right {l m : List Int} (h : Srt c (l ++ m)) : Srt c m := (List.pairwise_append.1 h).2.1
theorem Srt.cross {l m : List Int} (h : Srt c (l ++ m)) : ∀ x ∈ l, ∀ y ∈ m, c x ≤ c y := (List.pairwise_append.1 h).2.2
/-- What lies below stands ahead, with the same keys. -/
theorem key_swap {l m : List Int} (h : ∀ x ∈ l, ∀ y ∈ m, c x ≠ c y) (v : Int) : keyF c v l ++ keyF c v m = keyF c v m ++ keyF c v l := by
  by_cases hl : ∃ x ∈ l, c x = v
  · obtain ⟨x, hx, rfl⟩ := hl
    rw [keyF_none (l := m) fun y hy => (h x hx y hy).symm]
    simp
  · rw [keyF_none (l := l) fun x hx he => hl ⟨x, hx, he⟩]
    simp
/-- Two halves, each in order, of two rows in order. -/
theorem merge_halves {l1 l2 r1 r2 : List Int} (hl : Srt c (l1 ++ l2)) (hr : Srt c (r1 ++ r2)) (h1 : ∀ x ∈ l1, ∀ y ∈ r2, c x ≤ c y) (h2 : ∀ x ∈ r1, ∀ y ∈ l2, c x < c y) :
    ssort c (l1 ++ r1) ++ ssort c (l2 ++ r2) = ssort c ((l1 ++ l2) ++ (r1 ++ r2)) := by
  refine ssort_eq (Srt.append (ssort_srt _) (ssort_srt _) fun x hx y hy => ?_) fun v => ?_
  · rw [ssort_mem, List.mem_append] at hx hy
    rcases hx with hx | hx <;> rcases hy with hy | hy
    · exact hl.cross x hx y hy
    · exact h1 x hx y hy
    · have := h2 x hx y hy; omega
    · exact hr.cross x hx y hy
  · rw [keyF_append, ssort_key, ssort_key, keyF_append, keyF_append, keyF_append, keyF_append, keyF_append, List.append_assoc, List.append_assoc]
    congr 1
    rw [← List.append_assoc, ← List.append_assoc, key_swap (fun x hx y hy => by have := h2 x hx y hy; omega) v]
theorem ssort_both (l m : List Int) : ssort c (ssort c l ++ ssort c m) = ssort c (l ++ m) := ssort_cong fun v => by rw [keyF_append, keyF_append, ssort_key, ssort_key]
theorem getD_app (P L : List Int) (k : Nat) : (P ++ L).getD (P.length + k) 0 = L.getD k 0 := by
  simp only [List.getD_eq_getElem?_getD]
  rw [List.getElem?_append_right (by omega)]
  congr 2
  omega
theorem set_app (P L : List Int) (k : Nat) (v : Int) : (P ++ L).set (P.length + k) v = P ++ L.set k v := by
  rw [List.set_append_right _ _ (by omega)]
  congr 2
  omega
theorem at_eq {s P : List Int} {x : Int} {Q : List Int} {i : Nat} (hs : s = P ++ x :: Q) (hi : i = P.length) : s.getD i 0 = x := by
  subst hs; subst hi
  simp [List.getD_eq_getElem?_getD]
theorem swap_eq {s P Y Q : List Int} {x y : Int} {i j : Nat} (hs : s = P ++ x :: (Y ++ y :: Q)) (hi : i = P.length) (hj : j = P.length + (Y.length + 1)) :
    (s.set i (s.getD j 0)).set j (s.getD i 0) = P ++ y :: (Y ++ x :: Q) := by
  have h1 : s.getD i 0 = x := at_eq hs hi
  have h2 : s.getD j 0 = y := at_eq (P := P ++ x :: Y) (Q := Q) (by rw [hs]; simp) (by rw [hj]; simp)
  rw [h1, h2]
  subst hs; subst hi; subst hj
  have e1 := set_app P (x :: (Y ++ y :: Q)) 0 y
  rw [Nat.add_zero] at e1
  rw [e1, set_app]
  simp only [List.set_cons_zero, List.set_cons_succ]
  have e2 := set_app Y (y :: Q) 0 x
  rw [Nat.add_zero] at e2
  rw [e2]
  rfl
theorem swap_eq' {s P Y Q : List Int} {x y : Int} {i j : Nat} (hs : s = P ++ x :: (Y ++ y :: Q)) (hi : i = P.length) (hj : j = P.length + (Y.length + 1)) :
    (s.set j (s.getD i 0)).set i (s.getD j 0) = P ++ y :: (Y ++ x :: Q) := by
  rw [List.set_comm _ _ (by omega)]
  exact swap_eq hs hi hj
/-- The comparison tells by the key. -/
def KeyOf (t : T_api_Norm) (c : Int → Int) : Prop := ∀ a b, ∃ y, m_decomp_Order_1 a b t = some y ∧ (decide (y < 0) = decide (c a < c b))
theorem pos_toNat {i : Nat} : ((i : Int)).toNat = i := Int.toNat_natCast i
/-- One element is moved down to its place. -/
theorem ins_inner {t : T_api_Norm} {c : Int → Int} (hk : KeyOf t c) (o n a : Nat) (P Q : List Int) (hP : P.length = o + a) (hn : n < 1000000000000) :
    ∀ (k : Nat) (L : List Int) (r : Int) (R : List Int), L.length = k → Srt c L → a + k < n →
      iter (m_slices_insertionSortCmpFunc_rune_own_L9 o n (a : Int) t) (P ++ (L ++ r :: R), ((a + k : Nat) : Int)) = some (P ++ (insS c r L ++ R)) := by
  intro k
  induction k with
  | zero =>
    intro L r R hL hs hlt
    have : L = [] := List.eq_nil_of_length_eq_zero hL
    subst this
    rw [iter_step]
    unfold m_slices_insertionSortCmpFunc_rune_own_L9 m_slices_insertionSortCmpFunc_rune_own_K12
    simp [insS]
  | succ k ih =>
    intro L r R hL hs hlt
    obtain ⟨L', x, rfl⟩ : ∃ L' x, L = L' ++ [x] := by
      cases h : L.getLast? with
      | none => rw [List.getLast?_eq_none_iff] at h; subst h; simp at hL
      | some x => obtain ⟨L', rfl⟩ := List.getLast?_eq_some_iff.1 h; exact ⟨L', x, rfl⟩
    have hL' : L'.length = k := by simpa using hL
    have hd : IntKind.wrap .i64 (((a + (k + 1) : Nat) : Int) - 1) = ((a + k : Nat) : Int) := by
      rw [w64 (by omega) (by omega)]; omega
    have e1 : (P ++ (L' ++ [x] ++ r :: R)).getD (o + (a + (k + 1))) 0 = r := at_eq (P := P ++ (L' ++ [x])) (Q := R) (by simp) (by simp; omega)
    have e2 : (P ++ (L' ++ [x] ++ r :: R)).getD (o + (a + k)) 0 = x := at_eq (P := P ++ L') (Q := r :: R) (by simp) (by simp; omega)
    obtain ⟨y, hy, hlt2⟩ := hk r x
    have sw := swap_eq' (s := P ++ (L' ++ [x] ++ r :: R)) (P := P ++ L') (Y := []) (Q := R) (x := x) (y := r) (i := o + (a + k)) (j := o + (a + (k + 1))) (by simp) (by simp; omega) (by simp; omega)
    rw [e1, e2] at sw
    have c1 : decide (((a + (k + 1) : Nat) : Int) > (a : Int)) = true := decide_eq_true (by omega)
    have c2 : 0 ≤ ((a + (k + 1) : Nat) : Int) ∧ ((a + (k + 1) : Nat) : Int) < (n : Int) := by omega
    have c3 : 0 ≤ ((a + k : Nat) : Int) ∧ ((a + k : Nat) : Int) < (n : Int) := by omega
    have body : m_slices_insertionSortCmpFunc_rune_own_L9 o n (a : Int) t (P ++ (L' ++ [x] ++ r :: R), ((a + (k + 1) : Nat) : Int)) = some (if c r < c x then .next (P ++ (L' ++ r :: x :: R), ((a + k : Nat) : Int)) else .done (P ++ (L' ++ [x] ++ r :: R))) := by
      unfold m_slices_insertionSortCmpFunc_rune_own_L9 m_slices_insertionSortCmpFunc_rune_own_K12
      simp only [hd, pos_toNat, e1, e2, hy, bind_some', hlt2, c1, cond_true, if_pos c2, if_pos c3]
      by_cases hc : c r < c x
      · simp only [decide_eq_true hc, cond_true, sw, if_pos hc]
        simp
      · simp only [decide_eq_false hc, cond_false, if_neg hc]
    rw [iter_step, body]
    by_cases hc : c r < c x
    · simp only [if_pos hc]
      rw [ih L' r (x :: R) hL' hs.left (by omega), insS_lt hc]
      simp
    · simp only [if_neg hc]
      rw [insS_ge fun z hz => ?_]
      · simp
      · rcases List.mem_append.1 hz with hz | hz
        · have := hs.cross z hz x (by simp); omega
        · simp at hz; subst hz; omega
theorem ins_outer {t : T_api_Norm} {c : Int → Int} (hk : KeyOf t c) (o n a b : Nat) (P Q : List Int) (hP : P.length = o + a) (hn : n < 1000000000000) (hb : b ≤ n) :
    ∀ (R D : List Int), a + D.length + R.length = b → 0 < D.length ∨ R = [] →
      iter (m_slices_insertionSortCmpFunc_rune_own_L3 o n (a : Int) (b : Int) t) (P ++ (ssort c D ++ (R ++ Q)), ((a + D.length : Nat) : Int)) = some (P ++ (ssort c (D ++ R) ++ Q)) := by
  intro R
  induction R with
  | nil =>
    intro D hl h0
    rw [iter_step]
    unfold m_slices_insertionSortCmpFunc_rune_own_L3
    simp at hl
    simp only [decide_eq_false (show ¬ ((a + D.length : Nat) : Int) < (b : Int) by omega), cond_false]
    simp
  | cons r R ih =>
    intro D hl h0
    simp only [List.length_cons] at hl
    have inner := ins_inner hk o n a P Q hP hn D.length (ssort c D) r (R ++ Q) (ssort_len D) (ssort_srt D) (by omega)
    have body : m_slices_insertionSortCmpFunc_rune_own_L3 o n (a : Int) (b : Int) t (P ++ (ssort c D ++ (r :: R ++ Q)), ((a + D.length : Nat) : Int)) = some (.next (P ++ (insS c r (ssort c D) ++ (R ++ Q)), ((a + D.length + 1 : Nat) : Int))) := by
      unfold m_slices_insertionSortCmpFunc_rune_own_L3
      simp only [List.cons_append] at inner ⊢
      simp only [decide_eq_true (show ((a + D.length : Nat) : Int) < (b : Int) by omega), cond_true, inner, bind_some']
      rw [up (by omega)]
    rw [iter_step, body]
    simp only
    rw [← ssort_snoc]
    have := ih (D ++ [r]) (by simp; omega) (.inl (by simp))
    rw [show a + (D ++ [r]).length = a + D.length + 1 by simp; omega, List.append_assoc] at this
    exact this
theorem insertion_eq {t : T_api_Norm} {c : Int → Int} (hk : KeyOf t c) (o n a b : Nat) (P M Q : List Int) (hP : P.length = o + a) (hn : n < 1000000000000) (hb : b ≤ n) (hM : a + M.length = b) :
    m_slices_insertionSortCmpFunc_rune_own (P ++ (M ++ Q)) o n (a : Int) (b : Int) t = some (P ++ (ssort c M ++ Q)) := by
  unfold m_slices_insertionSortCmpFunc_rune_own
  rw [up (by omega)]
  cases M with
  | nil =>
    rw [iter_step]
    unfold m_slices_insertionSortCmpFunc_rune_own_L3
    simp at hM
    simp only [decide_eq_false (show ¬ ((a + 1 : Nat) : Int) < (b : Int) by omega), cond_false]
    simp [ssort]
  | cons x M =>
    have := ins_outer hk o n a b P Q hP hn hb M [x] (by simp at hM ⊢; omega) (.inl (by simp))
    have e : ssort c [x] = [x] := rfl
    rw [e] at this
    simp only [List.length_cons, List.length_nil, Nat.zero_add, List.cons_append, List.nil_append] at this ⊢
    rw [this]
    rfl
theorem swapR_loop (o n a b m : Nat) (P X Q : List Int) (hP : P.length = o + a) (hn : n < 1000000000000) (hb : b + m ≤ n) (hX : a + m + X.length = b) :
    ∀ (A2 B2 A1 B1 : List Int), A2.length = B2.length → A1.length = B1.length → A1.length + A2.length = m →
      iter (m_slices_swapRangeCmpFunc_rune_own_L3 o n (a : Int) (b : Int) (m : Int)) (P ++ (B1 ++ (A2 ++ (X ++ (A1 ++ (B2 ++ Q))))), (A1.length : Int)) = some (P ++ (B1 ++ (B2 ++ (X ++ (A1 ++ (A2 ++ Q)))))) := by
  intro A2
  induction A2 with
  | nil =>
    intro B2 A1 B1 h1 h2 h3
    have : B2 = [] := List.eq_nil_of_length_eq_zero (by simpa using h1.symm)
    subst this
    have body : m_slices_swapRangeCmpFunc_rune_own_L3 o n (a : Int) (b : Int) (m : Int) (P ++ (B1 ++ ([] ++ (X ++ (A1 ++ ([] ++ Q))))), (A1.length : Int)) = some (.done (P ++ (B1 ++ ([] ++ (X ++ (A1 ++ ([] ++ Q))))))) := by
      unfold m_slices_swapRangeCmpFunc_rune_own_L3
      simp only [decide_eq_false (show ¬ (A1.length : Int) < (m : Int) by simp at h3; omega), cond_false]
    rw [iter_step, body]
  | cons x A2 ih =>
    intro B2 A1 B1 h1 h2 h3
    cases B2 with
    | nil => simp at h1
    | cons y B2 =>
      simp only [List.length_cons] at h1 h3
      have ia : IntKind.wrap .i64 ((a : Int) + (A1.length : Int)) = ((a + A1.length : Nat) : Int) := by rw [w64 (by omega) (by omega)]; omega
      have ib : IntKind.wrap .i64 ((b : Int) + (A1.length : Int)) = ((b + A1.length : Nat) : Int) := by rw [w64 (by omega) (by omega)]; omega
      have sw := swap_eq (s := P ++ (B1 ++ (x :: A2 ++ (X ++ (A1 ++ (y :: B2 ++ Q)))))) (P := P ++ B1) (Y := A2 ++ (X ++ A1)) (Q := B2 ++ Q) (x := x) (y := y) (i := o + (a + A1.length)) (j := o + (b + A1.length)) (by simp) (by simp; omega) (by simp; omega)
      have body : m_slices_swapRangeCmpFunc_rune_own_L3 o n (a : Int) (b : Int) (m : Int) (P ++ (B1 ++ (x :: A2 ++ (X ++ (A1 ++ (y :: B2 ++ Q))))), (A1.length : Int)) = some (.next (P ++ (B1 ++ [y] ++ (A2 ++ (X ++ (A1 ++ [x] ++ (B2 ++ Q))))), ((A1 ++ [x]).length : Int))) := by
        unfold m_slices_swapRangeCmpFunc_rune_own_L3
        simp only [decide_eq_true (show (A1.length : Int) < (m : Int) by omega), cond_true, ia, ib, pos_toNat, sw, if_pos (show 0 ≤ ((b + A1.length : Nat) : Int) ∧ ((b + A1.length : Nat) : Int) < (n : Int) by omega), if_pos (show 0 ≤ ((a + A1.length : Nat) : Int) ∧ ((a + A1.length : Nat) : Int) < (n : Int) by omega)]
        rw [up (by omega)]
        simp
      rw [iter_step, body]
      simp only
      rw [ih B2 (A1 ++ [x]) (B1 ++ [y]) (by omega) (by simp; omega) (by simp; omega)]
      simp
theorem swapR_eq (t : T_api_Norm) (o n a b m : Nat) (P A X B Q : List Int) (hP : P.length = o + a) (hn : n < 1000000000000) (hb : b + m ≤ n) (hA : A.length = m) (hB : B.length = m) (hX : a + m + X.length = b) :
    m_slices_swapRangeCmpFunc_rune_own (P ++ (A ++ (X ++ (B ++ Q)))) o n (a : Int) (b : Int) (m : Int) t = some (P ++ (B ++ (X ++ (A ++ Q)))) := by
  unfold m_slices_swapRangeCmpFunc_rune_own
  have := swapR_loop o n a b m P X Q hP hn hb hX A B [] [] (by omega) rfl (by simpa using hA)
  simp only [List.nil_append, List.length_nil] at this
  rw [show ((0 : Nat) : Int) = 0 from rfl] at this
  rw [this]; rfl
/-- The loop: what is still to be rotated stands between what is in its place. -/
theorem rot_loop (t : T_api_Norm) (o n m : Nat) (hn : n < 1000000000000) :
    ∀ (k : Nat) (P A B Q : List Int), A.length + B.length ≤ k → 0 < A.length → 0 < B.length → P.length + A.length = o + m → A.length ≤ m → m + B.length ≤ n →
      ∃ (P' A' B' Q' : List Int), iter (m_slices_rotateCmpFunc_rune_own_L6 o n (m : Int) t) (P ++ (A ++ (B ++ Q)), (A.length : Int), (B.length : Int)) = some (P' ++ (A' ++ (B' ++ Q')), (A'.length : Int)) ∧
        A'.length = B'.length ∧ P'.length + A'.length = o + m ∧ A'.length ≤ m ∧ m + B'.length ≤ n ∧ P' ++ (B' ++ (A' ++ Q')) = P ++ (B ++ (A ++ Q)) := by
  intro k
  induction k with
  | zero => intro P A B Q h h1; omega
  | succ k ih =>
    intro P A B Q hk hA hB hP hm hb
    by_cases he : A.length = B.length
    · refine ⟨P, A, B, Q, ?_, he, hP, hm, hb, rfl⟩
      have body : m_slices_rotateCmpFunc_rune_own_L6 o n (m : Int) t (P ++ (A ++ (B ++ Q)), (A.length : Int), (B.length : Int)) = some (.done (P ++ (A ++ (B ++ Q)), (A.length : Int))) := by
        unfold m_slices_rotateCmpFunc_rune_own_L6
        have : ((A.length : Int) != (B.length : Int)) = false := by rw [he]; simp
        simp only [this, cond_false]
      rw [iter_step, body]
    · have hne : ((A.length : Int) != (B.length : Int)) = true := by simp; omega
      by_cases hlt : B.length < A.length
      · -- the first part is the longer one
        obtain ⟨A1, A2, rfl, h1⟩ : ∃ A1 A2, A = A1 ++ A2 ∧ A1.length = B.length := ⟨A.take B.length, A.drop B.length, (List.take_append_drop _ _).symm, by simp; omega⟩
        have hl : (A1 ++ A2).length = A1.length + A2.length := by simp
        have sw := swapR_eq t o n (m - (A1 ++ A2).length) m B.length P A1 A2 B Q (by omega) hn (by omega) h1 rfl (by omega)
        have w1 : IntKind.wrap .i64 ((m : Int) - ((A1 ++ A2).length : Int)) = ((m - (A1 ++ A2).length : Nat) : Int) := by rw [w64 (by omega) (by omega)]; omega
        have w2 : IntKind.wrap .i64 (((A1 ++ A2).length : Int) - (B.length : Int)) = (A2.length : Int) := by rw [w64 (by omega) (by omega)]; omega
        have body : m_slices_rotateCmpFunc_rune_own_L6 o n (m : Int) t (P ++ (A1 ++ A2 ++ (B ++ Q)), ((A1 ++ A2).length : Int), (B.length : Int)) = some (.next ((P ++ B) ++ (A2 ++ (A1 ++ Q)), (A2.length : Int), (A1.length : Int))) := by
          unfold m_slices_rotateCmpFunc_rune_own_L6
          simp only [hne, cond_true, decide_eq_true (show ((A1 ++ A2).length : Int) > (B.length : Int) by omega), w1, w2]
          have e : P ++ (A1 ++ A2 ++ (B ++ Q)) = P ++ (A1 ++ (A2 ++ (B ++ Q))) := by simp
          rw [e, sw, bind_some', if_pos (by simp; omega)]
          simp [h1]
        obtain ⟨P', A', B', Q', g1, g2, g3, g4, g5, g6⟩ := ih (P ++ B) A2 A1 Q (by omega) (by omega) (by omega) (by simp; omega) (by omega) (by omega)
        refine ⟨P', A', B', Q', ?_, g2, g3, g4, g5, by rw [g6]; simp⟩
        rw [iter_step, body]
        exact g1
      · obtain ⟨B1, B2, rfl, h1⟩ : ∃ B1 B2, B = B1 ++ B2 ∧ B2.length = A.length := ⟨B.take (B.length - A.length), B.drop (B.length - A.length), (List.take_append_drop _ _).symm, by simp; omega⟩
        have hl : (B1 ++ B2).length = B1.length + B2.length := by simp
        have sw := swapR_eq t o n (m - A.length) (m + (B1 ++ B2).length - A.length) A.length P A B1 B2 Q (by omega) hn (by omega) rfl h1 (by omega)
        have w1 : IntKind.wrap .i64 ((m : Int) - (A.length : Int)) = ((m - A.length : Nat) : Int) := by rw [w64 (by omega) (by omega)]; omega
        have w3 : IntKind.wrap .i64 (IntKind.wrap .i64 ((m : Int) + ((B1 ++ B2).length : Int)) - (A.length : Int)) = ((m + (B1 ++ B2).length - A.length : Nat) : Int) := by
          rw [w64 (x := (m : Int) + ((B1 ++ B2).length : Int)) (by omega) (by omega), w64 (by omega) (by omega)]; omega
        have w2 : IntKind.wrap .i64 (((B1 ++ B2).length : Int) - (A.length : Int)) = (B1.length : Int) := by rw [w64 (by omega) (by omega)]; omega
        have body : m_slices_rotateCmpFunc_rune_own_L6 o n (m : Int) t (P ++ (A ++ (B1 ++ B2 ++ Q)), (A.length : Int), ((B1 ++ B2).length : Int)) = some (.next (P ++ (B2 ++ (B1 ++ (A ++ Q))), (B2.length : Int), (B1.length : Int))) := by
          unfold m_slices_rotateCmpFunc_rune_own_L6
          simp only [hne, cond_true, decide_eq_false (show ¬ (A.length : Int) > ((B1 ++ B2).length : Int) by omega), cond_false, w1, w2, w3]
          have e : P ++ (A ++ (B1 ++ B2 ++ Q)) = P ++ (A ++ (B1 ++ (B2 ++ Q))) := by simp
          rw [e, sw, bind_some', if_pos (by simp; omega)]
          simp [h1]
        obtain ⟨P', A', B', Q', g1, g2, g3, g4, g5, g6⟩ := ih P B2 B1 (A ++ Q) (by omega) (by omega) (by omega) (by omega) (by omega) (by omega)
        refine ⟨P', A', B', Q', ?_, g2, g3, g4, g5, by rw [g6]; simp⟩
        rw [iter_step, body]
        exact g1
theorem rotate_eq (t : T_api_Norm) (o n a m b : Nat) (P A B Q : List Int) (hP : P.length = o + a) (hA : a + A.length = m) (hB : m + B.length = b) (h1 : a < m) (h2 : m < b) (hb : b ≤ n) (hn : n < 1000000000000) :
    m_slices_rotateCmpFunc_rune_own (P ++ (A ++ (B ++ Q))) o n (a : Int) (m : Int) (b : Int) t = some (P ++ (B ++ (A ++ Q))) := by
  obtain ⟨P', A', B', Q', g1, g2, g3, g4, g5, g6⟩ := rot_loop t o n m hn _ P A B Q (Nat.le_refl _) (by omega) (by omega) (by omega) (by omega) (by omega)
  unfold m_slices_rotateCmpFunc_rune_own
  rw [show IntKind.wrap .i64 ((m : Int) - (a : Int)) = (A.length : Int) by rw [w64 (by omega) (by omega)]; omega, show IntKind.wrap .i64 ((b : Int) - (m : Int)) = (B.length : Int) by rw [w64 (by omega) (by omega)]; omega, g1, bind_some']
  unfold m_slices_rotateCmpFunc_rune_own_K2
  simp only
  have sw := swapR_eq t o n (m - A'.length) m A'.length P' A' [] B' Q' (by omega) hn (by omega) rfl g2.symm (by simp; omega)
  simp only [List.nil_append] at sw
  rw [show IntKind.wrap .i64 ((m : Int) - (A'.length : Int)) = ((m - A'.length : Nat) : Int) by rw [w64 (by omega) (by omega)]; omega, sw, bind_some', if_pos (by simp; omega), g6]
theorem bsrch {body : Int × Int → Option (Stp (Int × Int) Int)} (p : Nat → Bool) (lo hi : Nat) (hlh : lo ≤ hi) (hend : ∀ i : Nat, body ((i : Int), (i : Int)) = some (.done (i : Int)))
    (hstep : ∀ i j : Nat, lo ≤ i → i < j → j ≤ hi → body ((i : Int), (j : Int)) = some (.next (if p ((i + j) / 2) = true then ((((i + j) / 2 + 1 : Nat) : Int), (j : Int)) else ((i : Int), (((i + j) / 2 : Nat) : Int))))) :
    ∃ y : Nat, iter body ((lo : Int), (hi : Int)) = some (y : Int) ∧ lo ≤ y ∧ y ≤ hi ∧ (y = lo ∨ p (y - 1) = true) ∧ (y = hi ∨ p y = false) := by
  have key : ∀ (k i j : Nat), lo ≤ i → i ≤ j → j ≤ hi → j - i ≤ k → (i = lo ∨ p (i - 1) = true) → (j = hi ∨ p j = false) →
      ∃ y : Nat, iter body ((i : Int), (j : Int)) = some (y : Int) ∧ lo ≤ y ∧ y ≤ hi ∧ (y = lo ∨ p (y - 1) = true) ∧ (y = hi ∨ p y = false) := by
    intro k
    induction k with
    | zero =>
      intro i j h1 h2 h3 h4 h5 h6
      obtain rfl : i = j := by omega
      exact ⟨i, by rw [iter_step, hend], h1, h3, h5, h6⟩
    | succ k ih =>
      intro i j h1 h2 h3 h4 h5 h6
      by_cases hij : i = j
      · subst hij
        exact ⟨i, by rw [iter_step, hend], h1, h3, h5, h6⟩
      · rw [iter_step, hstep i j h1 (by omega) h3]
        cases hp : p ((i + j) / 2) with
        | true =>
          simp only [if_pos]
          exact ih _ _ (by omega) (by omega) h3 (by omega) (.inr (by simpa using hp)) h6
        | false =>
          simp only [Bool.false_eq_true, if_false]
          exact ih _ _ h1 (by omega) (by omega) (by omega) h5 (.inr hp)
  exact key _ lo hi (Nat.le_refl _) hlh (Nat.le_refl _) (Nat.le_refl _) (.inl rfl) (.inl rfl)
theorem move_up (o n i : Nat) (hn : n < 1000000000000) (hi : i ≤ n) : ∀ (R P Q : List Int) (x : Int) (k : Nat), P.length = o + k → k + R.length + 1 = i →
    iter (m_slices_symMergeCmpFunc_rune_own_L46 o n (i : Int)) (P ++ x :: (R ++ Q), (k : Int)) = some (P ++ (R ++ x :: Q)) := by
  intro R
  induction R with
  | nil =>
    intro P Q x k hP hk
    simp only [List.length_nil] at hk
    have body : m_slices_symMergeCmpFunc_rune_own_L46 o n (i : Int) (P ++ x :: ([] ++ Q), (k : Int)) = some (.done (P ++ x :: ([] ++ Q))) := by
      unfold m_slices_symMergeCmpFunc_rune_own_L46
      rw [w64 (x := (i : Int) - 1) (by omega) (by omega)]
      simp only [decide_eq_false (show ¬ (k : Int) < (i : Int) - 1 by omega), cond_false]
    rw [iter_step, body]
    simp
  | cons y R ih =>
    intro P Q x k hP hk
    simp only [List.length_cons] at hk
    have sw := swap_eq (s := P ++ x :: (y :: R ++ Q)) (P := P) (Y := []) (Q := R ++ Q) (x := x) (y := y) (i := o + k) (j := o + (k + 1)) (by simp) (by omega) (by simp; omega)
    have body : m_slices_symMergeCmpFunc_rune_own_L46 o n (i : Int) (P ++ x :: (y :: R ++ Q), (k : Int)) = some (.next ((P ++ [y]) ++ x :: (R ++ Q), ((k + 1 : Nat) : Int))) := by
      unfold m_slices_symMergeCmpFunc_rune_own_L46
      rw [w64 (x := (i : Int) - 1) (by omega) (by omega)]
      simp only [decide_eq_true (show (k : Int) < (i : Int) - 1 by omega), cond_true, up (show k < 9223372036854775807 by omega), pos_toNat, sw, if_pos (show 0 ≤ ((k + 1 : Nat) : Int) ∧ ((k + 1 : Nat) : Int) < (n : Int) by omega), if_pos (show 0 ≤ (k : Int) ∧ (k : Int) < (n : Int) by omega)]
      simp
    rw [iter_step, body]
    simp only
    rw [ih (P ++ [y]) Q x (k + 1) (by simp; omega) (by omega)]
    simp
theorem move_down (o n i : Nat) (hn : n < 1000000000000) : ∀ (l : Nat) (L P Q : List Int) (y : Int) (k : Nat), L.length = l → P.length = o + i → i + l = k → k < n →
    iter (m_slices_symMergeCmpFunc_rune_own_L32 o n (i : Int)) (P ++ (L ++ y :: Q), (k : Int)) = some (P ++ (y :: (L ++ Q))) := by
  intro l
  induction l with
  | zero =>
    intro L P Q y k hL hP hk hkn
    have : L = [] := List.eq_nil_of_length_eq_zero hL
    subst this
    have body : m_slices_symMergeCmpFunc_rune_own_L32 o n (i : Int) (P ++ ([] ++ y :: Q), (k : Int)) = some (.done (P ++ ([] ++ y :: Q))) := by
      unfold m_slices_symMergeCmpFunc_rune_own_L32
      simp only [decide_eq_false (show ¬ (k : Int) > (i : Int) by omega), cond_false]
    rw [iter_step, body]
    simp
  | succ l ih =>
    intro L P Q y k hL hP hk hkn
    obtain ⟨L', x, rfl⟩ : ∃ L' x, L = L' ++ [x] := by
      cases h : L.getLast? with
      | none => rw [List.getLast?_eq_none_iff] at h; subst h; simp at hL
      | some x => obtain ⟨L', rfl⟩ := List.getLast?_eq_some_iff.1 h; exact ⟨L', x, rfl⟩
    have hL' : L'.length = l := by simpa using hL
    have hd : IntKind.wrap .i64 ((k : Int) - 1) = ((k - 1 : Nat) : Int) := down (by omega) (by omega)
    have sw := swap_eq' (s := P ++ (L' ++ [x] ++ y :: Q)) (P := P ++ L') (Y := []) (Q := Q) (x := x) (y := y) (i := o + (k - 1)) (j := o + k) (by simp) (by simp; omega) (by simp; omega)
    have body : m_slices_symMergeCmpFunc_rune_own_L32 o n (i : Int) (P ++ (L' ++ [x] ++ y :: Q), (k : Int)) = some (.next (P ++ (L' ++ y :: (x :: Q)), ((k - 1 : Nat) : Int))) := by
      unfold m_slices_symMergeCmpFunc_rune_own_L32
      simp only [decide_eq_true (show (k : Int) > (i : Int) by omega), cond_true, hd, pos_toNat, sw, if_pos (show 0 ≤ ((k - 1 : Nat) : Int) ∧ ((k - 1 : Nat) : Int) < (n : Int) by omega), if_pos (show 0 ≤ (k : Int) ∧ (k : Int) < (n : Int) by omega)]
      simp
    rw [iter_step, body]
    simp only
    rw [ih L' P (x :: Q) y (k - 1) hL' hP (by omega) (by omega)]
    simp
theorem get_left {P L R : List Int} {o a k : Nat} (hP : P.length = o + a) (h1 : a ≤ k) (h2 : k < a + L.length) : (P ++ (L ++ R)).getD (o + k) 0 = L.getD (k - a) 0 := by
  have := getD_app P (L ++ R) (k - a)
  rw [show P.length + (k - a) = o + k by omega] at this
  rw [this, List.getD_eq_getElem?_getD, List.getD_eq_getElem?_getD, List.getElem?_append_left (by omega)]
theorem get_right {P L R Q : List Int} {o a m k : Nat} (hP : P.length = o + a) (hL : a + L.length = m) (h1 : m ≤ k) (h2 : k < m + R.length) : (P ++ (L ++ (R ++ Q))).getD (o + k) 0 = R.getD (k - m) 0 := by
  have := get_left (P := P ++ L) (L := R) (R := Q) (o := o) (a := m) (k := k) (by simp; omega) h1 h2
  rw [← this]
  simp
theorem Srt.get {c : Int → Int} {l : List Int} (h : Srt c l) {i j : Nat} (hij : i ≤ j) (hj : j < l.length) : c (l.getD i 0) ≤ c (l.getD j 0) := by
  rcases Nat.lt_or_ge i j with hlt | hge
  · exact getD_pair h hlt hj
  · obtain rfl : i = j := by omega
    exact Int.le_refl _
theorem mem_get {l : List Int} {x : Int} (h : x ∈ l) : ∃ i, i < l.length ∧ l.getD i 0 = x := by
  obtain ⟨i, hi, rfl⟩ := List.getElem_of_mem h
  exact ⟨i, hi, by simp [List.getD_eq_getElem?_getD, hi]⟩
theorem and_bif2 (p q : Prop) [Decidable p] [Decidable q] : (bif decide p then some (decide q) else some false) = some (decide (p ∧ q)) := by
  by_cases hp : p <;> by_cases hq : q <;> simp [hp, hq]
/-- Answered, or (where that is let in) not. -/
def OKr (tot : Bool) (x : Option (List Int)) (v : List Int) : Prop := x = some v ∨ (tot = false ∧ x = none)
set_option maxHeartbeats 1000000
theorem sym_left {t : T_api_Norm} {c : Int → Int} (hk : KeyOf t c) (rec_ : List Int → Nat → Nat → Int → Int → Int → T_api_Norm → Option (List Int)) (o n : Nat) (hn : n < 1000000000000) (P R Q : List Int) (x : Int) (a m b : Nat)
    (hP : P.length = o + a) (hm : m = a + 1) (hR : m + R.length = b) (h1 : 0 < R.length) (hb : b ≤ n) (sR : Srt c R) :
    m_slices_symMergeCmpFunc_rune_own_body rec_ (P ++ ([x] ++ (R ++ Q))) o n (a : Int) (m : Int) (b : Int) t = some (P ++ (ssort c ([x] ++ R) ++ Q)) := by
  obtain ⟨y, hy, y1, y2, y3, y4⟩ := bsrch (body := m_slices_symMergeCmpFunc_rune_own_L51 (P ++ ([x] ++ (R ++ Q))) o n (a : Int) t) (fun k => decide (c (R.getD (k - m) 0) < c x)) m b (by omega)
    (fun i => by
      unfold m_slices_symMergeCmpFunc_rune_own_L51
      simp only [decide_eq_false (show ¬ (i : Int) < (i : Int) by omega), cond_false])
    (fun i j h1 h2 h3 => by
      unfold m_slices_symMergeCmpFunc_rune_own_L51
      have hh : i ≤ (i + j) / 2 ∧ (i + j) / 2 < j := by omega
      have e1 : (P ++ ([x] ++ (R ++ Q))).getD (o + (i + j) / 2) 0 = R.getD ((i + j) / 2 - m) 0 := get_right (L := [x]) hP (by simp; omega) (by omega) (by omega)
      have e2 : (P ++ ([x] ++ (R ++ Q))).getD (o + a) 0 = x := by rw [get_left hP (Nat.le_refl _) (by simp)]; simp
      obtain ⟨z, hz, hlt⟩ := hk (R.getD ((i + j) / 2 - m) 0) x
      simp only [decide_eq_true (show (i : Int) < (j : Int) by omega), cond_true, mid (show i + j < 9223372036854775808 by omega), pos_toNat, e1, e2, hz, bind_some', hlt, if_pos (show 0 ≤ (((i + j) / 2 : Nat) : Int) ∧ (((i + j) / 2 : Nat) : Int) < (n : Int) by omega), if_pos (show 0 ≤ (a : Int) ∧ (a : Int) < (n : Int) by omega), up (show (i + j) / 2 < 9223372036854775807 by omega)]
      cases decide (c (R.getD ((i + j) / 2 - m) 0) < c x) <;> simp)
  have hR12 : R = R.take (y - m) ++ R.drop (y - m) := (List.take_append_drop _ _).symm
  have l1 : (R.take (y - m)).length = y - m := by simp; omega
  have up1 := move_up o n y hn (by omega) (R.take (y - m)) P (R.drop (y - m) ++ Q) x a hP (by rw [l1]; omega)
  have e : P ++ ([x] ++ (R ++ Q)) = P ++ x :: (R.take (y - m) ++ (R.drop (y - m) ++ Q)) := by rw [← List.append_assoc (R.take (y - m)), ← hR12]; simp
  have fin : ssort c ([x] ++ R) = R.take (y - m) ++ x :: R.drop (y - m) := by
    have below : ∀ z ∈ R.take (y - m), c z < c x := fun z hz => by
      obtain ⟨i, hi, rfl⟩ := mem_get hz
      have g : (R.take (y - m)).getD i 0 = R.getD i 0 := by simp [List.getD_eq_getElem?_getD, List.getElem?_take, show i < y - m by omega]
      rw [g]
      have hp := of_decide_eq_true (y3.resolve_left (by omega))
      have := sR.get (i := i) (j := y - 1 - m) (by omega) (by omega)
      omega
    have above : ∀ z ∈ R.drop (y - m), c x ≤ c z := fun z hz => by
      obtain ⟨i, hi, rfl⟩ := mem_get hz
      simp at hi
      have g : (R.drop (y - m)).getD i 0 = R.getD (y - m + i) 0 := by simp [List.getD_eq_getElem?_getD, List.getElem?_drop]
      rw [g]
      have hp := of_decide_eq_false (y4.resolve_left (by omega))
      have := sR.get (i := y - m) (j := y - m + i) (by omega) (by omega)
      omega
    refine (ssort_eq ?_ fun v => ?_).symm
    · have sR' : Srt c (R.take (y - m) ++ R.drop (y - m)) := by rw [← hR12]; exact sR
      refine Srt.append sR'.left (List.pairwise_cons.2 ⟨above, sR'.right⟩) fun z hz w hw => ?_
      rcases List.mem_cons.1 hw with rfl | hw
      · have := below z hz; omega
      · exact sR'.cross z hz w hw
    · have e2 : R.take (y - m) ++ x :: R.drop (y - m) = R.take (y - m) ++ ([x] ++ R.drop (y - m)) := by simp
      rw [e2, keyF_append, keyF_append, ← List.append_assoc, key_swap (fun z hz w hw => by simp at hw; subst hw; have := below z hz; omega) v, List.append_assoc, ← keyF_append (l := R.take (y - m)), ← hR12, keyF_append]
  unfold m_slices_symMergeCmpFunc_rune_own_body m_slices_symMergeCmpFunc_rune_own_K43
  rw [show (IntKind.wrap .i64 ((m : Int) - (a : Int)) == 1) = true by rw [w64 (by omega) (by omega)]; simp; omega]
  simp only [cond_true, hy, bind_some']
  rw [e, up1, fin]
  simp [bind_some']
theorem sym_right {t : T_api_Norm} {c : Int → Int} (hk : KeyOf t c) (rec_ : List Int → Nat → Nat → Int → Int → Int → T_api_Norm → Option (List Int)) (o n : Nat) (hn : n < 1000000000000) (P L Q : List Int) (x : Int) (a m b : Nat)
    (hP : P.length = o + a) (hL : a + L.length = m) (hm : b = m + 1) (h1 : 1 < L.length) (hb : b ≤ n) (sL : Srt c L) :
    m_slices_symMergeCmpFunc_rune_own_body rec_ (P ++ (L ++ ([x] ++ Q))) o n (a : Int) (m : Int) (b : Int) t = some (P ++ (ssort c (L ++ [x]) ++ Q)) := by
  obtain ⟨y, hy, y1, y2, y3, y4⟩ := bsrch (body := m_slices_symMergeCmpFunc_rune_own_L37 (P ++ (L ++ ([x] ++ Q))) o n (m : Int) t) (fun k => !decide (c x < c (L.getD (k - a) 0))) a m (by omega)
    (fun i => by
      unfold m_slices_symMergeCmpFunc_rune_own_L37
      simp only [decide_eq_false (show ¬ (i : Int) < (i : Int) by omega), cond_false])
    (fun i j h1 h2 h3 => by
      unfold m_slices_symMergeCmpFunc_rune_own_L37
      have hh : i ≤ (i + j) / 2 ∧ (i + j) / 2 < j := by omega
      have e1 : (P ++ (L ++ ([x] ++ Q))).getD (o + (i + j) / 2) 0 = L.getD ((i + j) / 2 - a) 0 := get_left hP (by omega) (by omega)
      have e2 : (P ++ (L ++ ([x] ++ Q))).getD (o + m) 0 = x := by rw [get_right (R := [x]) hP hL (Nat.le_refl _) (by simp)]; simp
      obtain ⟨z, hz, hlt⟩ := hk x (L.getD ((i + j) / 2 - a) 0)
      simp only [decide_eq_true (show (i : Int) < (j : Int) by omega), cond_true, mid (show i + j < 9223372036854775808 by omega), pos_toNat, e1, e2, hz, bind_some', hlt, if_pos (show 0 ≤ (((i + j) / 2 : Nat) : Int) ∧ (((i + j) / 2 : Nat) : Int) < (n : Int) by omega), if_pos (show 0 ≤ (m : Int) ∧ (m : Int) < (n : Int) by omega), up (show (i + j) / 2 < 9223372036854775807 by omega)]
      cases decide (c x < c (L.getD ((i + j) / 2 - a) 0)) <;> simp)
  have hL12 : L = L.take (y - a) ++ L.drop (y - a) := (List.take_append_drop _ _).symm
  have l1 : (L.take (y - a)).length = y - a := by simp; omega
  have dn := move_down o n y hn _ (L.drop (y - a)) (P ++ L.take (y - a)) Q x m rfl (by simp; omega) (by simp; omega) (by omega)
  have e : P ++ (L ++ ([x] ++ Q)) = P ++ L.take (y - a) ++ (L.drop (y - a) ++ x :: Q) := by
    rw [List.append_assoc, ← List.append_assoc (L.take (y - a)), ← hL12]; simp
  have fin : ssort c (L ++ [x]) = L.take (y - a) ++ x :: L.drop (y - a) := by
    have below : ∀ z ∈ L.take (y - a), c z ≤ c x := fun z hz => by
      obtain ⟨i, hi, rfl⟩ := mem_get hz
      have g : (L.take (y - a)).getD i 0 = L.getD i 0 := by simp [List.getD_eq_getElem?_getD, List.getElem?_take, show i < y - a by omega]
      rw [g]
      have hp := y3.resolve_left (by omega)
      simp only [Bool.not_eq_true', decide_eq_false_iff_not] at hp
      have := sL.get (i := i) (j := y - 1 - a) (by omega) (by omega)
      omega
    have above : ∀ z ∈ L.drop (y - a), c x < c z := fun z hz => by
      obtain ⟨i, hi, rfl⟩ := mem_get hz
      simp at hi
      have g : (L.drop (y - a)).getD i 0 = L.getD (y - a + i) 0 := by simp [List.getD_eq_getElem?_getD, List.getElem?_drop]
      rw [g]
      have hp := y4.resolve_left (by omega)
      simp only [Bool.not_eq_false', decide_eq_true_eq] at hp
      have := sL.get (i := y - a) (j := y - a + i) (by omega) (by omega)
      omega
    have sL' : Srt c (L.take (y - a) ++ L.drop (y - a)) := by rw [← hL12]; exact sL
    refine (ssort_eq ?_ fun v => ?_).symm
    · refine Srt.append sL'.left (List.pairwise_cons.2 ⟨fun z hz => by have := above z hz; omega, sL'.right⟩) fun z hz w hw => ?_
      rcases List.mem_cons.1 hw with rfl | hw
      · exact below z hz
      · exact sL'.cross z hz w hw
    · have e2 : L.take (y - a) ++ x :: L.drop (y - a) = L.take (y - a) ++ ([x] ++ L.drop (y - a)) := by simp
      rw [e2, keyF_append, keyF_append, key_swap (l := [x]) (fun z hz w hw => by simp at hz; subst hz; have := above w hw; omega) v, ← List.append_assoc, ← keyF_append, ← hL12, keyF_append]
  unfold m_slices_symMergeCmpFunc_rune_own_body m_slices_symMergeCmpFunc_rune_own_K2 m_slices_symMergeCmpFunc_rune_own_K29
  rw [show (IntKind.wrap .i64 ((m : Int) - (a : Int)) == 1) = false by rw [w64 (by omega) (by omega)]; simp; omega, show (IntKind.wrap .i64 ((b : Int) - (m : Int)) == 1) = true by rw [w64 (by omega) (by omega)]; simp; omega]
  simp only [cond_true, cond_false, hy, bind_some']
  rw [e, dn, fin]
  simp [bind_some']
set_option maxHeartbeats 2000000
theorem OKr.bind {tot : Bool} {x : Option (List Int)} {v w : List Int} {f : List Int → Option (List Int)} (h : OKr tot x v) (hf : OKr tot (f v) w) : OKr tot (Option.bind x f) w := by
  rcases h with h | ⟨h, h'⟩
  · rw [h]; exact hf
  · rw [h']; exact .inr ⟨h, rfl⟩
/-- The middle of the merge: where the rows are parted, and how. -/
theorem sym_split {t : T_api_Norm} {c : Int → Int} (hk : KeyOf t c) (o n : Nat) (hn : n < 1000000000000) (P L R Q : List Int) (a m b : Nat) (hP : P.length = o + a) (hL : a + L.length = m) (hR : m + R.length = b) (h0 : 1 < L.length) (h1 : 1 < R.length) (hb : b ≤ n) (sL : Srt c L) (sR : Srt c R) :
    ∃ y : Nat, iter (m_slices_symMergeCmpFunc_rune_own_L24 (P ++ (L ++ (R ++ Q))) o n (a : Int) (m : Int) (b : Int) t) ((((if m > (a + b) / 2 then (a + b) / 2 + m - b else a) : Nat) : Int), (((if m > (a + b) / 2 then (a + b) / 2 else m) : Nat) : Int)) = some (y : Int) ∧
      a ≤ y ∧ y ≤ m ∧ m ≤ (a + b) / 2 + m - y ∧ (a + b) / 2 + m - y ≤ b ∧ y ≤ (a + b) / 2 ∧
      (∀ z ∈ L.take (y - a), ∀ w ∈ R.drop ((a + b) / 2 + m - y - m), c z ≤ c w) ∧ (∀ z ∈ R.take ((a + b) / 2 + m - y - m), ∀ w ∈ L.drop (y - a), c z < c w) := by
  obtain ⟨q, hq⟩ : ∃ q, q = (a + b) / 2 := ⟨_, rfl⟩
  rw [← hq]
  obtain ⟨lo, hlo⟩ : ∃ lo, lo = if m > q then q + m - b else a := ⟨_, rfl⟩
  obtain ⟨hi, hhi⟩ : ∃ hi, hi = if m > q then q else m := ⟨_, rfl⟩
  rw [← hlo, ← hhi]
  have hb1 : a ≤ lo ∧ lo ≤ hi ∧ hi ≤ m ∧ hi ≤ q ∧ q + m - lo ≤ b ∧ m ≤ q + m - hi ∧ (lo = a ∨ q + m - lo = b) ∧ (hi = m ∨ q + m - hi = m) := by
    by_cases h : m > q
    · rw [if_pos h] at hlo hhi; omega
    · rw [if_neg h] at hlo hhi; omega
  obtain ⟨y, hy, y1, y2, y3, y4⟩ := bsrch (body := m_slices_symMergeCmpFunc_rune_own_L24 (P ++ (L ++ (R ++ Q))) o n (a : Int) (m : Int) (b : Int) t) (fun k => !decide (c (R.getD (q + m - 1 - k - m) 0) < c (L.getD (k - a) 0))) lo hi hb1.2.1
    (fun i => by
      unfold m_slices_symMergeCmpFunc_rune_own_L24
      simp only [decide_eq_false (show ¬ (i : Int) < (i : Int) by omega), cond_false])
    (fun i j h1 h2 h3 => by
      unfold m_slices_symMergeCmpFunc_rune_own_L24
      have hh : i ≤ (i + j) / 2 ∧ (i + j) / 2 < j := by omega
      have hm1 : IntKind.wrap .i64 (Int.fdiv (IntKind.wrap .u64 (IntKind.wrap .i64 ((a : Int) + (b : Int)))) 2) = ((q : Nat) : Int) := by rw [mid (by omega), hq]
      have hm2 : IntKind.wrap .i64 ((q : Int) + (m : Int)) = ((q + m : Nat) : Int) := by rw [w64 (by omega) (by omega)]; omega
      have hm3 : IntKind.wrap .i64 (((q + m : Nat) : Int) - 1) = ((q + m - 1 : Nat) : Int) := down (by omega) (by omega)
      have hm4 : IntKind.wrap .i64 (((q + m - 1 : Nat) : Int) - (((i + j) / 2 : Nat) : Int)) = ((q + m - 1 - (i + j) / 2 : Nat) : Int) := by rw [w64 (by omega) (by omega)]; omega
      have e1 : (P ++ (L ++ (R ++ Q))).getD (o + (i + j) / 2) 0 = L.getD ((i + j) / 2 - a) 0 := get_left hP (by omega) (by omega)
      have e2 : (P ++ (L ++ (R ++ Q))).getD (o + (q + m - 1 - (i + j) / 2)) 0 = R.getD (q + m - 1 - (i + j) / 2 - m) 0 := get_right hP hL (by omega) (by omega)
      obtain ⟨z, hz, hlt⟩ := hk (R.getD (q + m - 1 - (i + j) / 2 - m) 0) (L.getD ((i + j) / 2 - a) 0)
      simp only [decide_eq_true (show (i : Int) < (j : Int) by omega), cond_true, hm1, hm2, hm3, mid (show i + j < 9223372036854775808 by omega), hm4, pos_toNat, e1, e2, hz, bind_some', hlt, if_pos (show 0 ≤ (((i + j) / 2 : Nat) : Int) ∧ (((i + j) / 2 : Nat) : Int) < (n : Int) by omega), if_pos (show 0 ≤ ((q + m - 1 - (i + j) / 2 : Nat) : Int) ∧ ((q + m - 1 - (i + j) / 2 : Nat) : Int) < (n : Int) by omega), up (show (i + j) / 2 < 9223372036854775807 by omega)]
      cases decide (c (R.getD (q + m - 1 - (i + j) / 2 - m) 0) < c (L.getD ((i + j) / 2 - a) 0)) <;> simp)
  refine ⟨y, hy, by omega, by omega, by omega, by omega, by omega, fun z hz w hw => ?_, fun z hz w hw => ?_⟩
  · obtain ⟨i, hi', rfl⟩ := mem_get hz
    obtain ⟨j, hj', rfl⟩ := mem_get hw
    simp at hi' hj'
    have g1 : (L.take (y - a)).getD i 0 = L.getD i 0 := by simp [List.getD_eq_getElem?_getD, List.getElem?_take, show i < y - a by omega]
    have g2 : (R.drop (q + m - y - m)).getD j 0 = R.getD (q + m - y - m + j) 0 := by simp [List.getD_eq_getElem?_getD, List.getElem?_drop]
    rw [g1, g2]
    have hp := y3.resolve_left (by omega)
    simp only [Bool.not_eq_true', decide_eq_false_iff_not] at hp
    rw [show q + m - 1 - (y - 1) - m = q + m - y - m by omega] at hp
    have p1 := sL.get (i := i) (j := y - 1 - a) (by omega) (by omega)
    have p2 := sR.get (i := q + m - y - m) (j := q + m - y - m + j) (by omega) (by omega)
    omega
  · obtain ⟨i, hi', rfl⟩ := mem_get hz
    obtain ⟨j, hj', rfl⟩ := mem_get hw
    simp at hi' hj'
    have g1 : (R.take (q + m - y - m)).getD i 0 = R.getD i 0 := by simp [List.getD_eq_getElem?_getD, List.getElem?_take, show i < q + m - y - m by omega]
    have g2 : (L.drop (y - a)).getD j 0 = L.getD (y - a + j) 0 := by simp [List.getD_eq_getElem?_getD, List.getElem?_drop]
    rw [g1, g2]
    have hp := y4.resolve_left (by omega)
    simp only [Bool.not_eq_false', decide_eq_true_eq] at hp
    have p1 := sR.get (i := i) (j := q + m - 1 - y - m) (by omega) (by omega)
    have p2 := sL.get (i := y - a) (j := y - a + j) (by omega) (by omega)
    omega
theorem sym_body {t : T_api_Norm} {c : Int → Int} (hk : KeyOf t c) (rec_ : List Int → Nat → Nat → Int → Int → Int → T_api_Norm → Option (List Int)) (tot : Bool) (o n K : Nat) (hn : n < 1000000000000)
    (hrec : ∀ (P L R Q : List Int) (a m b : Nat), P.length = o + a → a + L.length = m → m + R.length = b → 0 < L.length → 0 < R.length → b ≤ n → b - a < K → Srt c L → Srt c R → OKr tot (rec_ (P ++ (L ++ (R ++ Q))) o n (a : Int) (m : Int) (b : Int) t) (P ++ (ssort c (L ++ R) ++ Q)))
    (P L R Q : List Int) (a m b : Nat) (hP : P.length = o + a) (hL : a + L.length = m) (hR : m + R.length = b) (h0 : 0 < L.length) (h1 : 0 < R.length) (hb : b ≤ n) (hK : b - a ≤ K) (sL : Srt c L) (sR : Srt c R) :
    OKr tot (m_slices_symMergeCmpFunc_rune_own_body rec_ (P ++ (L ++ (R ++ Q))) o n (a : Int) (m : Int) (b : Int) t) (P ++ (ssort c (L ++ R) ++ Q)) := by
  by_cases e1 : L.length = 1
  · obtain ⟨x, rfl⟩ := List.length_eq_one_iff.1 e1
    exact .inl (sym_left hk rec_ o n hn P R Q x a m b hP (by simp at hL; omega) hR h1 hb sR)
  by_cases e2 : R.length = 1
  · obtain ⟨x, rfl⟩ := List.length_eq_one_iff.1 e2
    exact .inl (sym_right hk rec_ o n hn P L Q x a m b hP hL (by simp at hR; omega) (by omega) hb sL)
  obtain ⟨y, hy, y1, y2, y3, y4, y5, hx1, hx2⟩ := sym_split hk o n hn P L R Q a m b hP hL hR (by omega) (by omega) hb sL sR
  obtain ⟨q, hq⟩ : ∃ q, q = (a + b) / 2 := ⟨_, rfl⟩
  rw [← hq] at hy y3 y4 y5 hx1 hx2
  obtain ⟨L1, hL1⟩ : ∃ L1, L1 = L.take (y - a) := ⟨_, rfl⟩
  obtain ⟨L2, hL2⟩ : ∃ L2, L2 = L.drop (y - a) := ⟨_, rfl⟩
  obtain ⟨R1, hR1⟩ : ∃ R1, R1 = R.take (q + m - y - m) := ⟨_, rfl⟩
  obtain ⟨R2, hR2⟩ : ∃ R2, R2 = R.drop (q + m - y - m) := ⟨_, rfl⟩
  have eL : L = L1 ++ L2 := by rw [hL1, hL2, List.take_append_drop]
  have eR : R = R1 ++ R2 := by rw [hR1, hR2, List.take_append_drop]
  have n1 : L1.length = y - a := by rw [hL1]; simp; omega
  have n2 : R1.length = q + m - y - m := by rw [hR1]; simp; omega
  have n3 : L2.length = m - y := by rw [hL2]; simp; omega
  have n4 : R2.length = b - (q + m - y) := by rw [hR2]; simp; omega
  rw [← hL1, ← hR2] at hx1
  rw [← hR1, ← hL2] at hx2
  clear hL1 hL2 hR1 hR2
  rw [eL] at sL
  rw [eR] at sR
  have hm1 : IntKind.wrap .i64 (Int.fdiv (IntKind.wrap .u64 (IntKind.wrap .i64 ((a : Int) + (b : Int)))) 2) = ((q : Nat) : Int) := by rw [mid (by omega), hq]
  have hm2 : IntKind.wrap .i64 ((q : Int) + (m : Int)) = ((q + m : Nat) : Int) := by rw [w64 (by omega) (by omega)]; omega
  have hm3 : IntKind.wrap .i64 (((q + m : Nat) : Int) - (y : Int)) = ((q + m - y : Nat) : Int) := by rw [w64 (by omega) (by omega)]; omega
  have first : (Option.bind (bif decide ((m : Int) > (q : Int)) then some (IntKind.wrap .i64 (((q + m : Nat) : Int) - (b : Int)), (q : Int)) else some ((a : Int), (m : Int)) : Option (Int × Int)) fun s5 => m_slices_symMergeCmpFunc_rune_own_K6 (P ++ (L ++ (R ++ Q))) o n (a : Int) (m : Int) (b : Int) t rec_ s5) = m_slices_symMergeCmpFunc_rune_own_K8 (P ++ (L ++ (R ++ Q))) o n (a : Int) (m : Int) (b : Int) t rec_ (y : Int) := by
    unfold m_slices_symMergeCmpFunc_rune_own_K6
    by_cases h : m > q
    · rw [if_pos h, if_pos h] at hy
      simp only [decide_eq_true (show (m : Int) > (q : Int) by omega), cond_true, bind_some']
      rw [show IntKind.wrap .i64 (((q + m : Nat) : Int) - (b : Int)) = ((q + m - b : Nat) : Int) by rw [w64 (by omega) (by omega)]; omega, hy]
      rfl
    · rw [if_neg h, if_neg h] at hy
      simp only [decide_eq_false (show ¬ (m : Int) > (q : Int) by omega), cond_false, bind_some']
      rw [hy]
      rfl
  unfold m_slices_symMergeCmpFunc_rune_own_body m_slices_symMergeCmpFunc_rune_own_K2 m_slices_symMergeCmpFunc_rune_own_K4
  rw [show (IntKind.wrap .i64 ((m : Int) - (a : Int)) == 1) = false by rw [w64 (by omega) (by omega)]; simp; omega, show (IntKind.wrap .i64 ((b : Int) - (m : Int)) == 1) = false by rw [w64 (by omega) (by omega)]; simp; omega]
  simp only [cond_false, bind_some', hm1, hm2]
  rw [first]
  -- the rotation
  have rot : (Option.bind (bif decide ((y : Int) < (m : Int)) then some (decide ((m : Int) < ((q + m - y : Nat) : Int))) else some false) fun s19 => m_slices_symMergeCmpFunc_rune_own_K20 (P ++ (L ++ (R ++ Q))) o n (a : Int) (m : Int) (b : Int) t (y : Int) s19) = some (P ++ (L1 ++ (R1 ++ (L2 ++ (R2 ++ Q))))) := by
    rw [and_bif2, bind_some']
    unfold m_slices_symMergeCmpFunc_rune_own_K20
    simp only [hm1, hm2, hm3]
    by_cases h : (y : Int) < (m : Int) ∧ (m : Int) < ((q + m - y : Nat) : Int)
    · rw [decide_eq_true h, cond_true]
      have := rotate_eq t o n y m (q + m - y) (P ++ L1) L2 R1 (R2 ++ Q) (by simp; omega) (by omega) (by omega) (by omega) (by omega) (by omega) hn
      have e : P ++ (L ++ (R ++ Q)) = P ++ L1 ++ (L2 ++ (R1 ++ (R2 ++ Q))) := by rw [eL, eR]; simp
      rw [e, this, bind_some', if_pos (by simp; omega)]
      simp
    · rw [decide_eq_false h, cond_false]
      have : L2 = [] ∨ R1 = [] := by
        by_cases hh : y < m
        · exact .inr (List.eq_nil_of_length_eq_zero (by omega))
        · exact .inl (List.eq_nil_of_length_eq_zero (by omega))
      rcases this with h | h <;> rw [eL, eR, h] <;> simp
  unfold m_slices_symMergeCmpFunc_rune_own_K8
  simp only [hm1, hm2, hm3]
  rw [rot, bind_some']
  unfold m_slices_symMergeCmpFunc_rune_own_K10
  simp only [hm1, hm2, hm3, and_bif2, bind_some']
  have goal : ssort c (L ++ R) = ssort c (L1 ++ R1) ++ ssort c (L2 ++ R2) := by rw [eL, eR]; exact (merge_halves sL sR hx1 hx2).symm
  -- the first half
  have st1 : OKr tot (m_slices_symMergeCmpFunc_rune_own_K17 o n (a : Int) (b : Int) t rec_ (y : Int) (P ++ (L1 ++ (R1 ++ (L2 ++ (R2 ++ Q))))) (decide ((a : Int) < (y : Int) ∧ (y : Int) < (q : Int)))) (P ++ (ssort c (L1 ++ R1) ++ (L2 ++ (R2 ++ Q)))) := by
    unfold m_slices_symMergeCmpFunc_rune_own_K17
    rw [hm1]
    by_cases h : (a : Int) < (y : Int) ∧ (y : Int) < (q : Int)
    · rw [decide_eq_true h, cond_true]
      refine (hrec P L1 R1 (L2 ++ (R2 ++ Q)) a y q hP (by omega) (by omega) (by omega) (by omega) (by omega) (by omega) sL.left sR.left).bind ?_
      rw [if_pos (by simp [ssort_len]; omega)]
      exact .inl rfl
    · rw [decide_eq_false h, cond_false]
      have : L1 = [] ∨ R1 = [] := by
        by_cases hh : a < y
        · exact .inr (List.eq_nil_of_length_eq_zero (by omega))
        · exact .inl (List.eq_nil_of_length_eq_zero (by omega))
      have hs : ssort c (L1 ++ R1) = L1 ++ R1 := by
        rcases this with h | h
        · rw [h]; exact ssort_of sR.left
        · rw [h, List.append_nil]; exact ssort_of sL.left
      rw [hs]
      exact .inl (by simp)
  refine st1.bind ?_
  -- the second half
  unfold m_slices_symMergeCmpFunc_rune_own_K12
  simp only [hm1, hm2, hm3, and_bif2, bind_some']
  unfold m_slices_symMergeCmpFunc_rune_own_K14
  simp only [hm1, hm2, hm3]
  by_cases h : (q : Int) < ((q + m - y : Nat) : Int) ∧ ((q + m - y : Nat) : Int) < (b : Int)
  · rw [decide_eq_true h, cond_true]
    have := hrec (P ++ ssort c (L1 ++ R1)) L2 R2 Q q (q + m - y) b (by simp [ssort_len]; omega) (by omega) (by omega) (by omega) (by omega) (by omega) (by omega) sL.right sR.right
    rw [List.append_assoc] at this
    refine this.bind ?_
    rw [if_pos (by simp [ssort_len]; omega), goal]
    exact .inl (by simp)
  · rw [decide_eq_false h, cond_false, goal]
    have : L2 = [] ∨ R2 = [] := by
      by_cases hh : q < q + m - y
      · exact .inr (List.eq_nil_of_length_eq_zero (by omega))
      · exact .inl (List.eq_nil_of_length_eq_zero (by omega))
    have hs : ssort c (L2 ++ R2) = L2 ++ R2 := by
      rcases this with h | h
      · rw [h]; exact ssort_of sR.right
      · rw [h, List.append_nil]; exact ssort_of sL.right
    rw [hs]
    exact .inl (by simp)
theorem sym_n {t : T_api_Norm} {c : Int → Int} (hk : KeyOf t c) (o n : Nat) (hn : n < 1000000000000) : ∀ (tot : Bool) (N : Nat) (P L R Q : List Int) (a m b : Nat), P.length = o + a → a + L.length = m → m + R.length = b → 0 < L.length → 0 < R.length → b ≤ n → (tot = true → b - a ≤ N) → Srt c L → Srt c R →
    OKr tot (m_slices_symMergeCmpFunc_rune_own_n N (P ++ (L ++ (R ++ Q))) o n (a : Int) (m : Int) (b : Int) t) (P ++ (ssort c (L ++ R) ++ Q)) := by
  intro tot N
  induction N with
  | zero =>
    intro P L R Q a m b hP hL hR h0 h1 hb hN sL sR
    cases tot with
    | true => have := hN rfl; omega
    | false => exact .inr ⟨rfl, rfl⟩
  | succ N ih =>
    intro P L R Q a m b hP hL hR h0 h1 hb hN sL sR
    exact sym_body hk (m_slices_symMergeCmpFunc_rune_own_n N) tot o n (b - a) hn (fun P L R Q a' m' b' g1 g2 g3 g4 g5 g6 g7 g8 g9 => ih P L R Q a' m' b' g1 g2 g3 g4 g5 g6 (fun ht => by have := hN ht; omega) g8 g9) P L R Q a m b hP hL hR h0 h1 hb (Nat.le_refl _) sL sR
theorem sym_eq {t : T_api_Norm} {c : Int → Int} (hk : KeyOf t c) (o n : Nat) (hn : n < 1000000000000) (P L R Q : List Int) (a m b : Nat) (hP : P.length = o + a) (hL : a + L.length = m) (hR : m + R.length = b) (h0 : 0 < L.length) (h1 : 0 < R.length) (hb : b ≤ n) (sL : Srt c L) (sR : Srt c R) :
    m_slices_symMergeCmpFunc_rune_own (P ++ (L ++ (R ++ Q))) o n (a : Int) (m : Int) (b : Int) t = some (P ++ (ssort c (L ++ R) ++ Q)) := by
  unfold m_slices_symMergeCmpFunc_rune_own
  have ex : ∃ N, (m_slices_symMergeCmpFunc_rune_own_n N (P ++ (L ++ (R ++ Q))) o n (a : Int) (m : Int) (b : Int) t).isSome = true := by
    refine ⟨b - a, ?_⟩
    rcases sym_n hk o n hn true (b - a) P L R Q a m b hP hL hR h0 h1 hb (fun _ => Nat.le_refl _) sL sR with h | ⟨h, _⟩
    · rw [h]; rfl
    · cases h
  rw [dif_pos ex]
  have hs := Classical.choose_spec ex
  rcases sym_n hk o n hn false (Classical.choose ex) P L R Q a m b hP hL hR h0 h1 hb (fun h => by cases h) sL sR with h | ⟨_, h⟩
  · exact h
  · rw [h] at hs; cases hs
set_option maxHeartbeats 1000000
/-- Sorted block by block. -/
def cs (c : Int → Int) (bs : Nat) (M : List Int) : List Int := if h : bs = 0 ∨ M.length ≤ bs then ssort c M else ssort c (M.take bs) ++ cs c bs (M.drop bs)
termination_by M.length
decreasing_by simp; omega
variable {c : Int → Int}
theorem cs_small {bs : Nat} {M : List Int} (h : M.length ≤ bs) : cs c bs M = ssort c M := by rw [cs, dif_pos (.inr h)]
theorem cs_cut {bs : Nat} {T1 T : List Int} (h0 : 0 < bs) (h : T1.length = bs) : cs c bs (T1 ++ T) = ssort c T1 ++ cs c bs T := by
  by_cases hT : T = []
  · subst hT
    rw [List.append_nil, cs_small (by omega), cs_small (M := []) (by simp)]
    simp [ssort]
  · have : 0 < T.length := List.length_pos_iff.2 hT
    rw [cs, dif_neg (by simp; omega)]
    have e1 : (T1 ++ T).take bs = T1 := by rw [← h]; simp
    have e2 : (T1 ++ T).drop bs = T := by rw [← h]; simp
    rw [e1, e2]
theorem cs_len (bs : Nat) (h0 : 0 < bs) : ∀ (k : Nat) (T : List Int), T.length ≤ k → (cs c bs T).length = T.length := by
  intro k
  induction k with
  | zero => intro T h; rw [cs_small (by omega), ssort_len]
  | succ k ih =>
    intro T h
    by_cases hs : T.length ≤ bs
    · rw [cs_small hs, ssort_len]
    · have e : T = T.take bs ++ T.drop bs := (List.take_append_drop _ _).symm
      have hl : (T.take bs).length = bs := by simp; omega
      rw [e, cs_cut h0 hl, List.length_append, List.length_append, ssort_len, ih _ (by simp; omega)]
theorem blocks_loop {t : T_api_Norm} (hk : KeyOf t c) (o n N : Nat) (hn : n < 1000000000000) (hN : N ≤ n) (P Q : List Int) (hP : P.length = o) : ∀ (k : Nat) (T D : List Int) (a : Nat), T.length ≤ k → D.length = a → a + T.length = N →
    ∃ (D' T' : List Int) (a' : Nat), iter (m_slices_stableCmpFunc_rune_own_L20 o n (N : Int) t) (P ++ (D ++ (T ++ Q)), (a : Int), ((a + 20 : Nat) : Int)) = some (P ++ (D' ++ (T' ++ Q)), (a' : Int)) ∧ D'.length = a' ∧ a' + T'.length = N ∧ D' ++ ssort c T' = D ++ cs c 20 T := by
  intro k
  induction k with
  | zero =>
    intro T D a h1 h2 h3
    refine ⟨D, T, a, ?_, h2, h3, by rw [cs_small (by omega)]⟩
    have body : m_slices_stableCmpFunc_rune_own_L20 o n (N : Int) t (P ++ (D ++ (T ++ Q)), (a : Int), ((a + 20 : Nat) : Int)) = some (.done (P ++ (D ++ (T ++ Q)), (a : Int))) := by
      unfold m_slices_stableCmpFunc_rune_own_L20
      simp only [decide_eq_false (show ¬ ((a + 20 : Nat) : Int) ≤ (N : Int) by omega), cond_false]
    rw [iter_step, body]
  | succ k ih =>
    intro T D a h1 h2 h3
    by_cases hb : a + 20 ≤ N
    · obtain ⟨T1, T2, rfl, hl⟩ : ∃ T1 T2, T = T1 ++ T2 ∧ T1.length = 20 := ⟨T.take 20, T.drop 20, (List.take_append_drop _ _).symm, by simp; omega⟩
      have hlen : (T1 ++ T2).length = T1.length + T2.length := by simp
      have ins := insertion_eq hk o n a (a + 20) (P ++ D) T1 (T2 ++ Q) (by simp; omega) hn (by omega) (by omega)
      have body : m_slices_stableCmpFunc_rune_own_L20 o n (N : Int) t (P ++ (D ++ (T1 ++ T2 ++ Q)), (a : Int), ((a + 20 : Nat) : Int)) = some (.next (P ++ ((D ++ ssort c T1) ++ (T2 ++ Q)), ((a + 20 : Nat) : Int), ((a + 20 + 20 : Nat) : Int))) := by
        unfold m_slices_stableCmpFunc_rune_own_L20
        have e : P ++ (D ++ (T1 ++ T2 ++ Q)) = P ++ D ++ (T1 ++ (T2 ++ Q)) := by simp
        rw [e]
        simp only [decide_eq_true (show ((a + 20 : Nat) : Int) ≤ (N : Int) by omega), cond_true]
        rw [ins, bind_some', if_pos (by simp [ssort_len]), w64 (x := ((a + 20 : Nat) : Int) + 20) (by omega) (by omega)]
        simp
      obtain ⟨D', T', a', g1, g2, g3, g4⟩ := ih T2 (D ++ ssort c T1) (a + 20) (by omega) (by simp [ssort_len]; omega) (by omega)
      refine ⟨D', T', a', by rw [iter_step, body]; exact g1, g2, g3, ?_⟩
      rw [g4, cs_cut (by omega) hl, List.append_assoc]
    · refine ⟨D, T, a, ?_, h2, h3, by rw [cs_small (by omega)]⟩
      have body : m_slices_stableCmpFunc_rune_own_L20 o n (N : Int) t (P ++ (D ++ (T ++ Q)), (a : Int), ((a + 20 : Nat) : Int)) = some (.done (P ++ (D ++ (T ++ Q)), (a : Int))) := by
        unfold m_slices_stableCmpFunc_rune_own_L20
        simp only [decide_eq_false (show ¬ ((a + 20 : Nat) : Int) ≤ (N : Int) by omega), cond_false]
      rw [iter_step, body]
theorem pass_loop {t : T_api_Norm} (hk : KeyOf t c) (o n N bs : Nat) (hn : n < 1000000000000) (hN : N ≤ n) (h0 : 0 < bs) (hbs : bs < N) (P Q : List Int) (hP : P.length = o) (s5 : List Int × Int) (h5 : s5.2 = (bs : Int)) : ∀ (k : Nat) (T D : List Int) (a : Nat), T.length ≤ k → D.length = a → a + T.length = N →
    ∃ (D' T' : List Int) (a' : Nat), iter (m_slices_stableCmpFunc_rune_own_L13 o n (N : Int) t s5) (P ++ (D ++ (cs c bs T ++ Q)), (a : Int), ((a + 2 * bs : Nat) : Int)) = some (P ++ (D' ++ (cs c bs T' ++ Q)), (a' : Int)) ∧ D'.length = a' ∧ a' + T'.length = N ∧ T'.length < 2 * bs ∧ D' ++ ssort c T' = D ++ cs c (2 * bs) T := by
  intro k
  induction k with
  | zero =>
    intro T D a h1 h2 h3
    refine ⟨D, T, a, ?_, h2, h3, by omega, by rw [cs_small (by omega)]⟩
    have body : m_slices_stableCmpFunc_rune_own_L13 o n (N : Int) t s5 (P ++ (D ++ (cs c bs T ++ Q)), (a : Int), ((a + 2 * bs : Nat) : Int)) = some (.done (P ++ (D ++ (cs c bs T ++ Q)), (a : Int))) := by
      unfold m_slices_stableCmpFunc_rune_own_L13
      simp only [decide_eq_false (show ¬ ((a + 2 * bs : Nat) : Int) ≤ (N : Int) by omega), cond_false]
    rw [iter_step, body]
  | succ k ih =>
    intro T D a h1 h2 h3
    by_cases hb : a + 2 * bs ≤ N
    · obtain ⟨T1, U, rfl, hl1⟩ : ∃ T1 T2, T = T1 ++ T2 ∧ T1.length = bs := ⟨T.take bs, T.drop bs, (List.take_append_drop _ _).symm, by simp; omega⟩
      have hlen : (T1 ++ U).length = T1.length + U.length := by simp
      obtain ⟨T2, T3, rfl, hl2⟩ : ∃ T2 T3, U = T2 ++ T3 ∧ T2.length = bs := ⟨U.take bs, U.drop bs, (List.take_append_drop _ _).symm, by simp; omega⟩
      have hlen2 : (T2 ++ T3).length = T2.length + T3.length := by simp
      have sm := sym_eq hk o n hn (P ++ D) (ssort c T1) (ssort c T2) (cs c bs T3 ++ Q) a (a + bs) (a + 2 * bs) (by simp; omega) (by rw [ssort_len]; omega) (by rw [ssort_len]; omega) (by rw [ssort_len]; omega) (by rw [ssort_len]; omega) (by omega) (ssort_srt T1) (ssort_srt T2)
      have body : m_slices_stableCmpFunc_rune_own_L13 o n (N : Int) t s5 (P ++ (D ++ (cs c bs (T1 ++ (T2 ++ T3)) ++ Q)), (a : Int), ((a + 2 * bs : Nat) : Int)) = some (.next (P ++ ((D ++ ssort c (T1 ++ T2)) ++ (cs c bs T3 ++ Q)), ((a + 2 * bs : Nat) : Int), ((a + 2 * bs + 2 * bs : Nat) : Int))) := by
        unfold m_slices_stableCmpFunc_rune_own_L13
        have e : P ++ (D ++ (cs c bs (T1 ++ (T2 ++ T3)) ++ Q)) = P ++ D ++ (ssort c T1 ++ (ssort c T2 ++ (cs c bs T3 ++ Q))) := by rw [cs_cut h0 hl1, cs_cut h0 hl2]; simp
        rw [e]
        simp only [decide_eq_true (show ((a + 2 * bs : Nat) : Int) ≤ (N : Int) by omega), cond_true, h5]
        rw [show IntKind.wrap .i64 ((a : Int) + (bs : Int)) = ((a + bs : Nat) : Int) by rw [w64 (by omega) (by omega)]; omega, sm, bind_some', if_pos (by simp [ssort_len]; omega), ssort_both]
        rw [show IntKind.wrap .i64 (((a + 2 * bs : Nat) : Int) + IntKind.wrap .i64 (2 * (bs : Int))) = ((a + 2 * bs + 2 * bs : Nat) : Int) by rw [w64 (x := 2 * (bs : Int)) (by omega) (by omega), w64 (by omega) (by omega)]; omega]
        simp
      obtain ⟨D', T', a', g1, g2, g3, g4, g5⟩ := ih T3 (D ++ ssort c (T1 ++ T2)) (a + 2 * bs) (by omega) (by simp [ssort_len]; omega) (by omega)
      refine ⟨D', T', a', by rw [iter_step, body]; exact g1, g2, g3, g4, ?_⟩
      rw [g5, ← List.append_assoc T1, cs_cut (T1 := T1 ++ T2) (by omega) (by simp; omega), List.append_assoc]
    · refine ⟨D, T, a, ?_, h2, h3, by omega, by rw [cs_small (by omega)]⟩
      have body : m_slices_stableCmpFunc_rune_own_L13 o n (N : Int) t s5 (P ++ (D ++ (cs c bs T ++ Q)), (a : Int), ((a + 2 * bs : Nat) : Int)) = some (.done (P ++ (D ++ (cs c bs T ++ Q)), (a : Int))) := by
        unfold m_slices_stableCmpFunc_rune_own_L13
        simp only [decide_eq_false (show ¬ ((a + 2 * bs : Nat) : Int) ≤ (N : Int) by omega), cond_false]
      rw [iter_step, body]
theorem double_step {t : T_api_Norm} (hk : KeyOf t c) (o n N bs : Nat) (hn : n < 1000000000000) (hN : N ≤ n) (h0 : 0 < bs) (hbs : bs < N) (P M Q : List Int) (hP : P.length = o) (hM : M.length = N) :
    m_slices_stableCmpFunc_rune_own_L6 o n (N : Int) t (P ++ (cs c bs M ++ Q), (bs : Int)) = some (.next (P ++ (cs c (2 * bs) M ++ Q), ((2 * bs : Nat) : Int))) := by
  obtain ⟨D', T', a', g1, g2, g3, g4, g5⟩ := pass_loop hk o n N bs hn hN h0 hbs P Q hP (P ++ (cs c bs M ++ Q), (bs : Int)) rfl M.length M [] 0 (Nat.le_refl _) rfl (by omega)
  simp only [List.nil_append, Nat.zero_add] at g1 g5
  unfold m_slices_stableCmpFunc_rune_own_L6
  simp only [decide_eq_true (show (bs : Int) < (N : Int) by omega), cond_true]
  rw [show IntKind.wrap .i64 (2 * (bs : Int)) = ((2 * bs : Nat) : Int) by rw [w64 (by omega) (by omega)]; omega]
  rw [show ((0 : Nat) : Int) = 0 from rfl] at g1
  rw [g1, bind_some']
  unfold m_slices_stableCmpFunc_rune_own_K9
  simp only
  rw [show IntKind.wrap .i64 ((a' : Int) + (bs : Int)) = ((a' + bs : Nat) : Int) by rw [w64 (by omega) (by omega)]; omega, show IntKind.wrap .i64 ((bs : Int) * 2) = ((2 * bs : Nat) : Int) by rw [w64 (by omega) (by omega)]; omega]
  by_cases h : a' + bs < N
  · obtain ⟨T1, T2, rfl, hl1⟩ : ∃ T1 T2, T' = T1 ++ T2 ∧ T1.length = bs := ⟨T'.take bs, T'.drop bs, (List.take_append_drop _ _).symm, by simp; omega⟩
    have hlen : (T1 ++ T2).length = T1.length + T2.length := by simp
    have sm := sym_eq hk o n hn (P ++ D') (ssort c T1) (ssort c T2) Q a' (a' + bs) N (by simp; omega) (by rw [ssort_len]; omega) (by rw [ssort_len]; omega) (by rw [ssort_len]; omega) (by rw [ssort_len]; omega) (by omega) (ssort_srt T1) (ssort_srt T2)
    have e : P ++ (D' ++ (cs c bs (T1 ++ T2) ++ Q)) = P ++ D' ++ (ssort c T1 ++ (ssort c T2 ++ Q)) := by rw [cs_cut h0 hl1, cs_small (M := T2) (by omega)]; simp
    simp only [decide_eq_true (show ((a' + bs : Nat) : Int) < (N : Int) by omega), cond_true]
    rw [e, sm, bind_some', if_pos (by simp [ssort_len]; omega), ssort_both, ← g5]
    simp
  · simp only [decide_eq_false (show ¬ ((a' + bs : Nat) : Int) < (N : Int) by omega), cond_false]
    rw [cs_small (by omega), ← g5]
    simp
theorem double_loop {t : T_api_Norm} (hk : KeyOf t c) (o n N : Nat) (hn : n < 1000000000000) (hN : N ≤ n) (P M Q : List Int) (hP : P.length = o) (hM : M.length = N) : ∀ (k bs : Nat), 0 < bs → N - bs ≤ k →
    iter (m_slices_stableCmpFunc_rune_own_L6 o n (N : Int) t) (P ++ (cs c bs M ++ Q), (bs : Int)) = some (P ++ (ssort c M ++ Q)) := by
  intro k
  have stop : ∀ bs, N ≤ bs → iter (m_slices_stableCmpFunc_rune_own_L6 o n (N : Int) t) (P ++ (cs c bs M ++ Q), (bs : Int)) = some (P ++ (ssort c M ++ Q)) := fun bs h => by
    have body : m_slices_stableCmpFunc_rune_own_L6 o n (N : Int) t (P ++ (cs c bs M ++ Q), (bs : Int)) = some (.done (P ++ (cs c bs M ++ Q))) := by
      unfold m_slices_stableCmpFunc_rune_own_L6
      simp only [decide_eq_false (show ¬ (bs : Int) < (N : Int) by omega), cond_false]
    rw [iter_step, body, cs_small (by omega)]
  induction k with
  | zero => intro bs h0 h; exact stop bs (by omega)
  | succ k ih =>
    intro bs h0 h
    by_cases hb : N ≤ bs
    · exact stop bs hb
    · rw [iter_step, double_step hk o n N bs hn hN h0 (by omega) P M Q hP hM]
      exact ih (2 * bs) (by omega) (by omega)
/-- SortStableFunc at a part of a row. -/
theorem sortStable_eq {t : T_api_Norm} (hk : KeyOf t c) (o : Nat) (P M Q : List Int) (hP : P.length = o) (hn : M.length < 1000000000000) :
    m_slices_SortStableFunc_rune_rune_own (P ++ (M ++ Q)) o M.length t = some (P ++ (ssort c M ++ Q)) := by
  obtain ⟨D', T', a', g1, g2, g3, g4⟩ := blocks_loop hk o M.length M.length hn (Nat.le_refl _) P Q hP M.length M [] 0 (Nat.le_refl _) rfl (by omega)
  simp only [List.nil_append, Nat.zero_add] at g1 g4
  rw [show ((0 : Nat) : Int) = 0 from rfl, show ((20 : Nat) : Int) = 20 from rfl] at g1
  unfold m_slices_SortStableFunc_rune_rune_own m_slices_stableCmpFunc_rune_own
  rw [g1, bind_some']
  unfold m_slices_stableCmpFunc_rune_own_K2
  simp only
  have ins := insertion_eq hk o M.length a' M.length (P ++ D') T' Q (by simp; omega) hn (Nat.le_refl _) g3
  rw [← List.append_assoc P D', ins, bind_some', if_pos (by simp [ssort_len])]
  have := double_loop hk o M.length M.length hn (Nat.le_refl _) P M Q hP rfl M.length 20 (by omega) (by omega)
  rw [show P ++ D' ++ (ssort c T' ++ Q) = P ++ (cs c 20 M ++ Q) by rw [← g4]; simp]
  rw [show ((20 : Nat) : Int) = 20 from rfl] at this
  rw [this, bind_some', bind_some', if_pos (by simp [ssort_len])]
set_option maxHeartbeats 1000000
section
variable (c : Int → Int)
/-- Each run of what has a class, sorted. -/
def ordA : List Int → List Int → List Int
  | run, [] => ssort c run
  | run, z :: l => if 0 < c z then ordA (run ++ [z]) l else ssort c run ++ z :: ordA [] l
def ordS (l : List Int) : List Int := ordA c [] l
end
variable {c : Int → Int}
theorem ordA_run : ∀ (run acc rest : List Int), (∀ x ∈ run, 0 < c x) → ordA c acc (run ++ rest) = ordA c (acc ++ run) rest
  | [], acc, rest, _ => by simp
  | x :: run, acc, rest, h => by
    rw [List.cons_append, ordA, if_pos (h x (by simp)), ordA_run run _ _ fun y hy => h y (by simp [hy])]
    simp
theorem ordA_cong : ∀ (l acc acc' : List Int), (∀ v, keyF c v acc = keyF c v acc') → ordA c acc l = ordA c acc' l
  | [], acc, acc', h => ssort_cong h
  | z :: l, acc, acc', h => by
    rw [ordA, ordA, ssort_cong h, ordA_cong l (acc ++ [z]) (acc' ++ [z]) fun v => by rw [keyF_append, keyF_append, h v]]
theorem ord_swap {x y : Int} (h0 : 0 < c y) (h : c y < c x) : ∀ (P Q acc : List Int), ordA c acc (P ++ x :: y :: Q) = ordA c acc (P ++ y :: x :: Q)
  | [], Q, acc => by
    simp only [List.nil_append]
    rw [ordA, if_pos (by omega), ordA, if_pos h0, ordA, if_pos h0, ordA, if_pos (by omega)]
    refine ordA_cong Q _ _ fun v => ?_
    rw [List.append_assoc, List.append_assoc, keyF_append, keyF_append, keyF_append, keyF_append]
    congr 1
    exact key_swap (fun z hz w hw => by simp at hz hw; subst hz; subst hw; omega) v
  | z :: P, Q, acc => by
    simp only [List.cons_append]
    rw [ordA, ordA, ord_swap h0 h P Q, ord_swap h0 h P Q]
/-- No two neighbours must change places. -/
def noBad (c : Int → Int) : List Int → Prop
  | x :: y :: l => ¬ (0 < c y ∧ c y < c x) ∧ noBad c (y :: l)
  | _ => True
theorem ordA_fix : ∀ (l acc : List Int), Srt c acc → (∀ x ∈ acc, ∀ z, l.head? = some z → 0 < c z → c x ≤ c z) → noBad c l → ordA c acc l = acc ++ l
  | [], acc, hs, _, _ => by rw [ordA, ssort_of hs]; simp
  | z :: l, acc, hs, hh, hb => by
    have hb' : noBad c l := by
      cases l with
      | nil => exact True.intro
      | cons w l => exact hb.2
    rw [ordA]
    by_cases hz : 0 < c z
    · rw [if_pos hz, ordA_fix l (acc ++ [z]) ?_ ?_ hb']
      · simp
      · exact Srt.append hs (List.pairwise_singleton _ _) fun x hx y hy => by
          simp at hy; subst hy
          exact hh x hx y rfl hz
      · intro x hx w hw hpos
        cases l with
        | nil => cases hw
        | cons w' l =>
          cases hw
          have h1 := hb.1
          rcases List.mem_append.1 hx with hx | hx
          · have := hh x hx z rfl hz; omega
          · simp at hx; subst hx; omega
    · rw [if_neg hz, ssort_of hs, ordA_fix l [] List.Pairwise.nil (fun x hx => by cases hx) hb']
      rfl
theorem ordS_fix {l : List Int} (h : noBad c l) : ordS c l = l := by
  have := ordA_fix l [] List.Pairwise.nil (fun x hx => by cases hx) h
  simpa [ordS] using this
theorem ordA_len : ∀ (l acc : List Int), (ordA c acc l).length = acc.length + l.length
  | [], acc => by rw [ordA, ssort_len]; rfl
  | z :: l, acc => by
    rw [ordA]
    split
    · rw [ordA_len]; simp; omega
    · rw [List.length_append, ssort_len, List.length_cons, ordA_len]; simp
theorem ordS_len (l : List Int) : (ordS c l).length = l.length := by rw [ordS, ordA_len]; simp
/-! ### The program's -/
/-- What both are told of the class. -/
structure ClsOf (t : T_api_Norm) (c : Int → Int) : Prop where
  prog : ∀ x, m_decomp_Class t x = some (c x)
  ref : ∀ x, m_eponymref04_Class t x = some (c x)
  low : ∀ x, 0 ≤ c x
  high : ∀ x, c x ≤ 999999
theorem ClsOf.key {t : T_api_Norm} (h : ClsOf t c) : KeyOf t c := fun a b => by
  have ha := h.low a
  have hb := h.low b
  have ha' := h.high a
  have hb' := h.high b
  refine ⟨c a - c b, ?_, ?_⟩
  · unfold m_decomp_Order_1
    rw [h.prog, h.prog, bind_some', bind_some', w64 (by omega) (by omega)]
  · exact decide_eq_decide.2 (by omega)
theorem run_loop {t : T_api_Norm} (h : ClsOf t c) (s5 : List Int × Int) (hn : s5.1.length < 1000000000000) : ∀ (T D : List Int), s5.1 = D ++ T →
    ∃ run rest, T = run ++ rest ∧ (∀ x ∈ run, 0 < c x) ∧ (∀ z, rest.head? = some z → ¬ 0 < c z) ∧ iter (m_decomp_Order_L13 t s5) (D.length : Int) = some ((D.length + run.length : Nat) : Int) := by
  intro T
  induction T with
  | nil =>
    intro D hs
    refine ⟨[], [], rfl, fun x hx => (by cases hx), fun z hz => (by cases hz), ?_⟩
    have body : m_decomp_Order_L13 t s5 (D.length : Int) = some (.done (D.length : Int)) := by
      unfold m_decomp_Order_L13 m_decomp_Order_K16
      rw [hs]
      simp
    rw [iter_step, body]
    simp
  | cons z T ih =>
    intro D hs
    have hz : s5.1.getD D.length 0 = z := at_eq hs rfl
    have hlen : D.length < s5.1.length := by rw [hs]; simp
    by_cases hc : 0 < c z
    · obtain ⟨run, rest, h1, h2, h3, h4⟩ := ih (D ++ [z]) (by rw [hs]; simp)
      refine ⟨z :: run, rest, by rw [h1]; rfl, fun x hx => ?_, h3, ?_⟩
      · rcases List.mem_cons.1 hx with rfl | hx
        · exact hc
        · exact h2 x hx
      · have body : m_decomp_Order_L13 t s5 (D.length : Int) = some (.next ((D.length + 1 : Nat) : Int)) := by
          unfold m_decomp_Order_L13 m_decomp_Order_K16
          simp only [decide_eq_true (show (D.length : Int) < (s5.1.length : Int) by omega), cond_true, if_pos (show 0 ≤ (D.length : Int) ∧ (D.length : Int) < (s5.1.length : Int) by omega), pos_toNat, hz, h.prog, bind_some', decide_eq_true (show c z > 0 from hc)]
          rw [up (by omega)]
        rw [iter_step, body]
        simp only
        rw [show (D ++ [z]).length = D.length + 1 by simp] at h4
        rw [h4]
        simp only [List.length_cons]
        congr 2
        omega
    · refine ⟨[], z :: T, rfl, fun x hx => (by cases hx), fun w hw => (by cases hw; exact hc), ?_⟩
      have body : m_decomp_Order_L13 t s5 (D.length : Int) = some (.done (D.length : Int)) := by
        unfold m_decomp_Order_L13 m_decomp_Order_K16
        simp only [decide_eq_true (show (D.length : Int) < (s5.1.length : Int) by omega), cond_true, if_pos (show 0 ≤ (D.length : Int) ∧ (D.length : Int) < (s5.1.length : Int) by omega), pos_toNat, hz, h.prog, bind_some', decide_eq_false (show ¬ c z > 0 from hc), cond_false]
      rw [iter_step, body]
      simp
theorem runs_loop {t : T_api_Norm} (h : ClsOf t c) (N : Nat) (hN : N < 1000000000000) : ∀ (k : Nat) (T D : List Int), T.length ≤ k → (D ++ T).length = N → iter (m_decomp_Order_L6 t) (D ++ T, (D.length : Int)) = some (D ++ ordS c T) := by
  intro k
  have nilcase : ∀ (D : List Int) (i : Nat), D.length = N → N ≤ i → iter (m_decomp_Order_L6 t) (D, (i : Int)) = some D := fun D i hl hi => by
    have body : m_decomp_Order_L6 t (D, (i : Int)) = some (.done D) := by
      unfold m_decomp_Order_L6
      simp only [decide_eq_false (show ¬ (i : Int) < (D.length : Int) by omega), cond_false]
    rw [iter_step, body]
  induction k with
  | zero =>
    intro T D hT hl
    have : T = [] := List.eq_nil_of_length_eq_zero (by omega)
    subst this
    rw [List.append_nil] at hl ⊢
    rw [nilcase D D.length hl (by omega)]
    simp [ordS, ordA, ssort]
  | succ k ih =>
    intro T D hT hl
    by_cases hT0 : T = []
    · subst hT0
      rw [List.append_nil] at hl ⊢
      rw [nilcase D D.length hl (by omega)]
      simp [ordS, ordA, ssort]
    have hpos : 0 < T.length := List.length_pos_iff.2 hT0
    have hlen : (D ++ T).length = D.length + T.length := by simp
    obtain ⟨run, rest, rfl, h2, h3, h4⟩ := run_loop h (D ++ T, (D.length : Int)) (by simp only; omega) T D rfl
    have hlen2 : (run ++ rest).length = run.length + rest.length := by simp
    have so := sortStable_eq h.key D.length D run rest rfl (by omega)
    have body : m_decomp_Order_L6 t (D ++ (run ++ rest), (D.length : Int)) = some (.next (D ++ (ssort c run ++ rest), ((D.length + run.length + 1 : Nat) : Int))) := by
      unfold m_decomp_Order_L6
      simp only [decide_eq_true (show (D.length : Int) < ((D ++ (run ++ rest)).length : Int) by omega), cond_true, h4, bind_some']
      unfold m_decomp_Order_K9
      simp only [pos_toNat]
      rw [if_pos (by omega), show D.length + run.length - D.length = run.length by omega, so, bind_some', if_pos (by simp [ssort_len]), up (by omega)]
    rw [iter_step, body]
    simp only
    cases rest with
    | nil =>
      rw [List.append_nil, List.append_nil]
      rw [nilcase (D ++ ssort c run) _ (by simp [ssort_len] at hl ⊢; omega) (by simp at hl; omega)]
      have e := ordA_run (c := c) run [] [] h2
      simp only [List.append_nil, List.nil_append] at e
      rw [ordS, e, ordA]
    | cons z r =>
      have hz := h3 z rfl
      have := ih r (D ++ ssort c run ++ [z]) (by simp at hT; omega) (by simp [ssort_len] at hl ⊢; omega)
      rw [show (D ++ ssort c run ++ [z]).length = D.length + run.length + 1 by simp [ssort_len]; omega] at this
      rw [show D ++ (ssort c run ++ z :: r) = D ++ ssort c run ++ [z] ++ r by simp, this]
      rw [ordS, ordS, ordA_run run [] (z :: r) h2, List.nil_append, ordA, if_neg hz]
      simp
theorem order_prog {t : T_api_Norm} (h : ClsOf t c) (l : List Int) (hl : l.length < 1000000000) : m_decomp_Order t l = some (ordS c l) := by
  unfold m_decomp_Order m_slices_Clone_rune_rune_own m_slices_Clone_rune_rune_own_som
  rw [if_pos (by omega), bind_some']
  have := runs_loop h l.length (by omega) l.length l [] (Nat.le_refl _) rfl
  simp only [List.nil_append, List.length_nil] at this
  rw [show ((0 : Nat) : Int) = 0 from rfl] at this
  rw [this]; rfl
/-! ### The document's -/
/-- How many pairs stand the other way round. -/
def inv (c : Int → Int) : List Int → Nat
  | [] => 0
  | x :: l => (l.filter fun y => decide (c y < c x)).length + inv c l
theorem inv_swap {x y : Int} (h : c y < c x) : ∀ (P Q : List Int), inv c (P ++ y :: x :: Q) + 1 = inv c (P ++ x :: y :: Q)
  | [], Q => by
    simp only [List.nil_append, inv, List.filter_cons, decide_eq_true h, decide_eq_false (show ¬ c x < c y by omega), if_true, Bool.false_eq_true, if_false, List.length_cons]
    omega
  | z :: P, Q => by
    have ih := inv_swap h P Q
    simp only [List.cons_append, inv, List.filter_append, List.length_append, List.filter_cons]
    have : ((if decide (c y < c z) = true then y :: (if decide (c x < c z) = true then x :: Q.filter (fun w => decide (c w < c z)) else Q.filter (fun w => decide (c w < c z))) else (if decide (c x < c z) = true then x :: Q.filter (fun w => decide (c w < c z)) else Q.filter (fun w => decide (c w < c z)))) : List Int).length = ((if decide (c x < c z) = true then x :: (if decide (c y < c z) = true then y :: Q.filter (fun w => decide (c w < c z)) else Q.filter (fun w => decide (c w < c z))) else (if decide (c y < c z) = true then y :: Q.filter (fun w => decide (c w < c z)) else Q.filter (fun w => decide (c w < c z)))) : List Int).length := by
      by_cases h1 : c y < c z <;> by_cases h2 : c x < c z <;> simp [h1, h2]
    omega
theorem pass_ref {t : T_api_Norm} (h : ClsOf t c) : ∀ (T D : List Int) (x : Int) (ag : Bool), D.length + T.length < 1000000000 →
    ∃ s' ag', iter (m_eponymref04_Order_L9 t) (D ++ x :: T, ag, ((D.length + 1 : Nat) : Int)) = some (s', ag') ∧ s'.length = D.length + 1 + T.length ∧ (∀ acc, ordA c acc s' = ordA c acc (D ++ x :: T)) ∧ inv c s' ≤ inv c (D ++ x :: T) ∧
      (ag' = false → ag = false ∧ s' = D ++ x :: T ∧ noBad c (x :: T)) ∧ (ag' = true → ag = true ∨ inv c s' < inv c (D ++ x :: T)) := by
  intro T
  induction T with
  | nil =>
    intro D x ag hN
    refine ⟨D ++ [x], ag, ?_, by simp, fun _ => rfl, Nat.le_refl _, fun hh => ⟨hh, rfl, True.intro⟩, fun hh => .inl hh⟩
    have body : m_eponymref04_Order_L9 t (D ++ [x], ag, ((D.length + 1 : Nat) : Int)) = some (.done (D ++ [x], ag)) := by
      unfold m_eponymref04_Order_L9
      simp
    rw [iter_step, body]
  | cons y T ih =>
    intro D x ag hN
    simp only [List.length_cons] at hN
    have hlen : (D ++ x :: y :: T).length = D.length + 1 + 1 + T.length := by simp; omega
    have gx : (D ++ x :: y :: T).getD D.length 0 = x := at_eq rfl rfl
    have gy : (D ++ x :: y :: T).getD (D.length + 1) 0 = y := at_eq (P := D ++ [x]) (Q := T) (by simp) (by simp)
    have hd : IntKind.wrap .i64 (((D.length + 1 : Nat) : Int) - 1) = (D.length : Int) := by rw [w64 (by omega) (by omega)]; omega
    have sw := swap_eq (s := D ++ x :: y :: T) (P := D) (Y := []) (Q := T) (x := x) (y := y) (i := D.length) (j := D.length + 1) rfl rfl rfl
    have body : m_eponymref04_Order_L9 t (D ++ x :: y :: T, ag, ((D.length + 1 : Nat) : Int)) = some (.next (if 0 < c y ∧ c y < c x then (D ++ y :: x :: T, true, ((D.length + 1 + 1 : Nat) : Int)) else (D ++ x :: y :: T, ag, ((D.length + 1 + 1 : Nat) : Int)))) := by
      unfold m_eponymref04_Order_L9 m_eponymref04_Order_K14
      simp only [decide_eq_true (show ((D.length + 1 : Nat) : Int) < ((D ++ x :: y :: T).length : Int) by omega), cond_true, hd, pos_toNat, gx, gy, if_pos (show 0 ≤ (D.length : Int) ∧ (D.length : Int) < ((D ++ x :: y :: T).length : Int) by omega), if_pos (show 0 ≤ ((D.length + 1 : Nat) : Int) ∧ ((D.length + 1 : Nat) : Int) < ((D ++ x :: y :: T).length : Int) by omega), h.ref, bind_some']
      rw [show (bif decide (c y > 0) then some (decide (c x > c y)) else some false) = some (decide (c y > 0 ∧ c x > c y)) from and_bif2 _ _, bind_some', up (by omega)]
      by_cases hb : 0 < c y ∧ c y < c x
      · rw [decide_eq_true (show c y > 0 ∧ c x > c y from hb), cond_true, if_pos hb]
        rw [gx, gy] at sw
        rw [sw]
        simp
      · rw [decide_eq_false (show ¬ (c y > 0 ∧ c x > c y) from hb), cond_false, if_neg hb]
    rw [iter_step, body]
    by_cases hb : 0 < c y ∧ c y < c x
    · simp only [if_pos hb]
      obtain ⟨s', ag', g1, g2, g3, g4, g5, g6⟩ := ih (D ++ [y]) x true (by simp; omega)
      have e : D ++ [y] ++ x :: T = D ++ y :: x :: T := by simp
      rw [e, show (D ++ [y]).length = D.length + 1 by simp] at g1
      rw [e] at g3 g4 g6
      have hi := inv_swap hb.2 D T
      refine ⟨s', ag', g1, by rw [g2]; simp; omega, fun acc => by rw [g3 acc, ord_swap hb.1 hb.2], by omega, fun hh => (by obtain ⟨h0, _⟩ := g5 hh; cases h0), fun _ => .inr (by omega)⟩
    · simp only [if_neg hb]
      obtain ⟨s', ag', g1, g2, g3, g4, g5, g6⟩ := ih (D ++ [x]) y ag (by simp; omega)
      have e : D ++ [x] ++ y :: T = D ++ x :: y :: T := by simp
      rw [e, show (D ++ [x]).length = D.length + 1 by simp] at g1
      rw [e] at g3 g4 g5 g6
      refine ⟨s', ag', g1, by rw [g2]; simp; omega, g3, g4, fun hh => ?_, g6⟩
      obtain ⟨h0, h1, h2⟩ := g5 hh
      exact ⟨h0, h1, hb, h2⟩
theorem order_loop {t : T_api_Norm} (h : ClsOf t c) : ∀ (k : Nat) (s : List Int), s.length < 1000000000 → inv c s ≤ k → iter (m_eponymref04_Order_L5 t) (s, true) = some (ordS c s) := by
  intro k
  induction k using Nat.strongRecOn with
  | _ k ih =>
    intro s hs hk
    cases s with
    | nil =>
      have b1 : m_eponymref04_Order_L9 t ([], false, 1) = some (.done ([], false)) := by unfold m_eponymref04_Order_L9; simp
      have b2 : m_eponymref04_Order_L5 t ([], true) = some (.next ([], false)) := by
        unfold m_eponymref04_Order_L5
        simp only [cond_true]
        rw [iter_step, b1]
        rfl
      have b3 : m_eponymref04_Order_L5 t ([], false) = some (.done []) := by unfold m_eponymref04_Order_L5; rfl
      rw [iter_step, b2]
      simp only
      rw [iter_step, b3]
      simp [ordS, ordA, ssort]
    | cons x T =>
      obtain ⟨s', ag', g1, g2, g3, g4, g5, g6⟩ := pass_ref h T [] x false (by simp at hs ⊢; omega)
      simp only [List.nil_append, List.length_nil, Nat.zero_add] at g1 g2 g3 g4 g5 g6
      rw [show ((1 : Nat) : Int) = 1 from rfl] at g1
      have b2 : m_eponymref04_Order_L5 t (x :: T, true) = some (.next (s', ag')) := by
        unfold m_eponymref04_Order_L5
        simp only [cond_true, g1, bind_some']
      rw [iter_step, b2]
      simp only
      cases ag' with
      | false =>
        obtain ⟨_, rfl, hb⟩ := g5 rfl
        have b3 : m_eponymref04_Order_L5 t (x :: T, false) = some (.done (x :: T)) := by unfold m_eponymref04_Order_L5; rfl
        rw [iter_step, b3, ordS_fix hb]
      | true =>
        have hlt := (g6 rfl).resolve_left (by intro hh; cases hh)
        rw [ih (inv c s') (by omega) s' (by simp at hs; omega) (Nat.le_refl _)]
        rw [ordS, ordS, g3 []]
theorem order_ref {t : T_api_Norm} (h : ClsOf t c) (l : List Int) (hl : l.length < 1000000000) : m_eponymref04_Order t l = some (ordS c l) := by
  unfold m_eponymref04_Order
  rw [if_pos (by omega), order_loop h _ l hl (Nat.le_refl _)]
  rfl
set_option maxHeartbeats 1000000
theorem fnd_mem {l : List T_api_Range} {r : Int} : (∃ x ∈ l, fnd l r = (x.f_Value, true) ∧ x.f_Lo ≤ r ∧ r ≤ x.f_Hi) ∨ fnd l r = (0, false) := by
  unfold fnd
  cases h : l.find? (hitR r) with
  | none => exact .inr rfl
  | some x =>
    have h1 := List.mem_of_find?_eq_some h
    have h2 := List.find?_some h
    unfold hitR at h2
    simp only [Bool.and_eq_true, decide_eq_true_eq] at h2
    exact .inl ⟨x, h1, rfl, h2⟩
structure Good (t : T_api_Norm) : Prop where
  r4 : Right04 t
  sound : Sound t
  clen : t.f_Classes.length ≤ 2000
  cord : ordered t.f_Classes
  cmay : ∀ x ∈ t.f_Classes, mayB x = true
  exR : risingL t.f_Excluded
theorem Good.of {t : T_api_Norm} (h : Right04 t) : Good t := by
  have hR := chk_right h.cls
  exact ⟨h, Sound.of h, hR.1, hR.2.1, hR.2.2, ex_rising h.exV⟩
theorem Good.cls {t : T_api_Norm} (g : Good t) : ClsOf t (clsR t) where
  prog x := dclass_eq t x ⟨g.cord, g.clen⟩
  ref x := class_eq t x g.clen
  low x := by
    unfold clsR
    rcases fnd_mem (l := t.f_Classes) (r := x) with ⟨y, hy, e, _⟩ | e
    · rw [e]
      have := g.cmay y hy
      unfold mayB at this
      simp only [Bool.and_eq_true, decide_eq_true_eq] at this
      exact this.1.2
    · rw [e]; exact Int.le_refl _
  high x := by
    unfold clsR
    rcases fnd_mem (l := t.f_Classes) (r := x) with ⟨y, hy, e, _⟩ | e
    · rw [e]
      have := g.cmay y hy
      unfold mayB at this
      simp only [Bool.and_eq_true, decide_eq_true_eq] at this
      exact this.2
    · rw [e]; show (0 : Int) ≤ 999999; omega
/-- A rune's parts. -/
noncomputable def oneL (t : T_api_Norm) (r : Int) : List Int := (m_eponymref04_One t r).getD []
theorem Good.one {t : T_api_Norm} (g : Good t) (r : Int) : (oneL t r).length ≤ 100 ∧ m_decomp_One t r = some (oneL t r) ∧ m_eponymref04_One t r = some (oneL t r) := by
  obtain ⟨l, h1, h2, h3⟩ := ones_eq g.sound r
  have e : oneL t r = l := by unfold oneL; rw [h3]; rfl
  rw [e]
  exact ⟨h1, h2, h3⟩
noncomputable def flatL (t : T_api_Norm) (l : List Int) : List Int := l.flatMap (oneL t)
noncomputable def allS (t : T_api_Norm) (l : List Int) : List Int := ordS (clsR t) (flatL t l)
theorem flat_len {t : T_api_Norm} (g : Good t) : ∀ (l : List Int), (flatL t l).length ≤ 100 * l.length
  | [] => by simp [flatL]
  | x :: l => by
    have h1 := (g.one x).1
    have h2 := flat_len g l
    unfold flatL at h2 ⊢
    rw [List.flatMap_cons, List.length_append, List.length_cons]
    omega
theorem flat_app (t : T_api_Norm) (l m : List Int) : flatL t (l ++ m) = flatL t l ++ flatL t m := by simp [flatL]
theorem flat_snoc (t : T_api_Norm) (l : List Int) (x : Int) : flatL t (l ++ [x]) = flatL t l ++ oneL t x := by simp [flatL]
theorem allS_len {t : T_api_Norm} (g : Good t) (l : List Int) : (allS t l).length ≤ 100 * l.length := by
  unfold allS; rw [ordS_len]; exact flat_len g l
theorem all_prog {t : T_api_Norm} (g : Good t) (l : List Int) (hl : l.length ≤ 100000) : m_decomp_All t l = some (allS t l) := by
  have loop : ∀ (T D : List Int), l = D ++ T → iter (m_decomp_All_L6 t l) (flatL t D, (D.length : Int)) = some (flatL t l) := by
    intro T
    induction T with
    | nil =>
      intro D hD
      rw [List.append_nil] at hD
      subst hD
      have body : m_decomp_All_L6 t l (flatL t l, (l.length : Int)) = some (.done (flatL t l)) := by
        unfold m_decomp_All_L6
        simp
      rw [iter_step, body]
    | cons x T ih =>
      intro D hD
      have hx : l.getD D.length 0 = x := at_eq hD rfl
      have hlen : D.length < l.length := by rw [hD]; simp
      have h1 := flat_len g D
      have h2 := (g.one x).1
      have body : m_decomp_All_L6 t l (flatL t D, (D.length : Int)) = some (.next (flatL t (D ++ [x]), ((D ++ [x]).length : Int))) := by
        unfold m_decomp_All_L6
        simp only [decide_eq_true (show (D.length : Int) < (l.length : Int) by omega), cond_true, if_pos (show 0 ≤ (D.length : Int) ∧ (D.length : Int) < (l.length : Int) by omega), pos_toNat, hx, (g.one x).2.1, bind_some']
        rw [if_pos (by omega), up (by omega), flat_snoc]
        simp
      rw [iter_step, body]
      exact ih (D ++ [x]) (by rw [hD]; simp)
  unfold m_decomp_All
  have := loop l [] rfl
  simp only [List.length_nil] at this
  rw [show flatL t [] = [] from rfl, show ((0 : Nat) : Int) = 0 from rfl] at this
  have hf := flat_len g l
  rw [this, bind_some']
  unfold m_decomp_All_K2
  rw [order_prog g.cls _ (by omega)]
  rfl
theorem all_ref {t : T_api_Norm} (g : Good t) (l : List Int) (hl : l.length ≤ 100000) : m_eponymref04_All t l = some (allS t l) := by
  have loop : ∀ (T D : List Int), l = D ++ T → iter (m_eponymref04_All_L6 t l) (flatL t D, (D.length : Int)) = some (flatL t l) := by
    intro T
    induction T with
    | nil =>
      intro D hD
      rw [List.append_nil] at hD
      subst hD
      have body : m_eponymref04_All_L6 t l (flatL t l, (l.length : Int)) = some (.done (flatL t l)) := by
        unfold m_eponymref04_All_L6
        simp
      rw [iter_step, body]
    | cons x T ih =>
      intro D hD
      have hx : l.getD D.length 0 = x := at_eq hD rfl
      have hlen : D.length < l.length := by rw [hD]; simp
      have h1 := flat_len g D
      have h2 := (g.one x).1
      have body : m_eponymref04_All_L6 t l (flatL t D, (D.length : Int)) = some (.next (flatL t (D ++ [x]), ((D ++ [x]).length : Int))) := by
        unfold m_eponymref04_All_L6
        simp only [decide_eq_true (show (D.length : Int) < (l.length : Int) by omega), cond_true, if_pos (show 0 ≤ (D.length : Int) ∧ (D.length : Int) < (l.length : Int) by omega), pos_toNat, hx, (g.one x).2.2, bind_some']
        rw [if_pos (by omega), up (by omega), flat_snoc]
        simp
      rw [iter_step, body]
      exact ih (D ++ [x]) (by rw [hD]; simp)
  unfold m_eponymref04_All
  have := loop l [] rfl
  simp only [List.length_nil] at this
  rw [show flatL t [] = [] from rfl, show ((0 : Nat) : Int) = 0 from rfl] at this
  have hf := flat_len g l
  rw [this, bind_some']
  unfold m_eponymref04_All_K2
  rw [order_ref g.cls _ (by omega)]
  rfl
/-- A rune without a row stands for itself. -/
theorem one_self {t : T_api_Norm} (g : Good t) {r : Int} (hs : ¬ (44032 ≤ r ∧ r ≤ 55203)) (hr : rowIdx t r = -1) : oneL t r = [r] := by
  unfold oneL m_eponymref04_One
  rw [show (50 : Nat) = 49 + 1 from rfl, m_eponymref04_One_n, if_neg hs, rowIdx_eq t r g.sound.len, hr]
  rfl
theorem demo4_good : Good demo4 := Good.of (chk04_right (by rw [demo4_chk]))
set_option maxHeartbeats 1000000
set_option maxRecDepth 10000
def r32 (x : Int) : Prop := -2147483648 ≤ x ∧ x ≤ 2147483647
def hangF (a b : Int) : Int :=
  if 4352 ≤ a ∧ a ≤ 4370 ∧ 4449 ≤ b ∧ b ≤ 4469 then 44032 + ((a - 4352) * 21 + (b - 4449)) * 28
  else if 44032 ≤ a ∧ a ≤ 55203 ∧ (a - 44032) % 28 = 0 ∧ 4520 ≤ b ∧ b ≤ 4546 then a + b - 4519 else -1
theorem within_eq {r f m : Int} (hr : r32 r) (hf : 0 ≤ f ∧ f ≤ 100000) (hm : 0 ≤ m ∧ m ≤ 100000) : m_comp_within r f m = some (decide (f ≤ r ∧ r < f + m)) := by
  unfold m_comp_within
  unfold r32 at hr
  by_cases h : r ≥ f
  · rw [decide_eq_true h, cond_true, w32 (by omega) (by omega), w64 (by omega) (by omega)]
    congr 1
    exact decide_eq_decide.2 (by omega)
  · rw [decide_eq_false h, cond_false, decide_eq_false (by omega)]
theorem chang_eq {a b : Int} (ha : r32 a) (hb : r32 b) : m_comp_hangul a b = some (if 0 ≤ hangF a b then (hangF a b, true) else (0, false)) := by
  unfold m_comp_hangul m_comp_hangul_K2 m_comp_hangul_K4 m_comp_open
  rw [within_eq ha (by omega) (by omega), within_eq hb (by omega) (by omega), within_eq ha (by omega) (by omega), within_eq hb (by omega) (by omega)]
  simp only [bind_some']
  unfold r32 at ha hb
  by_cases h1 : 4352 ≤ a ∧ a ≤ 4370 ∧ 4449 ≤ b ∧ b ≤ 4469
  · have e : hangF a b = 44032 + ((a - 4352) * 21 + (b - 4449)) * 28 := by unfold hangF; rw [if_pos h1]
    rw [decide_eq_true (show 4352 ≤ a ∧ a < 4352 + 19 by omega), decide_eq_true (show 4449 ≤ b ∧ b < 4449 + 21 by omega)]
    simp only [cond_true, bind_some']
    rw [w32 (x := a - 4352) (by omega) (by omega), w32 (x := (a - 4352) * 21) (by omega) (by omega), w32 (x := (a - 4352) * 21 + b) (by omega) (by omega), w32 (x := (a - 4352) * 21 + b - 4449) (by omega) (by omega), w32 (x := ((a - 4352) * 21 + b - 4449) * 28) (by omega) (by omega), w32 (by omega) (by omega), if_pos (by omega), e]
    congr 2
    omega
  · have k1 : (Option.bind (some (decide (4352 ≤ a ∧ a < 4352 + 19))) fun y7 => bif y7 then Option.bind (some (decide (4449 ≤ b ∧ b < 4449 + 21))) fun y8 => some y8 else some false) = some false := by
      by_cases h : 4352 ≤ a ∧ a < 4352 + 19
      · rw [decide_eq_true h]
        simp only [bind_some', cond_true]
        rw [decide_eq_false (by omega)]
      · rw [decide_eq_false h]; rfl
    simp only [bind_some'] at k1
    rw [k1]
    simp only [bind_some', cond_false]
    by_cases h2 : 44032 ≤ a ∧ a ≤ 55203 ∧ (a - 44032) % 28 = 0 ∧ 4520 ≤ b ∧ b ≤ 4546
    · have e : hangF a b = a + b - 4519 := by unfold hangF; rw [if_neg h1, if_pos h2]
      rw [decide_eq_true (show 44032 ≤ a ∧ a < 44032 + 11172 by omega), decide_eq_true (show 4520 ≤ b ∧ b < 4520 + 27 by omega)]
      simp only [cond_true, bind_some']
      rw [w32 (x := a - 44032) (by omega) (by omega), Int.tmod_eq_emod_of_nonneg (by omega), h2.2.2.1]
      simp only [beq_self_eq_true, cond_true, bind_some']
      rw [w32 (x := a + b) (by omega) (by omega), w32 (by omega) (by omega), if_pos (by omega), e]
    · have e : hangF a b = -1 := by unfold hangF; rw [if_neg h1, if_neg h2]
      rw [if_neg (by omega)]
      by_cases h3 : 44032 ≤ a ∧ a < 44032 + 11172
      · rw [decide_eq_true h3]
        simp only [cond_true, bind_some']
        rw [w32 (x := a - 44032) (by omega) (by omega), Int.tmod_eq_emod_of_nonneg (by omega)]
        by_cases h4 : (a - 44032) % 28 = 0
        · rw [h4, beq_self_eq_true]
          simp only [cond_true, bind_some']
          rw [decide_eq_false (by omega)]
          rfl
        · rw [beq_false_of_ne h4]
          rfl
      · rw [decide_eq_false h3]
        rfl
/-- The row that composes two runes. -/
def rowPair (t : T_api_Norm) (a b : Int) : Option Int := firstSome (fun i => if compB t i = true ∧ (t.f_Rows.getD i d_api_Row).f_To.getD 0 0 = a ∧ (t.f_Rows.getD i d_api_Row).f_To.getD 1 0 = b then some (t.f_Rows.getD i d_api_Row).f_From else none) t.f_Rows.length 0
/-- What two runes compose to; -1: nothing. -/
def pairF (t : T_api_Norm) (a b : Int) : Int := if 0 ≤ hangF a b then hangF a b else (rowPair t a b).getD (-1)
theorem Good.from_pos {t : T_api_Norm} (g : Good t) {i : Nat} (hi : i < t.f_Rows.length) : 0 ≤ (t.f_Rows.getD i d_api_Row).f_From := by
  have h := g.sound.row i hi
  unfold rowE at h
  split at h
  · cases h
  · rename_i h1
    simp only [Bool.or_eq_true, Bool.not_eq_true', not_or, Bool.not_eq_false] at h1
    have := h1.1
    unfold rightB at this
    simp only [Bool.and_eq_true, decide_eq_true_eq] at this
    omega
theorem rowPair_pos {t : T_api_Norm} (g : Good t) {a b x : Int} (h : rowPair t a b = some x) : 0 ≤ x := by
  obtain ⟨j, _, hj, h1, _⟩ := firstSome_some h
  split at h1
  · cases h1; exact g.from_pos (by omega)
  · cases h1
theorem pair_prog {t : T_api_Norm} (g : Good t) {a b : Int} (ha : r32 a) (hb : r32 b) : m_comp_Pair t a b = some (if 0 ≤ pairF t a b then (pairF t a b, true) else (0, false)) := by
  have hn := g.sound.len
  unfold m_comp_Pair
  rw [chang_eq ha hb, bind_some']
  by_cases h : 0 ≤ hangF a b
  · simp only [if_pos h, cond_true]
    have e : pairF t a b = hangF a b := if_pos h
    rw [e, if_pos h]
  · simp only [if_neg h, cond_false]
    have e : pairF t a b = (rowPair t a b).getD (-1) := if_neg h
    rw [e]
    rw [iter_scan t.f_Rows.length (fun i => if compB t i = true ∧ (t.f_Rows.getD i d_api_Row).f_To.getD 0 0 = a ∧ (t.f_Rows.getD i d_api_Row).f_To.getD 1 0 = b then some ((t.f_Rows.getD i d_api_Row).f_From, true) else none) (fun i hi _ => ?_) (fun _ => ?_), bind_some']
    · have hm : firstSome (fun i => if compB t i = true ∧ (t.f_Rows.getD i d_api_Row).f_To.getD 0 0 = a ∧ (t.f_Rows.getD i d_api_Row).f_To.getD 1 0 = b then some ((t.f_Rows.getD i d_api_Row).f_From, true) else none) t.f_Rows.length 0 = (rowPair t a b).map fun x => (x, true) := by
        unfold rowPair
        rw [← firstSome_map]
        refine firstSome_congr fun j _ _ => ?_
        split <;> rfl
      rw [hm]
      cases hp : rowPair t a b with
      | none => rfl
      | some x =>
        have := rowPair_pos g hp
        simp only [Option.map_some, scanX, Option.getD_some, if_pos this]
    · have hto := (rowE_to (g.sound.row i hi)).1
      unfold m_comp_Pair_L6 m_comp_Pair_K9
      rw [decide_eq_true (by omega), cond_true, if_pos ⟨by omega, by omega⟩, pos_toNat]
      by_cases h2 : (t.f_Rows.getD i d_api_Row).f_To.length = 2
      · rw [show ((((t.f_Rows.getD i d_api_Row).f_To.length : Nat) : Int) == 2) = true by rw [h2]; rfl, cond_true, if_pos ⟨by omega, by omega⟩]
        by_cases ea : (t.f_Rows.getD i d_api_Row).f_To.getD 0 0 = a
        · rw [ea, beq_self_eq_true, cond_true, if_pos ⟨by omega, by omega⟩]
          by_cases eb : (t.f_Rows.getD i d_api_Row).f_To.getD 1 0 = b
          · rw [eb, beq_self_eq_true, cond_true, dcomp_eq t i hi hn ⟨g.cord, g.clen⟩ g.r4.exc g.exR]
            simp only [bind_some']
            cases hc : compB t i with
            | true => simp
            | false => simp [up (show i < 9223372036854775807 by omega)]
          · rw [beq_false_of_ne eb, cond_false, bind_some', cond_false, if_neg (fun h => eb h.2.2), up (by omega)]
        · rw [beq_false_of_ne ea, cond_false, bind_some', cond_false, if_neg (fun h => ea h.2.1), up (by omega)]
      · rw [beq_false_of_ne (show (((t.f_Rows.getD i d_api_Row).f_To.length : Nat) : Int) ≠ 2 by omega), cond_false, bind_some', cond_false, if_neg (fun h => h2 (comp_two h.1)), up (by omega)]
    · unfold m_comp_Pair_L6
      rw [decide_eq_false (by omega)]
      rfl
set_option maxHeartbeats 1000000
set_option maxRecDepth 10000
theorem ref_inner {a b : Int} (k : Nat) (hk : k ≤ 18) : iter (m_eponymref05_Pair_L27 a b (44032 + 588 * (k : Int))) 0 = some (if a = 4352 + (k : Int) ∧ 4449 ≤ b ∧ b ≤ 4469 then .inr (44032 + 588 * (k : Int) + 28 * (b - 4449)) else .inl ()) := by
  have e0 : IntKind.wrap .i32 (44032 + 588 * (k : Int) - 44032) = 588 * (k : Int) := by rw [w32 (by omega) (by omega)]; omega
  have e1 : Int.tdiv (588 * (k : Int)) 588 = (k : Int) := by rw [Int.tdiv_eq_ediv_of_nonneg (by omega)]; omega
  rw [iter_scan 21 (fun v => if a = 4352 + (k : Int) ∧ b = 4449 + (v : Int) then some (44032 + 588 * (k : Int) + 28 * (v : Int)) else none) (fun v hv _ => ?_) (fun _ => ?_)]
  · by_cases h : a = 4352 + (k : Int) ∧ 4449 ≤ b ∧ b ≤ 4469
    · rw [if_pos h]
      obtain ⟨v, hv⟩ : ∃ v : Nat, b = 4449 + (v : Int) := ⟨(b - 4449).toNat, by omega⟩
      rw [firstSome_at (j := v) (v := 44032 + 588 * (k : Int) + 28 * (v : Int)) (by omega) (by omega) (by rw [if_pos ⟨h.1, hv⟩]) (fun j _ hj => by rw [if_neg (by omega)])]
      simp only [scanX]
      congr 2
      omega
    · rw [if_neg h, firstSome_none.2 (fun j _ hj => by rw [if_neg (by omega)])]
      rfl
  · unfold m_eponymref05_Pair_L27 m_eponymref05_Pair_K30
    rw [decide_eq_true (by omega), cond_true, e0, e1, w32 (x := (k : Int)) (by omega) (by omega), w32 (x := 4352 + (k : Int)) (by omega) (by omega), w32 (x := 4449 + (v : Int)) (by omega) (by omega), w32 (x := 28 * (v : Int)) (by omega) (by omega), w32 (x := 44032 + 588 * (k : Int) + 28 * (v : Int)) (by omega) (by omega), w32 (x := (v : Int) + 1) (by omega) (by omega)]
    by_cases ea : a = 4352 + (k : Int)
    · rw [← ea, beq_self_eq_true]
      simp only [cond_true, bind_some']
      by_cases eb : b = 4449 + (v : Int)
      · rw [eb, beq_self_eq_true]; simp
      · rw [beq_false_of_ne eb]; simp [eb]
    · rw [beq_false_of_ne ea]
      simp [ea]
  · unfold m_eponymref05_Pair_L27
    rw [decide_eq_false (by omega)]
    rfl
theorem ref_outer {a b : Int} : ∀ (d k : Nat), k + d = 19 → (a < 4352 ∨ 4370 < a ∨ 4352 + (k : Int) ≤ a ∨ ¬ (4449 ≤ b ∧ b ≤ 4469)) →
    iter (m_eponymref05_Pair_L19 a b) (44032 + 588 * (k : Int)) = some (if 4352 ≤ a ∧ a ≤ 4370 ∧ 4449 ≤ b ∧ b ≤ 4469 then .inr (44032 + ((a - 4352) * 21 + (b - 4449)) * 28) else .inl ()) := by
  intro d
  induction d with
  | zero =>
    intro k hk h
    have body : m_eponymref05_Pair_L19 a b (44032 + 588 * (k : Int)) = some (.done (.inl ())) := by
      unfold m_eponymref05_Pair_L19 m_eponymref05_Pair_K22
      rw [decide_eq_false (show ¬ (44032 + 588 * (k : Int) ≤ 55203) by omega)]
      cases decide (a ≥ 4352) <;> cases decide (a ≤ 4370) <;> rfl
    rw [iter_step, body, if_neg (by omega)]
  | succ d ih =>
    intro k hk h
    by_cases hr : 4352 ≤ a ∧ a ≤ 4370
    · have inner := ref_inner (a := a) (b := b) k (by omega)
      have body : m_eponymref05_Pair_L19 a b (44032 + 588 * (k : Int)) = some (if a = 4352 + (k : Int) ∧ 4449 ≤ b ∧ b ≤ 4469 then .done (.inr (44032 + 588 * (k : Int) + 28 * (b - 4449))) else .next (44032 + 588 * ((k + 1 : Nat) : Int))) := by
        unfold m_eponymref05_Pair_L19 m_eponymref05_Pair_K22
        rw [decide_eq_true (show a ≥ 4352 from hr.1), decide_eq_true (show a ≤ 4370 from hr.2), decide_eq_true (show (44032 + 588 * (k : Int) ≤ 55203) by omega)]
        simp only [cond_true, bind_some', inner]
        by_cases hh : a = 4352 + (k : Int) ∧ 4449 ≤ b ∧ b ≤ 4469
        · rw [if_pos hh, if_pos hh]
        · rw [if_neg hh, if_neg hh]
          simp only
          rw [w32 (by omega) (by omega)]
          congr 2
      rw [iter_step, body]
      by_cases hh : a = 4352 + (k : Int) ∧ 4449 ≤ b ∧ b ≤ 4469
      · rw [if_pos hh, if_pos (by omega)]
        simp only
        congr 2
        omega
      · rw [if_neg hh]
        exact ih (k + 1) (by omega) (by omega)
    · have body : m_eponymref05_Pair_L19 a b (44032 + 588 * (k : Int)) = some (.done (.inl ())) := by
        unfold m_eponymref05_Pair_L19 m_eponymref05_Pair_K22
        by_cases h1 : a ≥ 4352
        · rw [decide_eq_true h1, decide_eq_false (show ¬ a ≤ 4370 by omega)]; rfl
        · rw [decide_eq_false h1]; rfl
      rw [iter_step, body, if_neg (by omega)]
theorem pair_ref {t : T_api_Norm} (g : Good t) {a b : Int} (ha : r32 a) (hb : r32 b) : m_eponymref05_Pair t a b = some (pairF t a b) := by
  have hn := g.sound.len
  have he := g.r4.exc
  have hc := g.clen
  unfold m_eponymref05_Pair
  have o := ref_outer (a := a) (b := b) 19 0 rfl (by omega)
  simp only [Int.natCast_zero, Int.mul_zero, Int.add_zero] at o
  rw [o, bind_some']
  by_cases h1 : 4352 ≤ a ∧ a ≤ 4370 ∧ 4449 ≤ b ∧ b ≤ 4469
  · rw [if_pos h1]
    have e : hangF a b = 44032 + ((a - 4352) * 21 + (b - 4449)) * 28 := by unfold hangF; rw [if_pos h1]
    have : pairF t a b = hangF a b := if_pos (by rw [e]; omega)
    rw [this, e]
  · rw [if_neg h1]
    simp only
    unfold m_eponymref05_Pair_K2 m_eponymref05_Pair_K4
    unfold r32 at ha hb
    by_cases h2 : 44032 ≤ a ∧ a ≤ 55203 ∧ (a - 44032) % 28 = 0 ∧ 4520 ≤ b ∧ b ≤ 4546
    · have e : hangF a b = a + b - 4519 := by unfold hangF; rw [if_neg h1, if_pos h2]
      have : pairF t a b = hangF a b := if_pos (by rw [e]; omega)
      rw [this, e, decide_eq_true (show a ≥ 44032 from h2.1), decide_eq_true h2.2.1, w32 (x := a - 44032) (by omega) (by omega), Int.tmod_eq_emod_of_nonneg (by omega), h2.2.2.1, beq_self_eq_true, decide_eq_true (show b ≥ 4520 from h2.2.2.2.1), decide_eq_true h2.2.2.2.2]
      simp only [cond_true, bind_some']
      rw [w32 (x := a + b) (by omega) (by omega), w32 (by omega) (by omega)]
    · have e : hangF a b = -1 := by unfold hangF; rw [if_neg h1, if_neg h2]
      have : pairF t a b = (rowPair t a b).getD (-1) := if_neg (by rw [e]; omega)
      rw [this]
      have k1 : (bif decide (a ≥ 44032) then bif decide (a ≤ 55203) then bif (Int.tmod (IntKind.wrap .i32 (a - 44032)) 28 == 0) then bif decide (b ≥ 4520) then some (decide (b ≤ 4546)) else some false else some false else some false else some false) = some false := by
        by_cases g1 : a ≥ 44032
        · rw [decide_eq_true g1, cond_true]
          by_cases g2 : a ≤ 55203
          · rw [decide_eq_true g2, cond_true, w32 (x := a - 44032) (by omega) (by omega), Int.tmod_eq_emod_of_nonneg (by omega)]
            by_cases g3 : (a - 44032) % 28 = 0
            · rw [g3, beq_self_eq_true, cond_true]
              by_cases g4 : b ≥ 4520
              · rw [decide_eq_true g4, cond_true, decide_eq_false (by omega)]
              · rw [decide_eq_false g4]; rfl
            · rw [beq_false_of_ne g3]; rfl
          · rw [decide_eq_false g2]; rfl
        · rw [decide_eq_false g1]; rfl
      rw [k1, bind_some', cond_false]
      rw [iter_scan t.f_Rows.length (fun i => if compB t i = true ∧ (t.f_Rows.getD i d_api_Row).f_To.getD 0 0 = a ∧ (t.f_Rows.getD i d_api_Row).f_To.getD 1 0 = b then some (t.f_Rows.getD i d_api_Row).f_From else none) (fun i hi _ => ?_) (fun _ => ?_), bind_some']
      · unfold rowPair
        cases firstSome (fun i => if compB t i = true ∧ (t.f_Rows.getD i d_api_Row).f_To.getD 0 0 = a ∧ (t.f_Rows.getD i d_api_Row).f_To.getD 1 0 = b then some (t.f_Rows.getD i d_api_Row).f_From else none) t.f_Rows.length 0 <;> rfl
      · unfold m_eponymref05_Pair_L9 m_eponymref05_Pair_K12
        rw [decide_eq_true (by omega), cond_true, comp_eq t i hi hn he hc, pos_toNat]
        simp only [bind_some']
        cases hcb : compB t i with
        | false =>
          simp only [cond_false, bind_some']
          rw [if_neg (fun h => by cases h.1), up (by omega)]
        | true =>
          have hto := comp_two hcb
          simp only [cond_true, bind_some']
          rw [if_pos ⟨by omega, by omega⟩, if_pos ⟨by omega, by omega⟩]
          by_cases ea : (t.f_Rows.getD i d_api_Row).f_To.getD 0 0 = a
          · rw [ea, beq_self_eq_true, cond_true, if_pos ⟨by omega, by omega⟩, if_pos ⟨by omega, by omega⟩, bind_some']
            by_cases eb : (t.f_Rows.getD i d_api_Row).f_To.getD 1 0 = b
            · rw [eb, beq_self_eq_true, cond_true, if_pos ⟨by omega, by omega⟩]
              simp
            · rw [beq_false_of_ne eb, cond_false, if_neg (fun h => eb h.2.2), up (by omega)]
          · rw [beq_false_of_ne ea, cond_false, bind_some', cond_false, if_neg (fun h => ea h.2.1), up (by omega)]
      · unfold m_eponymref05_Pair_L9
        rw [decide_eq_false (by omega)]
        rfl

set_option maxHeartbeats 1000000
/-- What was put together so far: all ahead of the last rune of class 0; that one; what stands behind it. -/
structure PS where
  done : List Int
  st : Option Int
  mid : List Int
def psOut (s : PS) : List Int := s.done ++ (s.st.toList ++ s.mid)
def psAdd (t : T_api_Norm) (s : PS) (r : Int) : PS := if clsR t r = 0 then ⟨psOut s, some r, []⟩ else ⟨s.done, s.st, s.mid ++ [r]⟩
def psStep (t : T_api_Norm) (s : PS) (r : Int) : PS :=
  match s.st with
  | some z => if (∀ x ∈ s.mid, clsR t x < clsR t r) ∧ 0 ≤ pairF t z r then ⟨s.done, some (pairF t z r), s.mid⟩ else psAdd t s r
  | none => psAdd t s r
def ps0 : PS := ⟨[], none, []⟩
def putS (t : T_api_Norm) (l : List Int) : List Int := psOut (l.foldl (psStep t) ps0)
structure PSok (t : T_api_Norm) (s : PS) : Prop where
  st : ∀ z, s.st = some z → clsR t z = 0
  mid : ∀ x ∈ s.mid, 0 < clsR t x
  none : s.st = none → s.done = []
  rng : ∀ x ∈ psOut s, r32 x
/-- A composed rune has class 0, and may be. -/
theorem fnd_hang {t : T_api_Norm} (g : Good t) {x : Int} (h : hangB x = true) : clsR t x = 0 := by
  unfold clsR
  rcases fnd_mem (l := t.f_Classes) (r := x) with ⟨y, hy, e, h1, h2⟩ | e
  · exfalso
    obtain ⟨i, hi, rfl⟩ := List.getElem_of_mem hy
    have hv := g.r4.clsV i hi
    unfold clsF at hv
    have eg : t.f_Classes.getD i d_api_Range = t.f_Classes[i] := by simp [List.getD_eq_getElem?_getD, hi]
    rw [eg] at hv
    split at hv
    · cases hv
    · rename_i hn
      apply hn
      refine .inr (.inr ?_)
      unfold hangIn
      unfold hangB at h
      simp only [Bool.and_eq_true, Bool.or_eq_true, decide_eq_true_eq] at h ⊢
      refine ⟨by omega, ?_⟩
      rcases h with h | h | h | h
      · exact .inl ⟨by omega, by omega⟩
      · exact .inr (.inl ⟨by omega, by omega⟩)
      · exact .inr (.inr (.inl ⟨by omega, by omega⟩))
      · exact .inr (.inr (.inr ⟨by omega, by omega⟩))
  · rw [e]
theorem compB_cls {t : T_api_Norm} {i : Nat} (h : compB t i = true) : clsR t (t.f_Rows.getD i d_api_Row).f_From = 0 ∧ clsR t ((t.f_Rows.getD i d_api_Row).f_To.getD 0 0) = 0 := by
  unfold compB at h
  simp only [Bool.and_eq_true, beq_iff_eq] at h
  exact ⟨h.1.2, h.2⟩
theorem from_right {t : T_api_Norm} (g : Good t) {i : Nat} (hi : i < t.f_Rows.length) : rightB (t.f_Rows.getD i d_api_Row).f_From = true ∧ hangB (t.f_Rows.getD i d_api_Row).f_From = false := by
  have h := g.sound.row i hi
  unfold rowE at h
  split at h
  · cases h
  · rename_i h1
    simp only [Bool.or_eq_true, Bool.not_eq_true', not_or, Bool.not_eq_false] at h1
    exact ⟨h1.1, by simpa using h1.2⟩
theorem right_r32 {x : Int} (h : rightB x = true) : r32 x := by
  unfold rightB at h
  simp only [Bool.and_eq_true, decide_eq_true_eq] at h
  unfold r32
  omega
theorem pairF_ok {t : T_api_Norm} (g : Good t) {a b : Int} (h : 0 ≤ pairF t a b) : clsR t (pairF t a b) = 0 ∧ r32 (pairF t a b) := by
  by_cases hh : 0 ≤ hangF a b
  · have e : pairF t a b = hangF a b := if_pos hh
    rw [e]
    have hb : 44032 ≤ hangF a b ∧ hangF a b ≤ 55203 := by
      unfold hangF at hh ⊢
      split
      · omega
      · split
        · omega
        · rename_i h1 h2; rw [if_neg h1, if_neg h2] at hh; omega
    refine ⟨fnd_hang g ?_, by unfold r32; omega⟩
    unfold hangB
    rw [decide_eq_true (show hangF a b ≥ 44032 from hb.1), decide_eq_true hb.2]
    rfl
  · have e : pairF t a b = (rowPair t a b).getD (-1) := if_neg hh
    rw [e] at h ⊢
    cases hp : rowPair t a b with
    | none => rw [hp] at h; simp at h
    | some x =>
      obtain ⟨j, _, hj, h1, _⟩ := firstSome_some hp
      split at h1
      · rename_i hc
        cases h1
        exact ⟨(compB_cls hc.1).1, right_r32 (from_right g (by omega)).1⟩
      · cases h1
theorem psAdd_out (t : T_api_Norm) (s : PS) (r : Int) : psOut (psAdd t s r) = psOut s ++ [r] := by
  unfold psAdd
  split
  · simp [psOut]
  · simp [psOut]
theorem psStep_ok {t : T_api_Norm} (g : Good t) {s : PS} (h : PSok t s) {r : Int} (hr : r32 r) : PSok t (psStep t s r) := by
  have hl := g.cls.low r
  have add : PSok t (psAdd t s r) := by
    have ho := psAdd_out t s r
    refine ⟨?_, ?_, ?_, fun x hx => ?_⟩
    · unfold psAdd
      split
      · intro z hz; cases hz; assumption
      · exact h.st
    · unfold psAdd
      split
      · intro x hx; cases hx
      · intro x hx
        rcases List.mem_append.1 hx with hx | hx
        · exact h.mid x hx
        · simp at hx; subst hx; omega
    · unfold psAdd
      split
      · intro hx; cases hx
      · exact h.none
    · rw [ho] at hx
      rcases List.mem_append.1 hx with hx | hx
      · exact h.rng x hx
      · simp at hx; subst hx; exact hr
  unfold psStep
  split
  · rename_i z hz
    split
    · rename_i hc
      obtain ⟨p1, p2⟩ := pairF_ok g hc.2
      refine ⟨fun w hw => (by cases hw; exact p1), h.mid, fun hx => (by cases hx), fun x hx => ?_⟩
      simp only [psOut, Option.toList_some, List.mem_append, List.mem_singleton] at hx
      rcases hx with hx | rfl | hx
      · exact h.rng x (by simp [psOut, hx])
      · exact p2
      · exact h.rng x (by simp [psOut, hx])
    · exact add
  · exact add
theorem ps0_ok (t : T_api_Norm) : PSok t ps0 := ⟨fun z hz => (by cases hz), fun x hx => (by cases hx), fun _ => rfl, fun x hx => (by simp [psOut, ps0] at hx)⟩
theorem psStep_len (t : T_api_Norm) (s : PS) (r : Int) : (psOut (psStep t s r)).length ≤ (psOut s).length + 1 := by
  unfold psStep
  split
  · rename_i z hz
    split
    · simp [psOut, hz]
    · rw [psAdd_out]; simp
  · rw [psAdd_out]; simp
/-! ### The program's -/
def atOf (s : PS) : Int := match s.st with | some _ => (s.done.length : Int) | none => -1
def maxC (c : Int → Int) (l : List Int) : Int := l.foldl (fun m x => max m (c x)) 0
theorem maxC_snoc (c : Int → Int) (l : List Int) (x : Int) : maxC c (l ++ [x]) = max (maxC c l) (c x) := by simp [maxC]
theorem maxC_lt {c : Int → Int} {v : Int} : ∀ (l : List Int) (m : Int), l.foldl (fun m x => max m (c x)) m < v ↔ m < v ∧ ∀ x ∈ l, c x < v
  | [], m => by simp
  | y :: l, m => by
    rw [List.foldl_cons, maxC_lt l]
    simp only [List.mem_cons, forall_eq_or_imp]
    exact ⟨fun ⟨h1, h2⟩ => ⟨by omega, by omega, h2⟩, fun ⟨h1, h2, h3⟩ => ⟨by omega, h3⟩⟩
theorem add_eq {t : T_api_Norm} (g : Good t) {s : PS} (h : PSok t s) {r : Int} (hr : r32 r) (hlen : (psOut s).length < 1000000) :
    m_comp_row_add_own t.f_Rows t.f_Classes t.f_Excluded (psOut s) (atOf s) (maxC (clsR t) s.mid) r = some (t.f_Rows, t.f_Classes, t.f_Excluded, psOut (psStep t s r), atOf (psStep t s r), maxC (clsR t) (psStep t s r).mid) := by
  have hl := g.cls.low r
  have addc : m_comp_row_add_own_K3 t.f_Rows t.f_Classes t.f_Excluded (psOut s) (atOf s) (maxC (clsR t) s.mid) r (clsR t r) () = some (t.f_Rows, t.f_Classes, t.f_Excluded, psOut (psAdd t s r), atOf (psAdd t s r), maxC (clsR t) (psAdd t s r).mid) := by
    unfold m_comp_row_add_own_K3
    rw [if_pos (by omega), psAdd_out]
    by_cases h0 : clsR t r = 0
    · rw [h0, beq_self_eq_true, cond_true]
      have e : psAdd t s r = ⟨psOut s, some r, []⟩ := if_pos h0
      rw [e, w64 (by omega) (by omega)]
      simp [atOf, maxC]
    · rw [beq_false_of_ne h0, cond_false]
      have e : psAdd t s r = ⟨s.done, s.st, s.mid ++ [r]⟩ := if_neg h0
      rw [e]
      simp only [maxC_snoc]
      rfl
  unfold m_comp_row_add_own
  rw [g.cls.prog, bind_some']
  cases hst : s.st with
  | none =>
    have ha : atOf s = -1 := by unfold atOf; rw [hst]
    have es : psStep t s r = psAdd t s r := by unfold psStep; rw [hst]
    rw [ha, decide_eq_false (by omega), cond_false, bind_some']
    unfold m_comp_row_add_own_K5
    rw [cond_false, bind_some', es, ← ha]
    exact addc
  | some z =>
    have ha : atOf s = (s.done.length : Int) := by unfold atOf; rw [hst]
    have ho : psOut s = s.done ++ z :: s.mid := by simp [psOut, hst]
    have hlo : (psOut s).length = s.done.length + 1 + s.mid.length := by rw [ho]; simp; omega
    have hz : (psOut s).getD s.done.length 0 = z := at_eq ho rfl
    have hzr : r32 z := h.rng z (by rw [ho]; simp)
    have cond : (bif (((psOut s).length : Int) == IntKind.wrap .i64 (atOf s + 1)) then some true else some (decide (maxC (clsR t) s.mid < clsR t r))) = some (decide (∀ x ∈ s.mid, clsR t x < clsR t r)) := by
      rw [ha, w64 (by omega) (by omega)]
      by_cases hm : s.mid = []
      · rw [show (((psOut s).length : Int) == (s.done.length : Int) + 1) = true by rw [hlo, hm]; simp, cond_true, decide_eq_true (by rw [hm]; intro x hx; cases hx)]
      · have : 0 < s.mid.length := List.length_pos_iff.2 hm
        rw [beq_false_of_ne (by omega), cond_false]
        congr 1
        refine decide_eq_decide.2 ?_
        unfold maxC
        rw [maxC_lt]
        refine ⟨fun hh => hh.2, fun hh => ⟨?_, hh⟩⟩
        obtain ⟨x, hx⟩ := List.exists_mem_of_ne_nil _ hm
        have h1 := hh x hx
        have h2 := h.mid x hx
        omega
    rw [decide_eq_true (show atOf s ≥ 0 by omega), cond_true, cond]
    unfold m_comp_row_add_own_K5
    simp only [bind_some']
    by_cases hmid : ∀ x ∈ s.mid, clsR t x < clsR t r
    · rw [decide_eq_true hmid, cond_true, if_pos ⟨by omega, by omega⟩, ha, pos_toNat, hz, pair_prog g hzr hr, bind_some']
      by_cases hp : 0 ≤ pairF t z r
      · have es : psStep t s r = ⟨s.done, some (pairF t z r), s.mid⟩ := by unfold psStep; rw [hst]; exact if_pos ⟨hmid, hp⟩
        simp only [if_pos hp, cond_true]
        rw [if_pos ⟨by omega, by omega⟩, bind_some', es]
        have e2 : (psOut s).set s.done.length (pairF t z r) = s.done ++ pairF t z r :: s.mid := by
          rw [ho]
          simp
        rw [e2]
        simp [psOut, atOf]
      · have es : psStep t s r = psAdd t s r := by unfold psStep; rw [hst]; exact if_neg (fun hh => hp hh.2)
        simp only [if_neg hp, cond_false, bind_some']
        rw [es, ← ha]
        exact addc
    · have es : psStep t s r = psAdd t s r := by unfold psStep; rw [hst]; exact if_neg (fun hh => hmid hh.1)
      rw [decide_eq_false hmid, cond_false, bind_some', es]
      exact addc
theorem put_prog {t : T_api_Norm} (g : Good t) (l : List Int) (hl : l.length ≤ 100000) (hr : ∀ x ∈ l, r32 x) : m_comp_Put t l = some (putS t l) := by
  have loop : ∀ (T D : List Int) (s : PS), l = D ++ T → PSok t s → (psOut s).length ≤ D.length →
      iter (m_comp_Put_L5 l) (t.f_Rows, t.f_Classes, t.f_Excluded, psOut s, atOf s, maxC (clsR t) s.mid, (D.length : Int)) = some (t.f_Rows, t.f_Classes, t.f_Excluded, psOut (T.foldl (psStep t) s), atOf (T.foldl (psStep t) s), maxC (clsR t) (T.foldl (psStep t) s).mid) := by
    intro T
    induction T with
    | nil =>
      intro D s hD hs hlen
      rw [List.append_nil] at hD
      subst hD
      have body : m_comp_Put_L5 l (t.f_Rows, t.f_Classes, t.f_Excluded, psOut s, atOf s, maxC (clsR t) s.mid, (l.length : Int)) = some (.done (t.f_Rows, t.f_Classes, t.f_Excluded, psOut s, atOf s, maxC (clsR t) s.mid)) := by
        unfold m_comp_Put_L5
        simp
      rw [iter_step, body]
      rfl
    | cons x T ih =>
      intro D s hD hs hlen
      have hx : l.getD D.length 0 = x := at_eq hD rfl
      have hll : D.length < l.length := by rw [hD]; simp
      have hxr : r32 x := hr x (by rw [hD]; simp)
      have body : m_comp_Put_L5 l (t.f_Rows, t.f_Classes, t.f_Excluded, psOut s, atOf s, maxC (clsR t) s.mid, (D.length : Int)) = some (.next (t.f_Rows, t.f_Classes, t.f_Excluded, psOut (psStep t s x), atOf (psStep t s x), maxC (clsR t) (psStep t s x).mid, ((D ++ [x]).length : Int))) := by
        unfold m_comp_Put_L5
        simp only [decide_eq_true (show (D.length : Int) < (l.length : Int) by omega), cond_true, if_pos (show 0 ≤ (D.length : Int) ∧ (D.length : Int) < (l.length : Int) by omega), pos_toNat, hx]
        rw [add_eq g hs hxr (by omega), bind_some', up (by omega)]
        simp
      rw [iter_step, body]
      have := psStep_len t s x
      exact ih (D ++ [x]) (psStep t s x) (by rw [hD]; simp) (psStep_ok g hs hxr) (by simp; omega)
  unfold m_comp_Put
  have := loop l [] ps0 rfl (ps0_ok t) (by simp [psOut, ps0])
  simp only [List.length_nil] at this
  rw [show psOut ps0 = [] from rfl, show atOf ps0 = -1 from rfl, show maxC (clsR t) ps0.mid = 0 from rfl, show ((0 : Nat) : Int) = 0 from rfl] at this
  rw [this]
  rfl
set_option maxHeartbeats 1000000
theorem ord_mem {c : Int → Int} : ∀ (l acc : List Int) (x : Int), x ∈ ordA c acc l ↔ x ∈ acc ∨ x ∈ l
  | [], acc, x => by simp [ordA, ssort_mem]
  | z :: l, acc, x => by
    rw [ordA]
    split
    · rw [ord_mem l]; simp [or_assoc]
    · rw [List.mem_append, ssort_mem, List.mem_cons, ord_mem l]; simp
theorem one_n_r32 {t : T_api_Norm} (g : Good t) : ∀ (k : Nat) (r : Int) (l : List Int), r32 r → m_eponymref04_One_n t k r = some l → ∀ x ∈ l, r32 x := by
  intro k
  induction k with
  | zero => intro r l hr h; cases h
  | succ k ih =>
    intro r l hr h
    rw [m_eponymref04_One_n] at h
    split at h
    · rename_i hs
      cases h
      intro x hx
      unfold r32
      split at hx
      · simp at hx; omega
      · simp at hx; omega
    · rw [rowIdx_eq t r g.sound.len, bind_some'] at h
      split at h
      · cases h
        intro x hx
        simp at hx
        subst hx
        exact hr
      · split at h
        · split at h
          · rename_i h1 h2 h3
            have hi : (rowIdx t r).toNat < t.f_Rows.length := by omega
            have hto := rowE_to (g.sound.row _ hi)
            have ok : ∀ j, j < (t.f_Rows.getD (rowIdx t r).toNat d_api_Row).f_To.length → r32 ((t.f_Rows.getD (rowIdx t r).toNat d_api_Row).f_To.getD j 0) := fun j hj => by
              have := List.any_eq_false.1 hto.2.2.1 _ (getD_mem (d := (0 : Int)) hj)
              exact right_range (by simpa using this)
            cases hp : m_eponymref04_One_n t k ((t.f_Rows.getD (rowIdx t r).toNat d_api_Row).f_To.getD 0 0) with
            | none => rw [hp] at h; cases h
            | some out =>
              rw [hp, bind_some'] at h
              have h4 := ih _ out (ok 0 h3) hp
              split at h
              · split at h
                · cases h
                  intro x hx
                  rcases List.mem_append.1 hx with hx | hx
                  · exact h4 x hx
                  · simp at hx; subst hx; rw [← List.getD_eq_getElem?_getD]; exact ok 1 (by omega)
                · cases h
              · cases h; exact h4
          · cases h
        · cases h
theorem one_r32 {t : T_api_Norm} (g : Good t) {r : Int} (hr : r32 r) : ∀ x ∈ oneL t r, r32 x := one_n_r32 g 50 r _ hr (g.one r).2.2
theorem allS_r32 {t : T_api_Norm} (g : Good t) {l : List Int} (hr : ∀ x ∈ l, r32 x) : ∀ x ∈ allS t l, r32 x := fun x hx => by
  unfold allS ordS at hx
  rw [ord_mem] at hx
  simp only [List.not_mem_nil, false_or] at hx
  obtain ⟨y, hy, hxy⟩ := List.mem_flatMap.1 hx
  exact one_r32 g (hr y hy) x hxy
/-- The composed form. -/
noncomputable def compS (t : T_api_Norm) (l : List Int) : List Int := putS t (allS t l)
theorem comp_all_prog {t : T_api_Norm} (g : Good t) (l : List Int) (hl : l.length ≤ 1000) (hr : ∀ x ∈ l, r32 x) : m_comp_All t l = some (compS t l) := by
  have := allS_len g l
  unfold m_comp_All compS
  rw [all_prog g l (by omega), bind_some', put_prog g _ (by omega) (allS_r32 g hr)]
  rfl
theorem putS_len (t : T_api_Norm) (l : List Int) : (putS t l).length ≤ l.length := by
  have key : ∀ (l : List Int) (s : PS), (psOut (l.foldl (psStep t) s)).length ≤ (psOut s).length + l.length := by
    intro l
    induction l with
    | nil => intro s; simp
    | cons x l ih =>
      intro s
      have h1 := ih (psStep t s x)
      have h2 := psStep_len t s x
      simp only [List.foldl_cons, List.length_cons]
      omega
  have := key l ps0
  simpa [putS, psOut, ps0] using this
theorem compS_len {t : T_api_Norm} (g : Good t) (l : List Int) : (compS t l).length ≤ 100 * l.length := Nat.le_trans (putS_len t _) (allS_len g l)
/-! ### What is awake -/
theorem demo_comp1 : compS demo4 [101, 769] = [233] := by
  have e : flatL demo4 [101, 769] = [101, 769] := by
    unfold flatL
    simp only [List.flatMap_cons, List.flatMap_nil]
    rw [one_self demo4_good (by omega) (by decide), one_self demo4_good (by omega) (by decide)]
    rfl
  unfold compS allS
  rw [e]
  decide
theorem demo_comp2 : compS demo4 [4352, 4449, 4520] = [44033] := by
  have e : flatL demo4 [4352, 4449, 4520] = [4352, 4449, 4520] := by
    unfold flatL
    simp only [List.flatMap_cons, List.flatMap_nil]
    rw [one_self demo4_good (by omega) (by decide), one_self demo4_good (by omega) (by decide), one_self demo4_good (by omega) (by decide)]
    rfl
  unfold compS allS
  rw [e]
  decide
theorem awake05 : m_eponymlaw05_awake = some true := by
  have e : m_eponymlaw05_awake = Option.bind (m_comp_All demo4 [101, 769]) fun y1 => Option.bind (m_eponymlaw01_Same y1 [233]) fun y2 => bif y2 then Option.bind (m_comp_All demo4 [4352, 4449, 4520]) fun y3 => Option.bind (m_eponymlaw01_Same y3 [44033]) fun y4 => some y4 else some false := rfl
  rw [e, comp_all_prog demo4_good _ (by decide) (by intro x hx; simp at hx; unfold r32; omega), comp_all_prog demo4_good _ (by decide) (by intro x hx; simp at hx; unfold r32; omega), demo_comp1, demo_comp2]
  simp only [bind_some']
  rw [same_eq _ _ (by decide), same_eq _ _ (by decide)]
  rfl

set_option maxHeartbeats 1000000
/-- Back over what has a class. -/
theorem back_loop {t : T_api_Norm} (g : Good t) (s5 : List Int × Int) (A : List Int) (hlen : s5.1.length < 1000000) (hA : ∀ z, A.getLast? = some z → ¬ 0 < clsR t z) : ∀ (k : Nat) (M R : List Int), M.length = k → (∀ x ∈ M, 0 < clsR t x) → s5.1 = A ++ (M ++ R) →
    iter (m_eponymref05_Put_L28 t s5) ((A.length : Int) + (k : Int) - 1) = some ((A.length : Int) - 1) := by
  intro k
  induction k with
  | zero =>
    intro M R hM hp hs
    have : M = [] := List.eq_nil_of_length_eq_zero hM
    subst this
    have body : m_eponymref05_Put_L28 t s5 ((A.length : Int) - 1) = some (.done ((A.length : Int) - 1)) := by
      unfold m_eponymref05_Put_L28 m_eponymref05_Put_K31
      cases h : A.getLast? with
      | none =>
        rw [List.getLast?_eq_none_iff] at h
        subst h
        rfl
      | some z =>
        obtain ⟨A', rfl⟩ := List.getLast?_eq_some_iff.1 h
        have hz := hA z h
        have e : (((A' ++ [z]).length : Nat) : Int) - 1 = (A'.length : Int) := by simp
        have gz : s5.1.getD A'.length 0 = z := at_eq (P := A') (Q := R) (by rw [hs]; simp) rfl
        have hl : A'.length < s5.1.length := by rw [hs]; simp
        rw [e, decide_eq_true (by omega), cond_true, if_pos ⟨by omega, by omega⟩, pos_toNat, gz, g.cls.ref, bind_some', decide_eq_false hz, bind_some', cond_false]
    have e : (A.length : Int) + ((0 : Nat) : Int) - 1 = (A.length : Int) - 1 := by omega
    rw [e, iter_step, body]
  | succ k ih =>
    intro M R hM hp hs
    obtain ⟨M', x, rfl⟩ : ∃ M' x, M = M' ++ [x] := by
      cases h : M.getLast? with
      | none => rw [List.getLast?_eq_none_iff] at h; subst h; simp at hM
      | some x => obtain ⟨L', rfl⟩ := List.getLast?_eq_some_iff.1 h; exact ⟨L', x, rfl⟩
    have hM' : M'.length = k := by simpa using hM
    have e : (A.length : Int) + ((k + 1 : Nat) : Int) - 1 = ((A.length + k : Nat) : Int) := by omega
    have gx : s5.1.getD (A.length + k) 0 = x := at_eq (P := A ++ M') (Q := R) (by rw [hs]; simp) (by simp; omega)
    have hl : A.length + k < s5.1.length := by rw [hs]; simp; omega
    have body : m_eponymref05_Put_L28 t s5 ((A.length + k : Nat) : Int) = some (.next ((A.length : Int) + (k : Int) - 1)) := by
      unfold m_eponymref05_Put_L28 m_eponymref05_Put_K31
      rw [decide_eq_true (by omega), cond_true, if_pos ⟨by omega, by omega⟩, pos_toNat, gx, g.cls.ref, bind_some', decide_eq_true (show clsR t x > 0 from hp x (by simp)), bind_some', cond_true, w64 (by omega) (by omega)]
      congr 2
    rw [e, iter_step, body]
    exact ih M' ([x] ++ R) hM' (fun y hy => hp y (by simp [hy])) (by rw [hs]; simp)
/-- Is each behind it of a lesser class? -/
theorem tried_loop {t : T_api_Norm} (g : Good t) (l : List Int) (s5 : List Int × Int) (r : Int) (i : Nat) (hi : s5.2 = (i : Int)) (hil : i < l.length) (hr : l.getD i 0 = r) (hl : l.length < 1000000) (hlen : s5.1.length < 1000000) : ∀ (M A : List Int), s5.1 = A ++ M →
    iter (m_eponymref05_Put_L19 t l s5) (true, (A.length : Int)) = some (decide (∀ x ∈ M, clsR t x < clsR t r)) := by
  have stop : ∀ k : Int, iter (m_eponymref05_Put_L19 t l s5) (false, k) = some false := fun k => by
    have body : m_eponymref05_Put_L19 t l s5 (false, k) = some (.done false) := rfl
    rw [iter_step, body]
  intro M
  induction M with
  | nil =>
    intro A hs
    have body : m_eponymref05_Put_L19 t l s5 (true, (A.length : Int)) = some (.done true) := by
      unfold m_eponymref05_Put_L19 m_eponymref05_Put_K22
      rw [hs]
      simp
    rw [iter_step, body]
    simp
  | cons x M ih =>
    intro A hs
    have gx : s5.1.getD A.length 0 = x := at_eq hs rfl
    have hl2 : A.length < s5.1.length := by rw [hs]; simp
    have body : m_eponymref05_Put_L19 t l s5 (true, (A.length : Int)) = some (.next (decide (clsR t x < clsR t r), ((A.length + 1 : Nat) : Int))) := by
      unfold m_eponymref05_Put_L19 m_eponymref05_Put_K22
      simp only [cond_true, decide_eq_true (show (A.length : Int) < (s5.1.length : Int) by omega), bind_some', if_pos (show 0 ≤ (A.length : Int) ∧ (A.length : Int) < (s5.1.length : Int) by omega), pos_toNat, gx, g.cls.ref, hi, if_pos (show 0 ≤ (i : Int) ∧ (i : Int) < (l.length : Int) by omega), hr]
      rw [up (by omega)]
      by_cases hc : clsR t x < clsR t r
      · rw [decide_eq_false (show ¬ clsR t x ≥ clsR t r by omega), cond_false, decide_eq_true hc]
      · rw [decide_eq_true (show clsR t x ≥ clsR t r by omega), cond_true, decide_eq_false hc]
    rw [iter_step, body]
    by_cases hc : clsR t x < clsR t r
    · rw [decide_eq_true hc]
      have := ih (A ++ [x]) (by rw [hs]; simp)
      rw [show (A ++ [x]).length = A.length + 1 by simp] at this
      simp only
      rw [this]
      congr 1
      refine decide_eq_decide.2 ⟨fun h y hy => ?_, fun h y hy => h y (by simp [hy])⟩
      rcases List.mem_cons.1 hy with rfl | hy
      · exact hc
      · exact h y hy
    · rw [decide_eq_false hc]
      simp only
      rw [stop]
      rw [decide_eq_false (fun h => hc (h x (by simp)))]
theorem step_ref {t : T_api_Norm} (g : Good t) (l : List Int) (hl : l.length ≤ 100000) {s : PS} (h : PSok t s) {r : Int} (hr : r32 r) (hlen : (psOut s).length ≤ l.length) (i : Nat) (hil : i < l.length) (hx : l.getD i 0 = r) :
    m_eponymref05_Put_L6 t l (psOut s, (i : Int)) = some (.next (psOut (psStep t s r), ((i + 1 : Nat) : Int))) := by
  unfold m_eponymref05_Put_L6
  simp only [decide_eq_true (show (i : Int) < (l.length : Int) by omega), cond_true]
  rw [up (by omega)]
  have addc : ∀ at_ : Int, m_eponymref05_Put_K15 l (psOut s, (i : Int)) at_ (-1) = some (psOut s ++ [r]) := fun at_ => by
    unfold m_eponymref05_Put_K15
    rw [decide_eq_false (by omega), cond_false]
    simp only [pos_toNat, hx]
    rw [if_pos ⟨by omega, by omega⟩, if_pos (by omega)]
  cases hst : s.st with
  | none =>
    have hd := h.none hst
    have ho : psOut s = [] ++ (s.mid ++ []) := by simp [psOut, hst, hd]
    have bk := back_loop g (psOut s, (i : Int)) [] (by simp only; omega) (fun z hz => by cases hz) s.mid.length s.mid [] rfl h.mid ho
    have hlo : (psOut s).length = s.mid.length := by rw [ho]; simp
    have es : psStep t s r = psAdd t s r := by unfold psStep; rw [hst]
    rw [w64 (by omega) (by omega), show ((psOut s).length : Int) - 1 = ((([] : List Int).length : Nat) : Int) + (s.mid.length : Int) - 1 by rw [hlo]; simp, bk, bind_some']
    unfold m_eponymref05_Put_K11
    have stop : iter (m_eponymref05_Put_L19 t l (psOut s, (i : Int))) (false, IntKind.wrap .i64 (((([] : List Int).length : Nat) : Int) - 1 + 1)) = some false := by
      rw [iter_step, show m_eponymref05_Put_L19 t l (psOut s, (i : Int)) (false, IntKind.wrap .i64 (((([] : List Int).length : Nat) : Int) - 1 + 1)) = some (.done false) from rfl]
    rw [show decide (((([] : List Int).length : Nat) : Int) - 1 ≥ 0) = false from rfl, stop, bind_some']
    unfold m_eponymref05_Put_K13
    rw [cond_false, bind_some', addc, bind_some', es, psAdd_out]
  | some z =>
    have ho : psOut s = (s.done ++ [z]) ++ (s.mid ++ []) := by simp [psOut, hst]
    have ho2 : psOut s = s.done ++ z :: s.mid := by simp [psOut, hst]
    have hlo : (psOut s).length = s.done.length + 1 + s.mid.length := by rw [ho2]; simp; omega
    have hz0 := h.st z hst
    have hz : (psOut s).getD s.done.length 0 = z := at_eq ho2 rfl
    have hzr : r32 z := h.rng z (by rw [ho2]; simp)
    have bk := back_loop g (psOut s, (i : Int)) (s.done ++ [z]) (by simp only; omega) (fun w hw => by
      rw [List.getLast?_append] at hw
      simp at hw
      subst hw
      omega) s.mid.length s.mid [] rfl h.mid ho
    have hdl : (((s.done ++ [z]).length : Nat) : Int) - 1 = (s.done.length : Int) := by simp
    rw [w64 (by omega) (by omega), show ((psOut s).length : Int) - 1 = (((s.done ++ [z]).length : Nat) : Int) + (s.mid.length : Int) - 1 by rw [hlo]; simp, bk, bind_some', hdl]
    unfold m_eponymref05_Put_K11
    have tr := tried_loop g l (psOut s, (i : Int)) r i rfl hil hx (by omega) (by simp only; omega) s.mid (s.done ++ [z]) (by rw [ho]; simp)
    rw [decide_eq_true (show (s.done.length : Int) ≥ 0 by omega), up (by omega), show s.done.length + 1 = (s.done ++ [z]).length by simp, tr, bind_some']
    unfold m_eponymref05_Put_K13
    by_cases hmid : ∀ x ∈ s.mid, clsR t x < clsR t r
    · rw [decide_eq_true hmid, cond_true]
      simp only [pos_toNat, hx, hz]
      rw [if_pos ⟨by omega, by omega⟩, if_pos ⟨by omega, by omega⟩, pair_ref g hzr hr, bind_some', bind_some']
      by_cases hp : 0 ≤ pairF t z r
      · have es : psStep t s r = ⟨s.done, some (pairF t z r), s.mid⟩ := by unfold psStep; rw [hst]; exact if_pos ⟨hmid, hp⟩
        unfold m_eponymref05_Put_K15
        simp only [pos_toNat]
        rw [decide_eq_true (show pairF t z r ≥ 0 from hp), cond_true, if_pos ⟨by omega, by omega⟩, bind_some', es]
        have e2 : (psOut s).set s.done.length (pairF t z r) = s.done ++ pairF t z r :: s.mid := by rw [ho2]; simp
        rw [e2]
        simp [psOut]
      · have es : psStep t s r = psAdd t s r := by unfold psStep; rw [hst]; exact if_neg (fun hh => hp hh.2)
        have : m_eponymref05_Put_K15 l (psOut s, (i : Int)) (s.done.length : Int) (pairF t z r) = m_eponymref05_Put_K15 l (psOut s, (i : Int)) (s.done.length : Int) (-1) := by
          unfold m_eponymref05_Put_K15
          rw [decide_eq_false (show ¬ pairF t z r ≥ 0 from hp), decide_eq_false (show ¬ (-1 : Int) ≥ 0 by omega)]
          rfl
        rw [this, addc, bind_some', es, psAdd_out]
    · have es : psStep t s r = psAdd t s r := by unfold psStep; rw [hst]; exact if_neg (fun hh => hmid hh.1)
      rw [decide_eq_false hmid, cond_false, bind_some', addc, bind_some', es, psAdd_out]
theorem put_ref {t : T_api_Norm} (g : Good t) (l : List Int) (hl : l.length ≤ 100000) (hr : ∀ x ∈ l, r32 x) : m_eponymref05_Put t l = some (putS t l) := by
  have loop : ∀ (T D : List Int) (s : PS), l = D ++ T → PSok t s → (psOut s).length ≤ D.length → iter (m_eponymref05_Put_L6 t l) (psOut s, (D.length : Int)) = some (psOut (T.foldl (psStep t) s)) := by
    intro T
    induction T with
    | nil =>
      intro D s hD hs hlen
      rw [List.append_nil] at hD
      subst hD
      have body : m_eponymref05_Put_L6 t l (psOut s, (l.length : Int)) = some (.done (psOut s)) := by
        unfold m_eponymref05_Put_L6
        simp
      rw [iter_step, body]
      rfl
    | cons x T ih =>
      intro D s hD hs hlen
      have hx : l.getD D.length 0 = x := at_eq hD rfl
      have hll : D.length < l.length := by rw [hD]; simp
      have hxr : r32 x := hr x (by rw [hD]; simp)
      rw [iter_step, step_ref g l hl hs hxr (by omega) D.length hll hx]
      have := psStep_len t s x
      have := ih (D ++ [x]) (psStep t s x) (by rw [hD]; simp) (psStep_ok g hs hxr) (by simp; omega)
      rw [show (D ++ [x]).length = D.length + 1 by simp] at this
      exact this
  unfold m_eponymref05_Put
  have := loop l [] ps0 rfl (ps0_ok t) (by simp [psOut, ps0])
  simp only [List.length_nil] at this
  rw [show psOut ps0 = [] from rfl, show ((0 : Nat) : Int) = 0 from rfl] at this
  rw [this]
  rfl
/-! ### The kinds of the parts -/
theorem comp_all_ref {t : T_api_Norm} (g : Good t) (l : List Int) (hl : l.length ≤ 1000) (hr : ∀ x ∈ l, r32 x) : m_eponymref05_All t l = some (compS t l) := by
  have := allS_len g l
  unfold m_eponymref05_All compS
  rw [all_ref g l (by omega), bind_some', put_ref g _ (by omega) (allS_r32 g hr)]
  rfl
end Go.Proofs.YtjhgaacecfmadaaGreatDoor
