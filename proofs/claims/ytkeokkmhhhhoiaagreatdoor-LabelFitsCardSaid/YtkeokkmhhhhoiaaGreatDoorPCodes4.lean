/- Merged of texts of ours: PCheckRA, PCheckR, PCheckE, PDecompA, PDecomp, PErr, PCodes4. No condition. -/
import Derived.Test.YtkeokkmhhhhoiaaGreatDoorPNorm2
namespace Go.Proofs.YtkeokkmhhhhoiaaGreatDoor
open Go Go.SE
set_option linter.unusedVariables false
set_option linter.unusedSimpArgs false
theorem firstSome_map {V W : Type} (f : Nat → Option V) (h : V → W) : ∀ (k i : Nat), firstSome (fun j => (f j).map h) k i = (firstSome f k i).map h
  | 0, i => rfl
  | k + 1, i => by
    rw [firstSome, firstSome, firstSome_map f h k (i + 1)]
    cases f i <;> rfl
theorem filterMap_first {V : Type} (f : Nat → Option V) : ∀ (k i : Nat), ((List.range' i k).filterMap f).head? = firstSome f k i
  | 0, i => rfl
  | k + 1, i => by
    rw [List.range'_succ, firstSome, List.filterMap_cons]
    cases h : f i with
    | none => exact filterMap_first f k (i + 1)
    | some v => rfl
def nmG (c : Int) : Nat := if c = 4 then 12 else if c = 6 then 14 else if c = 17 then 9 else if c = 5 then 13 else if c = 7 then 15 else if c = 9 then 17 else 18
def erOf (c : Int × Int) : Er := if c.2 = 0 then .nil else .box 70 c.1 (.sent (nmG c.2))
theorem chkF_fault {l : List T_api_Range} {k : Nat} : (chkF l k).map erOf = (rangeFault l k).map fun g => .box 70 (k : Int) (.sent g) := by
  unfold chkF rangeFault
  have e : (decide (0 ≤ (l.getD k d_api_Range).f_Lo) && (decide ((l.getD k d_api_Range).f_Lo ≤ (l.getD k d_api_Range).f_Hi) && (decide ((l.getD k d_api_Range).f_Hi ≤ 1114111) && (decide (0 ≤ (l.getD k d_api_Range).f_Value) && decide ((l.getD k d_api_Range).f_Value ≤ 999999))))) = mayB (l.getD k d_api_Range) := by
    simp only [mayB, Bool.and_assoc, ge_iff_le]
  rw [e]
  cases hm : mayB (l.getD k d_api_Range) with
  | false => simp only [if_true]; rfl
  | true =>
    have h0 : 0 ≤ (l.getD k d_api_Range).f_Lo := by
      simp only [mayB, Bool.and_eq_true, decide_eq_true_eq] at hm; omega
    simp only [Bool.true_eq_false, if_false]
    by_cases hk : 0 < k
    · rw [if_neg (show ¬ k = 0 by omega)]
      by_cases h1 : (l.getD k d_api_Range).f_Lo ≤ (l.getD (k - 1) d_api_Range).f_Hi
      · rw [if_pos ⟨hk, h1⟩, if_pos h1]; rfl
      · rw [if_neg (fun h => h1 h.2), if_neg h1]; rfl
    · rw [if_pos (show k = 0 by omega), if_neg (fun h => hk h.1), if_neg (by omega)]; rfl
theorem rangesCheck_eq (l : List T_api_Range) : m_ranges_Check l = some (erOf (chkR l)) := by
  unfold m_ranges_Check chkR
  by_cases hn : 2000 < l.length
  · rw [if_pos hn, if_pos hn]; rfl
  · rw [if_neg hn, if_neg hn]
    congr 1
    have h1 := firstSome_map (chkF l) erOf l.length 0
    have h2 := firstSome_map (rangeFault l) (fun g => g) l.length 0
    have h3 : firstSome (fun k => (chkF l k).map erOf) l.length 0 = firstSome (fun k => (rangeFault l k).map fun g => .box 70 (k : Int) (.sent g)) l.length 0 := firstSome_congr fun j _ _ => chkF_fault
    have h4 := filterMap_first (fun k => (rangeFault l k).map fun g => (k, g)) l.length 0
    have h5 := firstSome_map (fun k => (rangeFault l k).map fun g => (k, g)) (fun x : Nat × Nat => Er.box 70 (x.1 : Int) (.sent x.2)) l.length 0
    have h6 : (fun j => ((rangeFault l j).map fun g => (j, g)).map (fun x : Nat × Nat => Er.box 70 (x.1 : Int) (.sent x.2))) = fun k => (rangeFault l k).map fun g => Er.box 70 (k : Int) (.sent g) := by
      funext k; cases rangeFault l k <;> rfl
    rw [h6, ← h3, h1] at h5
    rw [← h4] at h5
    unfold rangeFaults
    rw [List.range_eq_range']
    cases hL : (List.range' 0 l.length).filterMap (fun k => (rangeFault l k).map fun g => (k, g)) with
    | nil =>
      rw [hL] at h5
      cases hf : firstSome (chkF l) l.length 0 with
      | none => rfl
      | some v => rw [hf] at h5; cases h5
    | cons x tl =>
      rw [hL] at h5
      cases hf : firstSome (chkF l) l.length 0 with
      | none => rw [hf] at h5; cases h5
      | some v => rw [hf] at h5; exact (Option.some.inj h5).symm
theorem erOf_nil (c : Int × Int) : (erOf c).isNil = decide (c.2 = 0) := by
  unfold erOf
  by_cases h : c.2 = 0
  · rw [if_pos h, decide_eq_true h]; rfl
  · rw [if_neg h, decide_eq_false h]; rfl

/-! ### classes.Check -/
def cols (p : T_api_Props) : List T_classes_column := [({ f_l := p.f_Exceptions, f_most := 5 }), ({ f_l := p.f_Unassigned, f_most := 0 }), ({ f_l := p.f_Joiners, f_most := 0 }), ({ f_l := p.f_OldHangul, f_most := 0 }), ({ f_l := p.f_Unstable, f_most := 0 }), ({ f_l := p.f_Ignorable, f_most := 0 }), ({ f_l := p.f_Letters, f_most := 0 }), ({ f_l := p.f_Joining, f_most := 4 }), ({ f_l := p.f_Scripts, f_most := 5 }), ({ f_l := p.f_Directions, f_most := 11 }), ({ f_l := p.f_Marks, f_most := 0 })]
theorem cols_get (p : T_api_Props) : ∀ j, j < 11 → (cols p).getD j d_classes_column = { f_l := (tabs p).getD j [], f_most := mxs.getD j 0 }
  | 0, _ => rfl | 1, _ => rfl | 2, _ => rfl | 3, _ => rfl | 4, _ => rfl | 5, _ => rfl | 6, _ => rfl | 7, _ => rfl | 8, _ => rfl | 9, _ => rfl | 10, _ => rfl
  | n + 11, h => absurd h (by omega)
theorem colval_loop (p : T_api_Props) (j : Nat) (hj : j < 11) (hl : ((tabs p).getD j []).length ≤ 2000) : iter (m_classes_Check_L13 (cols p) (j : Int)) 0 = some (scanX (firstSome (fun i => (valF (mxs.getD j 0) ((tabs p).getD j []) i).map erOf) ((tabs p).getD j []).length 0)) := by
  refine iter_scan _ _ (fun i hi _ => ?_) (fun _ => ?_)
  · unfold m_classes_Check_L13 valF
    simp only [Int.toNat_natCast, cols_get p j hj]
    rw [decide_eq_true (by omega), cond_true, if_pos ⟨by omega, by omega⟩]
    by_cases h0 : 0 < mxs.getD j 0
    · rw [decide_eq_true (show mxs.getD j 0 > 0 from h0), cond_true]
      by_cases h1 : (((tabs p).getD j []).getD i d_api_Range).f_Value < 1
      · simp only [h0, h1, true_or, and_self, if_true, decide_true, cond_true, bind_some']; rfl
      · by_cases h2 : (((tabs p).getD j []).getD i d_api_Range).f_Value > mxs.getD j 0
        · simp only [h0, h1, h2, or_true, and_self, if_true, decide_true, decide_false, cond_false, bind_some']; rfl
        · simp only [h0, h1, h2, or_self, and_false, if_false, decide_false, cond_false, bind_some', m_classes_Check_K16, up (show i < 9223372036854775807 by omega)]; rfl
    · rw [decide_eq_false (show ¬ mxs.getD j 0 > 0 from h0)]
      simp only [h0, false_and, if_false, cond_false, bind_some', m_classes_Check_K16, up (show i < 9223372036854775807 by omega)]; rfl
  · unfold m_classes_Check_L13
    simp only [Int.toNat_natCast, cols_get p j hj]
    rw [decide_eq_false (by omega)]; rfl
theorem classesCheck_eq (p : T_api_Props) : m_classes_Check p = some (erOf (chk07 p)) := by
  unfold m_classes_Check chk07
  rw [show m_classes_columns p = some (cols p) from rfl, bind_some']
  rw [iter_scan 11 (fun j => (tabF p j).map erOf) (fun j hj _ => ?_) (fun _ => ?_)]
  · rw [firstSome_map]
    cases firstSome (tabF p) 11 0 <;> rfl
  · unfold m_classes_Check_L6 tabF
    simp only [Int.toNat_natCast, cols_get p j hj]
    rw [show (((cols p).length : Nat) : Int) = 11 from rfl, decide_eq_true (by omega), cond_true, if_pos ⟨by omega, by omega⟩, rangesCheck_eq, bind_some', erOf_nil]
    by_cases h : (chkR ((tabs p).getD j [])).2 = 0
    · rw [decide_eq_true h, if_neg (fun h' => h' h), Bool.not_true, cond_false, colval_loop p j hj (chk_right h).1, firstSome_map]
      cases firstSome (valF (mxs.getD j 0) ((tabs p).getD j [])) ((tabs p).getD j []).length 0 with
      | none => simp only [bind_some', scanX, up (show j < 9223372036854775807 by omega)]; rfl
      | some v => rfl
    · rw [decide_eq_false h, if_pos h]; rfl
  · unfold m_classes_Check_L6
    rw [show (((cols p).length : Nat) : Int) = 11 from rfl, decide_eq_false (by omega)]; rfl
theorem classesCheck_right (p : T_api_Props) : (Option.bind (m_classes_Check p) fun y => some (!y.isNil)) = some (!decide ((chk07 p).2 = 0)) := by
  rw [classesCheck_eq, bind_some', erOf_nil]
/-- The codes that a check may give. -/
theorem chk07_codes (p : T_api_Props) : (chk07 p).2 = 0 ∨ (chk07 p).2 = 4 ∨ (chk07 p).2 = 6 ∨ (chk07 p).2 = 17 ∨ (chk07 p).2 = 18 := by
  have hR : ∀ l, (chkR l).2 = 0 ∨ (chkR l).2 = 4 ∨ (chkR l).2 = 6 ∨ (chkR l).2 = 18 := fun l => by
    unfold chkR
    split
    · simp
    · cases hf : firstSome (chkF l) l.length 0 with
      | none => simp
      | some v =>
        obtain ⟨j, _, _, hj, _⟩ := firstSome_some hf
        unfold chkF at hj
        split at hj
        · cases hj; simp
        · split at hj
          · cases hj; simp
          · cases hj
  unfold chk07
  cases hf : firstSome (tabF p) 11 0 with
  | none => simp
  | some v =>
    obtain ⟨j, _, _, hj, _⟩ := firstSome_some hf
    unfold tabF at hj
    split at hj
    · cases hj
      rcases hR ((tabs p).getD j []) with h | h | h | h
      · exact .inl h
      · exact .inr (.inl h)
      · exact .inr (.inr (.inl h))
      · exact .inr (.inr (.inr (.inr h)))
    · obtain ⟨i, _, _, hi, _⟩ := firstSome_some hj
      unfold valF at hi
      split at hi
      · cases hi; simp
      · cases hi
def hangC (r : Int) : Int := if r ≥ 4352 ∧ r < 4371 then 1 else if r ≥ 4449 ∧ r < 4470 then 2 else if r > 4519 ∧ r < 4547 then 3 else if r ≥ 44032 ∧ r < 55204 then 4 else 0
theorem and_bif (p q : Prop) [Decidable p] [Decidable q] : (bif decide p then some (decide q) else some false) = some (decide (p ∧ q)) := by
  by_cases hp : p <;> by_cases hq : q <;> simp [hp, hq]
theorem dhang_eq (r : Int) : m_decomp_hangul r = some (hangC r) := by
  unfold m_decomp_hangul m_decomp_hangul_K2 m_decomp_hangul_K4 m_decomp_hangul_K6 m_decomp_hangul_K8 hangC
  simp only [and_bif, bind_some']
  by_cases h1 : r ≥ 4352 ∧ r < 4371
  · rw [if_pos h1, decide_eq_true h1]; rfl
  · rw [if_neg h1, decide_eq_false h1, cond_false]
    by_cases h2 : r ≥ 4449 ∧ r < 4470
    · rw [if_pos h2, decide_eq_true h2]; rfl
    · rw [if_neg h2, decide_eq_false h2, cond_false]
      by_cases h3 : r > 4519 ∧ r < 4547
      · rw [if_pos h3, decide_eq_true h3]; rfl
      · rw [if_neg h3, decide_eq_false h3, cond_false]
        by_cases h4 : r ≥ 44032 ∧ r < 55204
        · rw [if_pos h4, decide_eq_true h4]; rfl
        · rw [if_neg h4, decide_eq_false h4]; rfl
theorem hangC_ne (r : Int) : (hangC r != 0) = hangB r := by
  rw [Bool.eq_iff_iff]
  unfold hangC hangB
  simp only [bne_iff_ne, ne_eq, Bool.and_eq_true, Bool.or_eq_true, decide_eq_true_eq]
  repeat' split
  all_goals omega
/-- What is wrong with row i by itself. -/
def rowE (t : T_api_Norm) (i : Nat) : Int :=
  if (!rightB (t.f_Rows.getD i d_api_Row).f_From || hangB (t.f_Rows.getD i d_api_Row).f_From) = true then 4
  else if 0 < i ∧ (t.f_Rows.getD i d_api_Row).f_From ≤ (t.f_Rows.getD (i - 1) d_api_Row).f_From then 6
  else if (t.f_Rows.getD i d_api_Row).f_To.length ≠ 1 ∧ (t.f_Rows.getD i d_api_Row).f_To.length ≠ 2 ∨ (t.f_Rows.getD i d_api_Row).f_To.getD 0 0 ≥ (t.f_Rows.getD i d_api_Row).f_From then 5
  else if (t.f_Rows.getD i d_api_Row).f_To.any badTo = true then 5 else 0
def deepB (t : T_api_Norm) (i : Nat) : Bool := (decide ((t.f_Rows.getD i d_api_Row).f_To.length = 2) && decide (0 ≤ rowIdx t ((t.f_Rows.getD i d_api_Row).f_To.getD 1 0))) || deepF t 8 i
theorem rowF_rowE (t : T_api_Norm) (i : Nat) : rowF t i = if rowE t i ≠ 0 then rowE t i else if deepB t i = true then 9 else 0 := by
  unfold rowF rowE deepB
  split
  · rfl
  · split
    · rfl
    · split
      · rfl
      · split
        · rfl
        · simp only [ne_eq, not_true_eq_false, if_false, Bool.or_eq_true, Bool.and_eq_true, decide_eq_true_eq]
          split
          · rename_i h; rw [if_pos (.inl h)]
          · rename_i h
            by_cases hd : deepF t 8 i = true
            · rw [if_pos hd, if_pos (.inr hd)]
            · rw [if_neg hd, if_neg (fun h' => h'.elim h hd)]
def risesN (t : T_api_Norm) : Nat := (firstSome (fun i => if rowE t i ≠ 0 then some i else none) t.f_Rows.length 0).getD t.f_Rows.length
theorem rises_le (t : T_api_Norm) : risesN t ≤ t.f_Rows.length ∧ (∀ i, i < risesN t → rowE t i = 0) ∧ (risesN t < t.f_Rows.length → rowE t (risesN t) ≠ 0) := by
  unfold risesN
  cases hf : firstSome (fun i => if rowE t i ≠ 0 then some i else none) t.f_Rows.length 0 with
  | none =>
    refine ⟨Nat.le_refl _, fun i hi => ?_, fun h => absurd h (Nat.lt_irrefl _)⟩
    have := firstSome_none.1 hf i (Nat.zero_le _) (by simp only [Option.getD_none] at hi; omega)
    split at this
    · cases this
    · rename_i h; exact Decidable.not_not.1 h
  | some v =>
    obtain ⟨j, _, h2, hj, h4⟩ := firstSome_some hf
    split at hj
    · rename_i hne
      cases hj
      refine ⟨by simp only [Option.getD_some]; omega, fun i hi => ?_, fun _ => hne⟩
      have := h4 i (Nat.zero_le _) hi
      split at this
      · cases this
      · rename_i h; exact Decidable.not_not.1 h
    · cases hj
def risingR (t : T_api_Norm) : Prop := ∀ i j, i < j → j < t.f_Rows.length → (t.f_Rows.getD i d_api_Row).f_From < (t.f_Rows.getD j d_api_Row).f_From
theorem dsearch_eq (t : T_api_Norm) (r : Int) (hl : t.f_Rows.length < 4611686018427387904) (hmono : risingR t) : ∃ y : Nat, m_sort_Search_decomp_find_1 (t.f_Rows.length : Int) t r = some ((y : Nat) : Int) ∧ isFirst (fun k => (t.f_Rows.getD k d_api_Row).f_From ≥ r) t.f_Rows.length y := by
  have key : ∃ x, iter (m_sort_Search_decomp_find_1_L5 t r) ((0 : Int), (t.f_Rows.length : Int)) = some x ∧ ∃ y : Nat, x = (y : Int) ∧ isFirst (fun k => (t.f_Rows.getD k d_api_Row).f_From ≥ r) t.f_Rows.length y := by
    refine iter_inv (fun s => ∃ i j : Nat, s = ((i : Int), (j : Int)) ∧ i ≤ j ∧ j ≤ t.f_Rows.length ∧ (∀ k, k < i → ¬ (t.f_Rows.getD k d_api_Row).f_From ≥ r) ∧ (j < t.f_Rows.length → (t.f_Rows.getD j d_api_Row).f_From ≥ r)) (fun s => (s.2 - s.1).toNat) _ ?_ _ ⟨0, t.f_Rows.length, rfl, Nat.zero_le _, Nat.le_refl _, fun k hk => absurd hk (Nat.not_lt_zero _), fun h => absurd h (Nat.lt_irrefl _)⟩
    rintro s ⟨i, j, rfl, hij, hjn, hlo, hhi⟩
    by_cases hlt : i < j
    · left
      have hm := mid (i := i) (j := j) (by omega)
      have hmi : (i + j) / 2 < t.f_Rows.length := by omega
      by_cases hp : (t.f_Rows.getD ((i + j) / 2) d_api_Row).f_From ≥ r
      · refine ⟨((i : Int), (((i + j) / 2 : Nat) : Int)), ?_, ⟨i, (i + j) / 2, rfl, by omega, by omega, hlo, fun _ => hp⟩, ?_⟩
        · simp only [m_sort_Search_decomp_find_1_L5, m_decomp_find_1, hm]
          rw [if_pos ⟨by omega, by omega⟩]
          simp only [Int.toNat_natCast, Option.bind_some, decide_eq_true hp, decide_eq_true (show (i : Int) < j by omega)]
          rfl
        · show ((((i + j) / 2 : Nat) : Int) - i).toNat < ((j : Int) - i).toNat
          omega
      · refine ⟨((((i + j) / 2 + 1 : Nat) : Int), (j : Int)), ?_, ⟨(i + j) / 2 + 1, j, rfl, by omega, hjn, fun k hk hkr => ?_, hhi⟩, ?_⟩
        · simp only [m_sort_Search_decomp_find_1_L5, m_decomp_find_1, hm]
          rw [if_pos ⟨by omega, by omega⟩]
          simp only [Int.toNat_natCast, Option.bind_some, decide_eq_false hp, decide_eq_true (show (i : Int) < j by omega), up (show (i + j) / 2 < 9223372036854775807 by omega)]
          rfl
        · by_cases e : k = (i + j) / 2
          · subst e; exact hp hkr
          · have := hmono k ((i + j) / 2) (by omega) hmi
            omega
        · show ((j : Int) - (((i + j) / 2 + 1 : Nat) : Int)).toNat < ((j : Int) - i).toNat
          omega
    · right
      have e : i = j := by omega
      subst e
      refine ⟨(i : Int), ?_, i, rfl, hjn, hlo, hhi⟩
      simp [m_sort_Search_decomp_find_1_L5]
  obtain ⟨x, hx, y, rfl, hq⟩ := key
  refine ⟨y, ?_, hq⟩
  simp only [m_sort_Search_decomp_find_1, hx, Option.bind_some]
theorem firstSome_at {V : Type} {f : Nat → Option V} {v : V} : ∀ {k i j : Nat}, i ≤ j → j < i + k → f j = some v → (∀ j', i ≤ j' → j' < j → f j' = none) → firstSome f k i = some v
  | 0, i, j, h1, h2, _, _ => by omega
  | k + 1, i, j, h1, h2, h3, h4 => by
    rw [firstSome]
    by_cases e : i = j
    · subst e; rw [h3]
    · rw [h4 i (Nat.le_refl _) (by omega)]
      exact firstSome_at (k := k) (i := i + 1) (j := j) (by omega) (by omega) h3 fun j' g1 g2 => h4 j' (by omega) g2
theorem dfind_eq (t : T_api_Norm) (r : Int) (hl : t.f_Rows.length ≤ 2000) (hmono : risingR t) : m_decomp_find t r = some (rowIdx t r) := by
  obtain ⟨y, hy, h1, h2, h3⟩ := dsearch_eq t r (by omega) hmono
  unfold m_decomp_find rowIdx
  rw [hy, bind_some']
  by_cases hlt : y < t.f_Rows.length
  · rw [beq_false_of_ne (show ((y : Nat) : Int) ≠ (t.f_Rows.length : Int) by omega), cond_false, if_pos ⟨by omega, by omega⟩, Int.toNat_natCast, bind_some']
    have hge : (t.f_Rows.getD y d_api_Row).f_From ≥ r := h3 hlt
    unfold m_decomp_find_K3
    by_cases he : (t.f_Rows.getD y d_api_Row).f_From = r
    · rw [show ((t.f_Rows.getD y d_api_Row).f_From != r) = false by rw [he]; simp, cond_false]
      rw [firstSome_at (v := (y : Int)) (j := y) (Nat.zero_le _) (by omega) (by rw [if_pos he]) (fun j _ hj => by
        have : ¬ (t.f_Rows.getD j d_api_Row).f_From ≥ r := h2 j hj
        rw [if_neg (by omega)])]
      rfl
    · rw [show ((t.f_Rows.getD y d_api_Row).f_From != r) = true from bne_iff_ne.2 he, cond_true]
      rw [firstSome_none.2 fun j _ hj => ?_]
      · rfl
      · by_cases e : j < y
        · have : ¬ (t.f_Rows.getD j d_api_Row).f_From ≥ r := h2 j e
          rw [if_neg (by omega)]
        · by_cases e2 : j = y
          · subst e2; rw [if_neg he]
          · have := hmono y j (by omega) (by omega)
            rw [if_neg (by omega)]
  · have hyl : y = t.f_Rows.length := by omega
    rw [show (((y : Nat) : Int) == (t.f_Rows.length : Int)) = true by rw [hyl]; simp, cond_true, bind_some']
    unfold m_decomp_find_K3
    rw [cond_true, firstSome_none.2 fun j _ hj => ?_]
    · rfl
    · have : ¬ (t.f_Rows.getD j d_api_Row).f_From ≥ r := h2 j (by omega)
      rw [if_neg (by omega)]
def lead (t : T_api_Norm) (n : Nat) : T_api_Norm := { f_Rows := t.f_Rows.take n, f_Classes := [], f_Excluded := [] }
theorem lead_get (t : T_api_Norm) (n : Nat) {i : Nat} (h : i < n) : (lead t n).f_Rows.getD i d_api_Row = t.f_Rows.getD i d_api_Row := by
  simp [lead, List.getD_eq_getElem?_getD, List.getElem?_take, h]
theorem lead_len (t : T_api_Norm) {n : Nat} (h : n ≤ t.f_Rows.length) : (lead t n).f_Rows.length = n := by simp [lead, h]
theorem rowE_to {t : T_api_Norm} {i : Nat} (h : rowE t i = 0) : ((t.f_Rows.getD i d_api_Row).f_To.length = 1 ∨ (t.f_Rows.getD i d_api_Row).f_To.length = 2) ∧ (t.f_Rows.getD i d_api_Row).f_To.getD 0 0 < (t.f_Rows.getD i d_api_Row).f_From ∧ (t.f_Rows.getD i d_api_Row).f_To.any badTo = false ∧ (0 < i → (t.f_Rows.getD (i - 1) d_api_Row).f_From < (t.f_Rows.getD i d_api_Row).f_From) := by
  unfold rowE at h
  split at h
  · cases h
  · split at h
    · cases h
    · split at h
      · cases h
      · split at h
        · cases h
        · rename_i hb
          exact ⟨by omega, by omega, by simpa using hb, fun h0 => by omega⟩
theorem lead_rising {t : T_api_Norm} {n : Nat} (hn : n ≤ t.f_Rows.length) (h : ∀ i, i < n → rowE t i = 0) : risingR (lead t n) := by
  intro i j hij hj
  rw [lead_len t hn] at hj
  rw [lead_get t n (by omega), lead_get t n hj]
  obtain ⟨d, rfl⟩ : ∃ d, j = i + 1 + d := ⟨j - i - 1, by omega⟩
  clear hij
  induction d with
  | zero => exact (rowE_to (h (i + 1) hj)).2.2.2 (by omega)
  | succ d ih =>
    have h1 := ih (by omega)
    have h2 := (rowE_to (h (i + 1 + d + 1) hj)).2.2.2 (by omega)
    rw [show i + 1 + d + 1 - 1 = i + 1 + d by omega] at h2
    exact Int.lt_trans h1 h2
theorem firstSome_cut {V : Type} {f : Nat → Option V} : ∀ {n k i : Nat}, k ≤ n → (∀ j, i + k ≤ j → j < i + n → f j = none) → firstSome f n i = firstSome f k i
  | n, 0, i, _, h => firstSome_none.2 fun j h1 h2 => h j (by omega) h2
  | 0, k + 1, i, hk, _ => absurd hk (by omega)
  | n + 1, k + 1, i, hk, h => by
    rw [firstSome, firstSome, firstSome_cut (n := n) (k := k) (i := i + 1) (by omega) fun j h1 h2 => h j (by omega) (by omega)]
theorem lead_ahead {t : T_api_Norm} {n : Nat} (hn : n ≤ t.f_Rows.length) (h : ∀ i, i < n → rowE t i = 0) {k : Nat} (hk : k < n) : rowIdx (lead t n) ((t.f_Rows.getD k d_api_Row).f_To.getD 0 0) = aheadF t k := by
  have hr := lead_rising hn h
  have hto := (rowE_to (h k hk)).2.1
  unfold rowIdx aheadF
  rw [lead_len t hn]
  congr 1
  rw [firstSome_cut (k := k) (by omega) fun j h1 h2 => ?_]
  · exact firstSome_congr fun j _ hj => by rw [lead_get t n (by omega)]
  · rw [lead_get t n (by omega)]
    have : (t.f_Rows.getD k d_api_Row).f_From ≤ (t.f_Rows.getD j d_api_Row).f_From := by
      by_cases e : j = k
      · subst e; exact Int.le_refl _
      · have := hr k j (by omega) (by rw [lead_len t hn]; omega)
        rw [lead_get t n hk, lead_get t n (by omega)] at this
        omega
    rw [if_neg (by omega)]
theorem mayB_le {x : T_api_Range} (h : mayB x = true) : x.f_Lo ≤ x.f_Hi := by
  simp only [mayB, Bool.and_eq_true, decide_eq_true_eq] at h; omega
def risingL (l : List Int) : Prop := ∀ i j, i < j → j < l.length → l.getD i 0 < l.getD j 0
theorem less_eq (x y : Int) : m_cmp_Less_rune x y = some (decide (x < y)) := by
  unfold m_cmp_Less_rune m_cmp_isNaN_rune
  rw [bind_some', show (x != x) = false by simp]; rfl
theorem bsearch_eq (l : List Int) (r : Int) (hl : l.length < 4611686018427387904) (hmono : risingL l) : ∃ y : Nat, iter (m_slices_BinarySearch_rune_rune_L7 l r) ((0 : Int), (l.length : Int)) = some ((y : Nat) : Int) ∧ isFirst (fun k => l.getD k 0 ≥ r) l.length y := by
  have key : ∃ x, iter (m_slices_BinarySearch_rune_rune_L7 l r) ((0 : Int), (l.length : Int)) = some x ∧ ∃ y : Nat, x = (y : Int) ∧ isFirst (fun k => l.getD k 0 ≥ r) l.length y := by
    refine iter_inv (fun s => ∃ i j : Nat, s = ((i : Int), (j : Int)) ∧ i ≤ j ∧ j ≤ l.length ∧ (∀ k, k < i → ¬ l.getD k 0 ≥ r) ∧ (j < l.length → l.getD j 0 ≥ r)) (fun s => (s.2 - s.1).toNat) _ ?_ _ ⟨0, l.length, rfl, Nat.zero_le _, Nat.le_refl _, fun k hk => absurd hk (Nat.not_lt_zero _), fun h => absurd h (Nat.lt_irrefl _)⟩
    rintro s ⟨i, j, rfl, hij, hjn, hlo, hhi⟩
    by_cases hlt : i < j
    · left
      have hm := mid (i := i) (j := j) (by omega)
      have hmi : (i + j) / 2 < l.length := by omega
      by_cases hp : l.getD ((i + j) / 2) 0 ≥ r
      · refine ⟨((i : Int), (((i + j) / 2 : Nat) : Int)), ?_, ⟨i, (i + j) / 2, rfl, by omega, by omega, hlo, fun _ => hp⟩, ?_⟩
        · simp only [m_slices_BinarySearch_rune_rune_L7, less_eq, hm]
          rw [if_pos ⟨by omega, by omega⟩]
          simp only [Int.toNat_natCast, Option.bind_some, decide_eq_false (show ¬ l.getD ((i + j) / 2) 0 < r by omega), decide_eq_true (show (i : Int) < j by omega)]
          rfl
        · show ((((i + j) / 2 : Nat) : Int) - i).toNat < ((j : Int) - i).toNat
          omega
      · refine ⟨((((i + j) / 2 + 1 : Nat) : Int), (j : Int)), ?_, ⟨(i + j) / 2 + 1, j, rfl, by omega, hjn, fun k hk hkr => ?_, hhi⟩, ?_⟩
        · simp only [m_slices_BinarySearch_rune_rune_L7, less_eq, hm]
          rw [if_pos ⟨by omega, by omega⟩]
          simp only [Int.toNat_natCast, Option.bind_some, decide_eq_true (show l.getD ((i + j) / 2) 0 < r by omega), decide_eq_true (show (i : Int) < j by omega), up (show (i + j) / 2 < 9223372036854775807 by omega)]
          rfl
        · by_cases e : k = (i + j) / 2
          · subst e; exact hp hkr
          · have := hmono k ((i + j) / 2) (by omega) hmi
            omega
        · show ((j : Int) - (((i + j) / 2 + 1 : Nat) : Int)).toNat < ((j : Int) - i).toNat
          omega
    · right
      have e : i = j := by omega
      subst e
      refine ⟨(i : Int), ?_, i, rfl, hjn, hlo, hhi⟩
      simp [m_slices_BinarySearch_rune_rune_L7]
  obtain ⟨x, hx, y, rfl, hq⟩ := key
  exact ⟨y, hx, hq⟩
theorem bs_eq (l : List Int) (r : Int) (hl : l.length ≤ 2000) (hmono : risingL l) : ∃ y, m_slices_BinarySearch_rune_rune l r = some (y, l.any fun x => x == r) := by
  obtain ⟨y, hy, h1, h2, h3⟩ := bsearch_eq l r (by omega) hmono
  unfold m_slices_BinarySearch_rune_rune m_slices_BinarySearch_rune_rune_K2 m_slices_isNaN_rune
  rw [hy, bind_some']
  have nohit : (∀ j, j < l.length → l.getD j 0 ≠ r) → (l.any fun x => x == r) = false := fun h => List.any_eq_false.2 fun x hx => by
    obtain ⟨i, hi, rfl⟩ := List.getElem_of_mem hx
    have := h i hi
    have e : l.getD i 0 = l[i] := by simp [List.getD_eq_getElem?_getD, hi]
    rw [e] at this
    simpa using this
  by_cases hlt : y < l.length
  · have hge : l.getD y 0 ≥ r := h3 hlt
    rw [decide_eq_true (by omega), cond_true, if_pos ⟨by omega, by omega⟩, Int.toNat_natCast]
    by_cases he : l.getD y 0 = r
    · refine ⟨(y : Int), ?_⟩
      rw [beq_iff_eq.2 he, cond_true, List.any_eq_true.2 ⟨l.getD y 0, getD_mem hlt, by simpa using he⟩]
    · refine ⟨(y : Int), ?_⟩
      rw [beq_false_of_ne he, cond_false, if_pos ⟨by omega, by omega⟩, bind_some', show (l.getD y 0 != l.getD y 0) = false by simp, cond_false, nohit fun j hj => ?_]
      by_cases e : j < y
      · have : ¬ l.getD j 0 ≥ r := h2 j e
        omega
      · by_cases e2 : j = y
        · subst e2; exact he
        · have := hmono y j (by omega) hj
          omega
  · refine ⟨(y : Int), ?_⟩
    rw [decide_eq_false (by omega), cond_false, nohit fun j hj => ?_]
    have : ¬ l.getD j 0 ≥ r := h2 j (by omega)
    omega
theorem ex_rising {t : T_api_Norm} (h : ∀ i, i < t.f_Excluded.length → exF t i = none) : risingL t.f_Excluded := by
  have step : ∀ i, 0 < i → i < t.f_Excluded.length → t.f_Excluded.getD (i - 1) 0 < t.f_Excluded.getD i 0 := fun i h0 hi => by
    have := h i hi
    unfold exF at this
    split at this
    · cases this
    · split at this
      · cases this
      · rename_i hc; omega
  intro i j hij hj
  obtain ⟨d, rfl⟩ : ∃ d, j = i + 1 + d := ⟨j - i - 1, by omega⟩
  clear hij
  induction d with
  | zero => exact step (i + 1) (by omega) hj
  | succ d ih =>
    have h1 := ih (by omega)
    have h2 := step (i + 1 + d + 1) (by omega) hj
    rw [show i + 1 + d + 1 - 1 = i + 1 + d by omega] at h2
    exact Int.lt_trans h1 h2
/-! ### What composes -/
theorem dclass_eq (t : T_api_Norm) (r : Int) (hc : ordered t.f_Classes ∧ t.f_Classes.length ≤ 2000) : m_decomp_Class t r = some (clsR t r) := by
  unfold m_decomp_Class clsR
  rw [ranges_find_eq _ _ (by omega) hc.1]; rfl
theorem dcomp_eq (t : T_api_Norm) (i : Nat) (hi : i < t.f_Rows.length) (hn : t.f_Rows.length ≤ 2000) (hc : ordered t.f_Classes ∧ t.f_Classes.length ≤ 2000) (he : t.f_Excluded.length ≤ 2000) (hx : risingL t.f_Excluded) : m_decomp_Composes t (i : Int) = some (compB t i) := by
  unfold m_decomp_Composes m_decomp_Composes_K2 compB
  rw [decide_eq_false (show ¬ (i : Int) < 0 by omega), cond_false, decide_eq_false (show ¬ (i : Int) ≥ (t.f_Rows.length : Int) by omega), cond_false, if_pos ⟨by omega, by omega⟩]
  simp only [Int.toNat_natCast, bind_some']
  by_cases h2 : (t.f_Rows.getD i d_api_Row).f_To.length = 2
  · obtain ⟨y, hy⟩ := bs_eq t.f_Excluded (t.f_Rows.getD i d_api_Row).f_From he hx
    rw [show ((((t.f_Rows.getD i d_api_Row).f_To.length : Nat) : Int) != 2) = false by rw [h2]; rfl, cond_false, if_pos ⟨by omega, by omega⟩, hy, bind_some', dclass_eq _ _ hc, dclass_eq _ _ hc, if_pos ⟨by omega, by omega⟩, decide_eq_true h2, Bool.true_and]
    simp only [bind_some']
    unfold exclB
    cases (t.f_Excluded.any fun x => x == (t.f_Rows.getD i d_api_Row).f_From) <;> cases (clsR t (t.f_Rows.getD i d_api_Row).f_From == 0) <;> rfl
  · rw [show ((((t.f_Rows.getD i d_api_Row).f_To.length : Nat) : Int) != 2) = true by rw [bne_iff_ne]; omega, decide_eq_false h2]
    rfl
def pairOf (t : T_api_Norm) (i : Nat) : Int × Int := ((t.f_Rows.getD i d_api_Row).f_To.getD 0 0, (t.f_Rows.getD i d_api_Row).f_To.getD 1 0)
theorem twB_iff (t : T_api_Norm) (i k : Nat) (hi : compB t i = true) : twB t i k = true ↔ compB t k = true ∧ pairOf t i = pairOf t k := by
  unfold twB pairOf
  simp only [hi, Bool.true_and, Bool.and_eq_true, beq_iff_eq, Prod.mk.injEq]
theorem twF_iff (t : T_api_Norm) (i : Nat) (hi : compB t i = true) : twF t i = if ∃ k, k < i ∧ compB t k = true ∧ pairOf t i = pairOf t k then some ((i : Int), 7) else none := by
  unfold twF
  by_cases h : ∃ k, k < i ∧ compB t k = true ∧ pairOf t i = pairOf t k
  · rw [if_pos h]
    obtain ⟨k, hk, h1⟩ := h
    cases hf : firstSome (fun k => if twB t i k = true then some ((i : Int), (7 : Int)) else none) i 0 with
    | none =>
      have := firstSome_none.1 hf k (Nat.zero_le _) (by omega)
      rw [if_pos ((twB_iff t i k hi).2 h1)] at this
      cases this
    | some v =>
      obtain ⟨j, _, _, hj, _⟩ := firstSome_some hf
      split at hj
      · cases hj; rfl
      · cases hj
  · rw [if_neg h]
    refine firstSome_none.2 fun k _ hk => ?_
    rw [if_neg]
    intro hb
    exact h ⟨k, by omega, (twB_iff t i k hi).1 hb⟩
theorem twF_no (t : T_api_Norm) (i : Nat) (hi : compB t i = false) : twF t i = none := by
  unfold twF
  refine firstSome_none.2 fun k _ hk => ?_
  rw [if_neg]
  unfold twB
  rw [hi]; simp
theorem right_range {x : Int} (h : badTo x = false) : -2147483648 ≤ x ∧ x ≤ 2147483647 := by
  unfold badTo rightB at h
  simp only [Bool.or_eq_false_iff, Bool.not_eq_false', Bool.and_eq_true, decide_eq_true_eq] at h
  omega
theorem dRight_eq (r : Int) : m_utf_Right r = some (rightB r) := by
  unfold m_utf_Right rightB
  by_cases h1 : r ≥ 0
  · by_cases h2 : r ≤ 1114111
    · by_cases h3 : r < 55296
      · rw [decide_eq_true h1, decide_eq_true h2, decide_eq_true h3, decide_eq_false (show ¬ r ≥ 55296 by omega)]; rfl
      · rw [decide_eq_true h1, decide_eq_true h2, decide_eq_false h3, decide_eq_true (show r ≥ 55296 by omega)]
        by_cases h4 : r > 57343
        · rw [decide_eq_true h4, decide_eq_false (show ¬ r ≤ 57343 by omega)]; rfl
        · rw [decide_eq_false h4, decide_eq_true (show r ≤ 57343 by omega)]; rfl
    · rw [decide_eq_true h1, decide_eq_false h2]; rfl
  · rw [decide_eq_false h1]; rfl
theorem dto_loop (t : T_api_Norm) (i : Nat) (hto : (t.f_Rows.getD i d_api_Row).f_To.length ≤ 4) : iter (m_decomp_rowError_L11 t (i : Int)) 0 = some (if (t.f_Rows.getD i d_api_Row).f_To.any badTo = true then .inr (.sent 13) else .inl ()) := by
  rw [iter_scan (t.f_Rows.getD i d_api_Row).f_To.length (fun k => if badTo ((t.f_Rows.getD i d_api_Row).f_To.getD k 0) = true then some (Er.sent 13) else none) (fun k hk _ => ?_) (fun _ => ?_)]
  · have e1 := any_scan (t.f_Rows.getD i d_api_Row).f_To 0 badTo 5
    have e2 : ∀ (n j : Nat), firstSome (fun k => if badTo ((t.f_Rows.getD i d_api_Row).f_To.getD k 0) = true then some (Er.sent 13) else none) n j = (firstSome (fun k => if badTo ((t.f_Rows.getD i d_api_Row).f_To.getD k 0) = true then some (5 : Int) else none) n j).map fun _ => Er.sent 13 := fun n j => by
      rw [← firstSome_map]
      exact firstSome_congr fun k _ _ => by split <;> rfl
    rw [e2, ← e1]
    cases firstSome (fun k => if badTo ((t.f_Rows.getD i d_api_Row).f_To.getD k 0) = true then some (5 : Int) else none) (t.f_Rows.getD i d_api_Row).f_To.length 0 <;> rfl
  · unfold m_decomp_rowError_L11 badTo
    simp only [Int.toNat_natCast]
    rw [decide_eq_true (by omega), cond_true, if_pos ⟨by omega, by omega⟩, dRight_eq, bind_some', dhang_eq, bind_some', hangC_ne]
    unfold m_decomp_rowError_K14
    rw [up (by omega)]
    cases rightB ((t.f_Rows.getD i d_api_Row).f_To.getD k 0) <;> cases hangB ((t.f_Rows.getD i d_api_Row).f_To.getD k 0) <;> rfl
  · unfold m_decomp_rowError_L11
    simp only [Int.toNat_natCast]
    rw [decide_eq_false (by omega)]; rfl
theorem rowErr_eq (t : T_api_Norm) (i : Nat) (hi : i < t.f_Rows.length) (hn : t.f_Rows.length ≤ 2000) : m_decomp_rowError t (i : Int) = some (if rowE t i = 0 then .nil else .sent (nmG (rowE t i))) := by
  unfold m_decomp_rowError
  rw [if_pos ⟨by omega, by omega⟩]
  simp only [Int.toNat_natCast, dRight_eq, dhang_eq, bind_some', hangC_ne]
  have e1 : (bif !rightB (t.f_Rows.getD i d_api_Row).f_From then some true else some (hangB (t.f_Rows.getD i d_api_Row).f_From)) = some (!rightB (t.f_Rows.getD i d_api_Row).f_From || hangB (t.f_Rows.getD i d_api_Row).f_From) := by
    cases rightB (t.f_Rows.getD i d_api_Row).f_From <;> rfl
  rw [e1, bind_some']
  unfold m_decomp_rowError_K2 rowE
  by_cases c1 : (!rightB (t.f_Rows.getD i d_api_Row).f_From || hangB (t.f_Rows.getD i d_api_Row).f_From) = true
  · rw [c1]; rfl
  · rw [if_neg c1]
    rw [Bool.not_eq_true] at c1
    rw [c1, cond_false]
    have e2 : (bif decide ((i : Int) > 0) then
        if 0 ≤ IntKind.wrap .i64 ((i : Int) - 1) ∧ IntKind.wrap .i64 ((i : Int) - 1) < (t.f_Rows.length : Int) then
          some (decide ((t.f_Rows.getD i d_api_Row).f_From ≤ (t.f_Rows.getD (IntKind.wrap .i64 ((i : Int) - 1)).toNat d_api_Row).f_From))
        else none
      else some false) = some (decide (0 < i ∧ (t.f_Rows.getD i d_api_Row).f_From ≤ (t.f_Rows.getD (i - 1) d_api_Row).f_From)) := by
      by_cases h0 : 0 < i
      · rw [decide_eq_true (by omega), cond_true, down h0 (by omega), if_pos ⟨by omega, by omega⟩, Int.toNat_natCast]
        congr 1
        rw [decide_eq_decide]
        exact ⟨fun h => ⟨h0, h⟩, fun h => h.2⟩
      · rw [decide_eq_false (by omega), cond_false, decide_eq_false (fun h => h0 h.1)]
    simp only [Int.toNat_natCast] at e2 ⊢
    rw [e2, bind_some']
    unfold m_decomp_rowError_K4
    simp only [Int.toNat_natCast]
    by_cases c2 : 0 < i ∧ (t.f_Rows.getD i d_api_Row).f_From ≤ (t.f_Rows.getD (i - 1) d_api_Row).f_From
    · rw [if_pos c2, decide_eq_true c2]; rfl
    · rw [if_neg c2, decide_eq_false c2, cond_false]
      have e3 : (bif decide (((t.f_Rows.getD i d_api_Row).f_To.length : Int) < 1) then some true
        else bif decide (((t.f_Rows.getD i d_api_Row).f_To.length : Int) > 2) then some true
          else if 0 ≤ (0 : Int) ∧ (0 : Int) < ((t.f_Rows.getD i d_api_Row).f_To.length : Int) then some (decide ((t.f_Rows.getD i d_api_Row).f_To.getD 0 0 ≥ (t.f_Rows.getD i d_api_Row).f_From)) else none)
        = some (decide ((t.f_Rows.getD i d_api_Row).f_To.length ≠ 1 ∧ (t.f_Rows.getD i d_api_Row).f_To.length ≠ 2 ∨ (t.f_Rows.getD i d_api_Row).f_To.getD 0 0 ≥ (t.f_Rows.getD i d_api_Row).f_From)) := by
        by_cases h1 : (t.f_Rows.getD i d_api_Row).f_To.length < 1
        · rw [decide_eq_true (by omega), cond_true, decide_eq_true (.inl ⟨by omega, by omega⟩)]
        · rw [decide_eq_false (by omega), cond_false]
          by_cases h2 : (t.f_Rows.getD i d_api_Row).f_To.length > 2
          · rw [decide_eq_true (by omega), cond_true, decide_eq_true (.inl ⟨by omega, by omega⟩)]
          · rw [decide_eq_false (by omega), cond_false, if_pos ⟨by omega, by omega⟩]
            congr 1
            rw [decide_eq_decide]
            exact ⟨fun h => .inr h, fun h => h.elim (fun h => by omega) id⟩
      rw [e3, bind_some']
      unfold m_decomp_rowError_K6
      by_cases c3 : (t.f_Rows.getD i d_api_Row).f_To.length ≠ 1 ∧ (t.f_Rows.getD i d_api_Row).f_To.length ≠ 2 ∨ (t.f_Rows.getD i d_api_Row).f_To.getD 0 0 ≥ (t.f_Rows.getD i d_api_Row).f_From
      · rw [if_pos c3, decide_eq_true c3]; rfl
      · rw [if_neg c3, decide_eq_false c3, cond_false, dto_loop t i (by omega), bind_some']
        by_cases c4 : (t.f_Rows.getD i d_api_Row).f_To.any badTo = true
        · rw [if_pos c4, if_pos c4]; rfl
        · rw [if_neg c4, if_neg c4]; rfl
theorem rises_eq (t : T_api_Norm) (hn : t.f_Rows.length ≤ 2000) : m_decomp_rises t = some ((risesN t : Nat) : Int) := by
  unfold m_decomp_rises risesN
  have key : ∀ (k i : Nat), i + k = t.f_Rows.length → iter (m_decomp_rises_L5 t) (i : Int) = some ((((firstSome (fun i => if rowE t i ≠ 0 then some i else none) k i).getD t.f_Rows.length : Nat)) : Int) := by
    intro k
    induction k with
    | zero =>
      intro i hi
      obtain rfl : i = t.f_Rows.length := by omega
      refine iter_done ?_
      unfold m_decomp_rises_L5
      rw [decide_eq_false (by omega)]; rfl
    | succ k ih =>
      intro i hi
      rw [firstSome]
      by_cases h : rowE t i = 0
      · rw [if_neg (fun h' => h' h)]
        show _ = some ((((firstSome (fun i => if rowE t i ≠ 0 then some i else none) k (i + 1)).getD t.f_Rows.length : Nat)) : Int)
        rw [← ih (i + 1) (by omega)]
        refine iter_next ?_
        unfold m_decomp_rises_L5
        rw [decide_eq_true (by omega), cond_true, rowErr_eq t i (by omega) hn, if_pos h]
        simp only [bind_some', m_decomp_rises_K8, Er.isNil, cond_true, up (show i < 9223372036854775807 by omega)]
      · rw [if_pos h]
        refine iter_done ?_
        unfold m_decomp_rises_L5
        rw [decide_eq_true (by omega), cond_true, rowErr_eq t i (by omega) hn, if_neg h]
        rfl
  rw [show (0 : Int) = ((0 : Nat) : Int) from rfl, key t.f_Rows.length 0 (by omega)]; rfl
theorem dhas_eq (t : T_api_Norm) (r : Int) (hl : t.f_Rows.length ≤ 2000) : m_decomp_has t r = some (decide (0 ≤ rowIdx t r)) := by
  unfold m_decomp_has m_slices_ContainsFunc_api_Row_api_Row_decomp_has_1 m_slices_IndexFunc_api_Row_api_Row_decomp_has_1 rowIdx
  rw [iter_scan t.f_Rows.length (fun i => if (t.f_Rows.getD i d_api_Row).f_From = r then some (i : Int) else none) (fun i hi _ => ?_) (fun _ => ?_)]
  · cases firstSome (fun i => if (t.f_Rows.getD i d_api_Row).f_From = r then some (i : Int) else none) t.f_Rows.length 0 <;> rfl
  · unfold m_slices_IndexFunc_api_Row_api_Row_decomp_has_1_L5 m_decomp_has_1
    rw [decide_eq_true (by omega), cond_true, if_pos ⟨by omega, by omega⟩, Int.toNat_natCast, bind_some']
    by_cases h : (t.f_Rows.getD i d_api_Row).f_From = r
    · rw [if_pos h, beq_iff_eq.2 h]; rfl
    · rw [if_neg h, beq_false_of_ne h, cond_false, up (by omega)]
  · unfold m_slices_IndexFunc_api_Row_api_Row_decomp_has_1_L5
    rw [decide_eq_false (by omega)]; rfl
/-! ### Chains in the rows ahead -/
theorem chain_eq {t : T_api_Norm} {n : Nat} (hn : n ≤ t.f_Rows.length) (hl : t.f_Rows.length ≤ 2000) (h : ∀ i, i < n → rowE t i = 0) : ∀ (d m : Nat) (k : Int), m + d = 8 → k < n → ∃ c, iter (m_decomp_chain_L5 (lead t n)) (k, (m : Int)) = some c ∧ decide (c > 8) = deepF t d k := by
  intro d
  have hr := lead_rising hn h
  have hlen := lead_len t hn
  -- a round at a row
  have round : ∀ (k m : Nat), k < n → m ≤ 8 → m_decomp_chain_L5 (lead t n) ((k : Int), (m : Int)) = some (.next (aheadF t k, ((m + 1 : Nat) : Int))) := fun k m hk hm => by
    have hto := rowE_to (h k hk)
    unfold m_decomp_chain_L5 m_decomp_chain_K8
    simp only
    rw [decide_eq_true (show (k : Int) ≥ 0 by omega), cond_true, decide_eq_true (show (m : Int) ≤ 8 by omega), bind_some', cond_true, if_pos ⟨by omega, by omega⟩]
    simp only [Int.toNat_natCast]
    rw [lead_get t n hk, beq_false_of_ne (show (((t.f_Rows.getD k d_api_Row).f_To.length : Nat) : Int) ≠ 0 by omega), cond_false, if_pos ⟨by omega, by omega⟩, if_pos ⟨by omega, by omega⟩, dfind_eq _ _ (by omega) hr, bind_some', lead_ahead hn h hk, up (by omega)]
  induction d with
  | zero =>
    intro m k hm hk
    obtain rfl : m = 8 := by omega
    by_cases h0 : 0 ≤ k
    · obtain ⟨j, rfl⟩ : ∃ j : Nat, k = j := ⟨k.toNat, by omega⟩
      refine ⟨9, ?_, by simp [deepF, h0]⟩
      rw [iter_next (round j 8 (by omega) (by omega))]
      refine iter_done ?_
      unfold m_decomp_chain_L5 m_decomp_chain_K8
      by_cases ha : aheadF t j ≥ 0
      · simp only [decide_eq_true ha]; rfl
      · simp only [decide_eq_false ha]; rfl
    · refine ⟨8, iter_done ?_, by simp [deepF, h0]⟩
      unfold m_decomp_chain_L5 m_decomp_chain_K8
      simp only [decide_eq_false (show ¬ k ≥ 0 by omega)]; rfl
  | succ d ih =>
    intro m k hm hk
    by_cases h0 : 0 ≤ k
    · obtain ⟨j, rfl⟩ : ∃ j : Nat, k = j := ⟨k.toNat, by omega⟩
      have ha := ahead_lt t j
      obtain ⟨c, hc, hd⟩ := ih (m + 1) (aheadF t j) (by omega) (by omega)
      refine ⟨c, ?_, ?_⟩
      · rw [iter_next (round j m (by omega) (by omega))]; exact hc
      · rw [hd, deepF, if_neg (by omega), Int.toNat_natCast]
    · refine ⟨(m : Int), iter_done ?_, ?_⟩
      · unfold m_decomp_chain_L5 m_decomp_chain_K8
        simp only [decide_eq_false (show ¬ k ≥ 0 by omega)]; rfl
      · rw [deepF, if_pos (by omega), decide_eq_false (by omega)]
theorem dchain_eq {t : T_api_Norm} {n : Nat} (hn : n ≤ t.f_Rows.length) (hl : t.f_Rows.length ≤ 2000) (h : ∀ i, i < n → rowE t i = 0) {k : Nat} (hk : k < n) : ∃ c, m_decomp_chain (lead t n) (k : Int) = some c ∧ decide (c > 8) = deepF t 8 k := by
  obtain ⟨c, hc, hd⟩ := chain_eq hn hl h 8 0 (k : Int) (by omega) (by omega)
  refine ⟨c, ?_, hd⟩
  unfold m_decomp_chain
  rw [show (0 : Int) = ((0 : Nat) : Int) from rfl, hc]; rfl
/-- The deep rows among those that rise. -/
theorem deep_rows {t : T_api_Norm} {n : Nat} (hn : n ≤ t.f_Rows.length) (hl : t.f_Rows.length ≤ 2000) (h : ∀ i, i < n → rowE t i = 0) : iter (m_decomp_Check_L40 t (n : Int)) 0 = some (scanX (firstSome (fun i => if deepB t i = true then some (Er.box 70 (i : Int) (.sent 17)) else none) n 0)) := by
  refine iter_scan n _ (fun i hi _ => ?_) (fun _ => ?_)
  · have hto := rowE_to (h i hi)
    obtain ⟨c, hc, hd⟩ := dchain_eq hn hl h hi
    have hc' : m_decomp_chain { f_Rows := t.f_Rows.take (n - 0), f_Classes := [], f_Excluded := [] } (i : Int) = some c := hc
    unfold m_decomp_Check_L40 deepB
    rw [decide_eq_true (by omega), cond_true, if_pos ⟨by omega, by omega⟩]
    simp only [Int.toNat_natCast, hc', bind_some', hd]
    unfold m_decomp_Check_K43 m_decomp_fault
    rw [up (by omega)]
    by_cases h2 : (t.f_Rows.getD i d_api_Row).f_To.length = 2
    · rw [show (((t.f_Rows.getD i d_api_Row).f_To.length : Nat) : Int) == 2 from by rw [h2]; rfl, cond_true, if_pos ⟨by omega, by omega⟩, dhas_eq _ _ hl, bind_some', decide_eq_true h2, Bool.true_and]
      cases decide (0 ≤ rowIdx t ((t.f_Rows.getD i d_api_Row).f_To.getD 1 0)) <;> cases deepF t 8 (i : Int) <;> rfl
    · rw [beq_false_of_ne (show (((t.f_Rows.getD i d_api_Row).f_To.length : Nat) : Int) ≠ 2 by omega), cond_false, decide_eq_false h2, Bool.false_and, Bool.false_or, bind_some']
      cases deepF t 8 (i : Int) <;> rfl
  · unfold m_decomp_Check_L40
    rw [decide_eq_false (by omega)]; rfl
theorem korean_eq {x : T_api_Range} (h : x.f_Lo ≤ x.f_Hi) : koreanF x = hangIn x.f_Lo x.f_Hi := by
  rw [Bool.eq_iff_iff]
  simp only [koreanF, hangIn, Bool.and_eq_true, Bool.or_eq_true, decide_eq_true_eq]
  omega
theorem dcls_loop (t : T_api_Norm) (hc : (chkR t.f_Classes).2 = 0) : iter (m_decomp_Check_L29 t) 0 = some (scanX (firstSome (fun i => (clsF t i).map erOf) t.f_Classes.length 0)) := by
  have hR := chk_right hc
  refine iter_scan _ _ (fun i hi _ => ?_) (fun _ => ?_)
  · have hm := mayB_le (hR.2.2 _ (getD_mem (d := d_api_Range) hi))
    unfold m_decomp_Check_L29 m_decomp_korean m_decomp_Check_K32 m_decomp_fault clsF
    rw [decide_eq_true (by omega), cond_true, if_pos ⟨by omega, by omega⟩]
    simp only [Int.toNat_natCast, bind_some', korean_eq hm]
    rw [up (by omega)]
    by_cases h1 : (t.f_Classes.getD i d_api_Range).f_Value < 1
    · rw [decide_eq_true h1, if_pos (.inl h1)]; rfl
    · rw [decide_eq_false h1, cond_false]
      by_cases h2 : (t.f_Classes.getD i d_api_Range).f_Value > 254
      · rw [decide_eq_true h2, if_pos (.inr (.inl h2))]; rfl
      · rw [decide_eq_false h2, cond_false, bind_some']
        by_cases h3 : hangIn (t.f_Classes.getD i d_api_Range).f_Lo (t.f_Classes.getD i d_api_Range).f_Hi = true
        · rw [h3, if_pos (.inr (.inr rfl))]; rfl
        · rw [if_neg (fun h => h.elim h1 fun h => h.elim h2 h3)]
          rw [Bool.not_eq_true] at h3
          rw [h3]; rfl
  · unfold m_decomp_Check_L29
    rw [decide_eq_false (by omega)]; rfl
theorem dex_loop (t : T_api_Norm) (hn : t.f_Excluded.length ≤ 2000) : iter (m_decomp_Check_L17 t) 0 = some (scanX (firstSome (fun i => (exF t i).map erOf) t.f_Excluded.length 0)) := by
  refine iter_scan _ _ (fun i hi _ => ?_) (fun _ => ?_)
  · unfold m_decomp_Check_L17 m_decomp_Check_K22 m_decomp_fault exF
    rw [decide_eq_true (by omega), cond_true, if_pos ⟨by omega, by omega⟩]
    simp only [Int.toNat_natCast, dRight_eq, bind_some']
    cases hr : rightB (t.f_Excluded.getD i 0) with
    | false => rw [if_pos rfl]; rfl
    | true =>
      rw [if_neg (show ¬ (true = false) by decide), Bool.not_true, cond_false]
      by_cases h0 : 0 < i
      · rw [decide_eq_true (show (i : Int) > 0 by omega), cond_true, down h0 (by omega), if_pos ⟨by omega, by omega⟩, Int.toNat_natCast, bind_some', up (by omega)]
        by_cases h1 : t.f_Excluded.getD i 0 ≤ t.f_Excluded.getD (i - 1) 0
        · rw [if_pos ⟨h0, h1⟩, decide_eq_true h1]; rfl
        · rw [if_neg (fun h => h1 h.2), decide_eq_false h1]; rfl
      · rw [decide_eq_false (show ¬ (i : Int) > 0 by omega), cond_false, bind_some', if_neg (fun h => h0 h.1), up (by omega)]; rfl
  · unfold m_decomp_Check_L17
    rw [decide_eq_false (by omega)]; rfl
/-! ### A rune sought in a rising row -/
theorem twice_eq (t : T_api_Norm) (hrow : ∀ i, i < t.f_Rows.length → rowE t i = 0) (hn : t.f_Rows.length ≤ 2000) (hc : ordered t.f_Classes ∧ t.f_Classes.length ≤ 2000) (he : t.f_Excluded.length ≤ 2000) (hx : risingL t.f_Excluded) :
    m_decomp_twice t = some (erOf ((firstSome (twF t) t.f_Rows.length 0).getD (0, 0))) := by
  unfold m_decomp_twice
  rw [if_pos (by omega)]
  have key : ∀ (k i : Nat) (seen : List (Int × Int)), i + k = t.f_Rows.length → (∀ x, x ∈ seen ↔ ∃ j, j < i ∧ compB t j = true ∧ x = pairOf t j) → iter (m_decomp_twice_L t) (seen, i) = some (erOf ((firstSome (twF t) k i).getD (0, 0))) := by
    intro k
    induction k with
    | zero =>
      intro i seen hi hs
      refine iter_done ?_
      unfold m_decomp_twice_L
      rw [if_neg (by simp only; omega)]; rfl
    | succ k ih =>
      intro i seen hi hs
      have hil : i < t.f_Rows.length := by omega
      have hto := rowE_to (hrow i hil)
      rw [firstSome]
      cases hb : compB t i with
      | false =>
        rw [twF_no t i hb]
        show _ = some (erOf ((firstSome (twF t) k (i + 1)).getD (0, 0)))
        rw [← ih (i + 1) seen (by omega) fun x => by
          rw [hs]
          refine ⟨fun ⟨j, h1, h2⟩ => ⟨j, by omega, h2⟩, fun ⟨j, h1, h2, h3⟩ => ⟨j, ?_, h2, h3⟩⟩
          by_cases e : j = i
          · subst e; rw [hb] at h2; cases h2
          · omega]
        refine iter_next ?_
        unfold m_decomp_twice_L
        rw [if_pos hil]
        simp only [dcomp_eq t i hil hn hc he hx, bind_some', hb, Bool.false_eq_true, if_false]
      | true =>
        have h2 := comp_two hb
        have hr0 := right_range (x := (t.f_Rows.getD i d_api_Row).f_To.getD 0 0) (by
          have := List.any_eq_false.1 hto.2.2.1 _ (getD_mem (d := (0 : Int)) (i := 0) (by omega)); simpa using this)
        have hr1 := right_range (x := (t.f_Rows.getD i d_api_Row).f_To.getD 1 0) (by
          have := List.any_eq_false.1 hto.2.2.1 _ (getD_mem (d := (0 : Int)) (i := 1) (by omega)); simpa using this)
        rw [twF_iff t i hb]
        by_cases hin : ∃ k, k < i ∧ compB t k = true ∧ pairOf t i = pairOf t k
        · rw [if_pos hin]
          refine iter_done ?_
          unfold m_decomp_twice_L
          rw [if_pos hil]
          simp only [dcomp_eq t i hil hn hc he hx, bind_some', hb, if_true]
          rw [if_pos ⟨h2, hr0, hr1⟩, if_pos (show ((t.f_Rows.getD i d_api_Row).f_To.getD 0 0, (t.f_Rows.getD i d_api_Row).f_To.getD 1 0) ∈ seen from (hs (pairOf t i)).2 hin)]
          rfl
        · rw [if_neg hin]
          show _ = some (erOf ((firstSome (twF t) k (i + 1)).getD (0, 0)))
          rw [← ih (i + 1) (seen ++ [pairOf t i]) (by omega) fun x => by
            rw [List.mem_append, hs, List.mem_singleton]
            constructor
            · rintro (⟨j, h1, h3⟩ | rfl)
              · exact ⟨j, by omega, h3⟩
              · exact ⟨i, by omega, hb, rfl⟩
            · rintro ⟨j, h1, h3, h4⟩
              by_cases e : j = i
              · subst e; exact .inr h4
              · exact .inl ⟨j, by omega, h3, h4⟩]
          refine iter_next ?_
          unfold m_decomp_twice_L
          rw [if_pos hil]
          simp only [dcomp_eq t i hil hn hc he hx, bind_some', hb, if_true]
          rw [if_pos ⟨h2, hr0, hr1⟩, if_neg (show ¬ ((t.f_Rows.getD i d_api_Row).f_To.getD 0 0, (t.f_Rows.getD i d_api_Row).f_To.getD 1 0) ∈ seen from fun h => hin ((hs (pairOf t i)).1 h))]
          rfl
  exact key t.f_Rows.length 0 [] (by omega) fun x => ⟨fun h => absurd h List.not_mem_nil, fun ⟨j, h, _⟩ => absurd h (Nat.not_lt_zero _)⟩
/-! ### The whole -/
theorem decompCheck_eq (t : T_api_Norm) : m_decomp_Check t = some (erOf (chk04 t)) := by
  unfold m_decomp_Check chk04
  by_cases h1 : 2000 < t.f_Rows.length
  · rw [decide_eq_true (by omega), if_pos (.inl h1)]; rfl
  · rw [decide_eq_false (show ¬ ((t.f_Rows.length : Nat) : Int) > 2000 by omega), cond_false, bind_some']
    unfold m_decomp_Check_K2
    by_cases h2 : 2000 < t.f_Excluded.length
    · rw [decide_eq_true (by omega), if_pos (.inr h2)]; rfl
    · have hl : t.f_Rows.length ≤ 2000 := by omega
      have hx : t.f_Excluded.length ≤ 2000 := by omega
      obtain ⟨r1, r2, r3⟩ := rises_le t
      rw [decide_eq_false (by omega), cond_false, if_neg (by omega), rises_eq t hl, bind_some', if_pos ⟨by omega, by omega, by omega⟩, deep_rows r1 hl r2, bind_some']
      have hrow : ∀ i, i < risesN t → rowF t i = if deepB t i = true then 9 else 0 := fun i hi => by rw [rowF_rowE, if_neg (fun h => h (r2 i hi))]
      cases hd : firstSome (fun i => if deepB t i = true then some (Er.box 70 (i : Int) (.sent 17)) else none) (risesN t) 0 with
      | some v =>
        obtain ⟨j, _, j2, j3, j4⟩ := firstSome_some hd
        split at j3
        · rename_i hdj
          cases j3
          rw [firstSome_at (v := ((j : Int), (9 : Int))) (j := j) (Nat.zero_le _) (by omega) (by rw [hrow j (by omega), if_pos hdj]; rfl) fun j' _ hj' => ?_]
          · rfl
          · have := j4 j' (Nat.zero_le _) hj'
            rw [hrow j' (by omega)]
            split at this
            · cases this
            · rename_i hn; rw [if_neg hn]; rfl
        · cases j3
      | none =>
        have hnd : ∀ i, i < risesN t → rowF t i = 0 := fun i hi => by
          have := firstSome_none.1 hd i (Nat.zero_le _) (by omega)
          rw [hrow i hi]
          split at this
          · cases this
          · rename_i hn; rw [if_neg hn]
        simp only [scanX]
        unfold m_decomp_Check_K6
        by_cases hlt : risesN t < t.f_Rows.length
        · have hne := r3 hlt
          have hF : rowF t (risesN t) = rowE t (risesN t) := by rw [rowF_rowE, if_pos hne]
          rw [decide_eq_true (by omega), cond_true, rowErr_eq t _ hlt hl, if_neg hne, bind_some',
            firstSome_at (v := (((risesN t : Nat) : Int), rowE t (risesN t))) (j := risesN t) (Nat.zero_le _) (by omega) (by rw [hF, if_pos hne]) fun j' _ hj' => by rw [if_neg (fun h => h (hnd j' hj'))]]
          unfold m_decomp_fault erOf
          rw [if_neg hne]; rfl
        · have hall : ∀ i, i < t.f_Rows.length → rowE t i = 0 := fun i hi => r2 i (by omega)
          rw [decide_eq_false (by omega), cond_false, firstSome_none.2 fun j _ hj => by rw [if_neg (fun h => h (hnd j (by omega)))], rangesCheck_eq, bind_some', erOf_nil]
          by_cases hc : (chkR t.f_Classes).2 = 0
          · rw [decide_eq_true hc, Bool.not_true, cond_false, dcls_loop t hc, firstSome_map, bind_some']
            simp only [if_neg (fun h : (chkR t.f_Classes).2 ≠ 0 => h hc)]
            cases firstSome (clsF t) t.f_Classes.length 0 with
            | some v => rfl
            | none =>
              simp only [Option.map_none, scanX]
              unfold m_decomp_Check_K11 m_decomp_Check_K13
              rw [dex_loop t hx, firstSome_map, bind_some']
              cases hex : firstSome (exF t) t.f_Excluded.length 0 with
              | some v => rfl
              | none =>
                have hR := chk_right hc
                simp only [Option.map_none, scanX]
                rw [twice_eq t hall hl ⟨hR.2.1, hR.1⟩ hx (ex_rising fun i hi => firstSome_none.1 hex i (Nat.zero_le _) (by omega))]
                rfl
          · rw [decide_eq_false hc, Bool.not_false, cond_true]
            simp only [if_pos (show (chkR t.f_Classes).2 ≠ 0 from hc)]

theorem is_nil (at_ : Int) : m_eponymlaw01_Is .nil at_ 0 = some true := rfl
theorem is_fault {n : Int} {g : Nat} (hn : n ≠ 0) (h : m_eponymlaw01_Named n = some (.sent g)) (hg : g ∈ gsL) (at_ : Int) : m_eponymlaw01_Is (.box 70 at_ (.sent g)) at_ n = some true := by
  unfold m_eponymlaw01_Is
  rw [beq_false_of_ne hn]
  simp only [cond_false, Er.isNil, Bool.not_false, cond_true, m_errors_As, if_true, bind_some', h, m_errors_Is, hg, and_self, beq_self_eq_true]
theorem is_range (at_ : Int) : m_eponymlaw01_Is (.box 70 at_ (.sent 12)) at_ 4 = some true := is_fault (by decide) rfl (by decide) at_
theorem is_form (at_ : Int) : m_eponymlaw01_Is (.box 70 at_ (.sent 13)) at_ 5 = some true := is_fault (by decide) rfl (by decide) at_
theorem is_order (at_ : Int) : m_eponymlaw01_Is (.box 70 at_ (.sent 14)) at_ 6 = some true := is_fault (by decide) rfl (by decide) at_
theorem is_there (at_ : Int) : m_eponymlaw01_Is (.box 70 at_ (.sent 15)) at_ 7 = some true := is_fault (by decide) rfl (by decide) at_
theorem is_deep (at_ : Int) : m_eponymlaw01_Is (.box 70 at_ (.sent 17)) at_ 9 = some true := is_fault (by decide) rfl (by decide) at_
theorem is_bidi (at_ : Int) : m_eponymlaw01_Is (.box 70 at_ (.sent 5)) at_ 12 = some true := is_fault (by decide) rfl (by decide) at_
theorem is_empty (at_ : Int) : m_eponymlaw01_Is (.box 70 at_ (.sent 0)) at_ 16 = some true := is_fault (by decide) rfl (by decide) at_
theorem is_kind (at_ : Int) : m_eponymlaw01_Is (.box 70 at_ (.sent 9)) at_ 17 = some true := is_fault (by decide) rfl (by decide) at_
theorem is_full (at_ : Int) : m_eponymlaw01_Is (.box 70 at_ (.sent 18)) at_ 18 = some true := is_fault (by decide) rfl (by decide) at_
theorem is_erOf4 {c : Int × Int} (h : c.2 = 0 ∨ c.2 = 4 ∨ c.2 = 5 ∨ c.2 = 6 ∨ c.2 = 7 ∨ c.2 = 9 ∨ c.2 = 17 ∨ c.2 = 18) : m_eponymlaw01_Is (erOf c) c.1 c.2 = some true := by
  obtain ⟨a, n⟩ := c
  rcases h with h | h | h | h | h | h | h | h <;> cases h
  · exact is_nil a
  · exact is_range a
  · exact is_form a
  · exact is_order a
  · exact is_there a
  · exact is_deep a
  · exact is_kind a
  · exact is_full a
theorem chkR_codes (l : List T_api_Range) : (chkR l).2 = 0 ∨ (chkR l).2 = 4 ∨ (chkR l).2 = 6 ∨ (chkR l).2 = 18 := by
  unfold chkR
  split
  · simp
  · cases hf : firstSome (chkF l) l.length 0 with
    | none => simp
    | some v =>
      obtain ⟨j, _, _, hj, _⟩ := firstSome_some hf
      unfold chkF at hj
      split at hj
      · cases hj; simp
      · split at hj
        · cases hj; simp
        · cases hj
theorem rowF_codes (t : T_api_Norm) (i : Nat) : rowF t i = 0 ∨ rowF t i = 4 ∨ rowF t i = 5 ∨ rowF t i = 6 ∨ rowF t i = 9 := by
  unfold rowF
  repeat' split
  all_goals simp
theorem chk04_codes (t : T_api_Norm) : (chk04 t).2 = 0 ∨ (chk04 t).2 = 4 ∨ (chk04 t).2 = 5 ∨ (chk04 t).2 = 6 ∨ (chk04 t).2 = 7 ∨ (chk04 t).2 = 9 ∨ (chk04 t).2 = 17 ∨ (chk04 t).2 = 18 := by
  unfold chk04
  split
  · simp
  · split
    · rename_i v hv
      obtain ⟨j, _, _, hj, _⟩ := firstSome_some hv
      split at hj
      · cases hj
        rcases rowF_codes t j with h | h | h | h | h <;> simp [h]
      · cases hj
    · split
      · rcases chkR_codes t.f_Classes with h | h | h | h <;> simp [h]
      · split
        · rename_i v hv
          obtain ⟨j, _, _, hj, _⟩ := firstSome_some hv
          unfold clsF at hj
          split at hj
          · cases hj; simp
          · cases hj
        · split
          · rename_i v hv
            obtain ⟨j, _, _, hj, _⟩ := firstSome_some hv
            unfold exF at hj
            split at hj
            · cases hj; simp
            · split at hj
              · cases hj; simp
              · cases hj
          · cases hf : firstSome (twF t) t.f_Rows.length 0 with
            | none => simp
            | some v =>
              obtain ⟨j, _, _, hj, _⟩ := firstSome_some hf
              unfold twF at hj
              obtain ⟨k, _, _, hk, _⟩ := firstSome_some hj
              split at hk
              · cases hk; simp
              · cases hk
end Go.Proofs.YtkeokkmhhhhoiaaGreatDoor
