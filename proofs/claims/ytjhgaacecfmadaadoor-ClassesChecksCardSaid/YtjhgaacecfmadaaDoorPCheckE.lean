/- What the program's checks of tables answer: the reference's word as an error. No condition. -/
import Derived.Test.YtjhgaacecfmadaaDoorPProps
namespace Go.Proofs.YtjhgaacecfmadaaDoor
open Go Go.SE
set_option linter.unusedVariables false
set_option linter.unusedSimpArgs false
theorem firstSome_map {V W : Type} (f : Nat → Option V) (h : V → W) : ∀ (k i : Nat), firstSome (fun j => (f j).map h) k i = (firstSome f k i).map h
  | 0, i => rfl
  | k + 1, i => by
    rw [firstSome, firstSome, firstSome_map f h k (i + 1)]
    cases f i <;> rfl
theorem filterMap_first {V : Type} (f : Nat → Option V) : ∀ (k i : Nat), ((List.range' i k).filterMap f).head? = firstSome f k i
  | 0, i => rfl
  | k + 1, i => by
    rw [List.range'_succ, firstSome, List.filterMap_cons]
    cases h : f i with
    | none => exact filterMap_first f k (i + 1)
    | some v => rfl
def nmG (c : Int) : Nat := if c = 4 then 6 else if c = 6 then 7 else if c = 17 then 0 else 3
def erOf (c : Int × Int) : Er := if c.2 = 0 then .nil else .box 89 c.1 (.sent (nmG c.2))
theorem chkF_fault {l : List T_api_Range} {k : Nat} : (chkF l k).map erOf = (rangeFault l k).map fun g => .box 89 (k : Int) (.sent g) := by
  unfold chkF rangeFault
  have e : (decide (0 ≤ (l.getD k d_api_Range).f_Lo) && (decide ((l.getD k d_api_Range).f_Lo ≤ (l.getD k d_api_Range).f_Hi) && (decide ((l.getD k d_api_Range).f_Hi ≤ 1114111) && (decide (0 ≤ (l.getD k d_api_Range).f_Value) && decide ((l.getD k d_api_Range).f_Value ≤ 999999))))) = mayB (l.getD k d_api_Range) := by
    simp only [mayB, Bool.and_assoc, ge_iff_le]
  rw [e]
  cases hm : mayB (l.getD k d_api_Range) with
  | false => simp only [if_true]; rfl
  | true =>
    have h0 : 0 ≤ (l.getD k d_api_Range).f_Lo := by
      simp only [mayB, Bool.and_eq_true, decide_eq_true_eq] at hm; omega
    simp only [Bool.true_eq_false, if_false]
    by_cases hk : 0 < k
    · rw [if_neg (show ¬ k = 0 by omega)]
      by_cases h1 : (l.getD k d_api_Range).f_Lo ≤ (l.getD (k - 1) d_api_Range).f_Hi
      · rw [if_pos ⟨hk, h1⟩, if_pos h1]; rfl
      · rw [if_neg (fun h => h1 h.2), if_neg h1]; rfl
    · rw [if_pos (show k = 0 by omega), if_neg (fun h => hk h.1), if_neg (by omega)]; rfl
theorem rangesCheck_eq (l : List T_api_Range) : m_ranges_Check l = some (erOf (chkR l)) := by
  unfold m_ranges_Check chkR
  by_cases hn : 2000 < l.length
  · rw [if_pos hn, if_pos hn]; rfl
  · rw [if_neg hn, if_neg hn]
    congr 1
    have h1 := firstSome_map (chkF l) erOf l.length 0
    have h2 := firstSome_map (rangeFault l) (fun g => g) l.length 0
    have h3 : firstSome (fun k => (chkF l k).map erOf) l.length 0 = firstSome (fun k => (rangeFault l k).map fun g => .box 89 (k : Int) (.sent g)) l.length 0 := firstSome_congr fun j _ _ => chkF_fault
    have h4 := filterMap_first (fun k => (rangeFault l k).map fun g => (k, g)) l.length 0
    have h5 := firstSome_map (fun k => (rangeFault l k).map fun g => (k, g)) (fun x : Nat × Nat => Er.box 89 (x.1 : Int) (.sent x.2)) l.length 0
    have h6 : (fun j => ((rangeFault l j).map fun g => (j, g)).map (fun x : Nat × Nat => Er.box 89 (x.1 : Int) (.sent x.2))) = fun k => (rangeFault l k).map fun g => Er.box 89 (k : Int) (.sent g) := by
      funext k; cases rangeFault l k <;> rfl
    rw [h6, ← h3, h1] at h5
    rw [← h4] at h5
    unfold rangeFaults
    rw [List.range_eq_range']
    cases hL : (List.range' 0 l.length).filterMap (fun k => (rangeFault l k).map fun g => (k, g)) with
    | nil =>
      rw [hL] at h5
      cases hf : firstSome (chkF l) l.length 0 with
      | none => rfl
      | some v => rw [hf] at h5; cases h5
    | cons x tl =>
      rw [hL] at h5
      cases hf : firstSome (chkF l) l.length 0 with
      | none => rw [hf] at h5; cases h5
      | some v => rw [hf] at h5; exact (Option.some.inj h5).symm
/-! ### classes.Check -/
def cols (p : T_api_Props) : List T_classes_column := [({ f_l := p.f_Exceptions, f_most := 5 }), ({ f_l := p.f_Unassigned, f_most := 0 }), ({ f_l := p.f_Joiners, f_most := 0 }), ({ f_l := p.f_OldHangul, f_most := 0 }), ({ f_l := p.f_Unstable, f_most := 0 }), ({ f_l := p.f_Ignorable, f_most := 0 }), ({ f_l := p.f_Letters, f_most := 0 }), ({ f_l := p.f_Joining, f_most := 4 }), ({ f_l := p.f_Scripts, f_most := 5 }), ({ f_l := p.f_Directions, f_most := 11 }), ({ f_l := p.f_Marks, f_most := 0 })]
theorem cols_get (p : T_api_Props) : ∀ j, j < 11 → (cols p).getD j d_classes_column = { f_l := (tabs p).getD j [], f_most := mxs.getD j 0 }
  | 0, _ => rfl | 1, _ => rfl | 2, _ => rfl | 3, _ => rfl | 4, _ => rfl | 5, _ => rfl | 6, _ => rfl | 7, _ => rfl | 8, _ => rfl | 9, _ => rfl | 10, _ => rfl
  | n + 11, h => absurd h (by omega)
theorem colval_loop (p : T_api_Props) (j : Nat) (hj : j < 11) (hl : ((tabs p).getD j []).length ≤ 2000) : iter (m_classes_Check_L13 (cols p) (j : Int)) 0 = some (scanX (firstSome (fun i => (valF (mxs.getD j 0) ((tabs p).getD j []) i).map erOf) ((tabs p).getD j []).length 0)) := by
  refine iter_scan _ _ (fun i hi _ => ?_) (fun _ => ?_)
  · unfold m_classes_Check_L13 valF
    simp only [Int.toNat_natCast, cols_get p j hj]
    rw [decide_eq_true (by omega), cond_true, if_pos ⟨by omega, by omega⟩]
    by_cases h0 : 0 < mxs.getD j 0
    · rw [decide_eq_true (show mxs.getD j 0 > 0 from h0), cond_true]
      by_cases h1 : (((tabs p).getD j []).getD i d_api_Range).f_Value < 1
      · simp only [h0, h1, true_or, and_self, if_true, decide_true, cond_true, bind_some']; rfl
      · by_cases h2 : (((tabs p).getD j []).getD i d_api_Range).f_Value > mxs.getD j 0
        · simp only [h0, h1, h2, or_true, and_self, if_true, decide_true, decide_false, cond_false, bind_some']; rfl
        · simp only [h0, h1, h2, or_self, and_false, if_false, decide_false, cond_false, bind_some', m_classes_Check_K16, up (show i < 9223372036854775807 by omega)]; rfl
    · rw [decide_eq_false (show ¬ mxs.getD j 0 > 0 from h0)]
      simp only [h0, false_and, if_false, cond_false, bind_some', m_classes_Check_K16, up (show i < 9223372036854775807 by omega)]; rfl
  · unfold m_classes_Check_L13
    simp only [Int.toNat_natCast, cols_get p j hj]
    rw [decide_eq_false (by omega)]; rfl
theorem erOf_nil (c : Int × Int) : (erOf c).isNil = decide (c.2 = 0) := by
  unfold erOf
  by_cases h : c.2 = 0
  · rw [if_pos h, decide_eq_true h]; rfl
  · rw [if_neg h, decide_eq_false h]; rfl
theorem classesCheck_eq (p : T_api_Props) : m_classes_Check p = some (erOf (chk07 p)) := by
  unfold m_classes_Check chk07
  rw [show m_classes_columns p = some (cols p) from rfl, bind_some']
  rw [iter_scan 11 (fun j => (tabF p j).map erOf) (fun j hj _ => ?_) (fun _ => ?_)]
  · rw [firstSome_map]
    cases firstSome (tabF p) 11 0 <;> rfl
  · unfold m_classes_Check_L6 tabF
    simp only [Int.toNat_natCast, cols_get p j hj]
    rw [show (((cols p).length : Nat) : Int) = 11 from rfl, decide_eq_true (by omega), cond_true, if_pos ⟨by omega, by omega⟩, rangesCheck_eq, bind_some', erOf_nil]
    by_cases h : (chkR ((tabs p).getD j [])).2 = 0
    · rw [decide_eq_true h, if_neg (fun h' => h' h), Bool.not_true, cond_false, colval_loop p j hj (chk_right h).1, firstSome_map]
      cases firstSome (valF (mxs.getD j 0) ((tabs p).getD j [])) ((tabs p).getD j []).length 0 with
      | none => simp only [bind_some', scanX, up (show j < 9223372036854775807 by omega)]; rfl
      | some v => rfl
    · rw [decide_eq_false h, if_pos h]; rfl
  · unfold m_classes_Check_L6
    rw [show (((cols p).length : Nat) : Int) = 11 from rfl, decide_eq_false (by omega)]; rfl
theorem classesCheck_right (p : T_api_Props) : (Option.bind (m_classes_Check p) fun y => some (!y.isNil)) = some (!decide ((chk07 p).2 = 0)) := by
  rw [classesCheck_eq, bind_some', erOf_nil]
/-- The codes that a check may give. -/
theorem chk07_codes (p : T_api_Props) : (chk07 p).2 = 0 ∨ (chk07 p).2 = 4 ∨ (chk07 p).2 = 6 ∨ (chk07 p).2 = 17 ∨ (chk07 p).2 = 18 := by
  have hR : ∀ l, (chkR l).2 = 0 ∨ (chkR l).2 = 4 ∨ (chkR l).2 = 6 ∨ (chkR l).2 = 18 := fun l => by
    unfold chkR
    split
    · simp
    · cases hf : firstSome (chkF l) l.length 0 with
      | none => simp
      | some v =>
        obtain ⟨j, _, _, hj, _⟩ := firstSome_some hf
        unfold chkF at hj
        split at hj
        · cases hj; simp
        · split at hj
          · cases hj; simp
          · cases hj
  unfold chk07
  cases hf : firstSome (tabF p) 11 0 with
  | none => simp
  | some v =>
    obtain ⟨j, _, _, hj, _⟩ := firstSome_some hf
    unfold tabF at hj
    split at hj
    · cases hj
      rcases hR ((tabs p).getD j []) with h | h | h | h
      · exact .inl h
      · exact .inr (.inl h)
      · exact .inr (.inr (.inl h))
      · exact .inr (.inr (.inr (.inr h)))
    · obtain ⟨i, _, _, hi, _⟩ := firstSome_some hj
      unfold valF at hi
      split at hi
      · cases hi; simp
      · cases hi
end Go.Proofs.YtjhgaacecfmadaaDoor
