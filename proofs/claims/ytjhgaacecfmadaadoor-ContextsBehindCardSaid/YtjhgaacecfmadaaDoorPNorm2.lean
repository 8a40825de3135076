/- The reference's check of a norm as a whole. No condition. -/
import Derived.Test.YtjhgaacecfmadaaDoorPNorm
namespace Go.Proofs.YtjhgaacecfmadaaDoor
open Go Go.SE
set_option linter.unusedVariables false
set_option linter.unusedSimpArgs false
/-- Is there a rune of Hangul from a on to b? -/
def hangIn (a b : Int) : Bool := decide (a ≤ b) && ((decide (a ≤ 55203) && decide (b ≥ 44032)) || ((decide (a ≤ 4370) && decide (b ≥ 4352)) || ((decide (a ≤ 4469) && decide (b ≥ 4449)) || (decide (a ≤ 4546) && decide (b ≥ 4520)))))
theorem hangIn_step (a b : Int) (h : a ≤ b) : hangIn a b = (hangB a || hangIn (a + 1) b) := by
  rw [Bool.eq_iff_iff]
  simp only [hangIn, hangB, Bool.and_eq_true, Bool.or_eq_true, decide_eq_true_eq]
  omega
def clsF (t : T_api_Norm) (i : Nat) : Option (Int × Int) :=
  if (t.f_Classes.getD i d_api_Range).f_Value < 1 ∨ (t.f_Classes.getD i d_api_Range).f_Value > 254 ∨ hangIn (t.f_Classes.getD i d_api_Range).f_Lo (t.f_Classes.getD i d_api_Range).f_Hi = true then some (i, 17) else none
theorem cls_loop (t : T_api_Norm) (i : Nat) (hi : i < t.f_Classes.length) (hh : (t.f_Classes.getD i d_api_Range).f_Hi ≤ 1114111) : ∀ (k : Nat) (r : Int), 0 ≤ r → (t.f_Classes.getD i d_api_Range).f_Hi + 1 - r ≤ k → iter (m_eponymref04_Check_L52 t (i : Int)) r = some (if hangIn r (t.f_Classes.getD i d_api_Range).f_Hi = true then .inr ((i : Int), 17) else .inl ())
  | 0, r, h0, h => by
    have e : hangIn r (t.f_Classes.getD i d_api_Range).f_Hi = false := by simp only [hangIn]; rw [decide_eq_false (by omega)]; rfl
    rw [e]
    refine iter_done ?_
    unfold m_eponymref04_Check_L52
    rw [if_pos ⟨by omega, by omega⟩, Int.toNat_natCast, decide_eq_false (by omega)]
    rfl
  | k + 1, r, h0, h => by
    by_cases hr : r ≤ (t.f_Classes.getD i d_api_Range).f_Hi
    · have ih := cls_loop t i hi hh k (r + 1) (by omega) (by omega)
      have hb : m_eponymref04_Check_L52 t (i : Int) r = if hangB r = true then some (.done (.inr ((i : Int), 17))) else some (.next (r + 1)) := by
        unfold m_eponymref04_Check_L52
        rw [if_pos ⟨by omega, by omega⟩, Int.toNat_natCast, decide_eq_true (by omega), hang_eq, w32 (by omega) (by omega)]
        simp only [bind_some', cond_true]
        cases hangB r <;> rfl
      rw [hangIn_step _ _ hr]
      cases hg : hangB r with
      | true => rw [hg] at hb; exact iter_done hb
      | false => rw [hg] at hb; rw [iter_next hb, ih]; rfl
    · have e : hangIn r (t.f_Classes.getD i d_api_Range).f_Hi = false := by simp only [hangIn]; rw [decide_eq_false (by omega)]; rfl
      rw [e]
      refine iter_done ?_
      unfold m_eponymref04_Check_L52
      rw [if_pos ⟨by omega, by omega⟩, Int.toNat_natCast, decide_eq_false (by omega)]
      rfl
def exF (t : T_api_Norm) (i : Nat) : Option (Int × Int) :=
  if rightB (t.f_Excluded.getD i 0) = false then some (i, 4) else if 0 < i ∧ t.f_Excluded.getD i 0 ≤ t.f_Excluded.getD (i - 1) 0 then some (i, 6) else none
def exclB (t : T_api_Norm) (r : Int) : Bool := t.f_Excluded.any fun x => x == r
theorem excl_eq (t : T_api_Norm) (r : Int) (hn : t.f_Excluded.length ≤ 2000) : m_eponymref04_excluded t r = some (exclB t r) := by
  unfold m_eponymref04_excluded
  rw [iter_scan t.f_Excluded.length (fun i => if (t.f_Excluded.getD i 0 == r) = true then some true else none) (fun i hi _ => ?_) (fun _ => ?_)]
  · have := any_scan' t.f_Excluded 0 (fun x => x == r)
    unfold exclB
    rw [← this]
    cases firstSome (fun i => if (t.f_Excluded.getD i 0 == r) = true then some true else none) t.f_Excluded.length 0 with
    | none => rfl
    | some v => cases v <;> rfl
  · unfold m_eponymref04_excluded_L5
    rw [decide_eq_true (by omega), cond_true, if_pos ⟨by omega, by omega⟩, Int.toNat_natCast]
    cases h : (t.f_Excluded.getD i 0 == r) with
    | true => rfl
    | false => rw [cond_false, up (by omega)]; rfl
  · unfold m_eponymref04_excluded_L5
    rw [decide_eq_false (by omega)]; rfl
def clsR (t : T_api_Norm) (r : Int) : Int := (fnd t.f_Classes r).1
theorem class_eq (t : T_api_Norm) (r : Int) (hn : t.f_Classes.length ≤ 2000) : m_eponymref04_Class t r = some (clsR t r) := by
  unfold m_eponymref04_Class clsR
  rw [find_eq _ _ (by omega)]; rfl
/-- Does row i compose? -/
def compB (t : T_api_Norm) (i : Nat) : Bool := decide ((t.f_Rows.getD i d_api_Row).f_To.length = 2) && !exclB t (t.f_Rows.getD i d_api_Row).f_From && clsR t (t.f_Rows.getD i d_api_Row).f_From == 0 && clsR t ((t.f_Rows.getD i d_api_Row).f_To.getD 0 0) == 0
theorem comp_eq (t : T_api_Norm) (i : Nat) (hi : i < t.f_Rows.length) (hn : t.f_Rows.length ≤ 2000) (he : t.f_Excluded.length ≤ 2000) (hc : t.f_Classes.length ≤ 2000) : m_eponymref04_Composes t (i : Int) = some (compB t i) := by
  unfold m_eponymref04_Composes compB
  rw [decide_eq_false (by omega), cond_false, decide_eq_false (by omega), cond_false, if_pos ⟨by omega, by omega⟩, bind_some']
  unfold m_eponymref04_Composes_K2
  simp only [Int.toNat_natCast]
  by_cases h2 : (t.f_Rows.getD i d_api_Row).f_To.length = 2
  · rw [h2, show ((((2 : Nat) : Int)) != 2) = false by decide, cond_false, if_pos ⟨by omega, by omega⟩, excl_eq t _ he]
    simp only [bind_some', class_eq t _ hc]
    rcases Bool.eq_false_or_eq_true (exclB t (t.f_Rows.getD i d_api_Row).f_From) with h3 | h3
    · simp only [h3, Bool.not_true, cond_false, decide_true, Bool.and_false, Bool.false_and]
    · rcases Bool.eq_false_or_eq_true (clsR t (t.f_Rows.getD i d_api_Row).f_From == 0) with h4 | h4
      · simp only [h3, h4, Bool.not_false, cond_true, bind_some', class_eq t _ hc, decide_true, Bool.true_and]
        rw [if_pos ⟨by omega, by omega⟩, if_pos ⟨by omega, by omega⟩, if_pos ⟨by omega, by omega⟩]
      · simp only [h3, h4, Bool.not_false, cond_true, cond_false, bind_some', class_eq t _ hc, decide_true, Bool.true_and, Bool.false_and]
        rw [if_pos ⟨by omega, by omega⟩]
  · rw [show (((t.f_Rows.getD i d_api_Row).f_To.length : Int) != 2) = true by rw [bne_iff_ne]; omega, decide_eq_false h2]
    rfl
theorem comp_two {t : T_api_Norm} {i : Nat} (h : compB t i = true) : (t.f_Rows.getD i d_api_Row).f_To.length = 2 := by
  simp only [compB, Bool.and_eq_true, decide_eq_true_eq] at h
  exact h.1.1.1
/-- Do rows i and k compose of the same? -/
def twB (t : T_api_Norm) (i k : Nat) : Bool := compB t i && (compB t k && ((t.f_Rows.getD i d_api_Row).f_To.getD 0 0 == (t.f_Rows.getD k d_api_Row).f_To.getD 0 0 && (t.f_Rows.getD i d_api_Row).f_To.getD 1 0 == (t.f_Rows.getD k d_api_Row).f_To.getD 1 0))
def twF (t : T_api_Norm) (i : Nat) : Option (Int × Int) := firstSome (fun k => if twB t i k = true then some ((i : Int), (7 : Int)) else none) i 0
theorem tw_loop (t : T_api_Norm) (i : Nat) (hi : i < t.f_Rows.length) (hn : t.f_Rows.length ≤ 2000) (he : t.f_Excluded.length ≤ 2000) (hc : t.f_Classes.length ≤ 2000) : iter (m_eponymref04_Check_L20 t (i : Int)) 0 = some (scanX (twF t i)) := by
  refine iter_scan i (fun k => if twB t i k = true then some ((i : Int), (7 : Int)) else none) (fun k hk _ => ?_) (fun _ => ?_)
  · unfold m_eponymref04_Check_L20
    rw [decide_eq_true (by omega), cond_true, comp_eq t i hi hn he hc, comp_eq t k (by omega) hn he hc]
    simp only [bind_some', Int.toNat_natCast]
    have key : (bif compB t i then
          bif compB t k then
            if 0 ≤ (i : Int) ∧ (i : Int) < (t.f_Rows.length : Int) then
              if 0 ≤ (0 : Int) ∧ (0 : Int) < ((t.f_Rows.getD i d_api_Row).f_To.length : Int) then
                if 0 ≤ (k : Int) ∧ (k : Int) < (t.f_Rows.length : Int) then
                  if 0 ≤ (0 : Int) ∧ (0 : Int) < ((t.f_Rows.getD k d_api_Row).f_To.length : Int) then
                    bif ((t.f_Rows.getD i d_api_Row).f_To.getD 0 0 == (t.f_Rows.getD k d_api_Row).f_To.getD 0 0) then
                      if 0 ≤ (i : Int) ∧ (i : Int) < (t.f_Rows.length : Int) then
                        if 0 ≤ (1 : Int) ∧ (1 : Int) < ((t.f_Rows.getD i d_api_Row).f_To.length : Int) then
                          if 0 ≤ (k : Int) ∧ (k : Int) < (t.f_Rows.length : Int) then
                            if 0 ≤ (1 : Int) ∧ (1 : Int) < ((t.f_Rows.getD k d_api_Row).f_To.length : Int) then
                              some ((t.f_Rows.getD i d_api_Row).f_To.getD 1 0 == (t.f_Rows.getD k d_api_Row).f_To.getD 1 0)
                            else none
                          else none
                        else none
                      else none
                    else some false
                  else none
                else none
              else none
            else none
          else some false
        else some false) = some (twB t i k) := by
      rcases Bool.eq_false_or_eq_true (compB t i) with h1 | h1
      · rcases Bool.eq_false_or_eq_true (compB t k) with h2 | h2
        · have l1 := comp_two h1
          have l2 := comp_two h2
          have q1 : 0 ≤ (i : Int) ∧ (i : Int) < (t.f_Rows.length : Int) := by omega
          have q2 : 0 ≤ (k : Int) ∧ (k : Int) < (t.f_Rows.length : Int) := by omega
          have q3 : 0 ≤ (0 : Int) ∧ (0 : Int) < ((t.f_Rows.getD i d_api_Row).f_To.length : Int) := by omega
          have q4 : 0 ≤ (0 : Int) ∧ (0 : Int) < ((t.f_Rows.getD k d_api_Row).f_To.length : Int) := by omega
          have q5 : 0 ≤ (1 : Int) ∧ (1 : Int) < ((t.f_Rows.getD i d_api_Row).f_To.length : Int) := by omega
          have q6 : 0 ≤ (1 : Int) ∧ (1 : Int) < ((t.f_Rows.getD k d_api_Row).f_To.length : Int) := by omega
          rw [if_pos q1, if_pos q3, if_pos q2, if_pos q4, if_pos q1, if_pos q5, if_pos q2, if_pos q6]
          rcases Bool.eq_false_or_eq_true ((t.f_Rows.getD i d_api_Row).f_To.getD 0 0 == (t.f_Rows.getD k d_api_Row).f_To.getD 0 0) with h3 | h3 <;> simp only [twB, h1, h2, h3, cond_true, cond_false, Bool.true_and, Bool.false_and]
        · simp only [twB, h1, h2, cond_true, cond_false, Bool.true_and, Bool.false_and]
      · simp only [twB, h1, cond_false, Bool.false_and]
    rw [key]
    simp only [bind_some', m_eponymref04_Check_K23, up (show k < 9223372036854775807 by omega)]
    cases twB t i k <;> rfl
  · unfold m_eponymref04_Check_L20
    rw [decide_eq_false (by omega)]; rfl
def chk04 (t : T_api_Norm) : Int × Int :=
  if 2000 < t.f_Rows.length ∨ 2000 < t.f_Excluded.length then (0, 18)
  else match firstSome (fun i => if rowF t i ≠ 0 then some ((i : Int), rowF t i) else none) t.f_Rows.length 0 with
    | some v => v
    | none =>
      if (chkR t.f_Classes).2 ≠ 0 then chkR t.f_Classes
      else match firstSome (clsF t) t.f_Classes.length 0 with
        | some v => v
        | none => match firstSome (exF t) t.f_Excluded.length 0 with
          | some v => v
          | none => (firstSome (twF t) t.f_Rows.length 0).getD (0, 0)
theorem check04_eq (t : T_api_Norm) (hs : ∀ x ∈ t.f_Rows, x.f_To.length ≤ 4) : m_eponymref04_Check t = some (chk04 t) := by
  unfold m_eponymref04_Check chk04
  by_cases h1 : 2000 < t.f_Rows.length
  · rw [decide_eq_true (by omega), if_pos (.inl h1)]; rfl
  by_cases h2 : 2000 < t.f_Excluded.length
  · rw [decide_eq_false (by omega), decide_eq_true (by omega), if_pos (.inr h2)]; rfl
  rw [decide_eq_false (by omega), decide_eq_false (by omega), if_neg (by omega)]
  simp only [cond_false, bind_some']
  unfold m_eponymref04_Check_K2
  rw [cond_false, iter_scan t.f_Rows.length (fun i => if rowF t i ≠ 0 then some ((i : Int), rowF t i) else none) (fun i hi hp => ?_) (fun _ => ?_)]
  · cases hf : firstSome (fun i => if rowF t i ≠ 0 then some ((i : Int), rowF t i) else none) t.f_Rows.length 0 with
    | some v => rfl
    | none =>
      simp only [bind_some', scanX]
      unfold m_eponymref04_Check_K4
      rw [check03_eq, bind_some']
      by_cases h3 : (chkR t.f_Classes).2 = 0
      · rw [show ((chkR t.f_Classes).2 != 0) = false by rw [h3]; rfl, cond_false, if_neg (fun h => h h3)]
        obtain ⟨c1, c2, c3⟩ := chk_right h3
        rw [iter_scan t.f_Classes.length (clsF t) (fun i hi _ => ?_) (fun _ => ?_)]
        · cases hf2 : firstSome (clsF t) t.f_Classes.length 0 with
          | some v => rfl
          | none =>
            simp only [bind_some', scanX]
            unfold m_eponymref04_Check_K7
            rw [iter_scan t.f_Excluded.length (exF t) (fun i hi _ => ?_) (fun _ => ?_)]
            · cases hf3 : firstSome (exF t) t.f_Excluded.length 0 with
              | some v => rfl
              | none =>
                simp only [bind_some', scanX]
                unfold m_eponymref04_Check_K9
                rw [iter_scan t.f_Rows.length (twF t) (fun i hi _ => ?_) (fun _ => ?_)]
                · cases firstSome (twF t) t.f_Rows.length 0 <;> rfl
                · unfold m_eponymref04_Check_L14
                  rw [decide_eq_true (by omega), cond_true, tw_loop t i hi (by omega) (by omega) c1]
                  cases twF t i with
                  | none => simp only [bind_some', scanX, up (show i < 9223372036854775807 by omega)]
                  | some v => rfl
                · unfold m_eponymref04_Check_L14
                  rw [decide_eq_false (by omega)]; rfl
            · unfold m_eponymref04_Check_L34 exF
              rw [decide_eq_true (by omega), cond_true, if_pos ⟨by omega, by omega⟩, Int.toNat_natCast, right_eq, bind_some']
              rcases Bool.eq_false_or_eq_true (rightB (t.f_Excluded.getD i 0)) with h4 | h4
              · simp only [h4, Bool.not_true, cond_false, Bool.true_eq_false, if_false]
                by_cases h0 : 0 < i
                · rw [decide_eq_true (show (i : Int) > 0 by omega), cond_true, if_pos ⟨by omega, by omega⟩, down h0 (by omega), if_pos ⟨by omega, by omega⟩, bind_some', Int.toNat_natCast]
                  by_cases h5 : t.f_Excluded.getD i 0 ≤ t.f_Excluded.getD (i - 1) 0
                  · rw [if_pos ⟨h0, h5⟩, decide_eq_true h5]; rfl
                  · rw [if_neg (fun h => h5 h.2), decide_eq_false h5]
                    simp only [m_eponymref04_Check_K38, cond_false, up (show i < 9223372036854775807 by omega)]
                · rw [decide_eq_false (show ¬ (i : Int) > 0 by omega), cond_false, bind_some', if_neg (fun h => h0 h.1)]
                  simp only [m_eponymref04_Check_K38, cond_false, up (show i < 9223372036854775807 by omega)]
              · simp only [h4, Bool.not_false, cond_true, if_true]
            · unfold m_eponymref04_Check_L34
              rw [decide_eq_false (by omega)]; rfl
        · have hm := c3 _ (getD_mem (d := d_api_Range) hi)
          simp only [mayB, Bool.and_eq_true, decide_eq_true_eq] at hm
          unfold m_eponymref04_Check_L44 clsF
          rw [decide_eq_true (by omega), cond_true, if_pos ⟨by omega, by omega⟩, if_pos ⟨by omega, by omega⟩, Int.toNat_natCast]
          have e : (bif decide ((t.f_Classes.getD i d_api_Range).f_Value < 1) then some true else some (decide ((t.f_Classes.getD i d_api_Range).f_Value > 254))) = some (decide ((t.f_Classes.getD i d_api_Range).f_Value < 1) || decide ((t.f_Classes.getD i d_api_Range).f_Value > 254)) := by
            cases decide ((t.f_Classes.getD i d_api_Range).f_Value < 1) <;> rfl
          rw [e, bind_some']
          unfold m_eponymref04_Check_K49
          rw [if_pos ⟨by omega, by omega⟩, Int.toNat_natCast, cls_loop t i hi (by omega) 1114112 _ (by omega) (by omega)]
          by_cases g1 : (t.f_Classes.getD i d_api_Range).f_Value < 1
          · simp only [g1, true_or, if_true, decide_true, Bool.true_or, cond_true]; rfl
          by_cases g2 : (t.f_Classes.getD i d_api_Range).f_Value > 254
          · simp only [g1, g2, true_or, false_or, or_true, if_true, decide_true, decide_false, Bool.or_true, Bool.false_or, cond_true]; rfl
          rw [decide_eq_false g1, decide_eq_false g2]
          simp only [g1, g2, false_or, Bool.or_false, cond_false]
          cases hangIn (t.f_Classes.getD i d_api_Range).f_Lo (t.f_Classes.getD i d_api_Range).f_Hi with
          | true => rfl
          | false => simp only [Bool.false_eq_true, if_false, bind_some', up (show i < 9223372036854775807 by omega)]
        · unfold m_eponymref04_Check_L44
          rw [decide_eq_false (by omega)]; rfl
      · rw [show ((chkR t.f_Classes).2 != 0) = true from bne_iff_ne.2 h3, if_pos h3]; rfl
  · have hto : ∀ j, j < i → 0 < (t.f_Rows.getD j d_api_Row).f_To.length := fun j hj => by
      have := hp j hj
      split at this
      · cases this
      · rename_i h0
        have := row_to (Decidable.not_not.1 h0)
        omega
    unfold m_eponymref04_Check_L63
    rw [decide_eq_true (by omega), cond_true, row_eq t i (by omega) hi (hs _ (getD_mem hi)) hto, bind_some']
    by_cases h0 : rowF t i = 0
    · rw [show (rowF t i != 0) = false by rw [h0]; rfl, cond_false, up (by omega), if_neg (fun h => h h0)]
    · rw [show (rowF t i != 0) = true from bne_iff_ne.2 h0, if_pos h0]; rfl
  · unfold m_eponymref04_Check_L63
    rw [decide_eq_false (by omega)]; rfl
/-- A right norm. -/
structure Right04 (t : T_api_Norm) : Prop where
  rows : t.f_Rows.length ≤ 2000
  exc : t.f_Excluded.length ≤ 2000
  row : ∀ i, i < t.f_Rows.length → rowF t i = 0
  cls : (chkR t.f_Classes).2 = 0
  clsV : ∀ i, i < t.f_Classes.length → clsF t i = none
  exV : ∀ i, i < t.f_Excluded.length → exF t i = none
  two : ∀ i, i < t.f_Rows.length → twF t i = none
theorem chk04_right {t : T_api_Norm} (h : (chk04 t).2 = 0) : Right04 t := by
  unfold chk04 at h
  split at h
  · cases h
  · rename_i h0
    split at h
    · rename_i v hv
      obtain ⟨j, _, _, hj, _⟩ := firstSome_some hv
      split at hj
      · rename_i hne; cases hj; exact absurd h hne
      · cases hj
    · rename_i hrow
      split at h
      · rename_i hne; exact absurd h hne
      · rename_i hcls
        split at h
        · rename_i v hv
          obtain ⟨j, _, _, hj, _⟩ := firstSome_some hv
          unfold clsF at hj
          split at hj
          · cases hj; cases h
          · cases hj
        · rename_i hc
          split at h
          · rename_i v hv
            obtain ⟨j, _, _, hj, _⟩ := firstSome_some hv
            unfold exF at hj
            split at hj
            · cases hj; cases h
            · split at hj
              · cases hj; cases h
              · cases hj
          · rename_i hx
            have htw : firstSome (twF t) t.f_Rows.length 0 = none := by
              cases hv : firstSome (twF t) t.f_Rows.length 0 with
              | none => rfl
              | some v =>
                obtain ⟨j, _, _, hj, _⟩ := firstSome_some hv
                unfold twF at hj
                obtain ⟨k, _, _, hk, _⟩ := firstSome_some hj
                rw [hv] at h
                split at hk
                · cases hk; cases h
                · cases hk
            refine ⟨by omega, by omega, fun i hi => ?_, Decidable.not_not.1 hcls, fun i hi => firstSome_none.1 hc i (Nat.zero_le _) (by omega), fun i hi => firstSome_none.1 hx i (Nat.zero_le _) (by omega), fun i hi => firstSome_none.1 htw i (Nat.zero_le _) (by omega)⟩
            have := firstSome_none.1 hrow i (Nat.zero_le _) (by omega)
            split at this
            · cases this
            · rename_i h1; exact Decidable.not_not.1 h1
end Go.Proofs.YtjhgaacecfmadaaDoor
