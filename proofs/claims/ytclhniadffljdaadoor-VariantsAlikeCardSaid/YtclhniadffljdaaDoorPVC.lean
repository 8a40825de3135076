/- The law of a family's checks. No condition. -/
import Derived.Test.YtclhniadffljdaaDoorPAllLA
import Derived.Test.YtclhniadffljdaaDoorPU5A
namespace Go.Proofs.YtclhniadffljdaaDoor
open Go Go.SE
set_option linter.unusedVariables false
set_option linter.unusedSimpArgs false
theorem firstSome_const {V : Type} (v : V) (p : Nat → Bool) : ∀ (k i : Nat), firstSome (fun j => if p j = true then some v else none) k i = if (List.range' i k).any p = true then some v else none
  | 0, i => rfl
  | k + 1, i => by
    rw [firstSome, firstSome_const v p k (i + 1), List.range'_succ, List.any_cons]
    cases p i <;> rfl
def setAt (f : T_api_Family) (i : Nat) : List Int := f.f_Sets.getD i []
def badR (x : List Int) : Bool := (List.range' 0 x.length).any fun k => !rightS (x.getD k 0)
def badO (x : List Int) : Bool := (List.range' 1 (x.length - 1)).any fun k => decide (x.getD k 0 ≤ x.getD (k - 1) 0)
def badP (f : T_api_Family) (i : Nat) : Bool := decide (0 < i) && decide ((setAt f i).getD 0 0 ≤ (setAt f (i - 1)).getD 0 0)
def dupC (f : T_api_Family) (i : Nat) : Bool := (List.range' 0 i).any fun j => (List.range' 0 (setAt f i).length).any fun k => (setAt f j).any fun z => z == (setAt f i).getD k 0
def seC (f : T_api_Family) (i : Nat) : Int := if (setAt f i).length < 2 then 16 else if badR (setAt f i) = true then 4 else if badO (setAt f i) = true then 6 else if badP f i = true then 6 else 0
def stC (f : T_api_Family) (i : Nat) : Option (Int × Int) := if seC f i ≠ 0 then some ((i : Int), seC f i) else if dupC f i = true then some ((i : Int), 7) else none
def chk19 (f : T_api_Family) (bad : Bool) : Int × Int :=
  if bad = true then (0, 5) else match firstSome (stC f) f.f_Sets.length 0 with | some v => v | none => (0, 0)
def gErr (n : Int) : Nat := if n = 16 then 6 else if n = 4 then 3 else if n = 6 then 7 else if n = 7 then 2 else 0
def erV (c : Int × Int) : Er := if c.2 = 0 then .nil else .box 62 c.1 (.sent (gErr c.2))
theorem utfRight_eq (v : Int) : m_utf_Right v = some (rightS v) := by
  unfold m_utf_Right rightS
  by_cases a : v ≥ 0
  · rw [decide_eq_true a, cond_true]
    by_cases b : v ≤ 1114111
    · rw [decide_eq_true b, cond_true]
      by_cases c : v < 55296
      · rw [decide_eq_true c, cond_true, decide_eq_true (by omega)]
      · rw [decide_eq_false c, cond_false]
        by_cases d : v > 57343
        · rw [decide_eq_true d, decide_eq_true (by omega)]
        · rw [decide_eq_false d, decide_eq_false (by omega)]
    · rw [decide_eq_false b, cond_false, decide_eq_false (by omega)]
  · rw [decide_eq_false a, cond_false, decide_eq_false (by omega)]
/-- A scan from a place on. -/
theorem scanC {V : Type} {body : Int → Option (Stp Int (Sum Unit V))} (a n : Nat) (han : a ≤ n) (v : V) (p : Nat → Bool)
    (hstep : ∀ i, a ≤ i → i < n → body (i : Int) = some (bif p i then .done (.inr v) else .next ((i + 1 : Nat) : Int))) (hend : body (n : Int) = some (.done (.inl ()))) :
    iter body (a : Int) = some (bif (List.range' a (n - a)).any p then .inr v else .inl ()) := by
  rw [scan_from a n (fun i => if p i = true then some v else none) (fun i h1 h2 => ?_) hend (n - a) a (Nat.le_refl _) (by omega), firstSome_const]
  · cases (List.range' a (n - a)).any p <;> rfl
  · rw [hstep i h1 h2]; cases p i <;> rfl
section
variable (f : T_api_Family) (hs : Small f)
include hs
theorem setAt_len {i : Nat} (hi : i < f.f_Sets.length) : (setAt f i).length ≤ 20 := hs.each _ (getD_mem (d := ([] : List Int)) hi)
theorem ref_step (i : Nat) (hi : i < f.f_Sets.length) (hp : ∀ j, j < i → 2 ≤ (setAt f j).length) : m_eponymref19_Check_L10 f (i : Int) = some (match stC f i with | none => .next ((i + 1 : Nat) : Int) | some v => .done (.inr v)) := by
  have hset := hs.sets
  have hx := setAt_len f hs hi
  have e : ∀ j : Nat, f.f_Sets.getD ((j : Int).toNat) [] = setAt f j := fun j => by rw [Int.toNat_natCast]; rfl
  unfold m_eponymref19_Check_L10
  rw [decide_eq_true (by omega), cond_true, if_pos ⟨by omega, by omega⟩, e, up (by omega)]
  unfold stC seC
  by_cases h2 : (setAt f i).length < 2
  · rw [decide_eq_true (by omega), if_pos h2]; rfl
  rw [decide_eq_false (by omega), cond_false, if_neg h2]
  have h45 : iter (m_eponymref19_Check_L45 f (i : Int)) ((0 : Nat) : Int) = some (bif badR (setAt f i) then .inr ((i : Int), (4 : Int)) else .inl ()) := by
    refine (scanC 0 (setAt f i).length (Nat.zero_le _) ((i : Int), (4 : Int)) (fun k => !rightS ((setAt f i).getD k 0)) (fun k _ hk => ?_) ?_).trans rfl
    · unfold m_eponymref19_Check_L45
      rw [e, Int.toNat_natCast, decide_eq_true (by omega), cond_true, if_pos ⟨by omega, by omega⟩, rightS_eq, bind_some', up (by omega)]
      cases rightS ((setAt f i).getD k 0) <;> rfl
    · unfold m_eponymref19_Check_L45
      rw [e, decide_eq_false (by omega)]; rfl
  rw [show (0 : Int) = ((0 : Nat) : Int) from rfl, h45]
  cases hR : badR (setAt f i) with
  | true => rfl
  | false =>
    rw [cond_false, bind_some']
    simp only [Bool.false_eq_true, if_false]
    unfold m_eponymref19_Check_K15
    have h38 : iter (m_eponymref19_Check_L38 f (i : Int)) ((1 : Nat) : Int) = some (bif badO (setAt f i) then .inr ((i : Int), (6 : Int)) else .inl ()) := by
      refine (scanC 1 (setAt f i).length (by omega) ((i : Int), (6 : Int)) (fun k => decide ((setAt f i).getD k 0 ≤ (setAt f i).getD (k - 1) 0)) (fun k k1 hk => ?_) ?_).trans rfl
      · unfold m_eponymref19_Check_L38
        rw [e, Int.toNat_natCast, decide_eq_true (by omega), cond_true, if_pos ⟨by omega, by omega⟩, down (by omega) (by omega), if_pos ⟨by omega, by omega⟩, Int.toNat_natCast, up (by omega)]
        cases decide ((setAt f i).getD k 0 ≤ (setAt f i).getD (k - 1) 0) <;> rfl
      · unfold m_eponymref19_Check_L38
        rw [e, decide_eq_false (by omega)]; rfl
    rw [show (1 : Int) = ((1 : Nat) : Int) from rfl, h38]
    cases hO : badO (setAt f i) with
    | true => rfl
    | false =>
      rw [cond_false, bind_some']
      simp only [Bool.false_eq_true, if_false]
      unfold m_eponymref19_Check_K17
      have hP : (bif (decide ((i : Int) > (0 : Int))) then
          if 0 ≤ (0 : Int) ∧ (0 : Int) < (((f.f_Sets.getD ((i : Int).toNat) []).length : Nat) : Int) then
            if 0 ≤ (IntKind.wrap .i64 ((i : Int) - (1 : Int))) ∧ (IntKind.wrap .i64 ((i : Int) - (1 : Int))) < ((f.f_Sets.length : Nat) : Int) then
              if 0 ≤ (0 : Int) ∧ (0 : Int) < (((f.f_Sets.getD ((IntKind.wrap .i64 ((i : Int) - (1 : Int))).toNat) []).length : Nat) : Int) then
                some (decide (((f.f_Sets.getD ((i : Int).toNat) []).getD 0 0) ≤ ((f.f_Sets.getD ((IntKind.wrap .i64 ((i : Int) - (1 : Int))).toNat) []).getD 0 0)))
              else none
            else none
          else none
        else some false : Option Bool) = some (badP f i) := by
        unfold badP
        by_cases i0 : 0 < i
        · have h1 := hp (i - 1) (by omega)
          rw [decide_eq_true (by omega), cond_true, e, if_pos ⟨by omega, by omega⟩, down i0 (by omega), if_pos ⟨by omega, by omega⟩, e, if_pos ⟨by omega, by omega⟩, decide_eq_true i0, Bool.true_and]
        · rw [decide_eq_false (by omega), decide_eq_false i0]; rfl
      rw [hP, bind_some']
      unfold m_eponymref19_Check_K19
      cases hPb : badP f i with
      | true => rfl
      | false =>
        rw [cond_false]
        simp only [Bool.false_eq_true, if_false]
        have h28 : ∀ j, j < i → iter (m_eponymref19_Check_L28 f (i : Int) (j : Int)) ((0 : Nat) : Int) = some (bif ((List.range' 0 (setAt f i).length).any fun k => (setAt f j).any fun z => z == (setAt f i).getD k 0) then .inr ((i : Int), (7 : Int)) else .inl ()) := fun j hj => by
          have hxj := setAt_len f hs (show j < f.f_Sets.length by omega)
          refine (scanC 0 (setAt f i).length (Nat.zero_le _) ((i : Int), (7 : Int)) (fun k => (setAt f j).any fun z => z == (setAt f i).getD k 0) (fun k _ hk => ?_) ?_).trans rfl
          · unfold m_eponymref19_Check_L28
            rw [e, e, Int.toNat_natCast, decide_eq_true (by omega), cond_true, if_pos ⟨by omega, by omega⟩, if_pos ⟨by omega, by omega⟩, in_eq _ _ (by omega), bind_some', up (by omega)]
            cases ((setAt f j).any fun z => z == (setAt f i).getD k 0) <;> rfl
          · unfold m_eponymref19_Check_L28
            rw [e, decide_eq_false (by omega)]; rfl
        have h22 : iter (m_eponymref19_Check_L22 f (i : Int)) ((0 : Nat) : Int) = some (bif dupC f i then .inr ((i : Int), (7 : Int)) else .inl ()) := by
          refine (scanC 0 i (Nat.zero_le _) ((i : Int), (7 : Int)) (fun j => (List.range' 0 (setAt f i).length).any fun k => (setAt f j).any fun z => z == (setAt f i).getD k 0) (fun j _ hj => ?_) ?_).trans rfl
          · unfold m_eponymref19_Check_L22
            rw [decide_eq_true (by omega), cond_true, show (0 : Int) = ((0 : Nat) : Int) from rfl, h28 j hj, bind_some', up (by omega)]
            cases ((List.range' 0 (setAt f i).length).any fun k => (setAt f j).any fun z => z == (setAt f i).getD k 0) <;> rfl
          · unfold m_eponymref19_Check_L22
            rw [decide_eq_false (by omega)]; rfl
        rw [show (0 : Int) = ((0 : Nat) : Int) from rfl, h22, bind_some']
        cases dupC f i <;> rfl
theorem setErr_eq (i : Nat) (hi : i < f.f_Sets.length) (hp : ∀ j, j < i → 2 ≤ (setAt f j).length) : m_variants_setError f (i : Int) = some (if seC f i = 0 then .nil else .sent (gErr (seC f i))) := by
  have hset := hs.sets
  have hx := setAt_len f hs hi
  have e : ∀ j : Nat, f.f_Sets.getD ((j : Int).toNat) [] = setAt f j := fun j => by rw [Int.toNat_natCast]; rfl
  unfold m_variants_setError
  rw [if_pos ⟨by omega, by omega⟩, e]
  unfold seC
  by_cases h2 : (setAt f i).length < 2
  · rw [decide_eq_true (by omega), if_pos h2]; rfl
  rw [decide_eq_false (by omega), cond_false, if_neg h2]
  have h45 : iter (m_variants_setError_L16 f (i : Int)) ((0 : Nat) : Int) = some (bif badR (setAt f i) then .inr (Er.sent 3) else .inl ()) := by
    refine (scanC 0 (setAt f i).length (Nat.zero_le _) (Er.sent 3) (fun k => !rightS ((setAt f i).getD k 0)) (fun k _ hk => ?_) ?_).trans rfl
    · unfold m_variants_setError_L16
      rw [e, Int.toNat_natCast, decide_eq_true (by omega), cond_true, if_pos ⟨by omega, by omega⟩, utfRight_eq, bind_some', up (by omega)]
      cases rightS ((setAt f i).getD k 0) <;> rfl
    · unfold m_variants_setError_L16
      rw [e, decide_eq_false (by omega)]; rfl
  rw [show (0 : Int) = ((0 : Nat) : Int) from rfl, h45]
  cases hR : badR (setAt f i) with
  | true => rfl
  | false =>
    rw [cond_false, bind_some']
    simp only [Bool.false_eq_true, if_false]
    unfold m_variants_setError_K2
    have h38 : iter (m_variants_setError_L9 f (i : Int)) ((1 : Nat) : Int) = some (bif badO (setAt f i) then .inr (Er.sent 7) else .inl ()) := by
      refine (scanC 1 (setAt f i).length (by omega) (Er.sent 7) (fun k => decide ((setAt f i).getD k 0 ≤ (setAt f i).getD (k - 1) 0)) (fun k k1 hk => ?_) ?_).trans rfl
      · unfold m_variants_setError_L9
        rw [e, Int.toNat_natCast, decide_eq_true (by omega), cond_true, if_pos ⟨by omega, by omega⟩, down (by omega) (by omega), if_pos ⟨by omega, by omega⟩, Int.toNat_natCast, up (by omega)]
        cases decide ((setAt f i).getD k 0 ≤ (setAt f i).getD (k - 1) 0) <;> rfl
      · unfold m_variants_setError_L9
        rw [e, decide_eq_false (by omega)]; rfl
    rw [show (1 : Int) = ((1 : Nat) : Int) from rfl, h38]
    cases hO : badO (setAt f i) with
    | true => rfl
    | false =>
      rw [cond_false, bind_some']
      simp only [Bool.false_eq_true, if_false]
      unfold m_variants_setError_K4
      have hP : (bif (decide ((i : Int) > (0 : Int))) then
          if 0 ≤ (0 : Int) ∧ (0 : Int) < (((f.f_Sets.getD ((i : Int).toNat) []).length : Nat) : Int) then
            if 0 ≤ (IntKind.wrap .i64 ((i : Int) - (1 : Int))) ∧ (IntKind.wrap .i64 ((i : Int) - (1 : Int))) < ((f.f_Sets.length : Nat) : Int) then
              if 0 ≤ (0 : Int) ∧ (0 : Int) < (((f.f_Sets.getD ((IntKind.wrap .i64 ((i : Int) - (1 : Int))).toNat) []).length : Nat) : Int) then
                some (decide (((f.f_Sets.getD ((i : Int).toNat) []).getD 0 0) ≤ ((f.f_Sets.getD ((IntKind.wrap .i64 ((i : Int) - (1 : Int))).toNat) []).getD 0 0)))
              else none
            else none
          else none
        else some false : Option Bool) = some (badP f i) := by
        unfold badP
        by_cases i0 : 0 < i
        · have h1 := hp (i - 1) (by omega)
          rw [decide_eq_true (by omega), cond_true, e, if_pos ⟨by omega, by omega⟩, down i0 (by omega), if_pos ⟨by omega, by omega⟩, e, if_pos ⟨by omega, by omega⟩, decide_eq_true i0, Bool.true_and]
        · rw [decide_eq_false (by omega), decide_eq_false i0]; rfl
      rw [hP, bind_some']
      unfold m_variants_setError_K6
      cases badP f i <;> rfl
end
end Go.Proofs.YtclhniadffljdaaDoor
