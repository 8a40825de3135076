/- What ranges.Check answers: the reference's word as an error. No condition. -/
import Derived.Test.YtjhgaacecfmadaaDoorPChecks
namespace Go.Proofs.YtjhgaacecfmadaaDoor
open Go Go.SE
set_option linter.unusedVariables false
set_option linter.unusedSimpArgs false
theorem firstSome_map {V W : Type} (f : Nat → Option V) (h : V → W) : ∀ (k i : Nat), firstSome (fun j => (f j).map h) k i = (firstSome f k i).map h
  | 0, i => rfl
  | k + 1, i => by
    rw [firstSome, firstSome, firstSome_map f h k (i + 1)]
    cases f i <;> rfl
theorem filterMap_first {V : Type} (f : Nat → Option V) : ∀ (k i : Nat), ((List.range' i k).filterMap f).head? = firstSome f k i
  | 0, i => rfl
  | k + 1, i => by
    rw [List.range'_succ, firstSome, List.filterMap_cons]
    cases h : f i with
    | none => exact filterMap_first f k (i + 1)
    | some v => rfl
def nmG (c : Int) : Nat := if c = 4 then 6 else if c = 6 then 7 else if c = 17 then 0 else if c = 5 then 2 else if c = 7 then 4 else if c = 9 then 5 else 3
def erOf (c : Int × Int) : Er := if c.2 = 0 then .nil else .box 89 c.1 (.sent (nmG c.2))
theorem chkF_fault {l : List T_api_Range} {k : Nat} : (chkF l k).map erOf = (rangeFault l k).map fun g => .box 89 (k : Int) (.sent g) := by
  unfold chkF rangeFault
  have e : (decide (0 ≤ (l.getD k d_api_Range).f_Lo) && (decide ((l.getD k d_api_Range).f_Lo ≤ (l.getD k d_api_Range).f_Hi) && (decide ((l.getD k d_api_Range).f_Hi ≤ 1114111) && (decide (0 ≤ (l.getD k d_api_Range).f_Value) && decide ((l.getD k d_api_Range).f_Value ≤ 999999))))) = mayB (l.getD k d_api_Range) := by
    simp only [mayB, Bool.and_assoc, ge_iff_le]
  rw [e]
  cases hm : mayB (l.getD k d_api_Range) with
  | false => simp only [if_true]; rfl
  | true =>
    have h0 : 0 ≤ (l.getD k d_api_Range).f_Lo := by
      simp only [mayB, Bool.and_eq_true, decide_eq_true_eq] at hm; omega
    simp only [Bool.true_eq_false, if_false]
    by_cases hk : 0 < k
    · rw [if_neg (show ¬ k = 0 by omega)]
      by_cases h1 : (l.getD k d_api_Range).f_Lo ≤ (l.getD (k - 1) d_api_Range).f_Hi
      · rw [if_pos ⟨hk, h1⟩, if_pos h1]; rfl
      · rw [if_neg (fun h => h1 h.2), if_neg h1]; rfl
    · rw [if_pos (show k = 0 by omega), if_neg (fun h => hk h.1), if_neg (by omega)]; rfl
theorem rangesCheck_eq (l : List T_api_Range) : m_ranges_Check l = some (erOf (chkR l)) := by
  unfold m_ranges_Check chkR
  by_cases hn : 2000 < l.length
  · rw [if_pos hn, if_pos hn]; rfl
  · rw [if_neg hn, if_neg hn]
    congr 1
    have h1 := firstSome_map (chkF l) erOf l.length 0
    have h2 := firstSome_map (rangeFault l) (fun g => g) l.length 0
    have h3 : firstSome (fun k => (chkF l k).map erOf) l.length 0 = firstSome (fun k => (rangeFault l k).map fun g => .box 89 (k : Int) (.sent g)) l.length 0 := firstSome_congr fun j _ _ => chkF_fault
    have h4 := filterMap_first (fun k => (rangeFault l k).map fun g => (k, g)) l.length 0
    have h5 := firstSome_map (fun k => (rangeFault l k).map fun g => (k, g)) (fun x : Nat × Nat => Er.box 89 (x.1 : Int) (.sent x.2)) l.length 0
    have h6 : (fun j => ((rangeFault l j).map fun g => (j, g)).map (fun x : Nat × Nat => Er.box 89 (x.1 : Int) (.sent x.2))) = fun k => (rangeFault l k).map fun g => Er.box 89 (k : Int) (.sent g) := by
      funext k; cases rangeFault l k <;> rfl
    rw [h6, ← h3, h1] at h5
    rw [← h4] at h5
    unfold rangeFaults
    rw [List.range_eq_range']
    cases hL : (List.range' 0 l.length).filterMap (fun k => (rangeFault l k).map fun g => (k, g)) with
    | nil =>
      rw [hL] at h5
      cases hf : firstSome (chkF l) l.length 0 with
      | none => rfl
      | some v => rw [hf] at h5; cases h5
    | cons x tl =>
      rw [hL] at h5
      cases hf : firstSome (chkF l) l.length 0 with
      | none => rw [hf] at h5; cases h5
      | some v => rw [hf] at h5; exact (Option.some.inj h5).symm
theorem erOf_nil (c : Int × Int) : (erOf c).isNil = decide (c.2 = 0) := by
  unfold erOf
  by_cases h : c.2 = 0
  · rw [if_pos h, decide_eq_true h]; rfl
  · rw [if_neg h, decide_eq_false h]; rfl
end Go.Proofs.YtjhgaacecfmadaaDoor
