/- The law on names. No condition. -/
import Derived.Test.YtjhgaacecfmadaaDoorPBidi3
namespace Go.Proofs.YtjhgaacecfmadaaDoor
open Go Go.SE
set_option linter.unusedVariables false
set_option linter.unusedSimpArgs false
def fewP (name : List (List Int)) : Prop := name.length ≤ 8 ∧ ∀ i, i < name.length → (name.getD i []).length ≤ 16
theorem few_eq (name : List (List Int)) : ∃ b, m_eponymlaw09_few name = some b ∧ (b = true → fewP name) := by
  unfold m_eponymlaw09_few
  by_cases h8 : 8 < name.length
  · exact ⟨false, by rw [decide_eq_true (show ((name.length : Nat) : Int) > 8 by omega)]; rfl, fun h => by cases h⟩
  rw [decide_eq_false (show ¬ ((name.length : Nat) : Int) > 8 by omega), cond_false]
  rw [iter_scan name.length (fun i => if 16 < (name.getD i []).length then some false else none) (fun i hi _ => ?_) (fun _ => ?_)]
  · cases hf : firstSome (fun i => if 16 < (name.getD i []).length then some false else none) name.length 0 with
    | some v =>
      obtain ⟨j, _, _, hj, _⟩ := firstSome_some hf
      have : v = false := by
        split at hj
        · cases hj; rfl
        · cases hj
      subst this
      exact ⟨false, rfl, fun h => by cases h⟩
    | none =>
      refine ⟨true, rfl, fun _ => ⟨by omega, fun i hi => ?_⟩⟩
      have := firstSome_none.1 hf i (Nat.zero_le _) (by omega)
      split at this
      · cases this
      · omega
  · unfold m_eponymlaw09_few_L5
    rw [decide_eq_true (by omega), cond_true, if_pos ⟨by omega, by omega⟩, Int.toNat_natCast]
    by_cases h4 : 16 < (name.getD i []).length
    · rw [decide_eq_true (by omega), if_pos h4]; rfl
    · rw [decide_eq_false (by omega), if_neg h4, cond_false, up (by omega)]
  · unfold m_eponymlaw09_few_L5
    rw [decide_eq_false (by omega)]; rfl
def mixK (p : T_api_Props) (name : List (List Int)) (i : Nat) : Bool := (name.take i).any (rightF p)
theorem mixK_succ (p : T_api_Props) (name : List (List Int)) {i : Nat} (hi : i < name.length) : mixK p name (i + 1) = (mixK p name i || rightF p (name.getD i [])) := by
  unfold mixK
  rw [List.take_succ_eq_append_getElem hi, List.any_append]
  simp [List.getD_eq_getElem?_getD, hi]
def mixF (p : T_api_Props) (name : List (List Int)) : Bool := name.any (rightF p)
theorem mixK_all (p : T_api_Props) (name : List (List Int)) : mixK p name name.length = mixF p name := by unfold mixK mixF; rw [List.take_length]
theorem nameMix_eq {p : T_api_Props} (h : RightP p) {name : List (List Int)} (hs : fewP name) : iter (m_eponymref09_Name_L17 p name) (false, 0) = some (mixF p name) := by
  have h8 := hs.1
  have key : ∀ (k i : Nat), i + k = name.length → iter (m_eponymref09_Name_L17 p name) (mixK p name i, (i : Int)) = some (mixF p name) := by
    intro k
    induction k with
    | zero =>
      intro i hi
      obtain rfl : i = name.length := by omega
      refine iter_done ?_
      unfold m_eponymref09_Name_L17
      simp only [decide_eq_false (show ¬ ((name.length : Nat) : Int) < ((name.length : Nat) : Int) by omega), cond_false, mixK_all]
    | succ k ih =>
      intro i hi
      have hil : i < name.length := by omega
      rw [iter_next (s' := (mixK p name (i + 1), ((i + 1 : Nat) : Int))), ih (i + 1) (by omega)]
      unfold m_eponymref09_Name_L17
      simp only [decide_eq_true (show (i : Int) < ((name.length : Nat) : Int) by omega), cond_true, if_pos (show 0 ≤ (i : Int) ∧ (i : Int) < ((name.length : Nat) : Int) by omega), Int.toNat_natCast, brightR_eq h _ (show (name.getD i []).length ≤ 1000 from Nat.le_trans (hs.2 i hil) (by omega)), bind_some', up (show i < 9223372036854775807 by omega), mixK_succ p name hil]
      cases mixK p name i <;> rfl
  have h0 := key name.length 0 (by omega)
  exact h0
theorem lawMix_eq {p : T_api_Props} (h : RightP p) {name : List (List Int)} (hs : fewP name) : iter (m_eponymlaw09_BidiNames_L12 p name) (false, 0) = some (mixF p name) := by
  have e : m_eponymlaw09_BidiNames_L12 p name = m_eponymref09_Name_L17 p name := rfl
  rw [e, nameMix_eq h hs]
theorem mixed_eq {p : T_api_Props} (h : RightP p) {name : List (List Int)} (hs : fewP name) : m_bidi_Mixed p name = some (mixF p name) := by
  have h8 := hs.1
  unfold m_bidi_Mixed mixF
  rw [iter_scan name.length (fun k => if rightF p (name.getD k []) = true then some true else none) (fun i hi _ => ?_) (fun _ => ?_)]
  · rw [← any_scan' name [] (rightF p)]
    cases firstSome (fun k => if rightF p (name.getD k []) = true then some true else none) name.length 0 <;> rfl
  · unfold m_bidi_Mixed_L5
    rw [decide_eq_true (by omega), cond_true, if_pos ⟨by omega, by omega⟩, Int.toNat_natCast, bright_eq h _ (Nat.le_trans (hs.2 i hi) (by omega)), bind_some', up (by omega)]
    cases rightF p (name.getD i []) <;> rfl
  · unfold m_bidi_Mixed_L5
    rw [decide_eq_false (by omega)]; rfl
def badF (p : T_api_Props) (name : List (List Int)) (i : Nat) : Option Int := if (brF (dirs p (name.getD i []))).1 = 0 then none else some (i : Int)
def nameF (p : T_api_Props) (name : List (List Int)) : Option Int := if mixF p name = true then firstSome (badF p name) name.length 0 else none
theorem bname_eq {p : T_api_Props} (h : RightP p) {name : List (List Int)} (hs : fewP name) : m_bidi_Name p name = some (match nameF p name with | some i => .box 89 i (.sent 1) | none => .nil) := by
  have h8 := hs.1
  unfold m_bidi_Name nameF
  rw [mixed_eq h hs, bind_some']
  cases mixF p name with
  | false => rfl
  | true =>
    rw [if_pos rfl]
    simp only [Bool.not_true, cond_false]
    rw [iter_scan name.length (fun i => (badF p name i).map fun v => Er.box 89 v (.sent 1)) (fun i hi _ => ?_) (fun _ => ?_)]
    · have e : ∀ k i, firstSome (fun i => (badF p name i).map fun v => Er.box 89 v (.sent 1)) k i = (firstSome (badF p name) k i).map fun v => Er.box 89 v (.sent 1) := by
        intro k
        induction k with
        | zero => intro i; rfl
        | succ k ih =>
          intro i
          rw [firstSome, firstSome]
          cases badF p name i with
          | none => simp only [Option.map_none, ih]
          | some v => rfl
      rw [e]
      cases firstSome (badF p name) name.length 0 <;> rfl
    · unfold m_bidi_Name_L6 badF
      rw [decide_eq_true (by omega), cond_true, if_pos ⟨by omega, by omega⟩, Int.toNat_natCast, broken_eq h _ (Nat.le_trans (hs.2 i hi) (by omega)), bind_some', up (by omega)]
      by_cases hz : (brF (dirs p (name.getD i []))).1 = 0
      · rw [if_pos hz, hz]; rfl
      · rw [if_neg hz, bne_iff_ne.2 hz]; rfl
    · unfold m_bidi_Name_L6
      rw [decide_eq_false (by omega)]; rfl
theorem bnameR_eq {p : T_api_Props} (h : RightP p) {name : List (List Int)} (hs : fewP name) : m_eponymref09_Name p name = some (match nameF p name with | some i => (i, 12) | none => (0, 0)) := by
  have h8 := hs.1
  unfold m_eponymref09_Name nameF
  rw [nameMix_eq h hs, bind_some']
  unfold m_eponymref09_Name_K2
  cases mixF p name with
  | false =>
    rw [iter_done (x := .inl ())]
    · rfl
    · rfl
  | true =>
    rw [if_pos rfl]
    rw [iter_scan name.length (fun i => (badF p name i).map fun v => (v, (12 : Int))) (fun i hi _ => ?_) (fun _ => ?_)]
    · have e : ∀ k i, firstSome (fun i => (badF p name i).map fun v => (v, (12 : Int))) k i = (firstSome (badF p name) k i).map fun v => (v, 12) := by
        intro k
        induction k with
        | zero => intro i; rfl
        | succ k ih =>
          intro i
          rw [firstSome, firstSome]
          cases badF p name i with
          | none => simp only [Option.map_none, ih]
          | some v => rfl
      rw [e]
      cases firstSome (badF p name) name.length 0 <;> rfl
    · unfold m_eponymref09_Name_L7 m_eponymref09_Name_K10 badF
      have hp := br_pos (dirs p (name.getD i []))
      rw [decide_eq_true (show (i : Int) < ((name.length : Nat) : Int) by omega), cond_true, bind_some', cond_true, if_pos ⟨by omega, by omega⟩, Int.toNat_natCast, brokenR_eq h _ (Nat.le_trans (hs.2 i hi) (by omega)), bind_some', up (by omega)]
      by_cases hz : (brF (dirs p (name.getD i []))).1 = 0
      · rw [if_pos hz, decide_eq_false (by omega)]; rfl
      · rw [if_neg hz, decide_eq_true (by omega)]; rfl
    · unfold m_eponymref09_Name_L7 m_eponymref09_Name_K10
      rw [decide_eq_false (show ¬ ((name.length : Nat) : Int) < ((name.length : Nat) : Int) by omega)]; rfl
theorem law_bidiNames (p : T_api_Props) (name : List (List Int)) : m_eponymlaw09_BidiNames p name = some true := by
  unfold m_eponymlaw09_BidiNames
  rw [awake09, bind_some']
  obtain ⟨b, hb, _⟩ := great07 p
  obtain ⟨f, hf, hfs⟩ := few_eq name
  rw [hb, right07, hf]
  simp only [Bool.not_true, cond_false, bind_some']
  cases b with
  | true => rfl
  | false =>
    by_cases hr : (chk07 p).2 = 0
    · have h : RightP p := hr
      rw [hr]
      simp only [cond_false, beq_self_eq_true, Bool.not_true, bind_some']
      cases f with
      | false => rfl
      | true =>
        have hs := hfs rfl
        unfold m_eponymlaw09_BidiNames_K3
        simp only [Bool.not_true, cond_false]
        rw [bnameR_eq h hs, lawMix_eq h hs]
        simp only [bind_some']
        unfold m_eponymlaw09_BidiNames_K6
        rw [bname_eq h hs, mixed_eq h hs]
        cases nameF p name with
        | none => simp only [bind_some', is_nil, cond_true, beq_self_eq_true]
        | some i => simp only [bind_some', is_bidi, cond_true, beq_self_eq_true]
    · rw [beq_false_of_ne hr]; rfl
end Go.Proofs.YtjhgaacecfmadaaDoor
