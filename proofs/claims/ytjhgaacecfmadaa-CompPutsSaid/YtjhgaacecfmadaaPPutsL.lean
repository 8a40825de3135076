/- The law of what runes are put together to. No condition. -/
import Derived.Test.YtjhgaacecfmadaaPPutR
namespace Go.Proofs.Ytjhgaacecfmadaa
open Go Go.SE
set_option linter.unusedVariables false
set_option linter.unusedSimpArgs false
theorem wf_r32 {a : Int} (h : (Lit.int .i32 a).wf = true) : r32 a := by
  have e : (Lit.int .i32 a).wf = (decide (-2147483648 ≤ a) && decide (a ≤ 2147483647)) := rfl
  rw [e, Bool.and_eq_true, decide_eq_true_eq, decide_eq_true_eq] at h
  exact h
theorem equal_eq (a b : List Int) (ha : a.length < 4611686018427387904) : m_slices_Equal_rune_rune a b = some (decide (a = b)) := by
  unfold m_slices_Equal_rune_rune
  by_cases hl : a.length = b.length
  · rw [show (((a.length : Nat) : Int) != ((b.length : Nat) : Int)) = false by rw [hl]; simp, cond_false]
    rw [iter_scan a.length (fun i => if a.getD i 0 ≠ b.getD i 0 then some false else none) (fun i hi _ => ?_) (fun _ => ?_)]
    · cases hf : firstSome (fun i => if a.getD i 0 ≠ b.getD i 0 then some false else none) a.length 0 with
      | none =>
        have h := firstSome_none.1 hf
        have : a = b := by
          refine List.ext_getElem hl fun i h1 h2 => ?_
          have := h i (Nat.zero_le _) (by omega)
          split at this
          · cases this
          · rename_i hn
            have hn := Decidable.not_not.1 hn
            simpa [List.getD_eq_getElem?_getD, h1, h2] using hn
        rw [decide_eq_true this]; rfl
      | some v =>
        obtain ⟨j, _, _, hj, _⟩ := firstSome_some hf
        split at hj
        · rename_i hne
          cases hj
          rw [decide_eq_false (fun e => hne (by rw [e]))]; rfl
        · cases hj
    · unfold m_slices_Equal_rune_rune_L5
      rw [decide_eq_true (by omega), cond_true, if_pos ⟨by omega, by omega⟩, if_pos ⟨by omega, by omega⟩, Int.toNat_natCast, up (by omega)]
      by_cases h : a.getD i 0 = b.getD i 0
      · rw [if_neg (fun h' => h' h), show (a.getD i 0 != b.getD i 0) = false by rw [h]; simp]; rfl
      · rw [if_pos h, show (a.getD i 0 != b.getD i 0) = true from bne_iff_ne.2 h]; rfl
    · unfold m_slices_Equal_rune_rune_L5
      rw [decide_eq_false (by omega)]; rfl
  · rw [show (((a.length : Nat) : Int) != ((b.length : Nat) : Int)) = true by rw [bne_iff_ne]; omega, cond_true, decide_eq_false (fun e => hl (by rw [e]))]
theorem law_compPuts (t : T_api_Norm) (l : List Int) (hw : ∀ j, j < l.length → (Lit.int .i32 (l.getD j 0)).wf = true) : m_eponymlaw05_CompPuts t l = some true := by
  unfold m_eponymlaw05_CompPuts
  rw [awake05, bind_some']
  obtain ⟨bb, hbb, hs⟩ := great04 t
  rw [hbb]
  simp only [Bool.not_true, cond_false, bind_some']
  have yes : m_eponymlaw05_CompPuts_K3 t l true = some true := rfl
  cases bb with
  | true => exact yes
  | false =>
    unfold m_eponymlaw04_Right
    rw [cond_false, check04_eq t (hs rfl).2.2.2]
    simp only [bind_some']
    by_cases h0 : (chk04 t).2 = 0
    · have g := Good.of (chk04_right h0)
      rw [h0]
      by_cases hl : l.length > 16
      · rw [decide_eq_true (show ((l.length : Nat) : Int) > 16 by omega)]
        exact yes
      · rw [decide_eq_false (show ¬ ((l.length : Nat) : Int) > 16 by omega)]
        show m_eponymlaw05_CompPuts_K3 t l false = some true
        have hr : ∀ x ∈ l, r32 x := fun x hx => by
          obtain ⟨i, hi, rfl⟩ := mem_get hx
          exact wf_r32 (hw i hi)
        have h1 := compS_len g l
        have h2 := putS_len t l
        unfold m_eponymlaw05_CompPuts_K3 m_comp_Is
        rw [cond_false, comp_all_ref g l (by omega) hr, put_prog g l (by omega) hr, put_ref g l (by omega) hr, comp_all_prog g l (by omega) hr]
        simp only [bind_some']
        rw [same_eq _ _ (by omega), same_eq _ _ (by omega), same_eq _ _ (by omega), equal_eq _ _ (by omega)]
        simp
    · rw [beq_false_of_ne h0]; exact yes
end Go.Proofs.Ytjhgaacecfmadaa
