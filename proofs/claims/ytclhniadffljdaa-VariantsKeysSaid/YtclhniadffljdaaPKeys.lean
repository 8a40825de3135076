/- The law of keys, with what variants.All answers at one input as a premise of the lemmas. No other condition. -/
import Derived.Test.YtclhniadffljdaaPVarK
namespace Go.Proofs.Ytclhniadffljdaa
open Go Go.SE
set_option linter.unusedVariables false
set_option linter.unusedSimpArgs false
theorem same_eq (a b : List Int) (ha : a.length < 4611686018427387904) : m_eponymlaw01_Same a b = some (decide (a = b)) := by
  unfold m_eponymlaw01_Same
  by_cases hl : a.length = b.length
  · rw [show (((a.length : Nat) : Int) != ((b.length : Nat) : Int)) = false by rw [hl]; simp, cond_false]
    rw [iter_scan a.length (fun i => if a.getD i 0 ≠ b.getD i 0 then some false else none) (fun i hi _ => ?_) (fun _ => ?_)]
    · cases hf : firstSome (fun i => if a.getD i 0 ≠ b.getD i 0 then some false else none) a.length 0 with
      | none =>
        have h := firstSome_none.1 hf
        have : a = b := by
          refine List.ext_getElem hl fun i h1 h2 => ?_
          have := h i (Nat.zero_le _) (by omega)
          split at this
          · cases this
          · rename_i hn
            have hn := Decidable.not_not.1 hn
            simpa [List.getD_eq_getElem?_getD, h1, h2] using hn
        rw [decide_eq_true this]; rfl
      | some v =>
        obtain ⟨j, _, _, hj, _⟩ := firstSome_some hf
        split at hj
        · rename_i hne
          cases hj
          rw [decide_eq_false (fun e => hne (by rw [e]))]; rfl
        · cases hj
    · unfold m_eponymlaw01_Same_L5
      rw [decide_eq_true (by omega), cond_true, if_pos ⟨by omega, by omega⟩, if_pos ⟨by omega, by omega⟩, Int.toNat_natCast, up (by omega)]
      by_cases h : a.getD i 0 = b.getD i 0
      · rw [if_neg (fun h' => h' h), show (a.getD i 0 != b.getD i 0) = false by rw [h]; simp]; rfl
      · rw [if_pos h, show (a.getD i 0 != b.getD i 0) = true from bne_iff_ne.2 h]; rfl
    · unfold m_eponymlaw01_Same_L5
      rw [decide_eq_false (by omega)]; rfl
  · rw [show (((a.length : Nat) : Int) != ((b.length : Nat) : Int)) = true by rw [bne_iff_ne]; omega, cond_true, decide_eq_false (fun e => hl (by rw [e]))]
theorem equal_eq (a b : List Int) (ha : a.length < 4611686018427387904) : m_slices_Equal_rune_rune a b = some (decide (a = b)) := by
  unfold m_slices_Equal_rune_rune
  by_cases hl : a.length = b.length
  · rw [show (((a.length : Nat) : Int) != ((b.length : Nat) : Int)) = false by rw [hl]; simp, cond_false]
    rw [iter_scan a.length (fun i => if a.getD i 0 ≠ b.getD i 0 then some false else none) (fun i hi _ => ?_) (fun _ => ?_)]
    · cases hf : firstSome (fun i => if a.getD i 0 ≠ b.getD i 0 then some false else none) a.length 0 with
      | none =>
        have h := firstSome_none.1 hf
        have : a = b := by
          refine List.ext_getElem hl fun i h1 h2 => ?_
          have := h i (Nat.zero_le _) (by omega)
          split at this
          · cases this
          · rename_i hn
            have hn := Decidable.not_not.1 hn
            simpa [List.getD_eq_getElem?_getD, h1, h2] using hn
        rw [decide_eq_true this]; rfl
      | some v =>
        obtain ⟨j, _, _, hj, _⟩ := firstSome_some hf
        split at hj
        · rename_i hne
          cases hj
          rw [decide_eq_false (fun e => hne (by rw [e]))]; rfl
        · cases hj
    · unfold m_slices_Equal_rune_rune_L5
      rw [decide_eq_true (by omega), cond_true, if_pos ⟨by omega, by omega⟩, if_pos ⟨by omega, by omega⟩, Int.toNat_natCast, up (by omega)]
      by_cases h : a.getD i 0 = b.getD i 0
      · rw [if_neg (fun h' => h' h), show (a.getD i 0 != b.getD i 0) = false by rw [h]; simp]; rfl
      · rw [if_pos h, show (a.getD i 0 != b.getD i 0) = true from bne_iff_ne.2 h]; rfl
    · unfold m_slices_Equal_rune_rune_L5
      rw [decide_eq_false (by omega)]; rfl
  · rw [show (((a.length : Nat) : Int) != ((b.length : Nat) : Int)) = true by rw [bne_iff_ne]; omega, cond_true, decide_eq_false (fun e => hl (by rw [e]))]
theorem great19 (f : T_api_Family) : ∃ b, m_eponymlaw19_Great f = some b ∧ (b = false → Small f ∧ f.f_Name.size ≤ 100) := by
  unfold m_eponymlaw19_Great
  by_cases h1 : 20 < f.f_Sets.length
  · rw [decide_eq_true (show ((f.f_Sets.length : Nat) : Int) > 20 by omega)]
    exact ⟨true, rfl, fun h => by cases h⟩
  · rw [decide_eq_false (show ¬ ((f.f_Sets.length : Nat) : Int) > 20 by omega), cond_false]
    by_cases h2 : 100 < f.f_Name.size
    · rw [decide_eq_true (show ((f.f_Name.size : Nat) : Int) > 100 by omega)]
      exact ⟨true, rfl, fun h => by cases h⟩
    · rw [decide_eq_false (show ¬ ((f.f_Name.size : Nat) : Int) > 100 by omega), bind_some']
      unfold m_eponymlaw19_Great_K2
      rw [cond_false, iter_scan f.f_Sets.length (fun i => if 20 < (f.f_Sets.getD i []).length then some true else none) (fun i hi _ => ?_) (fun _ => ?_)]
      · cases hf : firstSome (fun i => if 20 < (f.f_Sets.getD i []).length then some true else none) f.f_Sets.length 0 with
        | some v => exact ⟨v, rfl, fun h => by
            obtain ⟨j, _, _, hj, _⟩ := firstSome_some hf
            split at hj
            · cases hj; cases h
            · cases hj⟩
        | none => exact ⟨false, rfl, fun _ => ⟨⟨by omega, fun x hx => by
            obtain ⟨i, hi, rfl⟩ := List.getElem_of_mem hx
            have := firstSome_none.1 hf i (Nat.zero_le _) (by omega)
            have e : f.f_Sets.getD i [] = f.f_Sets[i] := by simp [List.getD_eq_getElem?_getD, hi]
            split at this
            · cases this
            · rw [e] at *; omega⟩, by omega⟩⟩
      · unfold m_eponymlaw19_Great_L7
        rw [decide_eq_true (by omega), cond_true, if_pos ⟨by omega, by omega⟩, Int.toNat_natCast, up (by omega)]
        by_cases h : 20 < (f.f_Sets.getD i []).length
        · rw [if_pos h, decide_eq_true (by omega)]; rfl
        · rw [if_neg h, decide_eq_false (by omega)]; rfl
      · unfold m_eponymlaw19_Great_L7
        rw [decide_eq_false (by omega)]; rfl
def demo19 : T_api_Family := { f_Name := ByteArray.mk #[120], f_Sets := [[97, 224]] }
theorem demo19_small : Small demo19 := ⟨by decide, fun x hx => by
  have : x = [97, 224] := by simpa [demo19] using hx
  subst this; decide⟩
theorem demo19_rise : ∀ x ∈ demo19.f_Sets, risingL x := fun x hx => by
  have : x = [97, 224] := by simpa [demo19] using hx
  subst this
  intro i j hij hj
  have : i = 0 := by simp at hj; omega
  have : j = 1 := by simp at hj; omega
  subst_vars; decide
theorem awake19 (hAll : m_variants_All demo19 [97, 98] 9 = some [[97, 98], [224, 98]]) : m_eponymlaw19_awake = some true := by
  have e : m_eponymlaw19_awake = Option.bind (m_variants_All demo19 [97, 98] 9) fun y1 => bif (((y1.length : Nat) : Int) == (2 : Int)) then
      if 0 ≤ (1 : Int) ∧ (1 : Int) < ((y1.length : Nat) : Int) then Option.bind (m_eponymlaw01_Same (y1.getD 1 []) [224, 98]) fun y2 => bif y2 then
        if 0 ≤ (1 : Int) ∧ (1 : Int) < ((y1.length : Nat) : Int) then Option.bind (m_variants_Key demo19 (y1.getD 1 [])) fun y3 =>
          if 0 ≤ (0 : Int) ∧ (0 : Int) < ((y1.length : Nat) : Int) then Option.bind (m_eponymlaw01_Same y3 (y1.getD 0 [])) fun y4 => some y4 else none
        else none else some false else none else some false := rfl
  rw [e, hAll, bind_some']
  have k := key_eq demo19 demo19_small demo19_rise [224, 98] (by decide)
  simp only [List.length_cons, List.length_nil, List.getD_cons_zero, List.getD_cons_succ]
  rw [k, same_eq _ _ (by decide)]
  simp only [bind_some']
  rw [same_eq _ _ (by decide)]
  decide
theorem keys_loop (f : T_api_Family) (hs : Small f) (hr : ∀ x ∈ f.f_Sets, risingL x) (a : List Int) (ha : a.length ≤ 20) : iter (m_eponymlaw19_VariantsKeys_L16 f a) 0 = some (.inl ()) := by
  rw [iter_scan a.length (fun _ => none) (fun i hi _ => ?_) (fun _ => ?_)]
  · rw [firstSome_none.2 fun _ _ _ => rfl]; rfl
  · have hl := set_len hs (a.getD i 0)
    have hset : m_variants_Set f (a.getD i 0) = some (setF f (a.getD i 0)) := by
      unfold m_variants_Set m_slices_Clone_rune_rune m_slices_Clone_rune_rune_som
      rw [vfind_eq f hs hr, bind_some', if_pos (by omega)]; rfl
    unfold m_eponymlaw19_VariantsKeys_L16
    rw [decide_eq_true (by omega), cond_true, if_pos ⟨by omega, by omega⟩, Int.toNat_natCast, hset, bind_some', if_pos ⟨by omega, by omega⟩, refSet_eq f hs, bind_some', same_eq _ _ (by omega), decide_eq_true rfl, up (by omega)]
    rfl
  · unfold m_eponymlaw19_VariantsKeys_L16
    rw [decide_eq_false (by omega)]; rfl
theorem law_variantsKeys (hAll : m_variants_All demo19 [97, 98] 9 = some [[97, 98], [224, 98]]) (f : T_api_Family) (a b : List Int) : m_eponymlaw19_VariantsKeys f a b = some true := by
  unfold m_eponymlaw19_VariantsKeys
  rw [awake19 hAll, bind_some']
  obtain ⟨g, hg, hsm⟩ := great19 f
  rw [hg]
  simp only [Bool.not_true, cond_false, bind_some']
  have yes : m_eponymlaw19_VariantsKeys_K3 f a b true = some true := rfl
  cases g with
  | true => exact yes
  | false =>
    obtain ⟨hs, hn⟩ := hsm rfl
    obtain ⟨y, hy, hrise⟩ := check19 f hs hn
    unfold m_eponymlaw19_Right
    rw [cond_false, hy]
    simp only [bind_some']
    by_cases h0 : y.2 = 0
    · have hr := hrise h0
      rw [h0]
      simp only [beq_self_eq_true, Bool.not_true, cond_false]
      by_cases ha : 20 < a.length
      · rw [decide_eq_true (show ((a.length : Nat) : Int) > 20 by omega)]; exact yes
      · by_cases hb : 20 < b.length
        · rw [decide_eq_false (show ¬ ((a.length : Nat) : Int) > 20 by omega), decide_eq_true (show ((b.length : Nat) : Int) > 20 by omega)]; exact yes
        · rw [decide_eq_false (show ¬ ((a.length : Nat) : Int) > 20 by omega), decide_eq_false (show ¬ ((b.length : Nat) : Int) > 20 by omega)]
          simp only [cond_false, bind_some']
          unfold m_eponymlaw19_VariantsKeys_K3
          rw [cond_false, keys_loop f hs hr a (by omega), bind_some']
          simp only
          unfold m_eponymlaw19_VariantsKeys_K5 m_variants_Same
          obtain ⟨c1, c2⟩ := count_eq f hs hr a (by omega)
          rw [refKey_eq f hs a (by omega), refKey_eq f hs b (by omega), key_eq f hs hr a (by omega), key_eq f hs hr b (by omega), c1, c2]
          simp only [bind_some']
          rw [same_eq _ _ (by simp; omega), same_eq _ _ (by simp; omega), equal_eq _ _ (by simp; omega)]
          simp
    · rw [beq_false_of_ne h0]; exact yes
end Go.Proofs.Ytclhniadffljdaa
