/- Sameness of rows, as the library asks it. No condition. -/
import Derived.Test.YtjhgaacecfmadaaDoorPLaw4A
namespace Go.Proofs.YtjhgaacecfmadaaDoor
open Go Go.SE
set_option linter.unusedVariables false
set_option linter.unusedSimpArgs false
theorem equal_eq (a b : List Int) (ha : a.length < 4611686018427387904) : m_slices_Equal_rune_rune a b = some (decide (a = b)) := by
  unfold m_slices_Equal_rune_rune
  by_cases hl : a.length = b.length
  · rw [show (((a.length : Nat) : Int) != ((b.length : Nat) : Int)) = false by rw [hl]; simp, cond_false]
    rw [iter_scan a.length (fun i => if a.getD i 0 ≠ b.getD i 0 then some false else none) (fun i hi _ => ?_) (fun _ => ?_)]
    · cases hf : firstSome (fun i => if a.getD i 0 ≠ b.getD i 0 then some false else none) a.length 0 with
      | none =>
        have h := firstSome_none.1 hf
        have : a = b := by
          refine List.ext_getElem hl fun i h1 h2 => ?_
          have := h i (Nat.zero_le _) (by omega)
          split at this
          · cases this
          · rename_i hn
            have hn := Decidable.not_not.1 hn
            simpa [List.getD_eq_getElem?_getD, h1, h2] using hn
        rw [decide_eq_true this]; rfl
      | some v =>
        obtain ⟨j, _, _, hj, _⟩ := firstSome_some hf
        split at hj
        · rename_i hne
          cases hj
          rw [decide_eq_false (fun e => hne (by rw [e]))]; rfl
        · cases hj
    · unfold m_slices_Equal_rune_rune_L5
      rw [decide_eq_true (by omega), cond_true, if_pos ⟨by omega, by omega⟩, if_pos ⟨by omega, by omega⟩, Int.toNat_natCast, up (by omega)]
      by_cases h : a.getD i 0 = b.getD i 0
      · rw [if_neg (fun h' => h' h), show (a.getD i 0 != b.getD i 0) = false by rw [h]; simp]; rfl
      · rw [if_pos h, show (a.getD i 0 != b.getD i 0) = true from bne_iff_ne.2 h]; rfl
    · unfold m_slices_Equal_rune_rune_L5
      rw [decide_eq_false (by omega)]; rfl
  · rw [show (((a.length : Nat) : Int) != ((b.length : Nat) : Int)) = true by rw [bne_iff_ne]; omega, cond_true, decide_eq_false (fun e => hl (by rw [e]))]
end Go.Proofs.YtjhgaacecfmadaaDoor
