/- Layer 4: sameness of rows; what is awake. No condition. -/
import Derived.Test.YtjhgaacecfmadaaPDecompA
namespace Go.Proofs.Ytjhgaacecfmadaa
open Go Go.SE
set_option linter.unusedVariables false
set_option linter.unusedSimpArgs false
theorem same_eq (a b : List Int) (ha : a.length < 4611686018427387904) : m_eponymlaw01_Same a b = some (decide (a = b)) := by
  unfold m_eponymlaw01_Same
  by_cases hl : a.length = b.length
  · rw [show (((a.length : Nat) : Int) != ((b.length : Nat) : Int)) = false by rw [hl]; simp, cond_false]
    rw [iter_scan a.length (fun i => if a.getD i 0 ≠ b.getD i 0 then some false else none) (fun i hi _ => ?_) (fun _ => ?_)]
    · cases hf : firstSome (fun i => if a.getD i 0 ≠ b.getD i 0 then some false else none) a.length 0 with
      | none =>
        have h := firstSome_none.1 hf
        have : a = b := by
          refine List.ext_getElem hl fun i h1 h2 => ?_
          have := h i (Nat.zero_le _) (by omega)
          split at this
          · cases this
          · rename_i hn
            have hn := Decidable.not_not.1 hn
            simpa [List.getD_eq_getElem?_getD, h1, h2] using hn
        rw [decide_eq_true this]; rfl
      | some v =>
        obtain ⟨j, _, _, hj, _⟩ := firstSome_some hf
        split at hj
        · rename_i hne
          cases hj
          rw [decide_eq_false (fun e => hne (by rw [e]))]; rfl
        · cases hj
    · unfold m_eponymlaw01_Same_L5
      rw [decide_eq_true (by omega), cond_true, if_pos ⟨by omega, by omega⟩, if_pos ⟨by omega, by omega⟩, Int.toNat_natCast, up (by omega)]
      by_cases h : a.getD i 0 = b.getD i 0
      · rw [if_neg (fun h' => h' h), show (a.getD i 0 != b.getD i 0) = false by rw [h]; simp]; rfl
      · rw [if_pos h, show (a.getD i 0 != b.getD i 0) = true from bne_iff_ne.2 h]; rfl
    · unfold m_eponymlaw01_Same_L5
      rw [decide_eq_false (by omega)]; rfl
  · rw [show (((a.length : Nat) : Int) != ((b.length : Nat) : Int)) = true by rw [bne_iff_ne]; omega, cond_true, decide_eq_false (fun e => hl (by rw [e]))]
def demo4 : T_api_Norm := { f_Rows := [{ f_From := 233, f_To := [101, 769] }], f_Classes := [{ f_Lo := 769, f_Hi := 769, f_Value := 230 }], f_Excluded := [] }
theorem demo4_chk : chk04 demo4 = (0, 0) := by decide
theorem demo4_rising : risingR demo4 := fun i j h h2 => by
  have : demo4.f_Rows.length = 1 := rfl
  omega
theorem demo4_find (r : Int) : m_decomp_find demo4 r = some (rowIdx demo4 r) := dfind_eq demo4 r (by decide) demo4_rising
theorem demo4_one : m_decomp_One demo4 233 = some [101, 769] := by
  have h1 : m_decomp_One_L7 demo4 ((233 : Int), ([] : List Int), (0 : Int)) = some (.next ((101 : Int), [769], (1 : Int))) := by
    unfold m_decomp_One_L7
    rw [demo4_find]
    rfl
  have h2 : m_decomp_One_L7 demo4 ((101 : Int), [769], (1 : Int)) = some (.done ((101 : Int), [769])) := by
    unfold m_decomp_One_L7
    rw [demo4_find]
    rfl
  unfold m_decomp_One
  rw [dhang_eq, bind_some', show (hangC 233 == 4) = false by decide, cond_false, iter_next h1, iter_done h2, bind_some']
  unfold m_decomp_One_K3 m_slices_Reverse_rune_rune_own
  rw [iter_done (x := [769]) rfl]
  rfl
theorem demo4_syl : m_decomp_One demo4 44033 = some [4352, 4449, 4520] := by
  unfold m_decomp_One
  rw [dhang_eq, bind_some', show (hangC 44033 == 4) = true by decide, cond_true]
  decide
end Go.Proofs.Ytjhgaacecfmadaa
