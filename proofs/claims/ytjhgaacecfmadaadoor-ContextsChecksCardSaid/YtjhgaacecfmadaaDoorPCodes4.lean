/- The codes that a check of a norm gives, as errors (the same lemmas as in PLaw4C, for claims without decomp.One). No condition. -/
import Derived.Test.YtjhgaacecfmadaaDoorPDecomp
import Derived.Test.YtjhgaacecfmadaaDoorPErr
namespace Go.Proofs.YtjhgaacecfmadaaDoor
open Go Go.SE
set_option linter.unusedVariables false
set_option linter.unusedSimpArgs false
theorem is_erOf4 {c : Int × Int} (h : c.2 = 0 ∨ c.2 = 4 ∨ c.2 = 5 ∨ c.2 = 6 ∨ c.2 = 7 ∨ c.2 = 9 ∨ c.2 = 17 ∨ c.2 = 18) : m_eponymlaw01_Is (erOf c) c.1 c.2 = some true := by
  obtain ⟨a, n⟩ := c
  rcases h with h | h | h | h | h | h | h | h <;> cases h
  · exact is_nil a
  · exact is_range a
  · exact is_form a
  · exact is_order a
  · exact is_there a
  · exact is_deep a
  · exact is_kind a
  · exact is_full a
theorem chkR_codes (l : List T_api_Range) : (chkR l).2 = 0 ∨ (chkR l).2 = 4 ∨ (chkR l).2 = 6 ∨ (chkR l).2 = 18 := by
  unfold chkR
  split
  · simp
  · cases hf : firstSome (chkF l) l.length 0 with
    | none => simp
    | some v =>
      obtain ⟨j, _, _, hj, _⟩ := firstSome_some hf
      unfold chkF at hj
      split at hj
      · cases hj; simp
      · split at hj
        · cases hj; simp
        · cases hj
theorem rowF_codes (t : T_api_Norm) (i : Nat) : rowF t i = 0 ∨ rowF t i = 4 ∨ rowF t i = 5 ∨ rowF t i = 6 ∨ rowF t i = 9 := by
  unfold rowF
  repeat' split
  all_goals simp
theorem chk04_codes (t : T_api_Norm) : (chk04 t).2 = 0 ∨ (chk04 t).2 = 4 ∨ (chk04 t).2 = 5 ∨ (chk04 t).2 = 6 ∨ (chk04 t).2 = 7 ∨ (chk04 t).2 = 9 ∨ (chk04 t).2 = 17 ∨ (chk04 t).2 = 18 := by
  unfold chk04
  split
  · simp
  · split
    · rename_i v hv
      obtain ⟨j, _, _, hj, _⟩ := firstSome_some hv
      split at hj
      · cases hj
        rcases rowF_codes t j with h | h | h | h | h <;> simp [h]
      · cases hj
    · split
      · rcases chkR_codes t.f_Classes with h | h | h | h <;> simp [h]
      · split
        · rename_i v hv
          obtain ⟨j, _, _, hj, _⟩ := firstSome_some hv
          unfold clsF at hj
          split at hj
          · cases hj; simp
          · cases hj
        · split
          · rename_i v hv
            obtain ⟨j, _, _, hj, _⟩ := firstSome_some hv
            unfold exF at hj
            split at hj
            · cases hj; simp
            · split at hj
              · cases hj; simp
              · cases hj
          · cases hf : firstSome (twF t) t.f_Rows.length 0 with
            | none => simp
            | some v =>
              obtain ⟨j, _, _, hj, _⟩ := firstSome_some hf
              unfold twF at hj
              obtain ⟨k, _, _, hk, _⟩ := firstSome_some hj
              split at hk
              · cases hk; simp
              · cases hk
end Go.Proofs.YtjhgaacecfmadaaDoor
