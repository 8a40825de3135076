/- The law of a family's checks. No condition. -/
import Derived.Test.YtclhniadffljdaaDoorPVC2
import Derived.Test.YtclhniadffljdaaDoorPU5A
namespace Go.Proofs.YtclhniadffljdaaDoor
open Go Go.SE
set_option linter.unusedVariables false
set_option linter.unusedSimpArgs false
theorem is_erV (f : T_api_Family) (bad : Bool) : m_eponymlaw01_Is (erV (chk19 f bad)) (chk19 f bad).1 (chk19 f bad).2 = some true := by
  have h : (chk19 f bad).2 = 0 ∨ (chk19 f bad).2 = 16 ∨ (chk19 f bad).2 = 4 ∨ (chk19 f bad).2 = 6 ∨ (chk19 f bad).2 = 7 ∨ (chk19 f bad).2 = 5 := by
    unfold chk19
    cases bad with
    | true => simp
    | false =>
      rw [if_neg (by decide)]
      cases hf : firstSome (stC f) f.f_Sets.length 0 with
      | none => simp
      | some v =>
        obtain ⟨j, _, _, hj, _⟩ := firstSome_some hf
        unfold stC at hj
        split at hj
        · cases hj
          rcases seC_codes f j with h | h | h | h <;> simp [h]
        · split at hj
          · cases hj; simp
          · cases hj
  revert h
  generalize chk19 f bad = c
  obtain ⟨a, n⟩ := c
  simp only
  rintro (rfl | rfl | rfl | rfl | rfl | rfl)
  · exact is_nil a
  · exact is_empty a
  · exact is_range a
  · exact is_order a
  · exact is_there a
  · exact is_form a
theorem law_variantsChecks (f : T_api_Family) : m_eponymlaw19_VariantsChecks f = some true := by
  unfold m_eponymlaw19_VariantsChecks
  rw [awake19 all_demo, bind_some']
  obtain ⟨g, hg, hsm⟩ := great19 f
  rw [hg]
  simp only [Bool.not_true, cond_false, bind_some']
  cases g with
  | true => rfl
  | false =>
    obtain ⟨hs, hn⟩ := hsm rfl
    obtain ⟨bad, h1, h2⟩ := checks_eq f hs hn
    rw [cond_false, h2]
    simp only [bind_some']
    rw [h1, bind_some', is_erV, bind_some']
end Go.Proofs.YtclhniadffljdaaDoor
