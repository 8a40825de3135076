/- The law of syllables. No condition. -/
import Derived.Test.YtjhgaacecfmadaaDoorPLaw4
namespace Go.Proofs.YtjhgaacecfmadaaDoor
open Go Go.SE
set_option linter.unusedVariables false
set_option linter.unusedSimpArgs false
theorem syl_one (n : Int) (h0 : 0 ≤ n) (h1 : n < 11172) (t : T_api_Norm) : m_decomp_One t (44032 + n) = some (if n % 28 > 0 then [4352 + n / 588, 4449 + n / 28 % 21, 4519 + n % 28] else [4352 + n / 588, 4449 + n / 28 % 21]) := by
  unfold m_decomp_One
  have hc : hangC (44032 + n) = 4 := by
    unfold hangC
    rw [if_neg (by omega), if_neg (by omega), if_neg (by omega), if_pos (by omega)]
  have e0 : IntKind.wrap .i64 ((IntKind.wrap .i64 (44032 + n)) - 44032) = n := by
    rw [w64 (x := 44032 + n) (by omega) (by omega), w64 (by omega) (by omega)]; omega
  rw [dhang_eq, bind_some', hc]
  simp only [beq_self_eq_true, cond_true, e0]
  rw [Int.tmod_eq_emod_of_nonneg h0, Int.tdiv_eq_ediv_of_nonneg h0, Int.tdiv_eq_ediv_of_nonneg h0, w64 (x := n / 588) (by omega) (by omega), w64 (x := n / 28) (by omega) (by omega), Int.tmod_eq_emod_of_nonneg (a := n / 28) (by omega)]
  rw [w64 (x := 4352 + n / 588) (by omega) (by omega), w32 (x := 4352 + n / 588) (by omega) (by omega), w64 (x := 4449 + n / 28 % 21) (by omega) (by omega), w32 (x := 4449 + n / 28 % 21) (by omega) (by omega), w64 (x := 4519 + n % 28) (by omega) (by omega), w32 (x := 4519 + n % 28) (by omega) (by omega)]
  by_cases h : n % 28 > 0
  · rw [if_pos h, decide_eq_true h]; rfl
  · rw [if_neg h, decide_eq_false h]; rfl
theorem syl_K8 (n A B C : Int) (y : List Int) (hA : 0 ≤ A ∧ A < 19) (hB : 0 ≤ B ∧ B < 21) (hC : 0 ≤ C ∧ C < 28) (hn : n = (A * 21 + B) * 28 + C) (g0 : y.getD 0 0 = 4352 + A) (g1 : y.getD 1 0 = 4449 + B) (hl : (((y.length : Nat) : Int) == 2) = (C == 0)) : m_eponymlaw04_DecompSyllables_K8 n y C = some true := by
  unfold m_eponymlaw04_DecompSyllables_K8
  have e1 : IntKind.wrap .i64 ((IntKind.wrap .i64 (4352 + A)) - 4352) = A := by
    rw [w64 (x := 4352 + A) (by omega) (by omega), w64 (by omega) (by omega)]; omega
  have e2 : IntKind.wrap .i64 ((IntKind.wrap .i64 (4449 + B)) - 4449) = B := by
    rw [w64 (x := 4449 + B) (by omega) (by omega), w64 (by omega) (by omega)]; omega
  rw [g0, g1, e1, e2, hl, w64 (x := A * 21) (by omega) (by omega), w64 (x := A * 21 + B) (by omega) (by omega), w64 (x := (A * 21 + B) * 28) (by omega) (by omega), w64 (x := (A * 21 + B) * 28 + C) (by omega) (by omega), ← hn]
  rw [decide_eq_true (show A ≥ 0 from hA.1), decide_eq_true hA.2, decide_eq_true (show B ≥ 0 from hB.1), decide_eq_true hB.2, decide_eq_true (show C ≥ 0 from hC.1), decide_eq_true hC.2]
  simp
theorem law_decompSyllables (n : Int) : m_eponymlaw04_DecompSyllables n = some true := by
  unfold m_eponymlaw04_DecompSyllables
  rw [awake04, bind_some']
  simp only [Bool.not_true, cond_false]
  have yes : m_eponymlaw04_DecompSyllables_K3 n true = some true := rfl
  by_cases h0 : n < 0
  · rw [decide_eq_true h0]; exact yes
  · by_cases h1 : n ≥ 11172
    · rw [decide_eq_false h0, decide_eq_true h1]; exact yes
    · rw [decide_eq_false h0, decide_eq_false h1]
      simp only [cond_false, bind_some']
      unfold m_eponymlaw04_DecompSyllables_K3
      rw [cond_false, w64 (x := 44032 + n) (by omega) (by omega), w32 (by omega) (by omega), syl_one n (by omega) (by omega), bind_some']
      unfold m_eponymlaw04_DecompSyllables_K6
      by_cases hc : n % 28 > 0
      · rw [if_pos hc]
        have q : IntKind.wrap .i64 ((IntKind.wrap .i64 (4519 + n % 28)) - 4519) = n % 28 := by
          rw [w64 (x := 4519 + n % 28) (by omega) (by omega), w64 (by omega) (by omega)]; omega
        have k := syl_K8 n (n / 588) (n / 28 % 21) (n % 28) [4352 + n / 588, 4449 + n / 28 % 21, 4519 + n % 28] (by omega) (by omega) (by omega) (by omega) rfl rfl (by rw [beq_false_of_ne (show n % 28 ≠ 0 by omega)]; rfl)
        show m_eponymlaw04_DecompSyllables_K8 n [4352 + n / 588, 4449 + n / 28 % 21, 4519 + n % 28] (IntKind.wrap .i64 ((IntKind.wrap .i64 (4519 + n % 28)) - 4519)) = some true
        rw [q]; exact k
      · rw [if_neg hc]
        have z : n % 28 = 0 := by omega
        exact syl_K8 n (n / 588) (n / 28 % 21) 0 [4352 + n / 588, 4449 + n / 28 % 21] (by omega) (by omega) (by omega) (by omega) rfl rfl rfl
end Go.Proofs.YtjhgaacecfmadaaDoor
