/- Punycode's numbers: the bias, the digits. No condition. -/
import Derived.Test.YtclhniadffljdaaDoorP0
namespace Go.Proofs.YtclhniadffljdaaDoor
open Go Go.SE
set_option linter.unusedVariables false
set_option linter.unusedSimpArgs false
theorem w8 {x : Int} (h : 0 ≤ x) (h' : x ≤ 255) : IntKind.wrap .u8 x = x := by
  have e1 : (IntKind.u8).bits = 8 := rfl
  have e2 : (IntKind.u8).signed = false := rfl
  simp only [IntKind.wrap, e1, e2, Bool.false_and]
  simp
  omega
theorem strs_app (a b : List Int) : strOfNums a ++ strOfNums b = strOfNums (a ++ b) := by
  apply ByteArray.ext
  apply Array.ext'
  simp [strOfNums]
theorem strs_size (a : List Int) : (strOfNums a).size = a.length := by simp [strOfNums, ByteArray.size]
theorem strs_nil : ByteArray.mk #[] = strOfNums [] := rfl
/-- A number brought among two. -/
def wi (n lo hi : Int) : Int := max lo (min n hi)
theorem wi_in {n lo hi : Int} (h : lo ≤ hi) : lo ≤ wi n lo hi ∧ wi n lo hi ≤ hi := by unfold wi; omega
theorem within_eq (n lo hi : Int) : m_puny_within n lo hi = some (wi n lo hi) := rfl
theorem within_ref (n lo hi : Int) (h : lo ≤ hi) : m_eponymref06_within n lo hi = some (wi n lo hi) := by
  unfold m_eponymref06_within wi
  simp only [cond_ite, decide_eq_true_eq]
  split
  · congr 1; omega
  · split
    · congr 1; omega
    · congr 1; omega
theorem bias_loop : ∀ (n : Nat) (d k : Int), 0 ≤ d → d ≤ n → 0 ≤ k → k + d ≤ 1000000000000 → ∃ d' k', iter (m_puny_Bias_L9) (d, k) = some (d', k') ∧ 0 ≤ d' ∧ d' ≤ 455 ∧ 0 ≤ k' ∧ k' ≤ k + d := by
  intro n
  induction n with
  | zero =>
    intro d k h0 h1 h2 h3
    rw [iter_step]
    unfold m_puny_Bias_L9
    have : decide (d > 455) = false := by simp; omega
    simp only [this, cond_false]
    exact ⟨d, k, rfl, h0, by omega, h2, by omega⟩
  | succ n ih =>
    intro d k h0 h1 h2 h3
    rw [iter_step]
    unfold m_puny_Bias_L9
    by_cases h : d > 455
    · simp only [h, decide_true, cond_true]
      have e1 : Int.tdiv d 35 = d / 35 := Int.tdiv_eq_ediv_of_nonneg h0
      rw [e1, w64 (by omega) (by omega), w64 (by omega) (by omega)]
      obtain ⟨d', k', h4, h5, h6, h7, h8⟩ := ih (d / 35) (k + 36) (by omega) (by omega) (by omega) (by omega)
      refine ⟨d', k', h4, h5, h6, h7, by omega⟩
    · have : decide (d > 455) = false := by simp; omega
      simp only [this, cond_false]
      exact ⟨d, k, rfl, h0, by omega, h2, by omega⟩
/-- The bias behind any number, in the code and in the document. -/
theorem bias_both (d many : Int) (first : Bool) : ∃ r, m_puny_Bias d many first = some r ∧ m_eponymref06_Bias d many first = some r ∧ 0 ≤ r ∧ r ≤ 10000000000 := by
  have hD := wi_in (n := d) (lo := 0) (hi := 2147483647) (by omega)
  have hM := wi_in (n := many) (lo := 1) (hi := 2147483647) (by omega)
  unfold m_puny_Bias m_eponymref06_Bias
  rw [within_eq, within_eq, within_ref _ _ _ (by omega), within_ref _ _ _ (by omega)]
  generalize wi d 0 2147483647 = D at hD
  generalize wi many 1 2147483647 = M at hM
  have key : ∀ by_ : Int, 1 ≤ by_ → ∃ r, m_puny_Bias_K4 M (IntKind.wrap .i64 (Int.tdiv D by_)) = some r ∧ m_eponymref06_Bias_K4 D M by_ = some r ∧ 0 ≤ r ∧ r ≤ 10000000000 := fun by_ hb => by
    unfold m_puny_Bias_K4 m_eponymref06_Bias_K4
    have e1 : Int.tdiv D by_ = D / by_ := Int.tdiv_eq_ediv_of_nonneg hD.1
    have b0 : 0 ≤ D / by_ := Int.ediv_nonneg hD.1 (by omega)
    have b1 : D / by_ ≤ D := Int.ediv_le_self _ hD.1
    rw [e1, w64 (x := D / by_) (by omega) (by omega)]
    generalize D / by_ = q at b0 b1
    have e2 : Int.tdiv q M = q / M := Int.tdiv_eq_ediv_of_nonneg b0
    have c0 : 0 ≤ q / M := Int.ediv_nonneg b0 (by omega)
    have c1 : q / M ≤ q := Int.ediv_le_self _ b0
    rw [if_pos (by omega), if_pos (by omega), if_pos (by omega), e2, w64 (x := q / M) (by omega) (by omega), w64 (x := q + q / M) (by omega) (by omega)]
    generalize q / M = p at c0 c1
    obtain ⟨d', k', h4, h5, h6, h7, h8⟩ := bias_loop (q + p).toNat (q + p) 0 (by omega) (by omega) (by omega) (by omega)
    have h4' : iter (m_eponymref06_Bias_L9) (q + p, 0) = some (d', k') := h4
    rw [h4, h4', bind_some', bind_some']
    unfold m_puny_Bias_K6 m_eponymref06_Bias_K6
    rw [w64 (x := d' + 38) (by omega) (by omega), if_pos (by omega)]
    have e3 : Int.tdiv (IntKind.wrap .i64 (36 * d')) (d' + 38) = 36 * d' / (d' + 38) := by rw [w64 (by omega) (by omega)]; exact Int.tdiv_eq_ediv_of_nonneg (by omega)
    have f0 : 0 ≤ 36 * d' / (d' + 38) := Int.ediv_nonneg (by omega) (by omega)
    have f1 : 36 * d' / (d' + 38) ≤ 36 * d' := Int.ediv_le_self _ (by omega)
    simp only [e3]
    rw [w64 (x := 36 * d' / (d' + 38)) (by omega) (by omega), w64 (by omega) (by omega)]
    exact ⟨_, rfl, rfl, by omega, by omega⟩
  cases first with
  | true => exact key 700 (by omega)
  | false => exact key 2 (by omega)
end Go.Proofs.YtclhniadffljdaaDoor
