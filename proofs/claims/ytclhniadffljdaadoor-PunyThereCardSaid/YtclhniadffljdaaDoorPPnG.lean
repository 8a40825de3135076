/- Merged of texts of ours: PPnA, PPnR, PPnG. No condition. -/
import Derived.Test.YtclhniadffljdaaDoorP0
namespace Go.Proofs.YtclhniadffljdaaDoor
open Go Go.SE
set_option linter.unusedVariables false
set_option linter.unusedSimpArgs false
theorem w8 {x : Int} (h : 0 ≤ x) (h' : x ≤ 255) : IntKind.wrap .u8 x = x := by
  have e1 : (IntKind.u8).bits = 8 := rfl
  have e2 : (IntKind.u8).signed = false := rfl
  simp only [IntKind.wrap, e1, e2, Bool.false_and]
  simp
  omega
theorem strs_app (a b : List Int) : strOfNums a ++ strOfNums b = strOfNums (a ++ b) := by
  apply ByteArray.ext
  apply Array.ext'
  simp [strOfNums]
theorem strs_size (a : List Int) : (strOfNums a).size = a.length := by simp [strOfNums, ByteArray.size]
theorem strs_nil : ByteArray.mk #[] = strOfNums [] := rfl
/-- A number brought among two. -/
def wi (n lo hi : Int) : Int := max lo (min n hi)
theorem wi_in {n lo hi : Int} (h : lo ≤ hi) : lo ≤ wi n lo hi ∧ wi n lo hi ≤ hi := by unfold wi; omega
theorem within_eq (n lo hi : Int) : m_puny_within n lo hi = some (wi n lo hi) := rfl
theorem within_ref (n lo hi : Int) (h : lo ≤ hi) : m_eponymref06_within n lo hi = some (wi n lo hi) := by
  unfold m_eponymref06_within wi
  simp only [cond_ite, decide_eq_true_eq]
  split
  · congr 1; omega
  · split
    · congr 1; omega
    · congr 1; omega
/-- How much m divisions bring below 455. -/
def pw : Nat → Int
  | 0 => 455
  | m + 1 => 35 * pw m
theorem bias_loop : ∀ (m : Nat) (d k : Int), 0 ≤ d → d ≤ pw m → d ≤ 1000000000000 → 0 ≤ k → k + 36 * m ≤ 1000000000000 → ∃ d' k', iter (m_puny_Bias_L9) (d, k) = some (d', k') ∧ 0 ≤ d' ∧ d' ≤ 455 ∧ 0 ≤ k' ∧ k' ≤ k + 36 * m := by
  intro m
  induction m with
  | zero =>
    intro d k h0 h1 hd h2 h3
    rw [iter_step]
    unfold m_puny_Bias_L9
    have : decide (d > 455) = false := by simp [pw] at h1 ⊢; omega
    simp only [this, cond_false]
    exact ⟨d, k, rfl, h0, h1, h2, by omega⟩
  | succ m ih =>
    intro d k h0 h1 hd h2 h3
    rw [iter_step]
    unfold m_puny_Bias_L9
    rw [pw] at h1
    by_cases h : d > 455
    · simp only [h, decide_true, cond_true]
      have e1 : Int.tdiv d 35 = d / 35 := Int.tdiv_eq_ediv_of_nonneg h0
      rw [e1, w64 (by omega) (by omega), w64 (by omega) (by omega)]
      obtain ⟨d', k', h4, h5, h6, h7, h8⟩ := ih (d / 35) (k + 36) (by omega) (by omega) (by omega) (by omega) (by omega)
      refine ⟨d', k', h4, h5, h6, h7, by omega⟩
    · have : decide (d > 455) = false := by simp; omega
      simp only [this, cond_false]
      exact ⟨d, k, rfl, h0, by omega, h2, by omega⟩
/-- The bias behind any number, in the code and in the document. -/
theorem bias_both (d many : Int) (first : Bool) : ∃ r, m_puny_Bias d many first = some r ∧ m_eponymref06_Bias d many first = some r ∧ 0 ≤ r ∧ r ≤ 1000 := by
  have hD := wi_in (n := d) (lo := 0) (hi := 2147483647) (by omega)
  have hM := wi_in (n := many) (lo := 1) (hi := 2147483647) (by omega)
  unfold m_puny_Bias m_eponymref06_Bias
  rw [within_eq, within_eq, within_ref _ _ _ (by omega), within_ref _ _ _ (by omega)]
  generalize wi d 0 2147483647 = D at hD
  generalize wi many 1 2147483647 = M at hM
  have key : ∀ by_ : Int, 1 ≤ by_ → ∃ r, m_puny_Bias_K4 M (IntKind.wrap .i64 (Int.tdiv D by_)) = some r ∧ m_eponymref06_Bias_K4 D M by_ = some r ∧ 0 ≤ r ∧ r ≤ 1000 := fun by_ hb => by
    unfold m_puny_Bias_K4 m_eponymref06_Bias_K4
    have e1 : Int.tdiv D by_ = D / by_ := Int.tdiv_eq_ediv_of_nonneg hD.1
    have b0 : 0 ≤ D / by_ := Int.ediv_nonneg hD.1 (by omega)
    have b1 : D / by_ ≤ D := Int.ediv_le_self _ hD.1
    rw [e1, w64 (x := D / by_) (by omega) (by omega)]
    generalize D / by_ = q at b0 b1
    have e2 : Int.tdiv q M = q / M := Int.tdiv_eq_ediv_of_nonneg b0
    have c0 : 0 ≤ q / M := Int.ediv_nonneg b0 (by omega)
    have c1 : q / M ≤ q := Int.ediv_le_self _ b0
    rw [if_pos (by omega), if_pos (by omega), if_pos (by omega), e2, w64 (x := q / M) (by omega) (by omega), w64 (x := q + q / M) (by omega) (by omega)]
    generalize q / M = p at c0 c1
    obtain ⟨d', k', h4, h5, h6, h7, h8⟩ := bias_loop 6 (q + p) 0 (by omega) (by simp [pw]; omega) (by omega) (by omega) (by omega)
    have h4' : iter (m_eponymref06_Bias_L9) (q + p, 0) = some (d', k') := h4
    rw [h4, h4', bind_some', bind_some']
    unfold m_puny_Bias_K6 m_eponymref06_Bias_K6
    rw [w64 (x := d' + 38) (by omega) (by omega), if_pos (by omega)]
    have e3 : Int.tdiv (IntKind.wrap .i64 (36 * d')) (d' + 38) = 36 * d' / (d' + 38) := by rw [w64 (by omega) (by omega)]; exact Int.tdiv_eq_ediv_of_nonneg (by omega)
    have f0 : 0 ≤ 36 * d' / (d' + 38) := Int.ediv_nonneg (by omega) (by omega)
    have f1 : 36 * d' / (d' + 38) ≤ 36 := by
      have := Int.ediv_mul_le (36 * d') (show d' + 38 ≠ 0 by omega)
      generalize 36 * d' / (d' + 38) = z at this f0
      by_cases hz : z ≤ 36
      · exact hz
      · have := Int.mul_le_mul_of_nonneg_right (show 37 ≤ z by omega) (show 0 ≤ d' + 38 by omega)
        omega
    simp only [e3]
    rw [w64 (x := 36 * d' / (d' + 38)) (by omega) (by omega), w64 (by omega) (by omega)]
    exact ⟨_, rfl, rfl, by omega, by omega⟩
  cases first with
  | true => exact key 700 (by omega)
  | false => exact key 2 (by omega)
/-- May a number be a rune? -/
def rgt (v : Int) : Bool := decide (0 ≤ v ∧ v ≤ 1114111 ∧ ¬ (55296 ≤ v ∧ v ≤ 57343))
theorem rgt_code (v : Int) : m_utf_Right v = some (rgt v) := by
  unfold m_utf_Right rgt
  simp only [cond_ite, decide_eq_true_eq]
  repeat' split
  all_goals (congr 1; first | rfl | (rw [Bool.eq_iff_iff]; simp; omega) | (symm; simp; omega))
theorem rgt_ref (v : Int) : m_eponymref01_Right v = some (rgt v) := by
  unfold m_eponymref01_Right rgt
  simp only [cond_ite, decide_eq_true_eq]
  repeat' split
  all_goals (congr 1; first | rfl | (rw [Bool.eq_iff_iff]; simp; omega) | (symm; simp; omega))
/-! ### Digits -/
/-- The bound of the k-th digit. -/
def bnd6 (b k : Int) : Int := wi (36 * (k + 1) - b) 1 26
theorem bnd6_in (b k : Int) : 1 ≤ bnd6 b k ∧ bnd6 b k ≤ 26 := wi_in (by omega)
theorem bound_ref (b k : Int) (hk : 0 ≤ k) (hk' : k ≤ 10000000000) (hb : 0 ≤ b) (hb' : b ≤ 10000000000) : m_eponymref06_bound k b = some (bnd6 b k) := by
  unfold m_eponymref06_bound
  rw [w64 (x := k + 1) (by omega) (by omega), w64 (x := 36 * (k + 1)) (by omega) (by omega), w64 (by omega) (by omega), within_ref _ _ _ (by omega)]
  rfl
/-- A digit's sign. -/
def sg (n : Int) : Int := if n < 26 then 97 + n else 22 + n
theorem sg_in {n : Int} (h : 0 ≤ n) (h' : n ≤ 35) : 48 ≤ sg n ∧ sg n ≤ 122 := by unfold sg; split <;> omega
theorem sign_eq {n : Int} (h : 0 ≤ n) (h' : n ≤ 35) : m_puny_sign n = some (sg n) := by
  unfold m_puny_sign sg
  simp only [cond_ite, decide_eq_true_eq]
  split
  · rw [w64 (by omega) (by omega), w8 (by omega) (by omega)]
  · rw [w64 (x := 48 + n) (by omega) (by omega), w64 (by omega) (by omega), w8 (by omega) (by omega)]
    congr 1; omega
theorem sign_ref {n : Int} (h : 0 ≤ n) (h' : n ≤ 35) : m_eponymref06_sign n = some (strOfNums [sg n]) := by
  unfold m_eponymref06_sign sg
  simp only [cond_ite, decide_eq_true_eq]
  split
  · rw [w64 (by omega) (by omega), w8 (by omega) (by omega)]
  · rw [w64 (x := 48 + n) (by omega) (by omega), w64 (by omega) (by omega), w8 (by omega) (by omega)]
    congr 3; omega
/-- A number's digits, from the k-th on. -/
def digs (b : Int) : Nat → Int → Int → List Int
  | 0, _, _ => []
  | n + 1, k, d => if d < bnd6 b k then [sg d] else sg (bnd6 b k + (d - bnd6 b k) % (36 - bnd6 b k)) :: digs b n (k + 1) ((d - bnd6 b k) / (36 - bnd6 b k))
/-- One step. -/
theorem dig_step {d t : Int} (ht : 1 ≤ t) (ht' : t ≤ 26) (hd : t ≤ d) (hd' : d ≤ 100000000000000000) :
    IntKind.wrap .i64 (36 - t) = 36 - t ∧ IntKind.wrap .i64 (t + (Int.tmod (IntKind.wrap .i64 (d - t)) (36 - t))) = t + (d - t) % (36 - t) ∧ 0 ≤ t + (d - t) % (36 - t) ∧ t + (d - t) % (36 - t) ≤ 35 ∧
      IntKind.wrap .i64 (Int.tdiv (IntKind.wrap .i64 (d - t)) (36 - t)) = (d - t) / (36 - t) ∧ 0 ≤ (d - t) / (36 - t) ∧ (d - t) / (36 - t) + 1 ≤ d := by
  have m0 : 0 ≤ (d - t) % (36 - t) := Int.emod_nonneg _ (by omega)
  have m1 : (d - t) % (36 - t) < 36 - t := Int.emod_lt_of_pos _ (by omega)
  have q0 : 0 ≤ (d - t) / (36 - t) := Int.ediv_nonneg (by omega) (by omega)
  have q1 : (d - t) / (36 - t) ≤ d - t := Int.ediv_le_self _ (by omega)
  have e1 : IntKind.wrap .i64 (d - t) = d - t := w64 (by omega) (by omega)
  refine ⟨w64 (by omega) (by omega), ?_, by omega, by omega, ?_, q0, by omega⟩
  · rw [e1, Int.tmod_eq_emod_of_nonneg (by omega), w64 (by omega) (by omega)]
  · rw [e1, Int.tdiv_eq_ediv_of_nonneg (by omega), w64 (by omega) (by omega)]
theorem digs_ref (b : Int) (hb : 0 ≤ b) (hb' : b ≤ 10000000000) : ∀ (n : Nat) (d k : Int) (out : List Int), 0 ≤ d → d < n → k = out.length → (out.length : Int) + d ≤ 3000000000 →
    iter (m_eponymref06_Digits_L5 b) (d, strOfNums out, k) = some (strOfNums (out ++ digs b n k d)) := by
  intro n
  induction n with
  | zero => intro d k out h0 h1; omega
  | succ n ih =>
    intro d k out h0 h1 hk h2
    have hB := bnd6_in b k
    unfold digs
    by_cases hd : d < bnd6 b k
    · refine iter_done ?_
      unfold m_eponymref06_Digits_L5
      simp only
      rw [bound_ref b k (by omega) (by omega) hb hb', bind_some']
      simp only [hd, decide_true, cond_true, if_true]
      rw [sign_ref h0 (by omega), bind_some', strs_size, strs_size, if_pos (by simp; omega), strs_app]
    · have hs := hd
      have hdf : decide (d < bnd6 b k) = false := by simp; omega
      rw [if_neg hd]
      obtain ⟨s1, s2, s3, s4, s5, s6, s7⟩ := dig_step (d := d) hB.1 hB.2 (by omega) (by omega)
      have hstep : m_eponymref06_Digits_L5 b (d, strOfNums out, k) = some (.next ((d - bnd6 b k) / (36 - bnd6 b k), strOfNums (out ++ [sg (bnd6 b k + (d - bnd6 b k) % (36 - bnd6 b k))]), k + 1)) := by
        unfold m_eponymref06_Digits_L5
        simp only
        rw [bound_ref b k (by omega) (by omega) hb hb', bind_some']
        simp only [hdf, cond_false]
        rw [s1, s2, s5, if_pos (by omega), sign_ref s3 s4, bind_some', strs_size, strs_size, if_pos (by simp; omega), if_pos (by omega), strs_app, w64 (x := k + 1) (by omega) (by omega)]
      rw [iter_next hstep]
      generalize bnd6 b k = t at hB hd s6 s7
      rw [ih _ (k + 1) (out ++ [sg (t + (d - t) % (36 - t))]) s6 (by omega) (by simp; omega) (by simp; omega)]
      simp
theorem digits_ref (d b : Int) : m_eponymref06_Digits d b = some (strOfNums (digs (wi b 0 1000) 2147483648 0 (wi d 0 2147483647))) := by
  unfold m_eponymref06_Digits
  rw [within_ref _ _ _ (by omega), bind_some', within_ref _ _ _ (by omega), bind_some', strs_nil]
  have h1 := wi_in (n := b) (lo := 0) (hi := 1000) (by omega)
  have h2 := wi_in (n := d) (lo := 0) (hi := 2147483647) (by omega)
  rw [digs_ref _ h1.1 (by omega) 2147483648 _ 0 [] h2.1 (by omega) rfl (by simp; omega)]
  rfl
end Go.Proofs.YtclhniadffljdaaDoor
