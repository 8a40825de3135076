/- Punycode's digits, by a bias alone. No condition. -/
import Derived.Test.YtclhniadffljdaaDoorPPnA
namespace Go.Proofs.YtclhniadffljdaaDoor
open Go Go.SE
set_option linter.unusedVariables false
set_option linter.unusedSimpArgs false
theorem bound3 (b : Int) (f : Bool) (k : Int) (hk : 0 ≤ k) (hk' : k ≤ 10000000000) (hb : 0 ≤ b) (hb' : b ≤ 10000000000) : m_puny_bias_bound_own3 b f k = some (bnd6 b k) := by
  unfold m_puny_bias_bound_own3
  rw [w64 (x := k + 1) (by omega) (by omega), w64 (x := 36 * (k + 1)) (by omega) (by omega), w64 (by omega) (by omega), within_eq]
  rfl
theorem digs_own2 (b : Int) (f : Bool) (hb : 0 ≤ b) (hb' : b ≤ 10000000000) : ∀ (n : Nat) (d k : Int) (out : List Int), 0 ≤ d → d < n → k = out.length → (out.length : Int) + d ≤ 3000000000 →
    iter (m_puny_bias_digits_own2_L3 b f) (d, out, k) = some (strOfNums (out ++ digs b n k d)) := by
  intro n
  induction n with
  | zero => intro d k out h0 h1; omega
  | succ n ih =>
    intro d k out h0 h1 hk h2
    have hB := bnd6_in b k
    unfold digs
    by_cases hd : d < bnd6 b k
    · refine iter_done ?_
      unfold m_puny_bias_digits_own2_L3
      simp only
      rw [bound3 b f k (by omega) (by omega) hb hb', bind_some']
      simp only [hd, decide_true, cond_true, if_true]
      rw [sign_eq h0 (by omega), bind_some', if_pos (by omega)]
    · have hdf : decide (d < bnd6 b k) = false := by simp; omega
      rw [if_neg hd]
      obtain ⟨s1, s2, s3, s4, s5, s6, s7⟩ := dig_step (d := d) hB.1 hB.2 (by omega) (by omega)
      have hstep : m_puny_bias_digits_own2_L3 b f (d, out, k) = some (.next ((d - bnd6 b k) / (36 - bnd6 b k), out ++ [sg (bnd6 b k + (d - bnd6 b k) % (36 - bnd6 b k))], k + 1)) := by
        unfold m_puny_bias_digits_own2_L3
        simp only
        rw [bound3 b f k (by omega) (by omega) hb hb', bind_some']
        simp only [hdf, cond_false]
        rw [s1, s2, s5, if_pos (by omega), sign_eq s3 s4, bind_some', if_pos (by omega), if_pos (by omega), w64 (x := k + 1) (by omega) (by omega)]
      rw [iter_next hstep]
      generalize bnd6 b k = t at hB hd s6 s7
      rw [ih _ (k + 1) (out ++ [sg (t + (d - t) % (36 - t))]) s6 (by omega) (by simp; omega) (by simp; omega)]
      simp
theorem digits_code (d b : Int) : m_puny_Digits d b = some (strOfNums (digs (wi b 0 1000) 2147483648 0 (wi d 0 2147483647))) := by
  unfold m_puny_Digits
  rw [within_eq, bind_some', within_eq, bind_some']
  unfold m_puny_bias_digits_own2
  have h1 := wi_in (n := b) (lo := 0) (hi := 1000) (by omega)
  have h2 := wi_in (n := d) (lo := 0) (hi := 2147483647) (by omega)
  rw [digs_own2 _ false h1.1 (by omega) 2147483648 _ 0 [] h2.1 (by omega) rfl (by simp; omega)]
  rfl
theorem numbers (d many : Int) (first : Bool) (haw : m_eponymlaw06_awake = some true) : m_eponymlaw06_PunyNumbers d many first = some true := by
  unfold m_eponymlaw06_PunyNumbers
  obtain ⟨r, h1, h2, _⟩ := bias_both d many first
  rw [haw, bind_some', h1, bind_some', h2, bind_some', digits_code, bind_some', digits_ref, bind_some']
  simp
end Go.Proofs.YtclhniadffljdaaDoor
