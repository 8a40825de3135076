/- Punycode written: what is told of each rune, in plain lists; the code's loops tell it. No condition. -/
import Derived.Test.YtclhniadffljdaaDoorPPeA
import Derived.Test.YtclhniadffljdaaDoorPPnG
namespace Go.Proofs.YtclhniadffljdaaDoor
open Go Go.SE
set_option linter.unusedVariables false
set_option linter.unusedSimpArgs false
/-- What was written (bias, whether there was a number, text), and the present place. -/
structure EncS where
  b : Int
  f : Bool
  o : List Int
  n : Int
  i : Int
  m : Int
/-- A bias. -/
noncomputable def bv (d m : Int) (f : Bool) : Int := (m_puny_Bias d m f).getD 0
theorem bv_code (d m : Int) (f : Bool) : m_puny_Bias d m f = some (bv d m f) := by
  obtain ⟨r, h1, h2, h3, h4⟩ := bias_both d m f
  unfold bv
  rw [h1]; rfl
theorem bv_ref (d m : Int) (f : Bool) : m_eponymref06_Bias d m f = some (bv d m f) := by
  obtain ⟨r, h1, h2, h3, h4⟩ := bias_both d m f
  unfold bv
  rw [h1, h2]; rfl
theorem bv_in (d m : Int) (f : Bool) : 0 ≤ bv d m f ∧ bv d m f ≤ 1000 := by
  obtain ⟨r, h1, h2, h3, h4⟩ := bias_both d m f
  unfold bv
  rw [h1]; exact ⟨h3, h4⟩
/-- The number that is told of a rune at a place. -/
def dOf (s : EncS) (r p : Int) : Int := (r - s.n) * (s.m + 1) + p - s.i
noncomputable def putE (s : EncS) (r p : Int) : EncS := ⟨bv (dOf s r p) (s.m + 1) (!s.f), true, s.o ++ digs s.b 2147483648 0 (dOf s r p), r, p + 1, s.m + 1⟩
/-- How many, of the first k, are at most r; are r; how many of all are below r. -/
def ahN (l : List Int) (r : Int) (k : Nat) : Nat := (l.take k).countP fun x => decide (x ≤ r)
def eqN (l : List Int) (r : Int) (k : Nat) : Nat := (l.take k).countP fun x => decide (x = r)
def ltN (l : List Int) (r : Int) : Nat := l.countP fun x => decide (x < r)
theorem ahN_succ (l : List Int) (r : Int) (k : Nat) (h : k < l.length) : ahN l r (k + 1) = ahN l r k + if l.getD k 0 ≤ r then 1 else 0 := by
  unfold ahN
  rw [take_snoc l k h, List.countP_append]
  by_cases hc : l.getD k 0 ≤ r <;> simp [hc]
theorem eqN_succ (l : List Int) (r : Int) (k : Nat) (h : k < l.length) : eqN l r (k + 1) = eqN l r k + if l.getD k 0 = r then 1 else 0 := by
  unfold eqN
  rw [take_snoc l k h, List.countP_append]
  by_cases hc : l.getD k 0 = r <;> simp [hc]
theorem ah_le (l : List Int) (r : Int) (k : Nat) : ahN l r k ≤ ltN l r + eqN l r k := by
  have h1 : (l.take k).countP (fun x => decide (x < r)) ≤ ltN l r := (List.take_sublist k l).countP_le
  have h2 : ∀ q : List Int, q.countP (fun x => decide (x ≤ r)) ≤ q.countP (fun x => decide (x < r)) + q.countP (fun x => decide (x = r)) := by
    intro q
    induction q with
    | nil => simp
    | cons x q ih =>
      simp only [List.countP_cons, decide_eq_true_eq]
      split <;> split <;> split <;> omega
  have := h2 (l.take k)
  unfold ahN eqN
  omega
noncomputable def stepA (l : List Int) (r : Int) (k : Nat) (s : EncS) : EncS := if l.getD k 0 = r then putE s r (ahN l r k) else s
/-- All of a kind, from the k-th on. -/
noncomputable def allF (l : List Int) (r : Int) : Nat → Nat → EncS → EncS
  | 0, _, s => s
  | n + 1, k, s => allF l r n (k + 1) (stepA l r k s)
structure EInv (l : List Int) (r : Int) (k : Nat) (s : EncS) : Prop where
  len : l.length ≤ 120
  b0 : 0 ≤ s.b
  b1 : s.b ≤ 1000
  m : s.m = ((ltN l r + eqN l r k : Nat) : Int)
  mle : ltN l r + eqN l r k ≤ l.length
  n0 : 0 ≤ s.n
  nr : s.n ≤ r
  r1 : r ≤ 1114111
  i0 : 0 ≤ s.i
  im : s.i ≤ s.m
  ni : s.n = r → s.i ≤ ahN l r k
  o : s.o.length ≤ 3000000000 * (s.m.toNat + 1)
theorem dOf_in {l : List Int} {r : Int} {k : Nat} {s : EncS} (h : EInv l r k s) : 0 ≤ dOf s r (ahN l r k) ∧ dOf s r (ahN l r k) ≤ 2147483647 ∧ 0 ≤ (r - s.n) * (s.m + 1) ∧ (r - s.n) * (s.m + 1) ≤ 1114111 * 121 := by
  have h1 := h.m
  have h2 := h.mle
  have h3 := h.len
  have h4 := h.n0
  have h5 := h.nr
  have h6 := h.r1
  have h7 := h.i0
  have h8 := h.im
  have h9 := ah_le l r k
  have a1 : 0 ≤ (r - s.n) * (s.m + 1) := Int.mul_nonneg (by omega) (by omega)
  have a2 : (r - s.n) * (s.m + 1) ≤ 1114111 * (s.m + 1) := Int.mul_le_mul_of_nonneg_right (by omega) (by omega)
  unfold dOf
  by_cases hn : s.n = r
  · have := h.ni hn
    have e : (r - s.n) * (s.m + 1) = 0 := by rw [hn, Int.sub_self, Int.zero_mul]
    omega
  · have a3 : 1 * (s.m + 1) ≤ (r - s.n) * (s.m + 1) := Int.mul_le_mul_of_nonneg_right (by omega) (by omega)
    omega
theorem digs_len (b : Int) : ∀ (n : Nat) (k d : Int), (digs b n k d).length ≤ n
  | 0, _, _ => by simp [digs]
  | n + 1, k, d => by
    unfold digs
    split
    · simp
    · have := digs_len b n (k + 1) ((d - bnd6 b k) / (36 - bnd6 b k))
      simp only [List.length_cons]; omega
theorem inv_step {l : List Int} {r : Int} {k : Nat} {s : EncS} (h : EInv l r k s) (hk : k < l.length) : EInv l r (k + 1) (stepA l r k s) := by
  have e1 := eqN_succ l r k hk
  have e2 := ahN_succ l r k hk
  have h1 := h.m
  have h2 := h.mle
  have h9 := ah_le l r k
  have hc : eqN l r (k + 1) + ltN l r ≤ l.length := by
    have h1 : eqN l r (k + 1) ≤ l.countP fun x => decide (x = r) := (List.take_sublist (k + 1) l).countP_le
    have h2 : ∀ q : List Int, q.countP (fun x => decide (x = r)) + q.countP (fun x => decide (x < r)) ≤ q.length := by
      intro q
      induction q with
      | nil => simp
      | cons x q ih =>
        simp only [List.countP_cons, decide_eq_true_eq, List.length_cons]
        split <;> split <;> omega
    have := h2 l
    unfold ltN
    omega
  unfold stepA
  by_cases he : l.getD k 0 = r
  · rw [if_pos he] at e1 ⊢
    rw [if_pos (by omega)] at e2
    have hb := bv_in (dOf s r (ahN l r k)) (s.m + 1) (!s.f)
    have hd := digs_len s.b 2147483648 0 (dOf s r (ahN l r k))
    have h0 := h.n0
    have h5 := h.nr
    have h8 := h.im
    have ho := h.o
    refine ⟨h.len, hb.1, hb.2, ?_, by omega, ?_, ?_, h.r1, ?_, ?_, ?_, ?_⟩
    · show s.m + 1 = _; omega
    · show 0 ≤ r; omega
    · show r ≤ r; omega
    · show (0 : Int) ≤ (ahN l r k : Int) + 1; omega
    · show (ahN l r k : Int) + 1 ≤ s.m + 1; omega
    · intro _; show (ahN l r k : Int) + 1 ≤ _; omega
    · show (s.o ++ _).length ≤ 3000000000 * ((s.m + 1).toNat + 1)
      rw [List.length_append]; omega
  · rw [if_neg he] at e1 ⊢
    refine ⟨h.len, h.b0, h.b1, by omega, by omega, h.n0, h.nr, h.r1, h.i0, h.im, fun hn => ?_, h.o⟩
    have := h.ni hn
    omega
theorem inv_all {l : List Int} {r : Int} : ∀ (n k : Nat) (s : EncS), k + n = l.length → EInv l r k s → EInv l r l.length (allF l r n k s)
  | 0, k, s, hk, h => by rw [show l.length = k by omega]; exact h
  | n + 1, k, s, hk, h => by rw [allF]; exact inv_all n (k + 1) _ (by omega) (inv_step h (by omega))
/-! ### The code -/
theorem bound_own (b : Int) (f c : Bool) (o : List Int) (n i m k : Int) (hk : 0 ≤ k) (hk' : k ≤ 10000000000) (hb : 0 ≤ b) (hb' : b ≤ 10000000000) : m_puny_bias_bound_own b f c o n i m k = some (b, f, c, n, i, m, bnd6 b k) := by
  unfold m_puny_bias_bound_own
  rw [w64 (x := k + 1) (by omega) (by omega), w64 (x := 36 * (k + 1)) (by omega) (by omega), w64 (by omega) (by omega), within_eq]
  rfl
theorem digs_own (b : Int) (f c : Bool) (o : List Int) (w4 w5 w6 : Int) (hb : 0 ≤ b) (hb' : b ≤ 10000000000) : ∀ (n : Nat) (d k : Int) (out : List Int), 0 ≤ d → d < n → k = out.length → (out.length : Int) + d ≤ 3000000000 →
    iter (m_puny_bias_digits_own_L3 o) (b, f, c, w4, w5, w6, d, out, k) = some (b, f, c, w4, w5, w6, strOfNums (out ++ digs b n k d)) := by
  intro n
  induction n with
  | zero => intro d k out h0 h1; omega
  | succ n ih =>
    intro d k out h0 h1 hk h2
    have hB := bnd6_in b k
    unfold digs
    by_cases hd : d < bnd6 b k
    · refine iter_done ?_
      unfold m_puny_bias_digits_own_L3
      simp only
      rw [bound_own b f c o w4 w5 w6 k (by omega) (by omega) hb hb', bind_some']
      simp only [hd, decide_true, cond_true, if_true]
      rw [sign_eq h0 (by omega), bind_some', if_pos (by omega)]
    · have hdf : decide (d < bnd6 b k) = false := by simp; omega
      rw [if_neg hd]
      obtain ⟨s1, s2, s3, s4, s5, s6, s7⟩ := dig_step (d := d) hB.1 hB.2 (by omega) (by omega)
      have hstep : m_puny_bias_digits_own_L3 o (b, f, c, w4, w5, w6, d, out, k) = some (.next (b, f, c, w4, w5, w6, (d - bnd6 b k) / (36 - bnd6 b k), out ++ [sg (bnd6 b k + (d - bnd6 b k) % (36 - bnd6 b k))], k + 1)) := by
        unfold m_puny_bias_digits_own_L3
        simp only
        rw [bound_own b f c o w4 w5 w6 k (by omega) (by omega) hb hb', bind_some']
        simp only [hdf, cond_false]
        rw [s1, s2, s5, if_pos (by omega), sign_eq s3 s4, bind_some', if_pos (by omega), if_pos (by omega), w64 (x := k + 1) (by omega) (by omega)]
      rw [iter_next hstep]
      generalize bnd6 b k = t at hB hd s6 s7
      rw [ih _ (k + 1) (out ++ [sg (t + (d - t) % (36 - t))]) s6 (by omega) (by simp; omega) (by simp; omega)]
      simp
theorem numsS (l : List Int) (h : ∀ x ∈ l, 0 ≤ x ∧ x ≤ 255) : numsOf (strOfNums l) = l := by
  unfold numsOf strOfNums
  rw [List.map_map]
  conv => rhs; rw [← List.map_id l]
  refine List.map_congr_left fun x hx => ?_
  have := h x hx
  simp only [Function.comp]
  show ((UInt8.ofNat (x.toNat)).toNat : Int) = x
  rw [UInt8.toNat_ofNat_of_lt' (show x.toNat < 256 by omega)]
  omega
theorem digs_byte (b : Int) : ∀ (n : Nat) (k d : Int), 0 ≤ d → ∀ x ∈ digs b n k d, 48 ≤ x ∧ x ≤ 122
  | 0, _, _, _, x, hx => by simp [digs] at hx
  | n + 1, k, d, h0, x, hx => by
    have hB := bnd6_in b k
    unfold digs at hx
    split at hx
    · rename_i hd
      rw [List.mem_singleton] at hx
      subst hx
      exact sg_in h0 (by omega)
    · rename_i hd
      have m0 : 0 ≤ (d - bnd6 b k) % (36 - bnd6 b k) := Int.emod_nonneg _ (by omega)
      have m1 : (d - bnd6 b k) % (36 - bnd6 b k) < 36 - bnd6 b k := Int.emod_lt_of_pos _ (by omega)
      rcases List.mem_cons.1 hx with rfl | hx
      · exact sg_in (by omega) (by omega)
      · exact digs_byte b n (k + 1) _ (Int.ediv_nonneg (by omega) (by omega)) x hx
theorem copy_own (b : Int) (f c : Bool) (o : List Int) (n i m : Int) : ∃ c', m_strings_Builder_copyCheck_own b f c o n i m = some (b, f, c', n, i, m) := by
  unfold m_strings_Builder_copyCheck_own
  cases c
  · exact ⟨true, rfl⟩
  · exact ⟨true, rfl⟩
theorem put_code {l : List Int} {r : Int} {k : Nat} {s : EncS} (h : EInv l r k s) (c : Bool) : ∃ c', m_puny_encoder_put_own s.b s.f c s.o s.n s.i s.m r (ahN l r k : Int) = some ((putE s r (ahN l r k)).b, (putE s r (ahN l r k)).f, c', (putE s r (ahN l r k)).o, (putE s r (ahN l r k)).n, (putE s r (ahN l r k)).i, (putE s r (ahN l r k)).m) := by
  obtain ⟨d0, d1, a1, a2⟩ := dOf_in h
  have h1 := h.m
  have h2 := h.mle
  have h3 := h.len
  have h4 := h.n0
  have h5 := h.nr
  have h6 := h.r1
  have h7 := h.i0
  have h8 := h.im
  have h9 := ah_le l r k
  have hb0 := h.b0
  have hb1 := h.b1
  have ho := h.o
  have eD : (IntKind.wrap .i64 ((IntKind.wrap .i64 ((IntKind.wrap .i64 ((IntKind.wrap .i64 ((IntKind.wrap .i64 r) - (IntKind.wrap .i64 s.n))) * (IntKind.wrap .i64 (s.m + (1 : Int))))) + (ahN l r k : Int))) - s.i)) = dOf s r (ahN l r k) := by
    rw [w64 (x := r) (by omega) (by omega), w64 (x := s.n) (by omega) (by omega), w64 (x := r - s.n) (by omega) (by omega), w64 (x := s.m + 1) (by omega) (by omega)]
    unfold dOf at d0 d1 ⊢
    generalize (r - s.n) * (s.m + 1) = z at a1 a2 d0 d1
    rw [w64 (x := z) (by omega) (by omega), w64 (x := z + (ahN l r k : Int)) (by omega) (by omega), w64 (by omega) (by omega)]
  unfold m_puny_encoder_put_own
  simp only [eD]
  generalize hD : dOf s r (ahN l r k) = D at d0 d1
  unfold m_puny_bias_digits_own
  rw [digs_own s.b s.f c s.o s.n s.i s.m hb0 (by omega) 2147483648 D 0 [] d0 (by omega) rfl (by simp; omega), bind_some', bind_some']
  simp only [List.nil_append]
  obtain ⟨c', hc⟩ := copy_own s.b s.f c s.o s.n s.i s.m
  have hl := digs_len s.b 2147483648 0 D
  unfold m_strings_Builder_WriteString_own
  rw [hc, bind_some', strs_size, if_pos (by omega), bind_some']
  simp only [numsS _ (fun x hx => by have := digs_byte s.b 2147483648 0 D d0 x hx; omega)]
  unfold m_puny_bias_adapt_own
  rw [w64 (x := s.m + 1) (by omega) (by omega), bv_code, bind_some', bind_some', w64 (x := (ahN l r k : Int) + 1) (by omega) (by omega)]
  refine ⟨c', ?_⟩
  unfold putE
  rw [hD]
theorem all_code {l : List Int} {r : Int} : ∀ (n k : Nat) (s : EncS) (c : Bool), k + n = l.length → EInv l r k s → ∃ c', iter (m_puny_encoder_all_own_L4 l r) (s.b, s.f, c, s.o, s.n, s.i, s.m, (ahN l r k : Int), (k : Int)) = some ((allF l r n k s).b, (allF l r n k s).f, c', (allF l r n k s).o, (allF l r n k s).n, (allF l r n k s).i, (allF l r n k s).m) := by
  intro n
  induction n with
  | zero =>
    intro k s c hk h
    have hc : decide ((k : Int) < ((l.length : Nat) : Int)) = false := by simp; omega
    exact ⟨c, iter_done (by simp only [m_puny_encoder_all_own_L4, hc, cond_false, allF])⟩
  | succ n ih =>
    intro k s c hk h
    have hlen := h.len
    have hc : decide ((k : Int) < ((l.length : Nat) : Int)) = true := by simp; omega
    have e2 := ahN_succ l r k (by omega)
    have hstep : ∃ c', m_puny_encoder_all_own_L4 l r (s.b, s.f, c, s.o, s.n, s.i, s.m, (ahN l r k : Int), (k : Int)) = some (.next ((stepA l r k s).b, (stepA l r k s).f, c', (stepA l r k s).o, (stepA l r k s).n, (stepA l r k s).i, (stepA l r k s).m, (ahN l r (k + 1) : Int), ((k + 1 : Nat) : Int))) := by
      have h9 := ah_le l r k
      have hmk := h.mle
      by_cases he : l.getD k 0 = r
      · obtain ⟨c', hp⟩ := put_code h c
        refine ⟨c', ?_⟩
        rw [if_pos (by omega)] at e2
        have hle : decide (l.getD k 0 ≤ r) = true := by simp only [decide_eq_true_eq]; omega
        simp (disch := omega) only [m_puny_encoder_all_own_L4, hc, cond_true, if_pos, Int.toNat_natCast, beqT he, hp, bindS, m_puny_encoder_all_own_K7, hle, wa1, e2, stepA]
      · refine ⟨c, ?_⟩
        by_cases hle : l.getD k 0 ≤ r
        · rw [if_pos hle] at e2
          simp (disch := omega) only [m_puny_encoder_all_own_L4, hc, cond_true, if_pos, Int.toNat_natCast, beqF he, cond_false, bindS, m_puny_encoder_all_own_K7, decide_eq_true hle, wa1, e2, stepA, if_neg he]
        · rw [if_neg hle] at e2
          simp (disch := omega) only [m_puny_encoder_all_own_L4, hc, cond_true, if_pos, Int.toNat_natCast, beqF he, cond_false, bindS, m_puny_encoder_all_own_K7, decide_eq_false hle, wa1, e2, stepA, if_neg he, Nat.add_zero]
    obtain ⟨c', hs⟩ := hstep
    rw [iter_next hs, allF]
    exact ih (k + 1) _ c' (by omega) (inv_step h (by omega))
end Go.Proofs.YtclhniadffljdaaDoor
