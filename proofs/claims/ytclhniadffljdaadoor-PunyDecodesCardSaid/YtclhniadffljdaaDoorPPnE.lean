/- Punycode read: the code's loop over numbers and the document's over bytes answer alike. No condition. -/
import Derived.Test.YtclhniadffljdaaDoorPPnD
namespace Go.Proofs.YtclhniadffljdaaDoor
open Go Go.SE
set_option linter.unusedVariables false
set_option linter.unusedSimpArgs false
/-- Which errors mean which number. -/
def ErrAs (c : Int) (g : Nat) : Prop := (c = 15 ∧ g = 17) ∨ (c = 3 ∧ g = 4) ∨ (c = 4 ∧ g = 3)
/-- The two answers. -/
def DecR (s : ByteArray) (x : Sum (Int × Bool × ByteArray × Int × Int × Int × (List Int)) ((List Int) × Er)) (y : Sum ((List Int) × Int) ((List Int) × Int × Int)) : Prop :=
  (∃ b f t a n i out, x = .inl (b, f, t, a, n, i, out) ∧ y = .inl (out, 0) ∧ out.length ≤ 2000) ∨ (∃ out k, 0 < k ∧ x = .inr ([], .box 62 ((s.size : Nat) : Int) (.sent 9)) ∧ y = .inl (out, k)) ∨
  ∃ a c g, ErrAs c g ∧ x = .inr ([], .box 62 a (.sent g)) ∧ y = .inr ([], a, c)
theorem cont_err (s : ByteArray) (out : List Int) (b : Int) (f : Bool) (t : ByteArray) (a n i d : Int) (e : Er) (he : e.isNil = false) : contC s out (b, f, t, a, n, i, d, e) = some (.inr ([], e)) := by
  unfold contC
  simp [he]
theorem dec_both (s : ByteArray) (hs : s.size ≤ 1000) : ∀ (M at_ : Nat) (b : Int) (f : Bool) (n i : Int) (out : List Int) (d u k : Int), at_ + M = s.size → 0 < M ∨ 0 < k → out.length ≤ at_ → 0 ≤ i → i ≤ 2000 → 0 ≤ n → n ≤ 1114111 → 0 ≤ d → d ≤ 2147483647 → 1 ≤ u → u ≤ 75161927645 → 0 ≤ k → k ≤ at_ →
    ∃ x y, Option.bind (iter (m_puny_decoder_number_own_L3 out) (b, f, s, (at_ : Int), n, i, d, u, k)) (contC s out) = some x ∧ iter (m_eponymref06_Decode_L9 s) (out, b, !f, n, i, d, u, k, (at_ : Int)) = some y ∧ DecR s x y := by
  intro M
  induction M with
  | zero =>
    intro at_ b f n i out d u k hM hk hol hi hi' hn hn' hd hd' hu hu' hk0 hk1
    have hat : at_ = s.size := by omega
    subst hat
    have h1 : m_puny_decoder_number_own_L3 out (b, f, s, ((s.size : Nat) : Int), n, i, d, u, k) = some (.done (b, f, s, ((s.size : Nat) : Int), n, i, 0, .box 62 ((s.size : Nat) : Int) (.sent 9))) := by
      unfold m_puny_decoder_number_own_L3
      simp only [beq_self_eq_true, cond_true]
      rfl
    have h2 : m_eponymref06_Decode_L9 s (out, b, !f, n, i, d, u, k, ((s.size : Nat) : Int)) = some (.done (.inl (out, k))) := by
      unfold m_eponymref06_Decode_L9
      simp
    refine ⟨_, _, by rw [iter_done h1, bind_some', cont_err _ _ _ _ _ _ _ _ _ _ rfl], iter_done h2, .inr (.inl ⟨out, k, by omega, rfl, rfl⟩)⟩
  | succ M ih =>
    intro at_ b f n i out d u k hM hk hol hi hi' hn hn' hd hd' hu hu' hk0 hk1
    have hlt : at_ < s.size := by omega
    have hb := bt_in s (at_ : Int)
    have hv := valV_in (bt s (at_ : Int))
    have e1 : (((at_ : Int)) == ((s.size : Nat) : Int)) = false := by simp; omega
    have e2 : decide ((at_ : Int) < ((s.size : Nat) : Int)) = true := by simp; omega
    have hw : IntKind.wrap .i64 ((at_ : Int) + 1) = ((at_ + 1 : Nat) : Int) := up (by omega)
    have hv1 := value_eq hb.1 hb.2
    have hv2 := value_ref hb.1 hb.2
    generalize hV : valV (bt s (at_ : Int)) = v at hv hv1 hv2
    by_cases hneg : v < 0
    · have h1 : m_puny_decoder_number_own_L3 out (b, f, s, (at_ : Int), n, i, d, u, k) = some (.done (b, f, s, (at_ : Int), n, i, 0, .box 62 (at_ : Int) (.sent 17))) := by
        unfold m_puny_decoder_number_own_L3
        simp only [e1, cond_false]
        rw [if_pos (by omega), hv1, bind_some', decide_eq_true hneg, cond_true]
        rfl
      have h2 : m_eponymref06_Decode_L9 s (out, b, !f, n, i, d, u, k, (at_ : Int)) = some (.done (.inr ([], (at_ : Int), 15))) := by
        unfold m_eponymref06_Decode_L9
        simp only [e2, cond_true]
        rw [if_pos (by omega), hv2, bind_some', decide_eq_true hneg, cond_true]
      exact ⟨_, _, by rw [iter_done h1, bind_some', cont_err _ _ _ _ _ _ _ _ _ _ rfl], iter_done h2, .inr (.inr ⟨_, 15, _, .inl ⟨rfl, rfl⟩, rfl, rfl⟩)⟩
    · have hvn : decide (v < 0) = false := by simp; omega
      have hvu : 0 ≤ v * u := Int.mul_nonneg (by omega) (by omega)
      have hvu2 : v * u ≤ 35 * u := Int.mul_le_mul_of_nonneg_right hv.2 (by omega)
      have hD : IntKind.wrap .i64 (d + IntKind.wrap .i64 (v * u)) = d + v * u := by rw [w64 (x := v * u) (by omega) (by omega), w64 (by omega) (by omega)]
      by_cases hbig : d + v * u > 2147483647
      · have h1 : m_puny_decoder_number_own_L3 out (b, f, s, (at_ : Int), n, i, d, u, k) = some (.done (b, f, s, (at_ : Int), n, i, 0, .box 62 (at_ : Int) (.sent 4))) := by
          unfold m_puny_decoder_number_own_L3
          simp only [e1, cond_false]
          rw [if_pos (by omega), hv1, bind_some', hvn, cond_false, hD, decide_eq_true hbig, cond_true]
          rfl
        have h2 : m_eponymref06_Decode_L9 s (out, b, !f, n, i, d, u, k, (at_ : Int)) = some (.done (.inr ([], (at_ : Int), 3))) := by
          unfold m_eponymref06_Decode_L9
          simp only [e2, cond_true]
          rw [if_pos (by omega), hv2, bind_some', hvn, cond_false, hD, decide_eq_true hbig, cond_true]
        exact ⟨_, _, by rw [iter_done h1, bind_some', cont_err _ _ _ _ _ _ _ _ _ _ rfl], iter_done h2, .inr (.inr ⟨_, 3, _, .inr (.inl ⟨rfl, rfl⟩), rfl, rfl⟩)⟩
      · have hbf : decide (d + v * u > 2147483647) = false := by simp; omega
        have ht := bw_in b k
        have hbd : ∀ q, m_puny_bias_bound_own2 b f s q n i out k = some (b, f, s, q, n, i, bw b k) := fun q => rfl
        by_cases hend : v < bw b k
        · have hnum : m_puny_decoder_number_own_L3 out (b, f, s, (at_ : Int), n, i, d, u, k) = some (.done (b, f, s, ((at_ + 1 : Nat) : Int), n, i, d + v * u, .nil)) := by
            unfold m_puny_decoder_number_own_L3
            simp only [e1, cond_false]
            rw [if_pos (by omega), hv1, bind_some', hvn, cond_false, hD, hbf, cond_false, hw, hbd, bind_some']
            simp only [decide_eq_true hend, cond_true]
          have hne : decide (v ≥ bw b k) = false := by simp; omega
          have hM1 : IntKind.wrap .i64 (((out.length : Nat) : Int) + 1) = ((out.length + 1 : Nat) : Int) := up (by omega)
          generalize hDD : d + v * u = D at hD hbf hnum
          have hD0 : 0 ≤ D := by omega
          have hD1 : D ≤ 2147483647 := by omega
          obtain ⟨r, hr1, hr2, _, _⟩ := bias_both D ((out.length + 1 : Nat) : Int) (!f)
          have hiD : IntKind.wrap .i64 (i + D) = i + D := w64 (by omega) (by omega)
          have hq : Int.tdiv (i + D) ((out.length + 1 : Nat) : Int) = (i + D) / ((out.length + 1 : Nat) : Int) := Int.tdiv_eq_ediv_of_nonneg (by omega)
          have hm : Int.tmod (i + D) ((out.length + 1 : Nat) : Int) = (i + D) % ((out.length + 1 : Nat) : Int) := Int.tmod_eq_emod_of_nonneg (by omega)
          have hq0 : 0 ≤ (i + D) / ((out.length + 1 : Nat) : Int) := Int.ediv_nonneg (by omega) (by omega)
          have hq1 : (i + D) / ((out.length + 1 : Nat) : Int) ≤ i + D := Int.ediv_le_self _ (by omega)
          have hm0 : 0 ≤ (i + D) % ((out.length + 1 : Nat) : Int) := Int.emod_nonneg _ (by omega)
          have hm1 : (i + D) % ((out.length + 1 : Nat) : Int) < ((out.length + 1 : Nat) : Int) := Int.emod_lt_of_pos _ (by omega)
          generalize hQ : (i + D) / ((out.length + 1 : Nat) : Int) = Q at hq hq0 hq1
          generalize hI : (i + D) % ((out.length + 1 : Nat) : Int) = I at hm hm0 hm1
          obtain ⟨j, rfl⟩ : ∃ j : Nat, I = (j : Int) := ⟨I.toNat, by omega⟩
          have hwq : IntKind.wrap .i64 Q = Q := w64 (by omega) (by omega)
          have hwn : IntKind.wrap .i64 (n + Q) = n + Q := w64 (by omega) (by omega)
          have had : m_puny_bias_adapt_own2 b f s ((at_ + 1 : Nat) : Int) n i out D ((out.length + 1 : Nat) : Int) = some (r, true, s, ((at_ + 1 : Nat) : Int), n, i) := by
            unfold m_puny_bias_adapt_own2
            rw [hr1, bind_some']
          have hback : IntKind.wrap .i64 (((at_ + 1 : Nat) : Int) - 1) = (at_ : Int) := by rw [w64 (by omega) (by omega)]; omega
          have hj1 : IntKind.wrap .i64 ((j : Int) + 1) = (j : Int) + 1 := w64 (by omega) (by omega)
          have hMne : ((out.length + 1 : Nat) : Int) ≠ 0 := by omega
          by_cases hok : n + Q ≤ 1114111 ∧ rgt (n + Q) = true
          · obtain ⟨hok1, hok2⟩ := hok
            have hw32 : IntKind.wrap .i32 (n + Q) = n + Q := w32 (by omega) (by omega)
            have hgt : decide (n + Q > 1114111) = false := by simp; omega
            have hcont : contC s out (b, f, s, ((at_ + 1 : Nat) : Int), n, i, D, .nil) = iter (m_puny_Decode_L10 s) (r, true, s, ((at_ + 1 : Nat) : Int), n + Q, (j : Int) + 1, out.take j ++ (n + Q) :: out.drop j) := by
              unfold contC
              simp only [Er.isNil, Bool.not_true, cond_false]
              rw [hM1, had, bind_some', if_pos hMne, if_pos hMne]
              simp only [hiD, hq, hwq, hwn, hgt, cond_false, hw32, rgt_code, bind_some', hok2, Bool.not_true]
              unfold m_puny_decoder_next_own_K4
              simp only [cond_false, hM1, hiD, hq, hm, hwq, hwn, hw32, hj1]
              rw [show m_slices_Insert out (j : Int) [n + Q] = some (out.take j ++ (n + Q) :: out.drop j) by
                unfold m_slices_Insert
                simp only
                rw [if_pos ⟨by omega, by omega, by omega⟩]
                rfl]
              simp only [bind_some', Er.isNil, Bool.not_true, cond_false]
            have h2 : m_eponymref06_Decode_L9 s (out, b, !f, n, i, d, u, k, (at_ : Int)) = some (.next (out.take j ++ (n + Q) :: out.drop j, r, false, n + Q, (j : Int) + 1, 0, 1, 0, ((at_ + 1 : Nat) : Int))) := by
              have hD' : IntKind.wrap .i64 (d + IntKind.wrap .i64 (v * u)) = D := hD
              unfold m_eponymref06_Decode_L9
              simp only [e2, cond_true]
              rw [if_pos (by omega), hv2, bind_some', hvn, cond_false, hD', hbf, cond_false, bw_ref, bind_some', hne, cond_false, hM1, if_pos hMne, if_pos hMne]
              simp only [hiD, hq, hwq, hwn, hgt, cond_false, hw32, rgt_ref, bind_some', hok2, Bool.not_true]
              unfold m_eponymref06_Decode_K14
              simp only [cond_false, hM1, hD', hiD, hq, hm, hwq, hwn, hw32, hj1, hw]
              rw [if_pos ⟨by omega, by omega⟩, if_pos (by simp; omega), if_pos (by simp; omega), if_pos ⟨by omega, by omega, by omega⟩, if_pos (by simp; omega), hr2, bind_some']
              simp only [Int.toNat_natCast]
              rw [List.append_assoc, show (out.drop j).take (out.length - j) = out.drop j from List.take_of_length_le (by rw [List.length_drop]; exact Nat.le_refl _)]
              rfl
            have hol' : (out.take j ++ (n + Q) :: out.drop j).length = out.length + 1 := by simp; omega
            by_cases hlast : at_ + 1 = s.size
            · have h3 : m_puny_Decode_L10 s (r, true, s, ((at_ + 1 : Nat) : Int), n + Q, (j : Int) + 1, out.take j ++ (n + Q) :: out.drop j) = some (.done (.inl (r, true, s, ((at_ + 1 : Nat) : Int), n + Q, (j : Int) + 1, out.take j ++ (n + Q) :: out.drop j))) := by
                unfold m_puny_Decode_L10
                rw [show decide (((at_ + 1 : Nat) : Int) < ((s.size : Nat) : Int)) = false by simp; omega, cond_false]
              have h4 : m_eponymref06_Decode_L9 s (out.take j ++ (n + Q) :: out.drop j, r, false, n + Q, (j : Int) + 1, 0, 1, 0, ((at_ + 1 : Nat) : Int)) = some (.done (.inl (out.take j ++ (n + Q) :: out.drop j, 0))) := by
                unfold m_eponymref06_Decode_L9
                rw [show decide (((at_ + 1 : Nat) : Int) < ((s.size : Nat) : Int)) = false by simp; omega, cond_false]
              exact ⟨_, _, by rw [iter_done hnum, bind_some', hcont, iter_done h3], by rw [iter_next h2, iter_done h4], .inl ⟨_, _, _, _, _, _, _, rfl, rfl, by omega⟩⟩
            · obtain ⟨x, y, g1, g2, g3⟩ := ih (at_ + 1) r true (n + Q) ((j : Int) + 1) (out.take j ++ (n + Q) :: out.drop j) 0 1 0 (by omega) (.inl (by omega)) (by omega) (by omega) (by omega) (by omega) hok1 (by omega) (by omega) (by omega) (by omega) (by omega) (by omega)
              exact ⟨x, y, by rw [iter_done hnum, bind_some', hcont, group s r true (at_ + 1) _ _ _ (by omega)]; exact g1, by rw [iter_next h2]; exact g2, g3⟩
          · -- no rune
            have hs3 : (bif (decide (n + Q > (1114111 : Int))) then some true else Option.bind (m_utf_Right (IntKind.wrap .i32 (n + Q))) fun y7 => some (!y7) : Option Bool) = some true := by
              by_cases hgt : n + Q > 1114111
              · rw [decide_eq_true hgt, cond_true]
              · rw [show decide (n + Q > 1114111) = false by simp; omega, cond_false, w32 (by omega) (by omega), rgt_code, bind_some']
                cases hrr : rgt (n + Q) with
                | false => rfl
                | true => exact absurd ⟨by omega, hrr⟩ hok
            have hs3' : (bif (decide (n + Q > (1114111 : Int))) then some true else Option.bind (m_eponymref01_Right (IntKind.wrap .i32 (n + Q))) fun y7 => some (!y7) : Option Bool) = some true := by
              rw [rgt_ref, ← rgt_code]; exact hs3
            have hcont : contC s out (b, f, s, ((at_ + 1 : Nat) : Int), n, i, D, .nil) = some (.inr ([], .box 62 (at_ : Int) (.sent 3))) := by
              unfold contC
              simp only [Er.isNil, Bool.not_true, cond_false]
              rw [hM1, had, bind_some', if_pos hMne, if_pos hMne]
              simp only [hiD, hq, hwq, hwn]
              rw [hs3, bind_some']
              unfold m_puny_decoder_next_own_K4
              simp only [cond_true, hback]
              rfl
            have h2 : m_eponymref06_Decode_L9 s (out, b, !f, n, i, d, u, k, (at_ : Int)) = some (.done (.inr ([], (at_ : Int), 4))) := by
              have hD' : IntKind.wrap .i64 (d + IntKind.wrap .i64 (v * u)) = D := hD
              unfold m_eponymref06_Decode_L9
              simp only [e2, cond_true]
              rw [if_pos (by omega), hv2, bind_some', hvn, cond_false, hD', hbf, cond_false, bw_ref, bind_some', hne, cond_false, hM1, if_pos hMne, if_pos hMne]
              simp only [hiD, hq, hwq, hwn]
              rw [hs3', bind_some']
              unfold m_eponymref06_Decode_K14
              simp only [cond_true]
            exact ⟨_, _, by rw [iter_done hnum, bind_some', hcont], iter_done h2, .inr (.inr ⟨_, 4, _, .inr (.inr ⟨rfl, rfl⟩), rfl, rfl⟩)⟩
        · -- one digit more
          have h1 : m_puny_decoder_number_own_L3 out (b, f, s, (at_ : Int), n, i, d, u, k) = some (.next (b, f, s, ((at_ + 1 : Nat) : Int), n, i, d + v * u, u * (36 - bw b k), k + 1)) := by
            unfold m_puny_decoder_number_own_L3
            simp only [e1, cond_false]
            rw [if_pos (by omega), hv1, bind_some', hvn, cond_false, hD, hbf, cond_false, hw, hbd, bind_some']
            have hne : decide (v < bw b k) = false := by simp; omega
            have hm : u * (36 - bw b k) ≤ u * 35 := Int.mul_le_mul_of_nonneg_left (by omega) (by omega)
            have hm0 : 0 ≤ u * (36 - bw b k) := Int.mul_nonneg (by omega) (by omega)
            simp only [hne, cond_false]
            rw [w64 (x := 36 - bw b k) (by omega) (by omega), w64 (x := u * (36 - bw b k)) (by omega) (by omega), w64 (x := k + 1) (by omega) (by omega)]
          have h2 : m_eponymref06_Decode_L9 s (out, b, !f, n, i, d, u, k, (at_ : Int)) = some (.next (out, b, !f, n, i, d + v * u, u * (36 - bw b k), k + 1, ((at_ + 1 : Nat) : Int))) := by
            unfold m_eponymref06_Decode_L9
            simp only [e2, cond_true]
            rw [if_pos (by omega), hv2, bind_some', hvn, cond_false, hD, hbf, cond_false, bw_ref, bind_some']
            have hne : decide (v ≥ bw b k) = true := by simp; omega
            have hm : u * (36 - bw b k) ≤ u * 35 := Int.mul_le_mul_of_nonneg_left (by omega) (by omega)
            have hm0 : 0 ≤ u * (36 - bw b k) := Int.mul_nonneg (by omega) (by omega)
            simp only [hne, cond_true]
            rw [w64 (x := 36 - bw b k) (by omega) (by omega), w64 (x := u * (36 - bw b k)) (by omega) (by omega), w64 (x := k + 1) (by omega) (by omega), hw]
          have hu1 : u ≤ v * u := by
            have : 1 * u ≤ v * u := Int.mul_le_mul_of_nonneg_right (by omega) (by omega)
            omega
          have hm : u * (36 - bw b k) ≤ u * 35 := Int.mul_le_mul_of_nonneg_left (by omega) (by omega)
          have hm1 : u * 1 ≤ u * (36 - bw b k) := Int.mul_le_mul_of_nonneg_left (by omega) (by omega)
          obtain ⟨x, y, g1, g2, g3⟩ := ih (at_ + 1) b f n i out (d + v * u) (u * (36 - bw b k)) (k + 1) (by omega) (.inr (by omega)) (by omega) hi hi' hn hn' (by omega) (by omega) (by omega) (by omega) (by omega) (by omega)
          exact ⟨x, y, by rw [iter_next h1]; exact g1, by rw [iter_next h2]; exact g2, g3⟩
end Go.Proofs.YtclhniadffljdaaDoor
