/- Punycode written: the document's answer is the same plain text. No condition. -/
import Derived.Test.YtclhniadffljdaaDoorPPeC
import Derived.Test.YtclhniadffljdaaDoorPErr
namespace Go.Proofs.YtclhniadffljdaaDoor
open Go Go.SE
set_option linter.unusedVariables false
set_option linter.unusedSimpArgs false
/-! ### The least above -/
def lstN (l : List Int) (lo : Int) : Nat → Int
  | 0 => -1
  | j + 1 => if lo < l.getD j 0 ∧ (lstN l lo j < 0 ∨ l.getD j 0 < lstN l lo j) then l.getD j 0 else lstN l lo j
theorem least_loop (l : List Int) (lo : Int) (hl : l.length ≤ 1000000000) : ∀ (n k : Nat), k + n = l.length → iter (m_eponymref06_least_L5 l lo) (lstN l lo k, (k : Int)) = some (lstN l lo l.length) := by
  intro n
  induction n with
  | zero =>
    intro k hk
    have hc : decide ((k : Int) < ((l.length : Nat) : Int)) = false := decide_eq_false (by omega)
    have : l.length = k := by omega
    rw [this]
    refine iter_done ?_
    simp only [m_eponymref06_least_L5, this, Int.lt_irrefl, decide_false, cond_false]
  | succ n ih =>
    intro k hk
    have hc : decide ((k : Int) < ((l.length : Nat) : Int)) = true := decide_eq_true (by omega)
    rw [iter_next (s' := (lstN l lo (k + 1), ((k + 1 : Nat) : Int)))]
    · exact ih (k + 1) (by omega)
    · rw [lstN]
      by_cases h1 : lo < l.getD k 0
      · by_cases h2 : lstN l lo k < 0
        · rw [if_pos ⟨h1, .inl h2⟩]
          simp (disch := omega) only [m_eponymref06_least_L5, hc, cond_true, if_pos, Int.toNat_natCast, decide_eq_true (show l.getD k 0 > lo from h1), decide_eq_true h2, bindS, m_eponymref06_least_K8, wa1]
        · by_cases h3 : l.getD k 0 < lstN l lo k
          · rw [if_pos ⟨h1, .inr h3⟩]
            simp (disch := omega) only [m_eponymref06_least_L5, hc, cond_true, if_pos, Int.toNat_natCast, decide_eq_true (show l.getD k 0 > lo from h1), decide_eq_false h2, cond_false, decide_eq_true h3, bindS, m_eponymref06_least_K8, wa1]
          · rw [if_neg (by rintro ⟨_, h | h⟩ <;> contradiction)]
            simp (disch := omega) only [m_eponymref06_least_L5, hc, cond_true, if_pos, Int.toNat_natCast, decide_eq_true (show l.getD k 0 > lo from h1), decide_eq_false h2, cond_false, decide_eq_false h3, bindS, m_eponymref06_least_K8, wa1]
      · rw [if_neg (by rintro ⟨h, _⟩; contradiction)]
        simp (disch := omega) only [m_eponymref06_least_L5, hc, cond_true, if_pos, Int.toNat_natCast, decide_eq_false (show ¬ l.getD k 0 > lo from h1), cond_false, bindS, m_eponymref06_least_K8, wa1]
theorem lst_spec (l : List Int) (lo : Int) (h0 : 0 ≤ lo) : ∀ k, k ≤ l.length → (lstN l lo k = -1 ∧ ∀ j, j < k → l.getD j 0 ≤ lo) ∨ (lo < lstN l lo k ∧ (∃ j, j < k ∧ l.getD j 0 = lstN l lo k) ∧ ∀ j, j < k → lo < l.getD j 0 → lstN l lo k ≤ l.getD j 0)
  | 0, _ => .inl ⟨rfl, fun j hj => by omega⟩
  | k + 1, hk => by
    rw [lstN]
    rcases lst_spec l lo h0 k (by omega) with ⟨h1, h2⟩ | ⟨h1, ⟨j0, h2, h2'⟩, h3⟩
    · by_cases hg : lo < l.getD k 0
      · rw [if_pos ⟨hg, .inl (by omega)⟩]
        refine .inr ⟨hg, ⟨k, by omega, rfl⟩, fun j hj hgj => ?_⟩
        by_cases hjk : j = k
        · subst hjk; omega
        · have := h2 j (by omega); omega
      · rw [if_neg (by rintro ⟨h, _⟩; contradiction)]
        refine .inl ⟨h1, fun j hj => ?_⟩
        by_cases hjk : j = k
        · subst hjk; omega
        · exact h2 j (by omega)
    · by_cases hg : lo < l.getD k 0 ∧ (lstN l lo k < 0 ∨ l.getD k 0 < lstN l lo k)
      · rw [if_pos hg]
        refine .inr ⟨hg.1, ⟨k, by omega, rfl⟩, fun j hj hgj => ?_⟩
        by_cases hjk : j = k
        · subst hjk; omega
        · have := h3 j (by omega) hgj
          have := hg.2
          omega
      · rw [if_neg hg]
        refine .inr ⟨h1, ⟨j0, by omega, h2'⟩, fun j hj hgj => ?_⟩
        by_cases hjk : j = k
        · subst hjk
          by_cases hlt : l.getD j 0 < lstN l lo j
          · exact absurd ⟨hgj, .inr hlt⟩ hg
          · omega
        · exact h3 j (by omega) hgj
theorem least_eq {l q : List Int} {lo : Int} (hl : l.length ≤ 1000000000) (h0 : 0 ≤ lo) (h : Rest l lo q) : m_eponymref06_least l lo = some (q.headD (-1)) := by
  have hm : ∀ {x : Int}, x ∈ l → ∃ j, j < l.length ∧ l.getD j 0 = x := fun hx => by
    obtain ⟨j, hj, rfl⟩ := List.mem_iff_getElem.1 hx
    exact ⟨j, hj, by rw [List.getD_eq_getElem?_getD, List.getElem?_eq_getElem hj]; rfl⟩
  have h1 : iter (m_eponymref06_least_L5 l lo) ((-1 : Int), (0 : Int)) = some (lstN l lo l.length) := least_loop l lo hl l.length 0 (by omega)
  unfold m_eponymref06_least
  rw [h1, bindS]
  congr 1
  rcases lst_spec l lo h0 l.length (Nat.le_refl _) with ⟨g1, g2⟩ | ⟨g1, ⟨j, g2, g3⟩, g4⟩
  · cases q with
    | nil => exact g1
    | cons r q =>
      obtain ⟨h1, h2⟩ := (h.mem r).1 List.mem_cons_self
      obtain ⟨j, hj, rfl⟩ := hm h1
      have := g2 j hj
      omega
  · have hin : lstN l lo l.length ∈ q := (h.mem _).2 ⟨by rw [← g3]; exact getD_mem g2, g1⟩
    cases q with
    | nil => cases hin
    | cons r q =>
      show _ = r
      obtain ⟨h1, h2⟩ := (h.mem r).1 List.mem_cons_self
      obtain ⟨j2, hj2, he⟩ := hm h1
      have h5 := g4 j2 hj2 (by omega)
      rcases List.mem_cons.1 hin with h6 | h6
      · exact h6
      · have := (List.pairwise_cons.1 h.up).1 _ h6
        omega
/-! ### All of a kind -/
theorem ahead_ref {l : List Int} {r : Int} (s11 : ByteArray × Int × Int × Bool × Int × Int × Int) (s18 : ByteArray × Int × Int × Bool × Int × Int × Int) (kk : Nat) (hr : s11.2.2.2.2.2.2 = r) (hk : s18.2.2.2.2.2.2 = (kk : Int)) (hkl : kk ≤ l.length) (hl : l.length ≤ 1000000000) : ∀ (n k : Nat), k + n = kk → iter (m_eponymref06_Encode_L29 l s11 s18) ((ahN l r k : Int), (k : Int)) = some ((ahN l r kk : Nat) : Int) := by
  intro n
  induction n with
  | zero =>
    intro k h
    have : kk = k := by omega
    subst this
    refine iter_done ?_
    simp only [m_eponymref06_Encode_L29, hk, Int.lt_irrefl, decide_false, cond_false]
  | succ n ih =>
    intro k h
    have hc : decide ((k : Int) < (kk : Int)) = true := decide_eq_true (by omega)
    have e2 := ahN_succ l r k (by omega)
    have h9 : ahN l r k ≤ l.length := Nat.le_trans List.countP_le_length (by simp; omega)
    rw [iter_next (s' := ((ahN l r (k + 1) : Int), ((k + 1 : Nat) : Int)))]
    · exact ih (k + 1) (by omega)
    · by_cases hle : l.getD k 0 ≤ r
      · rw [if_pos hle] at e2
        simp (disch := omega) only [m_eponymref06_Encode_L29, hk, hc, cond_true, if_pos, Int.toNat_natCast, hr, decide_eq_true hle, wa1, e2]
      · rw [if_neg hle] at e2
        simp (disch := omega) only [m_eponymref06_Encode_L29, hk, hc, cond_true, if_pos, Int.toNat_natCast, hr, decide_eq_false hle, cond_false, wa1, e2, Nat.add_zero]
theorem put_ref {l : List Int} {r : Int} {k : Nat} {s : EncS} (h : EInv l r k s) (s11 : ByteArray × Int × Int × Bool × Int × Int × Int) (hr : s11.2.2.2.2.2.2 = r) : m_eponymref06_Encode_K24 s11 (strOfNums s.o, s.m, s.b, !s.f, s.n, s.i, (k : Int)) (ahN l r k : Int) = some (strOfNums (putE s r (ahN l r k)).o, (putE s r (ahN l r k)).m, (putE s r (ahN l r k)).b, !(putE s r (ahN l r k)).f, (putE s r (ahN l r k)).n, (putE s r (ahN l r k)).i) := by
  obtain ⟨d0, d1, a1, a2⟩ := dOf_in h
  have h1 := h.m
  have h2 := h.mle
  have h3 := h.len
  have h4 := h.n0
  have h5 := h.nr
  have h6 := h.r1
  have h7 := h.i0
  have h8 := h.im
  have h9 := ah_le l r k
  have hb0 := h.b0
  have hb1 := h.b1
  have ho := h.o
  have eD : (IntKind.wrap .i64 ((IntKind.wrap .i64 ((IntKind.wrap .i64 ((IntKind.wrap .i64 ((IntKind.wrap .i64 r) - s.n)) * (IntKind.wrap .i64 (s.m + (1 : Int))))) + (ahN l r k : Int))) - s.i)) = dOf s r (ahN l r k) := by
    rw [w64 (x := r) (by omega) (by omega), w64 (x := r - s.n) (by omega) (by omega), w64 (x := s.m + 1) (by omega) (by omega)]
    unfold dOf at d0 d1 ⊢
    generalize (r - s.n) * (s.m + 1) = z at a1 a2 d0 d1
    rw [w64 (x := z) (by omega) (by omega), w64 (x := z + (ahN l r k : Int)) (by omega) (by omega), w64 (by omega) (by omega)]
  have hl := digs_len s.b 2147483648 0 (dOf s r (ahN l r k))
  unfold m_eponymref06_Encode_K24
  simp only [hr, eD]
  rw [digits_ref, bindS, show wi s.b 0 1000 = s.b by unfold wi; omega, show wi (dOf s r (ahN l r k)) 0 2147483647 = dOf s r (ahN l r k) by unfold wi; omega]
  rw [strs_size, strs_size, if_pos (by omega), w64 (x := s.m + 1) (by omega) (by omega), bv_ref, bindS, strs_app, w64 (x := r) (by omega) (by omega), w64 (x := (ahN l r k : Int) + 1) (by omega) (by omega)]
  rfl
theorem all_ref {l : List Int} {r : Int} (s11 : ByteArray × Int × Int × Bool × Int × Int × Int) (hr : s11.2.2.2.2.2.2 = r) : ∀ (n k : Nat) (s : EncS), k + n = l.length → EInv l r k s → iter (m_eponymref06_Encode_L19 l s11) (strOfNums s.o, s.m, s.b, !s.f, s.n, s.i, (k : Int)) = some (strOfNums (allF l r n k s).o, (allF l r n k s).m, (allF l r n k s).b, !(allF l r n k s).f, (allF l r n k s).n, (allF l r n k s).i) := by
  intro n
  induction n with
  | zero =>
    intro k s hk h
    have hc : decide ((k : Int) < ((l.length : Nat) : Int)) = false := decide_eq_false (by omega)
    exact iter_done (by simp only [m_eponymref06_Encode_L19, hc, cond_false, allF])
  | succ n ih =>
    intro k s hk h
    have hlen := h.len
    have hc : decide ((k : Int) < ((l.length : Nat) : Int)) = true := decide_eq_true (by omega)
    rw [iter_next (s' := (strOfNums (stepA l r k s).o, (stepA l r k s).m, (stepA l r k s).b, !(stepA l r k s).f, (stepA l r k s).n, (stepA l r k s).i, ((k + 1 : Nat) : Int))), allF]
    · exact ih (k + 1) _ (by omega) (inv_step h (by omega))
    · unfold stepA
      by_cases he : l.getD k 0 = r
      · rw [if_pos he]
        have ha : iter (m_eponymref06_Encode_L29 l s11 (strOfNums s.o, s.m, s.b, !s.f, s.n, s.i, (k : Int))) ((0 : Int), (0 : Int)) = some ((ahN l r k : Nat) : Int) := ahead_ref s11 _ k hr rfl (by omega) (by omega) k 0 (by omega)
        simp (disch := omega) only [m_eponymref06_Encode_L19, hc, cond_true, if_pos, Int.toNat_natCast, hr, bneF he, cond_false, ha, bindS, put_ref h s11 hr, wa1]
      · rw [if_neg he]
        simp (disch := omega) only [m_eponymref06_Encode_L19, hc, cond_true, if_pos, Int.toNat_natCast, hr, bneT he, bindS, wa1]
theorem fold_ref {l : List Int} : ∀ (q : List Int) (lo : Int) (s : EncS), SInv l lo s → Rest l lo q → iter (m_eponymref06_Encode_L12 l) (strOfNums s.o, s.m, s.b, !s.f, s.n, s.i, q.headD (-1)) = some (strOfNums (foldE l q s).o)
  | [], lo, s, hs, hr => iter_done (by simp only [m_eponymref06_Encode_L12]; rfl)
  | r :: q, lo, s, hs, hr => by
    have hlo := hs.lo0
    have hl := hs.len
    obtain ⟨h1, h2, h3, h4⟩ := hr.head
    have hc : decide (r ≥ (0 : Int)) = true := decide_eq_true (by omega)
    have ha := all_ref (strOfNums s.o, s.m, s.b, !s.f, s.n, s.i, r) rfl l.length 0 s (by omega) (sinv_einv hs hr)
    rw [show ((0 : Nat) : Int) = 0 from rfl] at ha
    rw [show (r :: q).headD (-1) = r from rfl]
    rw [iter_next (s' := (strOfNums (allF l r l.length 0 s).o, (allF l r l.length 0 s).m, (allF l r l.length 0 s).b, !(allF l r l.length 0 s).f, (allF l r l.length 0 s).n, (allF l r l.length 0 s).i, q.headD (-1)))]
    · exact fold_ref q r _ (sinv_next hs hr) h4
    · simp only [m_eponymref06_Encode_L12, hc, cond_true, ha, bindS, m_eponymref06_Encode_K15, least_eq (by omega) (by omega) h4]
/-! ### Whole -/
theorem split_ref (l : List Int) (hl : l.length ≤ 120) (hr : ∀ x ∈ l, rgt x = true) : ∀ (n k : Nat), k + n = l.length → iter (m_eponymref06_Encode_L36 l) (strOfNums (bas (l.take k)), (k : Int)) = some (strOfNums (bas l)) := by
  intro n
  induction n with
  | zero =>
    intro k hk
    have hc : decide ((k : Int) < ((l.length : Nat) : Int)) = false := decide_eq_false (by omega)
    refine iter_done ?_
    have e : l.take k = l := by rw [show k = l.length by omega]; exact List.take_length
    simp only [m_eponymref06_Encode_L36, hc, cond_false, e]
  | succ n ih =>
    intro k hk
    have hc : decide ((k : Int) < ((l.length : Nat) : Int)) = true := decide_eq_true (by omega)
    have hx := rgt_in (hr _ (getD_mem (l := l) (d := 0) (i := k) (by omega)))
    have f1 := filt_take (fun x => decide (x < 128)) l k (by omega)
    have l1 : (bas (l.take k)).length ≤ k := Nat.le_trans (List.length_filter_le _ _) (by simp; omega)
    rw [iter_next (s' := (strOfNums (bas (l.take (k + 1))), ((k + 1 : Nat) : Int)))]
    · exact ih (k + 1) (by omega)
    · by_cases hb : l.getD k 0 < 128
      · rw [if_pos (by simp only [decide_eq_true_eq]; exact hb)] at f1
        have e1 : bas (l.take (k + 1)) = bas (l.take k) ++ [l.getD k 0] := f1
        rw [e1]
        simp (disch := omega) only [m_eponymref06_Encode_L36, hc, cond_true, if_pos, Int.toNat_natCast, decide_eq_true hb, w8, strs_size, List.length_singleton, strs_app, wa1]
      · rw [if_neg (by simp only [decide_eq_true_eq]; exact hb), List.append_nil] at f1
        have e1 : bas (l.take (k + 1)) = bas (l.take k) := f1
        rw [e1]
        simp (disch := omega) only [m_eponymref06_Encode_L36, hc, cond_true, if_pos, Int.toNat_natCast, decide_eq_false hb, cond_false, wa1]
theorem chk_ref6 (l : List Int) (hl : l.length ≤ 1000000000) : ∀ (n k : Nat), k + n = l.length →
    ((∀ j, k ≤ j → j < l.length → rgt (l.getD j 0) = true) → iter (m_eponymref06_Encode_L41 l) (k : Int) = some (.inl ())) ∧ ∀ j, k ≤ j → j < l.length → rgt (l.getD j 0) = false → (∀ i, k ≤ i → i < j → rgt (l.getD i 0) = true) → iter (m_eponymref06_Encode_L41 l) (k : Int) = some (.inr (ByteArray.mk #[], (j : Int), 4)) := by
  intro n
  induction n with
  | zero =>
    intro k hk
    have hc : decide ((k : Int) < ((l.length : Nat) : Int)) = false := decide_eq_false (by omega)
    exact ⟨fun _ => iter_done (by simp only [m_eponymref06_Encode_L41, hc, cond_false]), fun j h1 h2 => by omega⟩
  | succ n ih =>
    intro k hk
    have hc : decide ((k : Int) < ((l.length : Nat) : Int)) = true := decide_eq_true (by omega)
    obtain ⟨ih1, ih2⟩ := ih (k + 1) (by omega)
    have hgo : rgt (l.getD k 0) = true → iter (m_eponymref06_Encode_L41 l) (k : Int) = iter (m_eponymref06_Encode_L41 l) ((k + 1 : Nat) : Int) := fun hq =>
      iter_next (by simp (disch := omega) only [m_eponymref06_Encode_L41, hc, cond_true, if_pos, Int.toNat_natCast, rgt_ref, hq, bindS, Bool.not_true, cond_false, wa1])
    refine ⟨fun h => ?_, fun j h1 h2 h3 h4 => ?_⟩
    · rw [hgo (h k (Nat.le_refl _) (by omega))]
      exact ih1 fun j hj hj2 => h j (by omega) hj2
    · by_cases hjk : j = k
      · subst hjk
        refine iter_done ?_
        simp (disch := omega) only [m_eponymref06_Encode_L41, hc, cond_true, if_pos, Int.toNat_natCast, rgt_ref, h3, bindS, Bool.not_false]
      · rw [hgo (h4 k (Nat.le_refl _) (by omega))]
        exact ih2 j (by omega) h2 h3 fun i hi hi2 => h4 i (by omega) hi2
theorem encode_ref (l : List Int) (hl : l.length ≤ 1000000000) (hr : ∀ x ∈ l, rgt x = true) : m_eponymref06_Encode l = some (if 120 < l.length then (ByteArray.mk #[], 0, 3) else if 120 < (encS0 l).o.length then (ByteArray.mk #[], 0, 3) else (strOfNums (encS0 l).o, 0, 0)) := by
  have h1 : iter (m_eponymref06_Encode_L41 l) (0 : Int) = some (.inl ()) := (chk_ref6 l hl l.length 0 (by omega)).1 fun j _ hj => hr _ (getD_mem hj)
  unfold m_eponymref06_Encode
  rw [h1, bindS]
  simp only
  unfold m_eponymref06_Encode_K2
  by_cases hL : 120 < l.length
  · rw [if_pos hL, show decide (((l.length : Nat) : Int) > 120) = true from decide_eq_true (by omega), cond_true]
  · rw [if_neg hL, show decide (((l.length : Nat) : Int) > 120) = false from decide_eq_false (by omega), cond_false]
    have h2 : iter (m_eponymref06_Encode_L36 l) (ByteArray.mk #[], (0 : Int)) = some (strOfNums (bas l)) := split_ref l (by omega) hr l.length 0 (by omega)
    have l1 : (bas l).length ≤ l.length := List.length_filter_le _ _
    rw [h2, bindS]
    have hK : m_eponymref06_Encode_K4 l (strOfNums (bas l)) = m_eponymref06_Encode_K6 l (strOfNums (bas l)) (strOfNums (baseO l)) := by
      unfold m_eponymref06_Encode_K4 baseO
      by_cases h0 : 0 < (bas l).length
      · have hc : decide ((((strOfNums (bas l)).size : Nat) : Int) > 0) = true := decide_eq_true (by rw [strs_size]; omega)
        rw [hc, cond_true, if_pos h0, strs_size, show ByteArray.mk #[45] = strOfNums [45] from rfl, strs_size, if_pos (by simp only [List.length_singleton]; omega), strs_app, bindS]
      · have hc : decide ((((strOfNums (bas l)).size : Nat) : Int) > 0) = false := decide_eq_false (by rw [strs_size]; omega)
        rw [hc, cond_false, if_neg h0, bindS]
    rw [hK]
    unfold m_eponymref06_Encode_K6
    rw [least_eq (by omega) (by omega) (rest_start l), bindS, strs_size]
    have h3 := fold_ref (dst (bigs l)) 127 ⟨72, false, baseO l, 128, 0, ((bas l).length : Int)⟩ (sinv_start l (by omega) hr) (rest_start l)
    simp only [Bool.not_false] at h3
    rw [h3, bindS]
    show m_eponymref06_Encode_K8 (strOfNums (encS0 l).o) = _
    unfold m_eponymref06_Encode_K8
    rw [strs_size]
    by_cases hO : 120 < (encS0 l).o.length
    · rw [if_pos hO, show decide ((((encS0 l).o.length : Nat) : Int) > 120) = true from decide_eq_true (by omega), cond_true]
    · rw [if_neg hO, show decide ((((encS0 l).o.length : Nat) : Int) > 120) = false from decide_eq_false (by omega), cond_false]
theorem encodes (haw : m_eponymlaw06_awake = some true) (l : List Int) : m_eponymlaw06_PunyEncodes l = some true := by
  unfold m_eponymlaw06_PunyEncodes
  rw [haw, bindS, Bool.not_true, cond_false]
  by_cases hL : 130 < l.length
  · rw [show decide (((l.length : Nat) : Int) > 130) = true from decide_eq_true (by omega), cond_true]
  rw [show decide (((l.length : Nat) : Int) > 130) = false from decide_eq_false (by omega), cond_false]
  rcases encode_code l (by omega) with ⟨h1, h2⟩ | ⟨j, h1, h2, h3, h4⟩
  · rw [h2, bindS, encode_ref l (by omega) h1, bindS]
    unfold encA
    by_cases h120 : 120 < l.length
    · rw [if_pos h120, if_pos h120]
      simp only [beq_self_eq_true, cond_true]
      rw [is_fault (n := 3) (by decide) rfl (by decide)]; rfl
    · rw [if_neg h120, if_neg h120]
      by_cases hO : 120 < (encS0 l).o.length
      · rw [if_pos hO, if_pos hO]
        simp only [beq_self_eq_true, cond_true]
        rw [is_fault (n := 3) (by decide) rfl (by decide)]; rfl
      · rw [if_neg hO, if_neg hO]
        simp only [beq_self_eq_true, cond_true]
        rw [is_nil]; rfl
  · rw [h4, bindS]
    have hR : m_eponymref06_Encode l = some (ByteArray.mk #[], (j : Int), 4) := by
      have h5 : iter (m_eponymref06_Encode_L41 l) (0 : Int) = some (.inr (ByteArray.mk #[], (j : Int), 4)) := (chk_ref6 l (by omega) l.length 0 (by omega)).2 j (by omega) h1 h2 fun i _ hi => h3 i hi
      unfold m_eponymref06_Encode
      rw [h5, bindS]
    rw [hR, bindS]
    simp only [beq_self_eq_true, cond_true]
    rw [is_range]; rfl
end Go.Proofs.YtclhniadffljdaaDoor
