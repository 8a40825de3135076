/- Punycode written: the code writes the plain text, or tells what is wrong. No condition. -/
import Derived.Test.YtclhniadffljdaaDoorPPeB
import Derived.Test.YtclhniadffljdaaDoorPPnG
namespace Go.Proofs.YtclhniadffljdaaDoor
open Go Go.SE
set_option linter.unusedVariables false
set_option linter.unusedSimpArgs false
/-- Letters of ASCII, with a hyphen behind them. -/
def bas (l : List Int) : List Int := l.filter fun x => decide (x < 128)
def bigs (l : List Int) : List Int := l.filter fun x => !decide (x < 128)
def baseO (l : List Int) : List Int := if 0 < (bas l).length then bas l ++ [45] else bas l
noncomputable def foldE (l : List Int) (q : List Int) (s : EncS) : EncS := q.foldl (fun s r => allF l r l.length 0 s) s
noncomputable def encS0 (l : List Int) : EncS := foldE l (dst (bigs l)) ⟨72, false, baseO l, 128, 0, ((bas l).length : Int)⟩
/-- Between two kinds. -/
structure SInv (l : List Int) (lo : Int) (s : EncS) : Prop where
  len : l.length ≤ 120
  rt : ∀ x ∈ l, rgt x = true
  lo0 : 127 ≤ lo
  b0 : 0 ≤ s.b
  b1 : s.b ≤ 1000
  m : s.m = ((l.countP fun x => decide (x ≤ lo) : Nat) : Int)
  n0 : 0 ≤ s.n
  nr : s.n ≤ lo + 1
  i0 : 0 ≤ s.i
  im : s.i ≤ s.m
  ni : s.n = lo + 1 → s.i = 0
  o : s.o.length ≤ 3000000000 * (s.m.toNat + 1)
/-- What is still to be told: the greater ones, rising. -/
structure Rest (l : List Int) (lo : Int) (q : List Int) : Prop where
  up : q.Pairwise (· < ·)
  mem : ∀ x, x ∈ q ↔ x ∈ l ∧ lo < x
theorem Rest.head {l : List Int} {lo r : Int} {q : List Int} (h : Rest l lo (r :: q)) : r ∈ l ∧ lo < r ∧ (∀ x ∈ l, x < r ↔ x ≤ lo) ∧ Rest l r q := by
  have h1 := (h.mem r).1 List.mem_cons_self
  have h2 := List.pairwise_cons.1 h.up
  refine ⟨h1.1, h1.2, fun x hx => ?_, h2.2, fun x => ?_⟩
  · constructor
    · intro hlt
      by_cases hc : lo < x
      · rcases List.mem_cons.1 ((h.mem x).2 ⟨hx, hc⟩) with rfl | hq
        · omega
        · have := h2.1 x hq; omega
      · omega
    · intro hle; omega
  · constructor
    · intro hx
      exact ⟨((h.mem x).1 (List.mem_cons_of_mem _ hx)).1, h2.1 x hx⟩
    · rintro ⟨hx, hlt⟩
      rcases List.mem_cons.1 ((h.mem x).2 ⟨hx, by omega⟩) with rfl | hq
      · omega
      · exact hq
theorem countP_congr' {p q : Int → Bool} {l : List Int} (h : ∀ x ∈ l, p x = q x) : l.countP p = l.countP q := by
  induction l with
  | nil => rfl
  | cons x l ih =>
    rw [List.countP_cons, List.countP_cons, ih (fun y hy => h y (List.mem_cons_of_mem _ hy)), h x List.mem_cons_self]
theorem count_le (l : List Int) (r : Int) : (l.countP fun x => decide (x ≤ r)) = ltN l r + eqN l r l.length := by
  unfold ltN eqN
  rw [List.take_length]
  induction l with
  | nil => rfl
  | cons x l ih =>
    simp only [List.countP_cons, decide_eq_true_eq, ih]
    split <;> split <;> split <;> omega
theorem rgt_in {x : Int} (h : rgt x = true) : 0 ≤ x ∧ x ≤ 1114111 := by
  unfold rgt at h
  simp only [decide_eq_true_eq] at h
  omega
theorem sinv_einv {l : List Int} {lo r : Int} {q : List Int} {s : EncS} (h : SInv l lo s) (hr : Rest l lo (r :: q)) : EInv l r 0 s := by
  obtain ⟨h1, h2, h3, h4⟩ := hr.head
  have h5 := rgt_in (h.rt r h1)
  have h6 : ltN l r = l.countP fun x => decide (x ≤ lo) := by
    unfold ltN
    exact countP_congr' fun x hx => by rw [decide_eq_decide]; exact h3 x hx
  have h7 : eqN l r 0 = 0 := by simp [eqN]
  have h8 := h.nr
  have h9 : (l.countP fun x => decide (x ≤ lo)) ≤ l.length := List.countP_le_length
  refine ⟨h.len, h.b0, h.b1, by rw [h6, h7]; exact h.m, by omega, h.n0, by omega, by omega, h.i0, h.im, fun hn => ?_, h.o⟩
  have := h.ni (by omega)
  omega
theorem einv_sinv {l : List Int} {lo r : Int} {q : List Int} {s s' : EncS} (h : SInv l lo s) (hr : Rest l lo (r :: q)) (h' : EInv l r l.length s') : SInv l r s' := by
  obtain ⟨h1, h2, h3, h4⟩ := hr.head
  have h5 := h.lo0
  have h6 := h'.nr
  exact ⟨h.len, h.rt, by omega, h'.b0, h'.b1, by rw [count_le]; exact h'.m, h'.n0, by omega, h'.i0, h'.im, fun hn => by omega, h'.o⟩
theorem sinv_next {l : List Int} {lo r : Int} {q : List Int} {s : EncS} (h : SInv l lo s) (hr : Rest l lo (r :: q)) : SInv l r (allF l r l.length 0 s) :=
  einv_sinv h hr (inv_all l.length 0 s (by omega) (sinv_einv h hr))
theorem fold_code {l mem : List Int} {tot : Nat} (htot : tot ≤ mem.length) : ∀ (q : List Int) (lo : Int) (s : EncS) (c : Bool) (idx : Nat), SInv l lo s → Rest l lo q → idx ≤ tot → tot ≤ 1000000000 → (mem.take tot).drop idx = q →
    ∃ c', iter (m_puny_Encode_L17 l (mem, tot)) (s.b, s.f, c, s.o, s.n, s.i, s.m, (idx : Int)) = some ((foldE l q s).b, (foldE l q s).f, c', (foldE l q s).o, (foldE l q s).n, (foldE l q s).i, (foldE l q s).m)
  | [], lo, s, c, idx, hs, hr, hi, hT, hq => by
    have hlen : ((mem.take tot).drop idx).length = 0 := by rw [hq]; rfl
    simp only [List.length_drop, List.length_take] at hlen
    have hc : decide ((idx : Int) < ((tot : Nat) : Int)) = false := by simp; omega
    exact ⟨c, iter_done (by simp only [m_puny_Encode_L17, hc, cond_false]; rfl)⟩
  | r :: q, lo, s, c, idx, hs, hr, hi, hT, hq => by
    have hlen : ((mem.take tot).drop idx).length = q.length + 1 := by rw [hq]; rfl
    simp only [List.length_drop, List.length_take] at hlen
    have hc : decide ((idx : Int) < ((tot : Nat) : Int)) = true := by simp; omega
    have hg : mem.getD idx 0 = r := by
      have : ((mem.take tot).drop idx)[0]? = some r := by rw [hq]; rfl
      rw [List.getElem?_drop, List.getElem?_take, if_pos (by omega), Nat.add_zero] at this
      rw [List.getD_eq_getElem?_getD, this]; rfl
    have hd : (mem.take tot).drop (idx + 1) = q := by
      rw [← List.drop_drop, hq]; rfl
    obtain ⟨c1, h1⟩ := all_code l.length 0 s c (by omega) (sinv_einv hs hr)
    have hah : ahN l r 0 = 0 := by simp [ahN]
    rw [hah] at h1
    obtain ⟨c2, h2⟩ := fold_code htot q r (allF l r l.length 0 s) c1 (idx + 1) (sinv_next hs hr) hr.head.2.2.2 (by omega) hT hd
    refine ⟨c2, ?_⟩
    have h1' : m_puny_encoder_all_own s.b s.f c s.o s.n s.i s.m l r = some ((allF l r l.length 0 s).b, (allF l r l.length 0 s).f, c1, (allF l r l.length 0 s).o, (allF l r l.length 0 s).n, (allF l r l.length 0 s).i, (allF l r l.length 0 s).m) := by
      unfold m_puny_encoder_all_own
      rw [show ((0 : Nat) : Int) = 0 from rfl] at h1
      rw [h1]; rfl
    rw [iter_next (s' := ((allF l r l.length 0 s).b, (allF l r l.length 0 s).f, c1, (allF l r l.length 0 s).o, (allF l r l.length 0 s).n, (allF l r l.length 0 s).i, (allF l r l.length 0 s).m, ((idx + 1 : Nat) : Int)))]
    · exact h2
    · simp (disch := omega) only [m_puny_Encode_L17, hc, cond_true, if_pos, Int.toNat_natCast, hg, h1', bindS, wa1]
/-! ### The letters of ASCII -/
theorem filt_take (p : Int → Bool) (l : List Int) (k : Nat) (h : k < l.length) : (l.take (k + 1)).filter p = (l.take k).filter p ++ if p (l.getD k 0) = true then [l.getD k 0] else [] := by
  rw [take_snoc l k h, List.filter_append]
  generalize l.getD k 0 = x
  cases hp : p x <;> simp [hp]
theorem split_code (l : List Int) (hl : l.length ≤ 120) (hr : ∀ x ∈ l, rgt x = true) : ∀ (n k : Nat) (c : Bool), k + n = l.length → ∃ c', iter (m_puny_Encode_L24 l) (72, false, c, bas (l.take k), 128, 0, ((bas (l.take k)).length : Int), bigs (l.take k), (k : Int)) = some (72, false, c', bas l, 128, 0, ((bas l).length : Int), bigs l) := by
  intro n
  induction n with
  | zero =>
    intro k c hk
    have hc : decide ((k : Int) < ((l.length : Nat) : Int)) = false := by simp; omega
    refine ⟨c, iter_done ?_⟩
    have e : l.take k = l := by rw [show k = l.length by omega]; exact List.take_length
    simp only [m_puny_Encode_L24, hc, cond_false, e]
  | succ n ih =>
    intro k c hk
    have hc : decide ((k : Int) < ((l.length : Nat) : Int)) = true := by simp; omega
    have hx := rgt_in (hr _ (getD_mem (l := l) (d := 0) (i := k) (by omega)))
    have f1 := filt_take (fun x => decide (x < 128)) l k (by omega)
    have f2 := filt_take (fun x => !decide (x < 128)) l k (by omega)
    have l1 : (bas (l.take k)).length ≤ k := Nat.le_trans (List.length_filter_le _ _) (by simp; omega)
    have l2 : (bigs (l.take k)).length ≤ k := Nat.le_trans (List.length_filter_le _ _) (by simp; omega)
    by_cases hb : l.getD k 0 < 128
    · rw [if_pos (by simp only [decide_eq_true_eq]; exact hb)] at f1
      rw [if_neg (by simp only [Bool.not_eq_true', decide_eq_false_iff_not]; omega), List.append_nil] at f2
      obtain ⟨c1, h1⟩ := copy_own 72 false c (bas (l.take k)) 128 0 ((bas (l.take k)).length : Int)
      obtain ⟨c2, h2⟩ := ih (k + 1) c1 (by omega)
      refine ⟨c2, ?_⟩
      rw [iter_next (s' := (72, false, c1, bas (l.take (k + 1)), 128, 0, ((bas (l.take (k + 1))).length : Int), bigs (l.take (k + 1)), ((k + 1 : Nat) : Int)))]
      · exact h2
      · have e1 : bas (l.take (k + 1)) = bas (l.take k) ++ [l.getD k 0] := f1
        have e2 : bigs (l.take (k + 1)) = bigs (l.take k) := f2
        rw [e1, e2]
        simp (disch := omega) only [m_puny_Encode_L24, hc, cond_true, if_pos, Int.toNat_natCast, decide_eq_true hb, m_strings_Builder_WriteByte_own, h1, bindS, w8, wa1, List.length_append, List.length_singleton]
    · rw [if_neg (by simp only [decide_eq_true_eq]; exact hb), List.append_nil] at f1
      rw [if_pos (by simp only [Bool.not_eq_true', decide_eq_false_iff_not]; exact hb)] at f2
      obtain ⟨c2, h2⟩ := ih (k + 1) c (by omega)
      refine ⟨c2, ?_⟩
      rw [iter_next (s' := (72, false, c, bas (l.take (k + 1)), 128, 0, ((bas (l.take (k + 1))).length : Int), bigs (l.take (k + 1)), ((k + 1 : Nat) : Int)))]
      · exact h2
      · have e1 : bas (l.take (k + 1)) = bas (l.take k) := f1
        have e2 : bigs (l.take (k + 1)) = bigs (l.take k) ++ [l.getD k 0] := f2
        rw [e1, e2]
        simp (disch := omega) only [m_puny_Encode_L24, hc, cond_true, if_pos, Int.toNat_natCast, decide_eq_false hb, cond_false, wa1]
theorem rest_start (l : List Int) : Rest l 127 (dst (bigs l)) := by
  refine ⟨dst_rise _, fun x => ?_⟩
  rw [dst_mem]
  unfold bigs
  rw [List.mem_filter]
  simp only [Bool.not_eq_true', decide_eq_false_iff_not]
  constructor
  · rintro ⟨h1, h2⟩; exact ⟨h1, by omega⟩
  · rintro ⟨h1, h2⟩; exact ⟨h1, by omega⟩
theorem sinv_start (l : List Int) (hl : l.length ≤ 120) (hr : ∀ x ∈ l, rgt x = true) : SInv l 127 ⟨72, false, baseO l, 128, 0, ((bas l).length : Int)⟩ := by
  have l1 : (bas l).length ≤ l.length := List.length_filter_le _ _
  refine ⟨hl, hr, by omega, by show (0 : Int) ≤ 72; omega, by show (72 : Int) ≤ 1000; omega, ?_, by show (0 : Int) ≤ 128; omega, by show (128 : Int) ≤ 127 + 1; omega, Int.le_refl _, by show (0 : Int) ≤ ((bas l).length : Int); omega, fun _ => rfl, ?_⟩
  · show ((bas l).length : Int) = _
    unfold bas
    rw [← List.countP_eq_length_filter]
    congr 1
    exact countP_congr' fun x _ => by rw [decide_eq_decide]; omega
  · show (baseO l).length ≤ 3000000000 * ((((bas l).length : Int)).toNat + 1)
    unfold baseO
    split
    · rw [List.length_append, List.length_singleton]; omega
    · omega
/-! ### Whole -/
theorem chk_code (l : List Int) (hl : l.length ≤ 1000000000) : ∀ (n k : Nat), k + n = l.length → (∀ j, j < k → rgt (l.getD j 0) = true) →
    (iter (m_puny_Encode_L30 l) (k : Int) = some (.inl ()) ∧ ∀ j, j < l.length → rgt (l.getD j 0) = true) ∨ ∃ j, j < l.length ∧ rgt (l.getD j 0) = false ∧ (∀ i, i < j → rgt (l.getD i 0) = true) ∧ iter (m_puny_Encode_L30 l) (k : Int) = some (.inr (ByteArray.mk #[], .box 62 (j : Int) (.sent 3))) := by
  intro n
  induction n with
  | zero =>
    intro k hk h
    have hc : decide ((k : Int) < ((l.length : Nat) : Int)) = false := by simp; omega
    exact .inl ⟨iter_done (by simp only [m_puny_Encode_L30, hc, cond_false]), fun j hj => h j (by omega)⟩
  | succ n ih =>
    intro k hk h
    have hc : decide ((k : Int) < ((l.length : Nat) : Int)) = true := by simp; omega
    cases hq : rgt (l.getD k 0) with
    | true =>
      rw [iter_next (s' := ((k + 1 : Nat) : Int)) (by simp (disch := omega) only [m_puny_Encode_L30, hc, cond_true, if_pos, Int.toNat_natCast, rgt_code, hq, bindS, Bool.not_true, cond_false, wa1])]
      refine ih (k + 1) (by omega) (fun j hj => ?_)
      by_cases hjk : j = k
      · subst hjk; exact hq
      · exact h j (by omega)
    | false =>
      refine .inr ⟨k, by omega, hq, h, iter_done ?_⟩
      simp (disch := omega) only [m_puny_Encode_L30, hc, cond_true, if_pos, Int.toNat_natCast, rgt_code, hq, bindS, Bool.not_false]
      rfl
theorem all_mem {l : List Int} {p : Int → Bool} (h : ∀ j, j < l.length → p (l.getD j 0) = true) : ∀ x ∈ l, p x = true := fun x hx => by
  obtain ⟨j, hj, rfl⟩ := List.mem_iff_getElem.1 hx
  have := h j hj
  rw [List.getD_eq_getElem?_getD, List.getElem?_eq_getElem hj] at this
  exact this
theorem encode_ok (l : List Int) (hl : l.length ≤ 120) (hr : ∀ x ∈ l, rgt x = true) : m_puny_Encode_K2 l () = some (if 120 < (encS0 l).o.length then (ByteArray.mk #[], .box 62 0 (.sent 4)) else (strOfNums (encS0 l).o, .nil)) := by
  unfold m_puny_Encode_K2
  rw [show decide (((l.length : Nat) : Int) > 120) = false by simp; omega, cond_false]
  obtain ⟨c1, h1⟩ := split_code l hl hr l.length 0 false (by omega)
  have h1' : iter (m_puny_Encode_L24 l) ((72 : Int), false, false, [], (128 : Int), (0 : Int), (0 : Int), [], (0 : Int)) = some (72, false, c1, bas l, 128, 0, ((bas l).length : Int), bigs l) := h1
  rw [h1', bindS]
  have hK5 : ∃ c2, m_puny_Encode_K5 l (72, false, c1, bas l, 128, 0, ((bas l).length : Int), bigs l) = m_puny_Encode_K7 l (72, false, c1, bas l, 128, 0, ((bas l).length : Int), bigs l) (72, false, c2, baseO l, 128, 0, ((bas l).length : Int)) := by
    have l1 : (bas l).length ≤ l.length := List.length_filter_le _ _
    unfold m_puny_Encode_K5 baseO
    by_cases h0 : 0 < (bas l).length
    · obtain ⟨c2, h2⟩ := copy_own 72 false c1 (bas l) 128 0 ((bas l).length : Int)
      refine ⟨c2, ?_⟩
      have hc : decide (((bas l).length : Int) > 0) = true := by simp; omega
      simp (disch := omega) only [hc, cond_true, m_strings_Builder_WriteByte_own, h2, bindS, if_pos, h0, if_true]
    · refine ⟨c1, ?_⟩
      have hc : decide (((bas l).length : Int) > 0) = false := decide_eq_false (by omega)
      simp only [hc, cond_false, bindS, if_neg h0]
  obtain ⟨c2, h2⟩ := hK5
  rw [h2]
  have l2 : (bigs l).length ≤ l.length := List.length_filter_le _ _
  unfold m_puny_Encode_K7
  simp only
  rw [sort_eq (bigs l) (by omega), bindS, List.length_mergeSort, if_pos rfl]
  obtain ⟨mem, k, g1, g2, g3, g4⟩ := compact_eq ((bigs l).mergeSort fun x y => decide (x ≤ y)) (by rw [List.length_mergeSort]; omega)
  rw [List.length_mergeSort] at g2 g3 g4
  rw [g1, bindS]
  simp only
  rw [g2, if_pos rfl]
  have g4' : (mem.take k).drop 0 = dst (bigs l) := by
    rw [List.drop_zero, g4]
    unfold dst
    first | rfl | rw [List.length_mergeSort]
  obtain ⟨c3, h3⟩ := fold_code (tot := k) (by omega) (dst (bigs l)) 127 ⟨72, false, baseO l, 128, 0, ((bas l).length : Int)⟩ c2 0 (sinv_start l hl hr) (rest_start l) (by omega) (by omega) g4'
  have h3' : iter (m_puny_Encode_L17 l (mem, k)) (72, false, c2, baseO l, 128, 0, ((bas l).length : Int), (0 : Int)) = some ((encS0 l).b, (encS0 l).f, c3, (encS0 l).o, (encS0 l).n, (encS0 l).i, (encS0 l).m) := h3
  rw [h3', bindS]
  unfold m_puny_Encode_K10 m_strings_Builder_Len_own
  simp only [bindS]
  by_cases hL : 120 < (encS0 l).o.length
  · have hc : decide ((((encS0 l).o.length : Nat) : Int) > 120) = true := by simp; omega
    rw [hc, cond_true, if_pos hL]
    rfl
  · have hc : decide ((((encS0 l).o.length : Nat) : Int) > 120) = false := by simp; omega
    rw [hc, cond_false, if_neg hL]
    unfold m_strings_Builder_String_own
    rw [if_pos (by omega), bindS, if_pos rfl, List.take_length]
/-- What Encode answers. -/
noncomputable def encA (l : List Int) : ByteArray × Er :=
  if 120 < l.length then (ByteArray.mk #[], .box 62 0 (.sent 4)) else if 120 < (encS0 l).o.length then (ByteArray.mk #[], .box 62 0 (.sent 4)) else (strOfNums (encS0 l).o, .nil)
theorem encode_code (l : List Int) (hl : l.length ≤ 1000000000) : ((∀ x ∈ l, rgt x = true) ∧ m_puny_Encode l = some (encA l)) ∨ ∃ j, j < l.length ∧ rgt (l.getD j 0) = false ∧ (∀ i, i < j → rgt (l.getD i 0) = true) ∧ m_puny_Encode l = some (ByteArray.mk #[], .box 62 (j : Int) (.sent 3)) := by
  unfold m_puny_Encode
  rcases chk_code l hl l.length 0 (by omega) (fun j hj => by omega) with ⟨h1, h2⟩ | ⟨j, h1, h2, h3, h4⟩
  · rw [show ((0 : Nat) : Int) = 0 from rfl] at h1
    have hr := all_mem h2
    refine .inl ⟨hr, ?_⟩
    rw [h1, bindS]
    unfold encA
    by_cases hL : 120 < l.length
    · rw [if_pos hL]
      unfold m_puny_Encode_K2
      rw [show decide (((l.length : Nat) : Int) > 120) = true by simp; omega, cond_true]
      rfl
    · rw [if_neg hL]
      exact encode_ok l (by omega) hr
  · rw [show ((0 : Nat) : Int) = 0 from rfl] at h4
    refine .inr ⟨j, h1, h2, h3, ?_⟩
    rw [h4, bindS]
end Go.Proofs.YtclhniadffljdaaDoor
