/- Directions: the program and the reference answer alike. No condition. -/
import Derived.Test.YtjhgaacecfmadaaDoorPProps
import Derived.Test.YtjhgaacecfmadaaDoorPBits
namespace Go.Proofs.YtjhgaacecfmadaaDoor
open Go Go.SE
set_option linter.unusedVariables false
set_option linter.unusedSimpArgs false
def RightP (p : T_api_Props) : Prop := (chk07 p).2 = 0
def dirF (p : T_api_Props) (r : Int) : Int := if (fnd p.f_Directions r).2 = true then (fnd p.f_Directions r).1 else 1
theorem dirTab {p : T_api_Props} (h : RightP p) : ordered p.f_Directions ∧ p.f_Directions.length ≤ 2000 := tab_ordered h (j := 9) (by omega)
theorem dir_eq {p : T_api_Props} (h : RightP p) (r : Int) : m_classes_Direction p r = some (dirF p r) := by
  have ho := dirTab h
  unfold m_classes_Direction dirF
  rw [ranges_find_eq _ _ (by omega) ho.1, bind_some']
  cases (fnd p.f_Directions r).2 <;> rfl
theorem dirR_eq {p : T_api_Props} (h : RightP p) (r : Int) : m_eponymref09_dir p r = some (dirF p r) := by
  have ho := dirTab h
  unfold m_eponymref09_dir m_eponymref07_Direction dirF
  rw [find_eq _ _ (by omega), bind_some']
  cases (fnd p.f_Directions r).2 <;> rfl
theorem dir_range {p : T_api_Props} (h : RightP p) (r : Int) : 1 ≤ dirF p r ∧ dirF p r ≤ 11 := by
  unfold dirF
  by_cases hf : (fnd p.f_Directions r).2 = true
  · rw [if_pos hf]
    unfold fnd at hf ⊢
    cases hx : p.f_Directions.find? (hitR r) with
    | none => rw [hx] at hf; cases hf
    | some x =>
      have hm := List.mem_of_find?_eq_some hx
      obtain ⟨i, hi, rfl⟩ := List.getElem_of_mem hm
      have hv := (chk07_right h 9 (by omega)).2 i hi
      have e : (((tabs p).getD 9 []).getD i d_api_Range) = p.f_Directions[i] := by
        show p.f_Directions.getD i d_api_Range = _
        simp [List.getD_eq_getElem?_getD, hi]
      have e11 : mxs.getD 9 0 = 11 := rfl
      unfold valF at hv
      rw [e, e11] at hv
      split at hv
      · cases hv
      · rename_i hc
        simp only [fndO]
        omega
  · rw [if_neg hf]; omega
def dirs (p : T_api_Props) (l : List Int) : List Int := l.map (dirF p)
theorem dirs_get (p : T_api_Props) (l : List Int) {i : Nat} (hi : i < l.length) : (dirs p l).getD i 0 = dirF p (l.getD i 0) := by
  simp [dirs, List.getD_eq_getElem?_getD, hi]
theorem dirs_len (p : T_api_Props) (l : List Int) : (dirs p l).length = l.length := by simp [dirs]
/-- All of a row are directions. -/
def Dirs (d : List Int) : Prop := ∀ i, i < d.length → 1 ≤ d.getD i 0 ∧ d.getD i 0 ≤ 11
theorem dirs_dirs {p : T_api_Props} (h : RightP p) (l : List Int) : Dirs (dirs p l) := fun i hi => by
  rw [dirs_get p l (by rwa [dirs_len] at hi)]
  exact dir_range h _
theorem row_eq {p : T_api_Props} (h : RightP p) (l : List Int) (hl : l.length ≤ 1000) : m_bidi_row p l = some (dirs p l) := by
  unfold m_bidi_row
  rw [if_pos ⟨by omega, by omega, by omega⟩]
  have key : ∀ (k i : Nat), i + k = l.length → iter (m_bidi_row_L5 p l) ((dirs p l).take i ++ List.replicate k 0, (i : Int)) = some (dirs p l) := by
    intro k
    induction k with
    | zero =>
      intro i hi
      rw [iter_done (x := dirs p l)]
      unfold m_bidi_row_L5
      simp only [decide_eq_false (show ¬ (i : Int) < ((l.length : Nat) : Int) by omega), cond_false, List.replicate_zero, List.append_nil]
      rw [List.take_of_length_le (by rw [dirs_len]; omega)]
    | succ k ih =>
      intro i hi
      have hil : i < l.length := by omega
      rw [iter_next (s' := ((dirs p l).take (i + 1) ++ List.replicate k 0, ((i + 1 : Nat) : Int))), ih (i + 1) (by omega)]
      unfold m_bidi_row_L5
      have hd := dir_range h (l.getD i 0)
      have hlen : ((dirs p l).take i ++ List.replicate (k + 1) (0 : Int)).length = l.length := by
        rw [List.length_append, List.length_take, List.length_replicate, dirs_len]; omega
      simp only [decide_eq_true (show (i : Int) < ((l.length : Nat) : Int) by omega), cond_true, if_pos (show 0 ≤ (i : Int) ∧ (i : Int) < ((l.length : Nat) : Int) by omega), Int.toNat_natCast, dir_eq h, bind_some', hlen, up (show i < 9223372036854775807 by omega)]
      rw [show max (0 : Int) (min (dirF p (l.getD i 0)) 31) = dirF p (l.getD i 0) by omega]
      congr 4
      have hti : ((dirs p l).take i).length = i := by rw [List.length_take, dirs_len]; omega
      rw [List.set_append, if_neg (by omega), hti, Nat.sub_self, List.replicate_succ, List.set_cons_zero, ← dirs_get p l hil]
      have : (dirs p l).take (i + 1) = (dirs p l).take i ++ [(dirs p l).getD i 0] := by
        rw [List.take_succ_eq_append_getElem (by rw [dirs_len]; exact hil)]
        simp [List.getD_eq_getElem?_getD, show i < (dirs p l).length by rw [dirs_len]; exact hil]
      rw [this, List.append_assoc]
      rfl
  have h0 := key l.length 0 (by omega)
  have h0 : iter (m_bidi_row_L5 p l) (List.replicate l.length 0, 0) = some (dirs p l) := h0
  rw [h0]; rfl
/-! ### Sets of directions -/
theorem has_nat {n : Nat} (hn : n < 18446744073709551616) {d : Int} (h0 : 0 ≤ d) (hd : d < 64) : m_bidi_set_has (n : Int) d = some (n.testBit d.toNat) := by
  unfold m_bidi_set_has
  rw [if_pos h0, show IntKind.bits .u64 = 64 from rfl, Nat.min_eq_left (by omega), fdiv_pow, iand_one (Nat.lt_of_le_of_lt (Nat.shiftRight_le _ _) hn)]
  congr 1
  rw [Nat.testBit, Nat.and_comm]
  have hle : (1 &&& n >>> d.toNat) ≤ 1 := Nat.and_le_left
  by_cases h1 : (1 &&& n >>> d.toNat) = 1
  · rw [h1]; rfl
  · have h1 : (1 &&& n >>> d.toNat) = 0 := by omega
    rw [h1]; rfl
theorem one_pow {d : Int} (h0 : 0 ≤ d) (hd : d < 64) : IntKind.wrap .u64 ((1 : Int) * 2 ^ (min d.toNat (IntKind.bits .u64))) = ((2 ^ d.toNat : Nat) : Int) := by
  rw [show IntKind.bits .u64 = 64 from rfl, Nat.min_eq_left (by omega), Int.one_mul]
  have h : (2 : Nat) ^ d.toNat < 2 ^ 64 := Nat.pow_lt_pow_right (by omega) (by omega)
  have e : ((2 : Int) ^ d.toNat) = ((2 ^ d.toNat : Nat) : Int) := by simp
  rw [e]
  generalize (2 : Nat) ^ d.toNat = m at h ⊢
  rw [wu64 (by omega) (by omega)]
def bitsOf (l : List Int) : Nat := l.foldl (fun n d => n ||| 2 ^ d.toNat) 0
theorem bits_lt : ∀ (l : List Int) (n : Nat), n < 2 ^ 64 → (∀ d ∈ l, 0 ≤ d ∧ d < 64) → l.foldl (fun n (d : Int) => n ||| 2 ^ d.toNat) n < 2 ^ 64
  | [], n, hn, _ => hn
  | d :: l, n, hn, h => by
    have hd := h d (by simp)
    exact bits_lt l _ (Nat.or_lt_two_pow hn (Nat.pow_lt_pow_right (by omega) (by omega))) fun e he => h e (by simp [he])
theorem of_eq' (l : List Int) (hl : l.length ≤ 1000) (h : ∀ d ∈ l, 0 ≤ d ∧ d < 64) : m_bidi_of l = some ((bitsOf l : Nat) : Int) := by
  unfold m_bidi_of
  have key : ∀ (k i n : Nat), i + k = l.length → n < 2 ^ 64 → iter (m_bidi_of_L5 l) ((n : Int), (i : Int)) = some (((l.drop i).foldl (fun n (d : Int) => n ||| 2 ^ d.toNat) n : Nat) : Int) := by
    intro k
    induction k with
    | zero =>
      intro i n hi hn
      rw [List.drop_of_length_le (by omega)]
      refine iter_done ?_
      unfold m_bidi_of_L5
      rw [decide_eq_false (by omega)]; rfl
    | succ k ih =>
      intro i n hi hn
      have hil : i < l.length := by omega
      have hd := h _ (getD_mem (d := (0 : Int)) hil)
      have hp : (2 : Nat) ^ (l.getD i 0).toNat < 2 ^ 64 := Nat.pow_lt_pow_right (by omega) (by omega)
      rw [iter_next (s' := (((n ||| 2 ^ (l.getD i 0).toNat : Nat) : Int), ((i + 1 : Nat) : Int))), ih (i + 1) _ (by omega) (Nat.or_lt_two_pow hn hp), drop_getD (d := (0 : Int)) hil, List.foldl_cons]
      unfold m_bidi_of_L5
      simp only [decide_eq_true (show (i : Int) < ((l.length : Nat) : Int) by omega), cond_true, if_pos (show 0 ≤ (i : Int) ∧ (i : Int) < ((l.length : Nat) : Int) by omega), Int.toNat_natCast, if_pos hd.1, up (show i < 9223372036854775807 by omega)]
      rw [one_pow hd.1 hd.2, ior_nat (by omega) (by omega)]
  have h0 := key l.length 0 0 (by omega) (by omega)
  have h0 : iter (m_bidi_of_L5 l) (0, 0) = some ((bitsOf l : Nat) : Int) := h0
  rw [h0]; rfl
/-- The first place whose direction is, or isn't, one of a set. -/
def firstF (d : List Int) (n : Nat) (b : Bool) (i : Nat) : Option Int := if (n.testBit (d.getD i 0).toNat == b) = true then some (i : Int) else none
theorem bfirst_eq {d : List Int} (hD : Dirs d) (hl : d.length ≤ 1000) {n : Nat} (hn : n < 18446744073709551616) (b : Bool) : m_bidi_first d (n : Int) b = some ((firstSome (firstF d n b) d.length 0).getD (-1)) := by
  unfold m_bidi_first
  rw [iter_scan d.length (firstF d n b) (fun i hi _ => ?_) (fun _ => ?_)]
  · cases firstSome (firstF d n b) d.length 0 <;> rfl
  · have h1 := hD i hi
    unfold m_bidi_first_L5 firstF
    rw [decide_eq_true (by omega), cond_true, if_pos ⟨by omega, by omega⟩, Int.toNat_natCast, has_nat hn (by omega) (by omega), bind_some', up (by omega)]
    cases (n.testBit (d.getD i 0).toNat == b) <;> rfl
  · unfold m_bidi_first_L5
    rw [decide_eq_false (by omega)]; rfl
/-- The last place below n that isn't NSM. -/
def endN (d : List Int) : Nat → Option Nat
  | 0 => none
  | n + 1 => if d.getD n 0 ≠ 10 then some n else endN d n
theorem endN_lt {d : List Int} : ∀ {n e : Nat}, endN d n = some e → e < n ∧ d.getD e 0 ≠ 10
  | 0, e, h => by cases h
  | n + 1, e, h => by
    rw [endN] at h
    split at h
    · cases h; exact ⟨by omega, by assumption⟩
    · have := endN_lt h; exact ⟨by omega, this.2⟩
theorem endN_some {d : List Int} (h0 : d.getD 0 0 ≠ 10) : ∀ {n : Nat}, 0 < n → ∃ e, endN d n = some e
  | 0, h => absurd h (Nat.lt_irrefl _)
  | n + 1, _ => by
    rw [endN]
    split
    · exact ⟨_, rfl⟩
    · rename_i hn
      cases n with
      | zero => exact absurd h0 hn
      | succ n => exact endN_some h0 (by omega)
theorem last_eq (d : List Int) (hl : d.length ≤ 1000) : m_bidi_last d = some (match endN d d.length with | some e => (e : Int) | none => -1) := by
  unfold m_bidi_last
  have key : ∀ n, n ≤ d.length → iter (m_bidi_last_L5 d) ((n : Int) - 1) = some (match endN d n with | some e => (e : Int) | none => -1) := by
    intro n
    induction n with
    | zero =>
      intro _
      refine iter_done ?_
      rfl
    | succ n ih =>
      intro hn
      have e0 : (((n + 1 : Nat) : Int) - 1) = (n : Int) := by omega
      rw [e0]
      by_cases h : d.getD n 0 = 10
      · rw [iter_next (s' := (n : Int) - 1), ih (by omega), endN, if_neg (fun h' => h' h)]
        unfold m_bidi_last_L5
        rw [decide_eq_true (by omega), cond_true, if_pos ⟨by omega, by omega⟩, Int.toNat_natCast, h, bind_some']
        unfold m_bidi_last_K8
        rw [w64 (by omega) (by omega)]; rfl
      · rw [endN, if_pos h]
        refine iter_done ?_
        unfold m_bidi_last_L5
        rw [decide_eq_true (by omega), cond_true, if_pos ⟨by omega, by omega⟩, Int.toNat_natCast, beq_false_of_ne h, bind_some']
        rfl
  rw [w64 (by omega) (by omega), key _ (Nat.le_refl _)]; rfl
theorem endR_eq {p : T_api_Props} (h : RightP p) (l : List Int) (hl : l.length ≤ 1000) : m_eponymref09_end p l = some (((endN (dirs p l) l.length).getD 0 : Nat) : Int) := by
  unfold m_eponymref09_end
  have key : ∀ (k i : Nat), i + k = l.length → iter (m_eponymref09_end_L6 p l) ((((endN (dirs p l) i).getD 0 : Nat) : Int), (i : Int)) = some (((endN (dirs p l) l.length).getD 0 : Nat) : Int) := by
    intro k
    induction k with
    | zero =>
      intro i hi
      obtain rfl : i = l.length := by omega
      refine iter_done ?_
      unfold m_eponymref09_end_L6
      rw [decide_eq_false (by omega)]; rfl
    | succ k ih =>
      intro i hi
      rw [← ih (i + 1) (by omega)]
      refine iter_next ?_
      unfold m_eponymref09_end_L6
      rw [decide_eq_true (by omega), cond_true, if_pos ⟨by omega, by omega⟩, Int.toNat_natCast, dirR_eq h, bind_some', up (by omega), ← dirs_get p l (by omega)]
      by_cases h1 : (dirs p l).getD i 0 = 10
      · rw [show ((dirs p l).getD i 0 != 10) = false by rw [h1]; rfl, endN, if_neg (fun h' => h' h1)]; rfl
      · rw [show ((dirs p l).getD i 0 != 10) = true from bne_iff_ne.2 h1, endN, if_pos h1]; rfl
  have h0 := key l.length 0 (by omega)
  have h0 : iter (m_eponymref09_end_L6 p l) (0, 0) = some (((endN (dirs p l) l.length).getD 0 : Nat) : Int) := h0
  rw [h0]; rfl
/-! ### EN and AN -/
def seenK (d : List Int) (k : Int) (i : Nat) : Bool := (d.take i).any (· == k)
theorem seenK_succ (d : List Int) (k : Int) {i : Nat} (hi : i < d.length) : seenK d k (i + 1) = (seenK d k i || d.getD i 0 == k) := by
  unfold seenK
  rw [List.take_succ_eq_append_getElem hi, List.any_append]
  simp [List.getD_eq_getElem?_getD, hi]
def bothF (d : List Int) (i : Nat) : Option Int := if (seenK d 4 (i + 1) && seenK d 5 (i + 1)) = true then some (i : Int) else none
theorem both_eq {d : List Int} (hD : Dirs d) (hl : d.length ≤ 1000) : m_bidi_both d = some ((firstSome (bothF d) d.length 0).getD (-1)) := by
  unfold m_bidi_both
  have key : ∀ (k i n : Nat), i + k = d.length → n < 2 ^ 64 → n.testBit 4 = seenK d 4 i → n.testBit 5 = seenK d 5 i → iter (m_bidi_both_L5 d) ((n : Int), (i : Int)) = some (scanX (firstSome (bothF d) k i)) := by
    intro k
    induction k with
    | zero =>
      intro i n hi hn _ _
      refine iter_done ?_
      unfold m_bidi_both_L5
      rw [decide_eq_false (by omega)]; rfl
    | succ k ih =>
      intro i n hi hn h4 h5
      have hil : i < d.length := by omega
      have hd := hD i hil
      have hp : (2 : Nat) ^ (d.getD i 0).toNat < 2 ^ 64 := Nat.pow_lt_pow_right (by omega) (by omega)
      have hn' : n ||| 2 ^ (d.getD i 0).toNat < 2 ^ 64 := Nat.or_lt_two_pow hn hp
      have t4 : (n ||| 2 ^ (d.getD i 0).toNat).testBit 4 = seenK d 4 (i + 1) := by
        rw [Nat.testBit_or, h4, seenK_succ d 4 hil, Nat.testBit_two_pow]
        congr 1
        by_cases h : d.getD i 0 = 4
        · rw [h]; rfl
        · rw [beq_false_of_ne h]; exact decide_eq_false (by omega)
      have t5 : (n ||| 2 ^ (d.getD i 0).toNat).testBit 5 = seenK d 5 (i + 1) := by
        rw [Nat.testBit_or, h5, seenK_succ d 5 hil, Nat.testBit_two_pow]
        congr 1
        by_cases h : d.getD i 0 = 5
        · rw [h]; rfl
        · rw [beq_false_of_ne h]; exact decide_eq_false (by omega)
      have hof : m_bidi_of [d.getD i 0] = some (((2 : Nat) ^ (d.getD i 0).toNat : Nat) : Int) := by
        rw [of_eq' _ (by simp) (fun x hx => by have hx := List.mem_singleton.1 hx; subst hx; omega)]
        simp [bitsOf]
      have hbody : m_bidi_both_L5 d ((n : Int), (i : Int)) = some (match bothF d i with | none => .next (((n ||| 2 ^ (d.getD i 0).toNat : Nat) : Int), ((i + 1 : Nat) : Int)) | some v => .done (.inr v)) := by
        unfold m_bidi_both_L5
        simp only [decide_eq_true (show (i : Int) < ((d.length : Nat) : Int) by omega), cond_true, if_pos (show 0 ≤ (i : Int) ∧ (i : Int) < ((d.length : Nat) : Int) by omega), Int.toNat_natCast]
        rw [hof, bind_some', ior_nat (by omega) (by omega), has_nat (by omega) (by omega) (by omega), has_nat (by omega) (by omega) (by omega)]
        simp only [bind_some', show Int.toNat 4 = 4 from rfl, show Int.toNat 5 = 5 from rfl, t4, t5, m_bidi_both_K9, bothF, up (show i < 9223372036854775807 by omega), ior_nat (show n < 18446744073709551616 by omega) (show 2 ^ (d.getD i 0).toNat < 18446744073709551616 by omega)]
        cases seenK d 4 (i + 1) <;> cases seenK d 5 (i + 1) <;> rfl
      rw [firstSome]
      cases hb : bothF d i with
      | none => rw [hb] at hbody; rw [iter_next hbody]; exact ih (i + 1) _ (by omega) hn' t4 t5
      | some v => rw [hb] at hbody; rw [iter_done hbody]; rfl
  have h0 := key d.length 0 0 (by omega) (by omega) (by simp [seenK]) (by simp [seenK])
  have h0 : iter (m_bidi_both_L5 d) (0, 0) = some (scanX (firstSome (bothF d) d.length 0)) := h0
  rw [h0]
  cases firstSome (bothF d) d.length 0 <;> rfl
end Go.Proofs.YtjhgaacecfmadaaDoor
