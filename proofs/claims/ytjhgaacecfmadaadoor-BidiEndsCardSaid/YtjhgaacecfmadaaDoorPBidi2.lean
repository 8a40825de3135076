/- The rule that a label breaks: the program and the reference answer alike. No condition. -/
import Derived.Test.YtjhgaacecfmadaaDoorPBidi
namespace Go.Proofs.YtjhgaacecfmadaaDoor
open Go Go.SE
set_option linter.unusedVariables false
set_option linter.unusedSimpArgs false
def isRB (x : Int) : Bool := x == 2 || (x == 3 || x == 5)
def isR (d : List Int) (i : Nat) : Option Int := if isRB (d.getD i 0) = true then some (i : Int) else none
def is1 (d : List Int) (i : Nat) : Option Int := if d.getD i 0 = 1 then some (i : Int) else none
def brF (d : List Int) : Int × Int :=
  if d.length = 0 then (1, 0)
  else if d.getD 0 0 > 3 then (1, 0)
  else if d.getD 0 0 > 1 then
    match firstSome (is1 d) d.length 0 with
    | some i => (2, i)
    | none =>
      if d.getD ((endN d d.length).getD 0) 0 > 5 then (3, (((endN d d.length).getD 0 : Nat) : Int))
      else match firstSome (bothF d) d.length 0 with
        | some i => (4, i)
        | none => (0, 0)
  else
    match firstSome (isR d) d.length 0 with
    | some i => (5, i)
    | none => if d.getD ((endN d d.length).getD 0) 0 ≠ 1 ∧ d.getD ((endN d d.length).getD 0) 0 ≠ 4 then (6, (((endN d d.length).getD 0 : Nat) : Int)) else (0, 0)
theorem eleven {x : Int} (h : 1 ≤ x ∧ x ≤ 11) : x = 1 ∨ x = 2 ∨ x = 3 ∨ x = 4 ∨ x = 5 ∨ x = 6 ∨ x = 7 ∨ x = 8 ∨ x = 9 ∨ x = 10 ∨ x = 11 := by omega
theorem tb4050 {x : Int} (h : 1 ≤ x ∧ x ≤ 11) : ((4050 : Nat).testBit x.toNat == false) = isRB x := by
  rcases eleven h with rfl | rfl | rfl | rfl | rfl | rfl | rfl | rfl | rfl | rfl | rfl <;> decide
theorem tb44 {x : Int} (h : 1 ≤ x ∧ x ≤ 11) : ((44 : Nat).testBit x.toNat == true) = isRB x := by
  rcases eleven h with rfl | rfl | rfl | rfl | rfl | rfl | rfl | rfl | rfl | rfl | rfl <;> decide
theorem tb4092 {x : Int} (h : 1 ≤ x ∧ x ≤ 11) : ((4092 : Nat).testBit x.toNat == false) = decide (x = 1) := by
  rcases eleven h with rfl | rfl | rfl | rfl | rfl | rfl | rfl | rfl | rfl | rfl | rfl <;> decide
theorem tb60 {x : Int} (h : 1 ≤ x ∧ x ≤ 11) : (60 : Nat).testBit x.toNat = decide (x ≠ 1 ∧ x ≤ 5) := by
  rcases eleven h with rfl | rfl | rfl | rfl | rfl | rfl | rfl | rfl | rfl | rfl | rfl <;> decide
theorem tb18 {x : Int} (h : 1 ≤ x ∧ x ≤ 11) : (18 : Nat).testBit x.toNat = decide (x = 1 ∨ x = 4) := by
  rcases eleven h with rfl | rfl | rfl | rfl | rfl | rfl | rfl | rfl | rfl | rfl | rfl <;> decide
theorem first4050 {d : List Int} (hD : Dirs d) : firstSome (firstF d 4050 false) d.length 0 = firstSome (isR d) d.length 0 :=
  firstSome_congr fun j _ hj => by unfold firstF isR; rw [tb4050 (hD j (by omega))]
theorem first44 {d : List Int} (hD : Dirs d) : firstSome (firstF d 44 true) d.length 0 = firstSome (isR d) d.length 0 :=
  firstSome_congr fun j _ hj => by unfold firstF isR; rw [tb44 (hD j (by omega))]
theorem first4092 {d : List Int} (hD : Dirs d) : firstSome (firstF d 4092 false) d.length 0 = firstSome (is1 d) d.length 0 :=
  firstSome_congr fun j _ hj => by unfold firstF is1; rw [tb4092 (hD j (by omega))]; by_cases h : d.getD j 0 = 1 <;> simp [h]
theorem neutral_eq : m_bidi_neutral = some 4032 := by
  unfold m_bidi_neutral
  rw [of_eq' _ (by decide) (by decide)]; rfl
theorem of14 : m_bidi_of [1, 4] = some 18 := by rw [of_eq' _ (by decide) (by decide)]; rfl
theorem of2354 : m_bidi_of [2, 3, 5, 4] = some 60 := by rw [of_eq' _ (by decide) (by decide)]; rfl
theorem of2345 : m_bidi_of [2, 3, 4, 5] = some 60 := by rw [of_eq' _ (by decide) (by decide)]; rfl
theorem of235 : m_bidi_of [2, 3, 5] = some 44 := by rw [of_eq' _ (by decide) (by decide)]; rfl
theorem or1 : ior .u64 4032 18 = ((4050 : Nat) : Int) := by rw [show (4032 : Int) = ((4032 : Nat) : Int) from rfl, show (18 : Int) = ((18 : Nat) : Int) from rfl, ior_nat (by omega) (by omega)]; rfl
theorem or2 : ior .u64 4032 60 = ((4092 : Nat) : Int) := by rw [show (4032 : Int) = ((4032 : Nat) : Int) from rfl, show (60 : Int) = ((60 : Nat) : Int) from rfl, ior_nat (by omega) (by omega)]; rfl
theorem fs_nonneg {f : Nat → Option Int} (hf : ∀ i v, f i = some v → v = (i : Int)) {k i : Nat} {v : Int} (h : firstSome f k i = some v) : 0 ≤ v := by
  obtain ⟨j, _, _, hj, _⟩ := firstSome_some h
  have := hf j v hj
  omega
theorem isR_val (d : List Int) : ∀ i v, isR d i = some v → v = (i : Int) := fun i v h => by unfold isR at h; split at h <;> cases h; rfl
theorem is1_val (d : List Int) : ∀ i v, is1 d i = some v → v = (i : Int) := fun i v h => by unfold is1 at h; split at h <;> cases h; rfl
theorem bothF_val (d : List Int) : ∀ i v, bothF d i = some v → v = (i : Int) := fun i v h => by unfold bothF at h; split at h <;> cases h; rfl
theorem broken_eq {p : T_api_Props} (h : RightP p) (l : List Int) (hl : l.length ≤ 1000) : m_bidi_Broken p l = some (brF (dirs p l)) := by
  unfold m_bidi_Broken
  rw [row_eq h l hl, bind_some']
  have hD := dirs_dirs h l
  have hld : (dirs p l).length ≤ 1000 := by rw [dirs_len]; exact hl
  generalize dirs p l = d at hD hld
  unfold brF
  by_cases h0 : d.length = 0
  · rw [if_pos h0, h0]; rfl
  rw [if_neg h0, show (((d.length : Nat) : Int) == 0) = false from beq_false_of_ne (by omega), cond_false, last_eq d hld, bind_some', if_pos ⟨by omega, by omega⟩]
  have ha := hD 0 (by omega)
  by_cases h1 : d.getD 0 0 = 1
  · obtain ⟨e, he⟩ := endN_some (d := d) (by rw [h1]; decide) (n := d.length) (by omega)
    have hel := (endN_lt he).1
    have hz := hD e hel
    rw [he, h1, if_neg (by decide), if_neg (by decide)]
    simp only [Option.getD_some, show ((1 : Int) == 1) = true from rfl, cond_true]
    rw [neutral_eq, of14]
    simp only [bind_some']
    rw [or1, bfirst_eq hD hld (by omega), first4050 hD, bind_some']
    cases hf : firstSome (isR d) d.length 0 with
    | some v =>
      have := fs_nonneg (isR_val d) hf
      simp only [Option.getD_some, decide_eq_true (show v ≥ 0 from this), cond_true, bind_some']
    | none =>
      simp only [Option.getD_none, show (decide ((-1 : Int) ≥ 0)) = false from rfl, cond_false]
      rw [if_pos ⟨by omega, by omega⟩, Int.toNat_natCast, show (18 : Int) = ((18 : Nat) : Int) from rfl, has_nat (by omega) (by omega) (by omega), tb18 hz, bind_some']
      by_cases hc : d.getD e 0 = 1 ∨ d.getD e 0 = 4
      · rw [decide_eq_true hc, if_neg (by omega)]; rfl
      · rw [decide_eq_false hc, if_pos (by omega)]; rfl
  · by_cases h2 : d.getD 0 0 = 2 ∨ d.getD 0 0 = 3
    · obtain ⟨e, he⟩ := endN_some (d := d) (by omega) (n := d.length) (by omega)
      have hel := (endN_lt he).1
      have hz := hD e hel
      have hK : m_bidi_Broken_K4 d (e : Int) () = some (match firstSome (is1 d) d.length 0 with
          | some i => (2, i)
          | none => if d.getD e 0 > 5 then (3, (e : Int)) else match firstSome (bothF d) d.length 0 with | some i => (4, i) | none => (0, 0)) := by
        unfold m_bidi_Broken_K4
        rw [neutral_eq, of2354, of2345]
        simp only [bind_some']
        rw [or2, bfirst_eq hD hld (by omega), first4092 hD, bind_some']
        cases hf : firstSome (is1 d) d.length 0 with
        | some v =>
          have := fs_nonneg (is1_val d) hf
          simp only [Option.getD_some, decide_eq_true (show v ≥ 0 from this), cond_true]
        | none =>
          have hne : d.getD e 0 ≠ 1 := fun hq => by
            have := firstSome_none.1 hf e (Nat.zero_le _) (by omega)
            unfold is1 at this
            rw [if_pos hq] at this
            cases this
          simp only [Option.getD_none, show (decide ((-1 : Int) ≥ 0)) = false from rfl, cond_false]
          rw [if_pos ⟨by omega, by omega⟩, Int.toNat_natCast, show (60 : Int) = ((60 : Nat) : Int) from rfl, has_nat (by omega) (by omega) (by omega), tb60 hz, bind_some']
          by_cases hc : d.getD e 0 > 5
          · rw [if_pos hc, decide_eq_false (by omega)]; rfl
          · rw [if_neg hc, decide_eq_true ⟨hne, by omega⟩, both_eq hD hld]
            simp only [Bool.not_true, cond_false, bind_some']
            cases hb : firstSome (bothF d) d.length 0 with
            | some v =>
              have := fs_nonneg (bothF_val d) hb
              simp only [Option.getD_some, decide_eq_true (show v ≥ 0 from this), cond_true]
            | none => rfl
      rw [he, if_neg (by omega), if_pos (by omega), beq_false_of_ne h1]
      simp only [Option.getD_some, cond_false]
      rw [← hK]
      rcases h2 with h2 | h2 <;> rw [h2] <;> rfl
    · rw [if_pos (by omega), beq_false_of_ne h1, beq_false_of_ne (show d.getD 0 0 ≠ 2 by omega), beq_false_of_ne (show d.getD 0 0 ≠ 3 by omega)]; rfl
theorem brokenR_eq {p : T_api_Props} (h : RightP p) (l : List Int) (hl : l.length ≤ 1000) : m_eponymref09_Broken p l = some (brF (dirs p l)) := by
  have hD := dirs_dirs h l
  have hdl := dirs_len p l
  have hget : ∀ i, i < l.length → dirF p (l.getD i 0) = (dirs p l).getD i 0 := fun i hi => (dirs_get p l hi).symm
  -- the four loops
  have loop1 : iter (m_eponymref09_Broken_L42 p l) 0 = some (match firstSome (is1 (dirs p l)) l.length 0 with | some v => .inr (2, v) | none => .inl ()) := by
    have key := iter_scan (body := m_eponymref09_Broken_L42 p l) l.length (fun i => if (dirs p l).getD i 0 = 1 then some ((2 : Int), (i : Int)) else none) (fun i hi _ => ?_) (fun _ => ?_)
    · rw [key]
      have e : ∀ k i, firstSome (fun i => if (dirs p l).getD i 0 = 1 then some ((2 : Int), (i : Int)) else none) k i = (firstSome (is1 (dirs p l)) k i).map fun v => (2, v) := by
        intro k
        induction k with
        | zero => intro i; rfl
        | succ k ih =>
          intro i
          rw [firstSome, firstSome, is1]
          by_cases hq : (dirs p l).getD i 0 = 1
          · simp only [if_pos hq, Option.map_some]
          · simp only [if_neg hq, ih]
      rw [e]
      cases firstSome (is1 (dirs p l)) l.length 0 <;> rfl
    · unfold m_eponymref09_Broken_L42
      rw [decide_eq_true (by omega), cond_true, if_pos ⟨by omega, by omega⟩, Int.toNat_natCast, dirR_eq h, bind_some', hget i hi, up (by omega)]
      by_cases hq : (dirs p l).getD i 0 = 1
      · rw [if_pos hq, hq]; rfl
      · rw [if_neg hq, beq_false_of_ne hq]; rfl
    · unfold m_eponymref09_Broken_L42
      rw [decide_eq_false (by omega)]; rfl
  have loop2 : iter (m_eponymref09_Broken_L12 p l) 0 = some (match firstSome (isR (dirs p l)) l.length 0 with | some v => .inr (5, v) | none => .inl ()) := by
    have key := iter_scan (body := m_eponymref09_Broken_L12 p l) l.length (fun i => if isRB ((dirs p l).getD i 0) = true then some ((5 : Int), (i : Int)) else none) (fun i hi _ => ?_) (fun _ => ?_)
    · rw [key]
      have e : ∀ k i, firstSome (fun i => if isRB ((dirs p l).getD i 0) = true then some ((5 : Int), (i : Int)) else none) k i = (firstSome (isR (dirs p l)) k i).map fun v => (5, v) := by
        intro k
        induction k with
        | zero => intro i; rfl
        | succ k ih =>
          intro i
          rw [firstSome, firstSome, isR]
          by_cases hq : isRB ((dirs p l).getD i 0) = true
          · simp only [if_pos hq, Option.map_some]
          · simp only [if_neg hq, ih]
      rw [e]
      cases firstSome (isR (dirs p l)) l.length 0 <;> rfl
    · unfold m_eponymref09_Broken_L12 isRB
      rw [decide_eq_true (by omega), cond_true, if_pos ⟨by omega, by omega⟩, Int.toNat_natCast, dirR_eq h, bind_some', hget i hi]
      unfold m_eponymref09_Broken_K16
      rw [up (by omega)]
      cases ((dirs p l).getD i 0 == 2) <;> cases ((dirs p l).getD i 0 == 3) <;> cases ((dirs p l).getD i 0 == 5) <;> rfl
    · unfold m_eponymref09_Broken_L12
      rw [decide_eq_false (by omega)]; rfl
  have loop3 : iter (m_eponymref09_Broken_L27 p l) (false, false, 0) = some (match firstSome (bothF (dirs p l)) l.length 0 with | some v => .inr (4, v) | none => .inl ()) := by
    have key : ∀ (k i : Nat), i + k = l.length → iter (m_eponymref09_Broken_L27 p l) (seenK (dirs p l) 4 i, seenK (dirs p l) 5 i, (i : Int)) = some (match firstSome (bothF (dirs p l)) k i with | some v => .inr (4, v) | none => .inl ()) := by
      intro k
      induction k with
      | zero =>
        intro i hi
        refine iter_done ?_
        unfold m_eponymref09_Broken_L27
        simp only [decide_eq_false (show ¬ (i : Int) < ((l.length : Nat) : Int) by omega)]; rfl
      | succ k ih =>
        intro i hi
        have hil : i < l.length := by omega
        have hbody : m_eponymref09_Broken_L27 p l (seenK (dirs p l) 4 i, seenK (dirs p l) 5 i, (i : Int)) = some (match bothF (dirs p l) i with | some v => .done (.inr (4, v)) | none => .next (seenK (dirs p l) 4 (i + 1), seenK (dirs p l) 5 (i + 1), ((i + 1 : Nat) : Int))) := by
          unfold m_eponymref09_Broken_L27 m_eponymref09_Broken_K30 m_eponymref09_Broken_K32 m_eponymref09_Broken_K34 bothF
          rw [decide_eq_true (show (i : Int) < ((l.length : Nat) : Int) by omega), seenK_succ _ 4 (show i < (dirs p l).length by omega), seenK_succ _ 5 (show i < (dirs p l).length by omega)]
          simp only [cond_true, if_pos (show 0 ≤ (i : Int) ∧ (i : Int) < ((l.length : Nat) : Int) by omega), Int.toNat_natCast, dirR_eq h, bind_some', hget i hil, up (show i < 9223372036854775807 by omega)]
          cases seenK (dirs p l) 4 i <;> cases seenK (dirs p l) 5 i <;> cases ((dirs p l).getD i 0 == 4) <;> cases ((dirs p l).getD i 0 == 5) <;> rfl
        rw [firstSome]
        cases hb : bothF (dirs p l) i with
        | none => rw [hb] at hbody; rw [iter_next hbody]; exact ih (i + 1) (by omega)
        | some v => rw [hb] at hbody; rw [iter_done hbody]
    have h0 := key l.length 0 (by omega)
    exact h0
  unfold m_eponymref09_Broken brF
  by_cases h0 : l.length = 0
  · rw [if_pos (show (dirs p l).length = 0 by omega), h0]; rfl
  rw [if_neg (show ¬ (dirs p l).length = 0 by omega), show (((l.length : Nat) : Int) == 0) = false from beq_false_of_ne (by omega), cond_false, if_pos ⟨by omega, by omega⟩, dirR_eq h, bind_some', hget 0 (by omega)]
  have ha := hD 0 (by omega)
  by_cases h3 : (dirs p l).getD 0 0 > 3
  · rw [if_pos h3, decide_eq_true h3]; rfl
  rw [if_neg h3, decide_eq_false h3, cond_false, endR_eq h l hl, bind_some', hdl]
  obtain ⟨e, he⟩ := endN_some (d := dirs p l) (by omega) (n := l.length) (by omega)
  have hel := (endN_lt he).1
  rw [he]
  simp only [Option.getD_some]
  rw [if_pos ⟨by omega, by omega⟩, Int.toNat_natCast, dirR_eq h, bind_some', hget e hel]
  by_cases h1 : (dirs p l).getD 0 0 > 1
  · rw [if_pos h1, decide_eq_true h1, cond_true, loop1]
    cases firstSome (is1 (dirs p l)) l.length 0 with
    | some v => rfl
    | none =>
      simp only [bind_some']
      unfold m_eponymref09_Broken_K21
      by_cases h5 : (dirs p l).getD e 0 > 5
      · rw [if_pos h5, decide_eq_true h5]; rfl
      · rw [if_neg h5, decide_eq_false h5, loop3]
        cases firstSome (bothF (dirs p l)) l.length 0 <;> rfl
  · rw [if_neg h1, decide_eq_false h1]
    simp only [cond_false, bind_some']
    unfold m_eponymref09_Broken_K5
    rw [loop2]
    cases firstSome (isR (dirs p l)) l.length 0 with
    | some v => rfl
    | none =>
      simp only [bind_some']
      unfold m_eponymref09_Broken_K7 m_eponymref09_Broken_K9
      by_cases q1 : (dirs p l).getD e 0 = 1
      · rw [q1, if_neg (by omega)]; rfl
      · by_cases q4 : (dirs p l).getD e 0 = 4
        · rw [q4, if_neg (by omega)]; rfl
        · rw [if_pos ⟨q1, q4⟩, bne_iff_ne.2 q1, bne_iff_ne.2 q4]; rfl
end Go.Proofs.YtjhgaacecfmadaaDoor
