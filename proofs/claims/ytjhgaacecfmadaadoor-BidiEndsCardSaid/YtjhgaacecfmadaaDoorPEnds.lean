/- The law of ends: a right label stays right behind marks. No condition. -/
import Derived.Test.YtjhgaacecfmadaaDoorPBidi3a
import Derived.Test.YtjhgaacecfmadaaDoorPCheckE
namespace Go.Proofs.YtjhgaacecfmadaaDoor
open Go Go.SE
set_option linter.unusedVariables false
set_option linter.unusedSimpArgs false
def lastD (d : List Int) : Int := d.getD ((endN d d.length).getD 0) 0
theorem all_of_none {d : List Int} {f : Nat → Option Int} {q : Int → Prop} [DecidablePred q] (hf : ∀ i, f i = if q (d.getD i 0) then some (i : Int) else none) : firstSome f d.length 0 = none ↔ ∀ x ∈ d, ¬ q x := by
  rw [firstSome_none]
  refine ⟨fun h x hx => ?_, fun h j _ hj => ?_⟩
  · obtain ⟨i, hi, rfl⟩ := List.getElem_of_mem hx
    have := h i (Nat.zero_le _) (by omega)
    rw [hf] at this
    have e : d.getD i 0 = d[i] := by simp [List.getD_eq_getElem?_getD, hi]
    rw [e] at this
    intro hq
    rw [if_pos hq] at this
    cases this
  · rw [hf, if_neg (h _ (getD_mem (by omega)))]
theorem both_none {d : List Int} : firstSome (bothF d) d.length 0 = none ↔ ¬ (4 ∈ d ∧ 5 ∈ d) := by
  rw [firstSome_none]
  refine ⟨fun h ⟨h4, h5⟩ => ?_, fun h j _ hj => ?_⟩
  · have hl : 0 < d.length := List.length_pos_of_mem h4
    have := h (d.length - 1) (Nat.zero_le _) (by omega)
    unfold bothF seenK at this
    rw [show d.length - 1 + 1 = d.length by omega, List.take_length] at this
    rw [List.any_eq_true.2 ⟨4, h4, rfl⟩, List.any_eq_true.2 ⟨5, h5, rfl⟩] at this
    cases this
  · unfold bothF seenK
    rw [if_neg]
    intro hc
    rw [Bool.and_eq_true, List.any_eq_true, List.any_eq_true] at hc
    obtain ⟨⟨x, hx, ex⟩, ⟨y, hy, ey⟩⟩ := hc
    have ex : x = 4 := by simpa using ex
    have ey : y = 5 := by simpa using ey
    subst ex; subst ey
    exact h ⟨List.mem_of_mem_take hx, List.mem_of_mem_take hy⟩
def goodD (d : List Int) : Prop := d.length ≠ 0 ∧ d.getD 0 0 ≤ 3 ∧ (d.getD 0 0 > 1 → (∀ x ∈ d, ¬ x = 1) ∧ lastD d ≤ 5 ∧ ¬ (4 ∈ d ∧ 5 ∈ d)) ∧ (¬ d.getD 0 0 > 1 → (∀ x ∈ d, ¬ isRB x = true) ∧ (lastD d = 1 ∨ lastD d = 4))
theorem br_good (d : List Int) : (brF d).1 = 0 ↔ goodD d := by
  have h1 := all_of_none (d := d) (f := is1 d) (q := fun x => x = 1) fun i => rfl
  have hR := all_of_none (d := d) (f := isR d) (q := fun x => isRB x = true) fun i => rfl
  have hB := both_none (d := d)
  unfold brF goodD
  show (if d.length = 0 then ((1 : Int), (0 : Int)) else if d.getD 0 0 > 3 then (1, 0) else if d.getD 0 0 > 1 then
    match firstSome (is1 d) d.length 0 with
    | some i => (2, i)
    | none => if lastD d > 5 then (3, (((endN d d.length).getD 0 : Nat) : Int)) else match firstSome (bothF d) d.length 0 with | some i => (4, i) | none => (0, 0)
    else match firstSome (isR d) d.length 0 with
    | some i => (5, i)
    | none => if lastD d ≠ 1 ∧ lastD d ≠ 4 then (6, (((endN d d.length).getD 0 : Nat) : Int)) else (0, 0)).1 = 0 ↔ _
  by_cases a1 : d.length = 0
  · rw [if_pos a1]; simp [a1]
  · rw [if_neg a1]
    by_cases a2 : d.getD 0 0 > 3
    · rw [if_pos a2]; exact ⟨fun h => by simp at h, fun h => by omega⟩
    · rw [if_neg a2]
      by_cases a3 : d.getD 0 0 > 1
      · rw [if_pos a3]
        cases f1 : firstSome (is1 d) d.length 0 with
        | some v => exact ⟨fun h => by simp at h, fun h => by rw [h1.2 (h.2.2.1 a3).1] at f1; cases f1⟩
        | none =>
          by_cases a4 : lastD d > 5
          · rw [if_pos a4]; exact ⟨fun h => by simp at h, fun h => by have := (h.2.2.1 a3).2.1; omega⟩
          · rw [if_neg a4]
            cases f2 : firstSome (bothF d) d.length 0 with
            | some v => exact ⟨fun h => by simp at h, fun h => by rw [hB.2 (h.2.2.1 a3).2.2] at f2; cases f2⟩
            | none => exact ⟨fun _ => ⟨a1, by omega, fun _ => ⟨h1.1 f1, by omega, hB.1 f2⟩, fun h => absurd a3 h⟩, fun _ => rfl⟩
      · rw [if_neg a3]
        cases f1 : firstSome (isR d) d.length 0 with
        | some v => exact ⟨fun h => by simp at h, fun h => by rw [hR.2 (h.2.2.2 a3).1] at f1; cases f1⟩
        | none =>
          by_cases a4 : lastD d ≠ 1 ∧ lastD d ≠ 4
          · rw [if_pos a4]; exact ⟨fun h => by simp at h, fun h => by have := (h.2.2.2 a3).2; omega⟩
          · rw [if_neg a4]; exact ⟨fun _ => ⟨a1, by omega, fun h => absurd h a3, fun _ => ⟨hR.1 f1, by omega⟩⟩, fun _ => rfl⟩
/-! ### Marks behind -/
theorem endN_app (d e : List Int) : ∀ n, n ≤ d.length → endN (d ++ e) n = endN d n
  | 0, _ => rfl
  | n + 1, h => by
    rw [endN, endN, endN_app d e n (by omega)]
    have : (d ++ e).getD n 0 = d.getD n 0 := by simp [List.getD_eq_getElem?_getD, List.getElem?_append_left (show n < d.length by omega)]
    rw [this]
theorem endN_rep (d : List Int) : ∀ m, endN (d ++ List.replicate m 10) (d.length + m) = endN d d.length
  | 0 => by simp
  | m + 1 => by
    have key : ∀ k, k ≤ m + 1 → endN (d ++ List.replicate (m + 1) 10) (d.length + k) = endN d d.length := by
      intro k
      induction k with
      | zero => intro _; exact endN_app d _ _ (Nat.le_refl _)
      | succ k ih =>
        intro hk
        rw [show d.length + (k + 1) = (d.length + k) + 1 from rfl, endN, ih (by omega)]
        have : (d ++ List.replicate (m + 1) (10 : Int)).getD (d.length + k) 0 = 10 := by
          rw [List.getD_eq_getElem?_getD, List.getElem?_append_right (by omega), List.getElem?_replicate, if_pos (by omega)]; rfl
        rw [if_neg (fun h => h this)]
    exact key (m + 1) (Nat.le_refl _)
theorem lastD_rep {d : List Int} (h : d.length ≠ 0) (h0 : d.getD 0 0 ≠ 10) (m : Nat) : lastD (d ++ List.replicate m 10) = lastD d := by
  unfold lastD
  rw [List.length_append, List.length_replicate, endN_rep]
  obtain ⟨e, he⟩ := endN_some h0 (n := d.length) (by omega)
  rw [he]
  have := (endN_lt he).1
  simp [List.getD_eq_getElem?_getD, List.getElem?_append_left this]
theorem good_rep {d : List Int} (h : goodD d) (m : Nat) : goodD (d ++ List.replicate m 10) := by
  obtain ⟨g1, g2, g3, g4⟩ := h
  have h0 : (d ++ List.replicate m (10 : Int)).getD 0 0 = d.getD 0 0 := by simp [List.getD_eq_getElem?_getD, List.getElem?_append_left (show 0 < d.length by omega)]
  have hl := lastD_rep g1 (by omega) m
  refine ⟨by rw [List.length_append]; omega, by rw [h0]; exact g2, fun h => ?_, fun h => ?_⟩
  · rw [h0] at h
    obtain ⟨q1, q2, q3⟩ := g3 h
    refine ⟨fun x hx => ?_, by rw [hl]; exact q2, fun ⟨h4, h5⟩ => q3 ⟨?_, ?_⟩⟩
    · rcases List.mem_append.1 hx with hx | hx
      · exact q1 x hx
      · rw [(List.mem_replicate.1 hx).2]; decide
    · rcases List.mem_append.1 h4 with hx | hx
      · exact hx
      · have := (List.mem_replicate.1 hx).2; cases this
    · rcases List.mem_append.1 h5 with hx | hx
      · exact hx
      · have := (List.mem_replicate.1 hx).2; cases this
  · rw [h0] at h
    obtain ⟨q1, q2⟩ := g4 h
    refine ⟨fun x hx => ?_, by rw [hl]; exact q2⟩
    rcases List.mem_append.1 hx with hx | hx
    · exact q1 x hx
    · rw [(List.mem_replicate.1 hx).2]; decide
theorem any_rep (d : List Int) (m : Nat) : (d ++ List.replicate m 10).any isRB = d.any isRB := by
  rw [List.any_append]
  have : (List.replicate m (10 : Int)).any isRB = false := List.any_eq_false.2 fun x hx => by rw [(List.mem_replicate.1 hx).2]; decide
  rw [this, Bool.or_false]
/-! ### The walk of the law -/
theorem ends_last {p : T_api_Props} (h : RightP p) (l : List Int) (hl : l.length ≤ 1000) : ∀ n, n < l.length → iter (m_eponymlaw09_BidiEnds_L27 p l) (n : Int) = some (((endN (dirs p l) (n + 1)).getD 0 : Nat) : Int) := by
  intro n
  induction n with
  | zero =>
    intro hn
    have e : (endN (dirs p l) 1).getD 0 = 0 := by rw [endN]; split <;> rfl
    rw [e]
    refine iter_done ?_
    rfl
  | succ n ih =>
    intro hn
    have hg := dirs_get p l hn
    rw [endN]
    by_cases h10 : (dirs p l).getD (n + 1) 0 = 10
    · rw [if_neg (fun h => h h10), ← ih (by omega)]
      refine iter_next ?_
      unfold m_eponymlaw09_BidiEnds_L27
      rw [decide_eq_true (show ((n + 1 : Nat) : Int) > 0 by omega), cond_true, if_pos ⟨by omega, by omega⟩, Int.toNat_natCast, dir_eq h, bind_some', ← hg, h10, bind_some']
      unfold m_eponymlaw09_BidiEnds_K30
      rw [down (show 0 < n + 1 by omega) (by omega)]; rfl
    · rw [if_pos h10]
      refine iter_done ?_
      unfold m_eponymlaw09_BidiEnds_L27
      rw [decide_eq_true (show ((n + 1 : Nat) : Int) > 0 by omega), cond_true, if_pos ⟨by omega, by omega⟩, Int.toNat_natCast, dir_eq h, bind_some', ← hg, beq_false_of_ne h10, bind_some']
      rfl
theorem ends_more {p : T_api_Props} (h : RightP p) (l more : List Int) (hl : l.length ≤ 20) (hm : more.length ≤ 5) : ∀ (k i : Nat), i + k = more.length → iter (m_eponymlaw09_BidiEnds_L19 p more) (l ++ more.take i, (i : Int)) = some (if (more.drop i).all (fun r => dirF p r == 10) = true then .inl (l ++ more) else .inr true) := by
  intro k
  induction k with
  | zero =>
    intro i hi
    have : i = more.length := by omega
    subst this
    rw [List.take_length, List.drop_length]
    refine iter_done ?_
    unfold m_eponymlaw09_BidiEnds_L19
    simp only
    rw [decide_eq_false (by omega)]; rfl
  | succ k ih =>
    intro i hi
    rw [drop_getD (d := 0) (show i < more.length by omega), List.all_cons]
    by_cases h10 : dirF p (more.getD i 0) = 10
    · rw [h10, beq_self_eq_true, Bool.true_and, ← ih (i + 1) (by omega)]
      refine iter_next ?_
      unfold m_eponymlaw09_BidiEnds_L19
      simp only [Int.toNat_natCast]
      rw [decide_eq_true (by omega), cond_true, if_pos ⟨by omega, by omega⟩, dir_eq h, bind_some', h10, if_pos ⟨by omega, by omega⟩, if_pos (by simp only [List.length_append, List.length_take]; omega), up (by omega)]
      have e : l ++ more.take i ++ [more.getD i 0] = l ++ more.take (i + 1) := by
        rw [List.append_assoc, List.take_succ_eq_append_getElem (show i < more.length by omega)]
        simp [List.getD_eq_getElem?_getD, show i < more.length by omega]
      rw [e]; rfl
    · rw [beq_false_of_ne h10, Bool.false_and]
      refine iter_done ?_
      unfold m_eponymlaw09_BidiEnds_L19
      simp only [Int.toNat_natCast]
      rw [decide_eq_true (by omega), cond_true, if_pos ⟨by omega, by omega⟩, dir_eq h, bind_some', bne_iff_ne.2 h10]; rfl
theorem ends_K11 {p : T_api_Props} (h : RightP p) (l more : List Int) (hl : l.length ≤ 20) (hm : more.length ≤ 5) (hg : goodD (dirs p l)) : m_eponymlaw09_BidiEnds_K11 p l more false = some true := by
  unfold m_eponymlaw09_BidiEnds_K11
  have e := ends_more h l more hl hm more.length 0 (by omega)
  rw [List.take_zero, List.append_nil, List.drop_zero] at e
  rw [cond_false, if_pos (by omega), show (0 : Int) = ((0 : Nat) : Int) from rfl, e, bind_some']
  cases ha : more.all (fun r => dirF p r == 10) with
  | false => rfl
  | true =>
    simp only [if_true]
    unfold m_eponymlaw09_BidiEnds_K13
    have hd : dirs p (l ++ more) = dirs p l ++ List.replicate more.length 10 := by
      unfold dirs
      rw [List.map_append]
      congr 1
      refine List.eq_replicate_iff.2 ⟨List.length_map _, fun x hx => ?_⟩
      obtain ⟨r, hr, rfl⟩ := List.mem_map.1 hx
      simpa using List.all_eq_true.1 ha r hr
    have hlen : (l ++ more).length ≤ 1000 := by rw [List.length_append]; omega
    rw [broken_eq h _ hlen, bind_some', hd, (br_good _).2 (good_rep hg more.length), bright_eq h _ hlen, bright_eq h l (by omega)]
    unfold rightF
    rw [hd, any_rep]
    simp
theorem ends_K7 {p : T_api_Props} (h : RightP p) (l more : List Int) (hl : l.length ≤ 20) (hm : more.length ≤ 5) (hg : goodD (dirs p l)) : m_eponymlaw09_BidiEnds_K7 p l more (((endN (dirs p l) l.length).getD 0 : Nat) : Int) = some true := by
  have hlen := dirs_len p l
  obtain ⟨g1, g2, g3, g4⟩ := id hg
  rw [hlen] at g1
  have hD := dirs_dirs h l
  obtain ⟨e, he⟩ := endN_some (d := dirs p l) (by omega) (n := l.length) (by omega)
  have hel := (endN_lt he).1
  have hlast : lastD (dirs p l) = (dirs p l).getD e 0 := by unfold lastD; rw [hlen, he]; rfl
  rw [he]
  simp only [Option.getD_some]
  unfold m_eponymlaw09_BidiEnds_K7
  rw [if_pos ⟨by omega, by omega⟩, Int.toNat_natCast, dir_eq h, bind_some', if_pos ⟨by omega, by omega⟩, dir_eq h, bind_some', ← dirs_get p l hel, ← dirs_get p l (show 0 < l.length by omega), ← hlast]
  have r0 := hD 0 (by omega)
  have re := hD e (by omega)
  rw [← hlast] at re
  have hmem : lastD (dirs p l) ∈ dirs p l := by rw [hlast]; exact getD_mem (by omega)
  have fin := ends_K11 h l more hl hm hg
  by_cases h1 : (dirs p l).getD 0 0 > 1
  · obtain ⟨q1, q2, q3⟩ := g3 h1
    have n1 := q1 _ hmem
    have hv : lastD (dirs p l) = 2 ∨ lastD (dirs p l) = 3 ∨ lastD (dirs p l) = 4 ∨ lastD (dirs p l) = 5 := by omega
    rw [beq_false_of_ne (show (dirs p l).getD 0 0 ≠ 1 by omega)]
    rcases hv with e | e | e | e <;> rw [e] <;> exact fin
  · have e1 : (dirs p l).getD 0 0 = 1 := by omega
    rw [e1]
    rcases (g4 h1).2 with e | e <;> rw [e] <;> exact fin
theorem law_bidiEnds (p : T_api_Props) (l more : List Int) : m_eponymlaw09_BidiEnds p l more = some true := by
  unfold m_eponymlaw09_BidiEnds
  rw [awake09, bind_some']
  obtain ⟨b, hb, _⟩ := great07 p
  rw [hb, classesCheck_right]
  simp only [Bool.not_true, cond_false, bind_some']
  have yes : m_eponymlaw09_BidiEnds_K3 p l more true = some true := rfl
  cases b with
  | true => exact yes
  | false =>
    by_cases h0 : 20 < l.length
    · rw [decide_eq_true (show ((l.length : Nat) : Int) > 20 by omega)]; exact yes
    · by_cases h1 : 5 < more.length
      · rw [decide_eq_false (show ¬ ((l.length : Nat) : Int) > 20 by omega), decide_eq_true (show ((more.length : Nat) : Int) > 5 by omega)]; exact yes
      · rw [decide_eq_false (show ¬ ((l.length : Nat) : Int) > 20 by omega), decide_eq_false (show ¬ ((more.length : Nat) : Int) > 5 by omega)]
        simp only [cond_false, bind_some']
        by_cases hc : (chk07 p).2 = 0
        · have h : RightP p := hc
          rw [decide_eq_true hc]
          unfold m_eponymlaw09_BidiEnds_K3
          rw [Bool.not_true, cond_false, broken_eq h l (by omega), bind_some']
          by_cases hz : (brF (dirs p l)).1 = 0
          · have hg := (br_good _).1 hz
            have hne : l.length ≠ 0 := by have := hg.1; rwa [dirs_len] at this
            rw [hz, beq_false_of_ne (show ((l.length : Nat) : Int) ≠ 0 by omega), down (by omega) (by omega), ends_last h l (by omega) _ (by omega), show l.length - 1 + 1 = l.length by omega, bind_some', ends_K7 h l more (by omega) (by omega) hg]
            rfl
          · rw [bne_iff_ne.2 hz, cond_true, label_eq h l (by omega), if_neg hz]; rfl
        · rw [decide_eq_false hc]; exact yes
end Go.Proofs.YtjhgaacecfmadaaDoor
