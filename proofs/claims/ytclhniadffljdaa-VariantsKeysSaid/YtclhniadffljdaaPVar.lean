/- Variants: sets, keys, counts; what a right family is. No condition. -/
import Derived.Test.YtclhniadffljdaaPBs
import Derived.Test.YtclhniadffljdaaPUtf
namespace Go.Proofs.Ytclhniadffljdaa
open Go Go.SE
set_option linter.unusedVariables false
set_option linter.unusedSimpArgs false
def setO (f : T_api_Family) (r : Int) : Option (List Int) := f.f_Sets.find? fun x => x.any fun z => z == r
def setF (f : T_api_Family) (r : Int) : List Int := (setO f r).getD []
theorem in_eq (l : List Int) (r : Int) (hl : l.length ≤ 2000) : m_eponymref19_in l r = some (l.any fun z => z == r) := by
  unfold m_eponymref19_in
  rw [iter_scan l.length (fun i => if (l.getD i 0 == r) = true then some true else none) (fun i hi _ => ?_) (fun _ => ?_)]
  · rw [← any_scan' l 0 fun z => z == r]
    cases firstSome (fun i => if (l.getD i 0 == r) = true then some true else none) l.length 0 <;> rfl
  · unfold m_eponymref19_in_L5
    rw [decide_eq_true (by omega), cond_true, if_pos ⟨by omega, by omega⟩, Int.toNat_natCast, up (by omega)]
    cases (l.getD i 0 == r) <;> rfl
  · unfold m_eponymref19_in_L5
    rw [decide_eq_false (by omega)]; rfl
structure Small (f : T_api_Family) : Prop where
  sets : f.f_Sets.length ≤ 20
  each : ∀ x ∈ f.f_Sets, x.length ≤ 20
theorem refSet_eq (f : T_api_Family) (hs : Small f) (r : Int) : m_eponymref19_Set f r = some (setF f r) := by
  unfold m_eponymref19_Set setF setO
  have hset := hs.sets
  have key : ∀ (k i : Nat), i + k = f.f_Sets.length → iter (m_eponymref19_Set_L5 f r) (i : Int) = some (match (f.f_Sets.drop i).find? (fun x => x.any fun z => z == r) with | some x => .inr x | none => .inl ()) := by
    intro k
    induction k with
    | zero =>
      intro i hi
      rw [List.drop_of_length_le (by omega)]
      refine iter_done ?_
      unfold m_eponymref19_Set_L5
      rw [decide_eq_false (by omega)]; rfl
    | succ k ih =>
      intro i hi
      have hx := hs.each _ (getD_mem (d := ([] : List Int)) (show i < f.f_Sets.length by omega))
      rw [drop_getD (d := ([] : List Int)) (show i < f.f_Sets.length by omega), List.find?_cons]
      cases hin : (f.f_Sets.getD i []).any fun z => z == r with
      | true =>
        refine iter_done ?_
        unfold m_eponymref19_Set_L5
        rw [decide_eq_true (by omega), cond_true, if_pos ⟨by omega, by omega⟩, Int.toNat_natCast, in_eq _ _ (by omega), bind_some', hin, cond_true, if_pos ⟨by omega, by omega⟩]
      | false =>
        simp only
        rw [← ih (i + 1) (by omega)]
        refine iter_next ?_
        unfold m_eponymref19_Set_L5
        rw [decide_eq_true (by omega), cond_true, if_pos ⟨by omega, by omega⟩, Int.toNat_natCast, in_eq _ _ (by omega), bind_some', hin, cond_false, up (by omega)]
  rw [show (0 : Int) = ((0 : Nat) : Int) from rfl, key f.f_Sets.length 0 (by omega), List.drop_zero, bind_some']
  cases f.f_Sets.find? (fun x => x.any fun z => z == r) <;> rfl
theorem vfind_eq (f : T_api_Family) (hs : Small f) (hr : ∀ x ∈ f.f_Sets, risingL x) (r : Int) : m_variants_find f r = some (setF f r) := by
  unfold m_variants_find setF setO
  have hset := hs.sets
  have key : ∀ (k i : Nat), i + k = f.f_Sets.length → iter (m_variants_find_L5 f r) (i : Int) = some (match (f.f_Sets.drop i).find? (fun x => x.any fun z => z == r) with | some x => .inr x | none => .inl ()) := by
    intro k
    induction k with
    | zero =>
      intro i hi
      rw [List.drop_of_length_le (by omega)]
      refine iter_done ?_
      unfold m_variants_find_L5
      rw [decide_eq_false (by omega)]; rfl
    | succ k ih =>
      intro i hi
      have hm := getD_mem (d := ([] : List Int)) (show i < f.f_Sets.length by omega)
      have hx := hs.each _ hm
      obtain ⟨y, hy⟩ := bs_eq (f.f_Sets.getD i []) r (by omega) (hr _ hm)
      rw [drop_getD (d := ([] : List Int)) (show i < f.f_Sets.length by omega), List.find?_cons]
      cases hin : (f.f_Sets.getD i []).any fun z => z == r with
      | true =>
        refine iter_done ?_
        unfold m_variants_find_L5
        rw [decide_eq_true (by omega), cond_true, if_pos ⟨by omega, by omega⟩, Int.toNat_natCast, hy, bind_some', hin, cond_true]
      | false =>
        simp only
        rw [← ih (i + 1) (by omega)]
        refine iter_next ?_
        unfold m_variants_find_L5
        rw [decide_eq_true (by omega), cond_true, if_pos ⟨by omega, by omega⟩, Int.toNat_natCast, hy, bind_some', hin, cond_false, up (by omega)]
  rw [show (0 : Int) = ((0 : Nat) : Int) from rfl, key f.f_Sets.length 0 (by omega), List.drop_zero, bind_some']
  cases f.f_Sets.find? (fun x => x.any fun z => z == r) <;> rfl
theorem set_len {f : T_api_Family} (hs : Small f) (r : Int) : (setF f r).length ≤ 20 := by
  unfold setF
  cases h : setO f r with
  | none => exact Nat.zero_le _
  | some x => exact hs.each x (List.mem_of_find?_eq_some h)
/-! ### Keys -/
def keyR (f : T_api_Family) (r : Int) : Int := if 0 < (setF f r).length then (setF f r).getD 0 0 else r
theorem refKey_eq (f : T_api_Family) (hs : Small f) (l : List Int) (hl : l.length ≤ 1000) : m_eponymref19_Key f l = some (l.map (keyR f)) := by
  unfold m_eponymref19_Key
  have key : ∀ (k i : Nat), i + k = l.length → iter (m_eponymref19_Key_L5 f l) ((l.take i).map (keyR f), (i : Int)) = some (l.map (keyR f)) := by
    intro k
    induction k with
    | zero =>
      intro i hi
      obtain rfl : i = l.length := by omega
      refine iter_done ?_
      unfold m_eponymref19_Key_L5
      simp only
      rw [decide_eq_false (by omega), List.take_length]; rfl
    | succ k ih =>
      intro i hi
      rw [← ih (i + 1) (by omega)]
      refine iter_next ?_
      have e : (l.take i).map (keyR f) ++ [keyR f (l.getD i 0)] = (l.take (i + 1)).map (keyR f) := by
        have e1 : l.getD i 0 = l[i]'(by omega) := by simp [List.getD_eq_getElem?_getD, show i < l.length by omega]
        rw [List.take_succ_eq_append_getElem (show i < l.length by omega), List.map_append, List.map_cons, List.map_nil, e1]
      unfold m_eponymref19_Key_L5
      simp only [Int.toNat_natCast]
      rw [decide_eq_true (by omega), cond_true, if_pos ⟨by omega, by omega⟩, refSet_eq f hs, bind_some', up (by omega), ← e]
      unfold keyR
      by_cases h0 : 0 < (setF f (l.getD i 0)).length
      · rw [decide_eq_true (by omega), cond_true, if_pos ⟨by omega, by omega⟩, if_pos (by simp; omega), if_pos h0]
      · rw [decide_eq_false (by omega), cond_false, if_pos (by simp; omega), if_neg h0]
  have := key l.length 0 (by omega)
  simp only [List.take_zero, List.map_nil] at this
  rw [show (0 : Int) = ((0 : Nat) : Int) from rfl, this]; rfl
theorem key_eq (f : T_api_Family) (hs : Small f) (hr : ∀ x ∈ f.f_Sets, risingL x) (l : List Int) (hl : l.length ≤ 1000) : m_variants_Key f l = some (l.map (keyR f)) := by
  unfold m_variants_Key
  have key : ∀ (k i : Nat), i + k = l.length → iter (m_variants_Key_L5 f l) ((l.take i).map (keyR f) ++ l.drop i, (i : Int)) = some (l.map (keyR f)) := by
    intro k
    induction k with
    | zero =>
      intro i hi
      obtain rfl : i = l.length := by omega
      refine iter_done ?_
      unfold m_variants_Key_L5
      simp only
      rw [decide_eq_false (by omega), List.take_length, List.drop_length, List.append_nil]; rfl
    | succ k ih =>
      intro i hi
      have hil : i < l.length := by omega
      rw [← ih (i + 1) (by omega)]
      refine iter_next ?_
      have hlen : ((l.take i).map (keyR f)).length = i := by simp; omega
      have hg : ((l.take i).map (keyR f) ++ l.drop i).getD i 0 = l.getD i 0 := by
        rw [List.getD_eq_getElem?_getD, List.getElem?_append_right (by omega), hlen, Nat.sub_self, List.getElem?_drop, Nat.add_zero, ← List.getD_eq_getElem?_getD]
      have e : ((l.take i).map (keyR f) ++ l.drop i).set i (keyR f (l.getD i 0)) = (l.take (i + 1)).map (keyR f) ++ l.drop (i + 1) := by
        rw [List.set_append_right _ _ (by omega), hlen, Nat.sub_self, drop_getD (d := (0 : Int)) hil, List.set_cons_zero, List.take_succ_eq_append_getElem hil, List.map_append, List.map_cons, List.map_nil, List.append_assoc]
        have e1 : l.getD i 0 = l[i] := by simp [List.getD_eq_getElem?_getD, hil]
        rw [e1]; rfl
      have e0 : keyR f (l.getD i 0) = l.getD i 0 → (l.take i).map (keyR f) ++ l.drop i = (l.take (i + 1)).map (keyR f) ++ l.drop (i + 1) := fun h => by
        rw [← e, h, drop_getD (d := (0 : Int)) hil, List.set_append_right _ _ (by omega), hlen, Nat.sub_self, List.set_cons_zero]
      have hll : ((l.take i).map (keyR f) ++ l.drop i).length = l.length := by simp; omega
      unfold m_variants_Key_L5
      simp only [Int.toNat_natCast]
      rw [decide_eq_true (by omega), cond_true, if_pos ⟨by omega, by omega⟩, hg, vfind_eq f hs hr, bind_some', up (by omega)]
      by_cases h0 : 0 < (setF f (l.getD i 0)).length
      · have hk : keyR f (l.getD i 0) = (setF f (l.getD i 0)).getD 0 0 := by unfold keyR; rw [if_pos h0]
        rw [decide_eq_true (by omega), cond_true, if_pos ⟨by omega, by omega⟩, if_pos ⟨by omega, by omega⟩, ← hk, e]
      · have hk : keyR f (l.getD i 0) = l.getD i 0 := by unfold keyR; rw [if_neg h0]
        rw [decide_eq_false (by omega), cond_false, e0 hk]
  have := key l.length 0 (by omega)
  simp only [List.take_zero, List.map_nil, List.nil_append, List.drop_zero] at this
  have hm : mkOk 4 ((l.length : Nat) : Int) := ⟨by omega, by omega, by omega⟩
  rw [if_pos hm, Nat.min_self, List.take_length, List.drop_of_length_le (by simp), List.append_nil, show (0 : Int) = ((0 : Nat) : Int) from rfl, this]; rfl
/-! ### Counts -/
def cntF (f : T_api_Family) : List Int → Int → Int
  | [], n => n
  | r :: l, n => cntF f l (min (n * max ((setF f r).length : Int) 1) 1073741824)
theorem count_eq (f : T_api_Family) (hs : Small f) (hr : ∀ x ∈ f.f_Sets, risingL x) (l : List Int) (hl : l.length ≤ 1000) : m_variants_Count f l = some (cntF f l 1) ∧ m_eponymref19_Count f l = some (cntF f l 1) := by
  have key : ∀ (k i : Nat) (n : Int), i + k = l.length → 0 ≤ n → n ≤ 1073741824 → iter (m_variants_Count_L5 f l) (n, (i : Int)) = some (cntF f (l.drop i) n) ∧ iter (m_eponymref19_Count_L5 f l) (n, (i : Int)) = some (cntF f (l.drop i) n) := by
    intro k
    induction k with
    | zero =>
      intro i n hi h0 h1
      rw [List.drop_of_length_le (by omega)]
      refine ⟨iter_done ?_, iter_done ?_⟩
      · unfold m_variants_Count_L5
        simp only
        rw [decide_eq_false (by omega)]; rfl
      · unfold m_eponymref19_Count_L5
        simp only
        rw [decide_eq_false (by omega)]; rfl
    | succ k ih =>
      intro i n hi h0 h1
      have hx := set_len hs (l.getD i 0)
      obtain ⟨q, hq⟩ : ∃ q : Nat, (setF f (l.getD i 0)).length = q := ⟨_, rfl⟩
      rw [hq] at hx
      rw [drop_getD (d := (0 : Int)) (show i < l.length by omega), cntF, hq]
      have hm : 0 ≤ n * max (q : Int) 1 ∧ n * max (q : Int) 1 ≤ 21474836480 := by
        have : max (q : Int) 1 ≤ 20 := by omega
        have h3 : (0 : Int) ≤ max (q : Int) 1 := by omega
        exact ⟨Int.mul_nonneg h0 h3, Int.le_trans (Int.mul_le_mul h1 this h3 (by decide)) (by decide)⟩
      have i1 := ih (i + 1) (min (n * max (q : Int) 1) 1073741824) (by omega) (by omega) (by omega)
      rw [← i1.1]
      refine ⟨iter_next ?_, ?_⟩
      · unfold m_variants_Count_L5
        simp only [Int.toNat_natCast]
        rw [decide_eq_true (by omega), cond_true, if_pos ⟨by omega, by omega⟩, vfind_eq f hs hr, bind_some', hq, up (by omega), w64 (by omega) (by omega)]
      · rw [i1.1, ← i1.2]
        refine iter_next ?_
        unfold m_eponymref19_Count_L5 m_eponymref19_Count_K8
        simp only [Int.toNat_natCast]
        rw [decide_eq_true (by omega), cond_true, if_pos ⟨by omega, by omega⟩, refSet_eq f hs, bind_some', hq, up (by omega)]
        have fin : ∀ m : Int, m = n * max (q : Int) 1 → (bif decide (m > 1073741824) then some (Stp.next ((1073741824 : Int), ((i + 1 : Nat) : Int))) else some (.next (m, ((i + 1 : Nat) : Int))) : Option (Stp (Int × Int) Int)) = some (.next (min (n * max (q : Int) 1) 1073741824, ((i + 1 : Nat) : Int))) := fun m hm => by
          subst hm
          by_cases hgt : n * max (q : Int) 1 > 1073741824
          · rw [decide_eq_true hgt, cond_true, Int.min_eq_right (by omega)]
          · rw [decide_eq_false hgt, cond_false, Int.min_eq_left (by omega)]
        by_cases hq0 : 0 < q
        · have e1 : max (q : Int) 1 = q := by omega
          rw [e1] at hm
          rw [decide_eq_true (by omega), cond_true, bind_some', w64 (by omega) (by omega)]
          exact fin _ (by rw [e1])
        · have e1 : max (q : Int) 1 = 1 := by omega
          rw [decide_eq_false (by omega), cond_false, bind_some']
          exact fin _ (by rw [e1, Int.mul_one])
  have := key l.length 0 1 (by omega) (by decide) (by decide)
  rw [List.drop_zero] at this
  unfold m_variants_Count m_eponymref19_Count
  rw [show (0 : Int) = ((0 : Nat) : Int) from rfl, this.1, this.2]
  exact ⟨rfl, rfl⟩
end Go.Proofs.Ytclhniadffljdaa
