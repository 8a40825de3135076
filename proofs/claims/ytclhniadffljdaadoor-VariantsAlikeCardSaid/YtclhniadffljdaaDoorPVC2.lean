/- The law of a family's checks: the map of what has come; the law. No condition. -/
import Derived.Test.YtclhniadffljdaaDoorPVC
namespace Go.Proofs.YtclhniadffljdaaDoor
open Go Go.SE
set_option linter.unusedVariables false
set_option linter.unusedSimpArgs false
def seenT (f : T_api_Family) (i : Nat) : List Int := (f.f_Sets.take i).flatten
theorem seenT_succ (f : T_api_Family) {i : Nat} (hi : i < f.f_Sets.length) : seenT f (i + 1) = seenT f i ++ setAt f i := by
  unfold seenT setAt
  have e1 : f.f_Sets.getD i [] = f.f_Sets[i] := by simp [List.getD_eq_getElem?_getD, hi]
  rw [List.take_succ_eq_append_getElem hi, List.flatten_append, e1]; simp
theorem seenT_len (f : T_api_Family) (hs : Small f) (i : Nat) : (seenT f i).length ≤ 20 * i := by
  induction i with
  | zero => simp [seenT]
  | succ i ih =>
    by_cases hi : i < f.f_Sets.length
    · rw [seenT_succ f hi, List.length_append]
      have := setAt_len f hs hi
      omega
    · have : seenT f (i + 1) = seenT f i := by unfold seenT; rw [List.take_of_length_le (by omega), List.take_of_length_le (by omega)]
      rw [this]; omega
theorem seenT_any (f : T_api_Family) (i : Nat) (hi : i ≤ f.f_Sets.length) (r : Int) : ((seenT f i).any fun n => n == r) = (List.range' 0 i).any fun j => (setAt f j).any fun z => z == r := by
  induction i with
  | zero => simp [seenT]
  | succ i ih =>
    rw [seenT_succ f (by omega), List.any_append, ih (by omega), List.range'_1_concat, List.any_append]
    simp
theorem any_comm {α β : Type} (l : List α) (m : List β) (p : α → β → Bool) : (l.any fun a => m.any fun b => p a b) = m.any fun b => l.any fun a => p a b := by
  rw [Bool.eq_iff_iff]
  simp only [List.any_eq_true]
  exact ⟨fun ⟨a, ha, b, hb, h⟩ => ⟨b, hb, a, ha, h⟩, fun ⟨b, hb, a, ha, h⟩ => ⟨a, ha, b, hb, h⟩⟩
theorem rise_of {x : List Int} (h : badO x = false) : risingL x := by
  refine rising_of_steps fun i h0 hi => ?_
  unfold badO at h
  rw [List.any_eq_false] at h
  have := h i (List.mem_range'_1.2 ⟨by omega, by omega⟩)
  simp only [decide_eq_true_eq] at this
  omega
theorem right_of {x : List Int} (h : badR x = false) {k : Nat} (hk : k < x.length) : 0 ≤ x.getD k 0 ∧ x.getD k 0 ≤ 1114111 := by
  unfold badR at h
  rw [List.any_eq_false] at h
  have := h k (List.mem_range'_1.2 ⟨by omega, by omega⟩)
  simp only [Bool.not_eq_true', Bool.not_eq_false, rightS, decide_eq_true_eq] at this
  omega
theorem take_any {x : List Int} (h : risingL x) {k : Nat} (hk : k < x.length) : ((x.take k).any fun n => n == x.getD k 0) = false := by
  rw [List.any_eq_false]
  intro y hy
  obtain ⟨j, hj, rfl⟩ := List.getElem_of_mem hy
  have hj' : j < k := by simp at hj; omega
  have := h j k hj' hk
  have e : (x.take k)[j] = x.getD j 0 := by simp [List.getD_eq_getElem?_getD, show j < x.length by omega]
  rw [e]
  simp only [beq_iff_eq]; omega
theorem dupC_eq (f : T_api_Family) (i : Nat) (hi : i ≤ f.f_Sets.length) : dupC f i = (List.range' 0 (setAt f i).length).any fun k => (seenT f i).any fun n => n == (setAt f i).getD k 0 := by
  unfold dupC
  rw [any_comm]
  congr 1
  funext k
  rw [seenT_any f i hi]
theorem inner_eq (f : T_api_Family) (hs : Small f) (i : Nat) (hi : i < f.f_Sets.length) (hR : badR (setAt f i) = false) (hO : badO (setAt f i) = false) (s : Int × List Int) (hs1 : s.1 = (i : Int)) :
    iter (m_variants_Check_L14 f s) ((0 : Int), seenT f i) = some (bif dupC f i then .inr (.box 62 (i : Int) (.sent 2)) else .inl (seenT f (i + 1))) := by
  have hset := hs.sets
  have hx := setAt_len f hs hi
  have hsl := seenT_len f hs i
  have e : f.f_Sets.getD (s.1.toNat) [] = setAt f i := by rw [hs1, Int.toNat_natCast]; rfl
  have hrise := rise_of hO
  have key : ∀ (q k : Nat), k + q = (setAt f i).length → iter (m_variants_Check_L14 f s) ((k : Int), seenT f i ++ (setAt f i).take k) = some (bif (List.range' k q).any (fun k => (seenT f i).any fun n => n == (setAt f i).getD k 0) then .inr (.box 62 (i : Int) (.sent 2)) else .inl (seenT f (i + 1))) := by
    intro q
    induction q with
    | zero =>
      intro k hk
      refine iter_done ?_
      unfold m_variants_Check_L14
      rw [e]
      simp only
      rw [decide_eq_false (by omega), List.take_of_length_le (by omega), seenT_succ f hi]; rfl
    | succ q ih =>
      intro k hk
      obtain ⟨r1, r2⟩ := right_of hR (show k < (setAt f i).length by omega)
      have hmem : memT ((seenT f i ++ (setAt f i).take k).map (AV.int .i32)) ((setAt f i).getD k 0) = (seenT f i).any fun n => n == (setAt f i).getD k 0 := by
        rw [memT_map, List.any_append, take_any hrise (by omega), Bool.or_false]
      have e2 : seenT f i ++ (setAt f i).take k ++ [(setAt f i).getD k 0] = seenT f i ++ (setAt f i).take (k + 1) := by
        have e1 : (setAt f i).getD k 0 = (setAt f i)[k]'(by omega) := by simp [List.getD_eq_getElem?_getD, show k < (setAt f i).length by omega]
        rw [List.take_succ_eq_append_getElem (show k < (setAt f i).length by omega), e1, List.append_assoc]
      have hlen : ((seenT f i ++ (setAt f i).take k).map (AV.int .i32)).length < maxLen := by
        have : maxLen = 9223372036854775807 := rfl
        rw [this]; simp; omega
      have hb : m_variants_Check_L14 f s ((k : Int), seenT f i ++ (setAt f i).take k) = some (bif (seenT f i).any (fun n => n == (setAt f i).getD k 0) then .done (.inr (.box 62 (i : Int) (.sent 2))) else .next (((k + 1 : Nat) : Int), seenT f i ++ (setAt f i).take (k + 1))) := by
        unfold m_variants_Check_L14
        simp only [Int.toNat_natCast]
        rw [e, decide_eq_true (by omega), cond_true, if_pos ⟨by omega, by omega⟩, if_pos ⟨by omega, by omega⟩]
        simp only [hmem]
        rw [if_pos ⟨⟨by omega, by omega⟩, hlen⟩, e2, up (by omega), hs1]
        cases (seenT f i).any (fun n => n == (setAt f i).getD k 0) <;> rfl
      rw [List.range'_succ, List.any_cons]
      cases hc : (seenT f i).any (fun n => n == (setAt f i).getD k 0) with
      | true =>
        rw [hc] at hb
        rw [iter_done hb]; rfl
      | false =>
        rw [hc] at hb
        rw [iter_next hb, Bool.false_or]
        exact ih (k + 1) (by omega)
  have := key (setAt f i).length 0 (by omega)
  rw [List.take_zero, List.append_nil] at this
  rw [show (0 : Int) = ((0 : Nat) : Int) from rfl, this, dupC_eq f i (by omega)]
theorem seC_zero {f : T_api_Family} {i : Nat} (h : seC f i = 0) : 2 ≤ (setAt f i).length ∧ badR (setAt f i) = false ∧ badO (setAt f i) = false := by
  unfold seC at h
  by_cases h2 : (setAt f i).length < 2
  · rw [if_pos h2] at h; cases h
  rw [if_neg h2] at h
  cases hR : badR (setAt f i) with
  | true => rw [hR, if_pos rfl] at h; cases h
  | false =>
    rw [hR] at h
    cases hO : badO (setAt f i) with
    | true => rw [hO] at h; simp at h
    | false => exact ⟨by omega, rfl, rfl⟩
theorem stC_none {f : T_api_Family} {i : Nat} (h : stC f i = none) : seC f i = 0 ∧ dupC f i = false := by
  unfold stC at h
  split at h
  · cases h
  · rename_i h0
    split at h
    · cases h
    · rename_i h1
      exact ⟨Decidable.not_not.1 h0, by simpa using h1⟩
theorem seC_codes (f : T_api_Family) (i : Nat) : seC f i = 0 ∨ seC f i = 16 ∨ seC f i = 4 ∨ seC f i = 6 := by
  unfold seC
  repeat' split
  all_goals simp
theorem outer_eq (f : T_api_Family) (hs : Small f) : iter (m_variants_Check_L8 f) ((0 : Int), []) = some (match firstSome (stC f) f.f_Sets.length 0 with | some v => .inr (erV v) | none => .inl (seenT f f.f_Sets.length)) := by
  have hset := hs.sets
  have key : ∀ (k i : Nat), i + k = f.f_Sets.length → (∀ j, j < i → stC f j = none) → iter (m_variants_Check_L8 f) ((i : Int), seenT f i) = some (match firstSome (stC f) k i with | some v => .inr (erV v) | none => .inl (seenT f f.f_Sets.length)) := by
    intro k
    induction k with
    | zero =>
      intro i hi _
      obtain rfl : i = f.f_Sets.length := by omega
      refine iter_done ?_
      unfold m_variants_Check_L8
      simp only
      rw [decide_eq_false (by omega)]; rfl
    | succ k ih =>
      intro i hi hp
      have hp2 : ∀ j, j < i → 2 ≤ (setAt f j).length := fun j hj => (seC_zero (stC_none (hp j hj)).1).1
      have hb : m_variants_Check_L8 f ((i : Int), seenT f i) = some (match stC f i with | some v => .done (.inr (erV v)) | none => .next (((i + 1 : Nat) : Int), seenT f (i + 1))) := by
        unfold m_variants_Check_L8
        simp only
        rw [decide_eq_true (by omega), cond_true, if_pos ⟨by omega, by omega⟩, setErr_eq f hs i (by omega) hp2, bind_some', up (by omega)]
        unfold stC
        by_cases h0 : seC f i = 0
        · obtain ⟨_, hR, hO⟩ := seC_zero h0
          rw [if_pos h0, if_neg (fun h => h h0), inner_eq f hs i (by omega) hR hO _ rfl]
          cases dupC f i <;> rfl
        · rw [if_neg h0, if_pos h0]
          simp only [Er.isNil, Bool.not_false, cond_true]
          unfold m_variants_fault erV
          simp only [bind_some', if_neg h0]
      rw [firstSome]
      cases hst : stC f i with
      | some v => rw [hst] at hb; rw [iter_done hb]
      | none =>
        rw [hst] at hb
        rw [iter_next hb]
        refine ih (i + 1) (by omega) fun j hj => ?_
        by_cases ej : j = i
        · subst ej; exact hst
        · exact hp j (by omega)
  exact key f.f_Sets.length 0 (by omega) fun j hj => absurd hj (Nat.not_lt_zero _)
theorem ref_loop (f : T_api_Family) (hs : Small f) : iter (m_eponymref19_Check_L10 f) (0 : Int) = some (scanX (firstSome (stC f) f.f_Sets.length 0)) := by
  have hset := hs.sets
  refine iter_scan f.f_Sets.length (stC f) (fun i hi hp => ?_) fun _ => ?_
  · rw [ref_step f hs i hi fun j hj => (seC_zero (stC_none (hp j hj)).1).1]
    cases stC f i <;> rfl
  · unfold m_eponymref19_Check_L10
    rw [decide_eq_false (by omega)]; rfl
theorem ref_sum (f : T_api_Family) (hs : Small f) : ∃ n : Int, iter (m_eponymref19_Check_L57 f) ((0 : Int), (0 : Int)) = some n ∧ n ≤ 400 := by
  have hset := hs.sets
  have key : ∀ (k i n : Nat), i + k = f.f_Sets.length → n ≤ 20 * i → ∃ z : Int, iter (m_eponymref19_Check_L57 f) ((n : Int), (i : Int)) = some z ∧ z ≤ 400 := by
    intro k
    induction k with
    | zero =>
      intro i n hi hn
      refine ⟨(n : Int), iter_done ?_, by omega⟩
      unfold m_eponymref19_Check_L57
      simp only
      rw [decide_eq_false (by omega)]; rfl
    | succ k ih =>
      intro i n hi hn
      have hx : (f.f_Sets.getD i []).length ≤ 20 := setAt_len f hs (show i < f.f_Sets.length by omega)
      obtain ⟨z, hz, hz'⟩ := ih (i + 1) (n + (f.f_Sets.getD i []).length) (by omega) (by omega)
      refine ⟨z, ?_, hz'⟩
      rw [← hz]
      refine iter_next ?_
      unfold m_eponymref19_Check_L57
      simp only [Int.toNat_natCast]
      rw [decide_eq_true (by omega), cond_true, if_pos ⟨by omega, by omega⟩, up (by omega), w64 (by omega) (by omega)]
      rfl
  exact key f.f_Sets.length 0 0 (by omega) (by omega)
theorem prog_sum (f : T_api_Family) (hs : Small f) : iter (m_variants_Check_L23 f) ((0 : Int), (0 : Int)) = some (.inl ()) := by
  have hset := hs.sets
  have key : ∀ (k i n : Nat), i + k = f.f_Sets.length → n ≤ 20 * i → iter (m_variants_Check_L23 f) ((n : Int), (i : Int)) = some (.inl ()) := by
    intro k
    induction k with
    | zero =>
      intro i n hi hn
      refine iter_done ?_
      unfold m_variants_Check_L23
      simp only
      rw [decide_eq_false (by omega)]; rfl
    | succ k ih =>
      intro i n hi hn
      have hx : (f.f_Sets.getD i []).length ≤ 20 := setAt_len f hs (show i < f.f_Sets.length by omega)
      rw [← ih (i + 1) (n + (f.f_Sets.getD i []).length) (by omega) (by omega)]
      refine iter_next ?_
      have hw : IntKind.wrap .i64 ((n : Int) + (((f.f_Sets.getD i []).length : Nat) : Int)) = ((n + (f.f_Sets.getD i []).length : Nat) : Int) := by rw [w64 (by omega) (by omega)]; rfl
      unfold m_variants_Check_L23
      simp only [Int.toNat_natCast, hw]
      rw [decide_eq_true (by omega), cond_true, if_pos ⟨by omega, by omega⟩, up (by omega), decide_eq_false (by omega)]
      rfl
  exact key f.f_Sets.length 0 0 (by omega) (by omega)
theorem checks_eq (f : T_api_Family) (hs : Small f) (hn : f.f_Name.size ≤ 100) : ∃ bad, m_variants_Check f = some (erV (chk19 f bad)) ∧ m_eponymref19_Check f = some (chk19 f bad) := by
  obtain ⟨d, hd1, hd2, hdc, _⟩ := decode_both f.f_Name (by omega)
  have hv : m_utf_Valid f.f_Name = some (decide (d.2.2 = 0)) := by
    unfold m_utf_Valid
    rw [hd2, bind_some']
    simp only [utfEr_nil]
    unfold utfEr m_errors_As
    by_cases h : d.2.2 = 0
    · rw [if_pos h, decide_eq_true h]; rfl
    · rw [if_neg h, decide_eq_false h]; rfl
  refine ⟨decide (f.f_Name.size = 0 ∨ 63 < f.f_Name.size ∨ d.2.2 ≠ 0), ?_, ?_⟩
  · unfold m_variants_Check
    have hc : (bif (decide (((f.f_Name.size : Nat) : Int) < (1 : Int))) then some true else bif (decide (((f.f_Name.size : Nat) : Int) > (63 : Int))) then some true else Option.bind (m_utf_Valid f.f_Name) fun y29 => some (!y29) : Option Bool) = some (decide (f.f_Name.size = 0 ∨ 63 < f.f_Name.size ∨ d.2.2 ≠ 0)) := by
      by_cases h1 : f.f_Name.size = 0
      · rw [decide_eq_true (by omega), decide_eq_true (Or.inl h1)]; rfl
      rw [decide_eq_false (by omega), cond_false]
      by_cases h2 : 63 < f.f_Name.size
      · rw [decide_eq_true (by omega), decide_eq_true (Or.inr (.inl h2))]; rfl
      rw [decide_eq_false (by omega), cond_false, hv, bind_some']
      by_cases h3 : d.2.2 = 0
      · rw [decide_eq_true h3, decide_eq_false (by rintro (h | h | h) <;> omega)]; rfl
      · rw [decide_eq_false h3, decide_eq_true (Or.inr (.inr h3))]; rfl
    rw [hc, bind_some']
    unfold m_variants_Check_K2 chk19
    cases decide (f.f_Name.size = 0 ∨ 63 < f.f_Name.size ∨ d.2.2 ≠ 0) with
    | true => rfl
    | false =>
      rw [cond_false, prog_sum f hs, bind_some']
      simp only [Bool.false_eq_true, if_false]
      unfold m_variants_Check_K5
      rw [outer_eq f hs, bind_some']
      cases firstSome (stC f) f.f_Sets.length 0 <;> rfl
  · unfold m_eponymref19_Check
    rw [hd1, bind_some']
    have hc : (bif (((f.f_Name.size : Nat) : Int) == (0 : Int)) then some true else bif (decide (((f.f_Name.size : Nat) : Int) > (63 : Int))) then some true else some (d.2.2 != (0 : Int)) : Option Bool) = some (decide (f.f_Name.size = 0 ∨ 63 < f.f_Name.size ∨ d.2.2 ≠ 0)) := by
      by_cases h1 : f.f_Name.size = 0
      · rw [show (((f.f_Name.size : Nat) : Int) == 0) = true by rw [h1]; rfl, decide_eq_true (Or.inl h1)]; rfl
      rw [show (((f.f_Name.size : Nat) : Int) == 0) = false from beq_false_of_ne (by omega), cond_false]
      by_cases h2 : 63 < f.f_Name.size
      · rw [decide_eq_true (by omega), decide_eq_true (Or.inr (.inl h2))]; rfl
      rw [decide_eq_false (by omega), cond_false]
      by_cases h3 : d.2.2 = 0
      · rw [h3, decide_eq_false (by rintro (h | h | h) <;> omega)]; rfl
      · rw [decide_eq_true (Or.inr (.inr h3)), bne_iff_ne.2 h3]
    rw [hc, bind_some']
    unfold m_eponymref19_Check_K3 chk19
    cases decide (f.f_Name.size = 0 ∨ 63 < f.f_Name.size ∨ d.2.2 ≠ 0) with
    | true => rfl
    | false =>
      obtain ⟨n, hnn, hn4⟩ := ref_sum f hs
      rw [cond_false, hnn, bind_some']
      unfold m_eponymref19_Check_K5
      rw [decide_eq_false (by omega), cond_false, ref_loop f hs, bind_some']
      simp only [Bool.false_eq_true, if_false]
      cases firstSome (stC f) f.f_Sets.length 0 <;> rfl
end Go.Proofs.YtclhniadffljdaaDoor
