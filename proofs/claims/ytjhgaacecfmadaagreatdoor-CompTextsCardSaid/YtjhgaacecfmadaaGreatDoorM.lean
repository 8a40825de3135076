/- Models of functions, printed by a program of ours. No condition. -/
import Derived.Test.YtjhgaacecfmadaaGreatDoorL
namespace Go.Proofs.YtjhgaacecfmadaaGreatDoor
open Go Go.SE
set_option linter.unusedVariables false
set_option linter.unusedSimpArgs false
structure T_api_Row where
 f_From : Int
 f_To : (List Int)
def d_api_Row : T_api_Row := ⟨0, []⟩
structure T_api_Range where
 f_Lo : Int
 f_Hi : Int
 f_Value : Int
def d_api_Range : T_api_Range := ⟨0, 0, 0⟩
structure T_api_Norm where
 f_Rows : (List T_api_Row)
 f_Classes : (List T_api_Range)
 f_Excluded : (List Int)
def d_api_Norm : T_api_Norm := ⟨[], [], []⟩
def e_L_i32 (l : (List Int)) : AV := .sl none l.length fun i => (AV.int .i32 (l.getD i 0))
def e_api_Row (x : T_api_Row) : AV := .agg [(.int .i32 x.f_From), (e_L_i32 x.f_To)]
def e_L_api_Row (l : (List T_api_Row)) : AV := .sl none l.length fun i => (e_api_Row (l.getD i d_api_Row))
def e_api_Range (x : T_api_Range) : AV := .agg [(.int .i32 x.f_Lo), (.int .i32 x.f_Hi), (.int .i64 x.f_Value)]
def e_L_api_Range (l : (List T_api_Range)) : AV := .sl none l.length fun i => (e_api_Range (l.getD i d_api_Range))
def e_api_Norm (x : T_api_Norm) : AV := .agg [(e_L_api_Row x.f_Rows), (e_L_api_Range x.f_Classes), (e_L_i32 x.f_Excluded)]
noncomputable def m_decomp_hangul_K8  (s7 : Bool) : Option Int :=
 bif s7 then
  some (4 : Int)
 else
  some (0 : Int)
noncomputable def m_decomp_hangul_K6 (p_r : Int) (s5 : Bool) : Option Int :=
 bif s5 then
  some (3 : Int)
 else
  Option.bind (
   bif (decide (p_r ≥ (44032 : Int))) then
    some (decide (p_r < (55204 : Int)))
   else
    some false : Option Bool) fun s7 =>
  m_decomp_hangul_K8 s7
noncomputable def m_decomp_hangul_K4 (p_r : Int) (s3 : Bool) : Option Int :=
 bif s3 then
  some (2 : Int)
 else
  Option.bind (
   bif (decide (p_r > (4519 : Int))) then
    some (decide (p_r < (4547 : Int)))
   else
    some false : Option Bool) fun s5 =>
  m_decomp_hangul_K6 p_r s5
noncomputable def m_decomp_hangul_K2 (p_r : Int) (s1 : Bool) : Option Int :=
 bif s1 then
  some (1 : Int)
 else
  Option.bind (
   bif (decide (p_r ≥ (4449 : Int))) then
    some (decide (p_r < (4470 : Int)))
   else
    some false : Option Bool) fun s3 =>
  m_decomp_hangul_K4 p_r s3
noncomputable def m_decomp_hangul (p_r : Int) : Option Int :=
 Option.bind (
  bif (decide (p_r ≥ (4352 : Int))) then
   some (decide (p_r < (4371 : Int)))
  else
   some false : Option Bool) fun s1 =>
 m_decomp_hangul_K2 p_r s1
noncomputable def m_decomp_find_1 (p_k : Int) (p_a1 : T_api_Norm) (p_a2 : Int) : Option Bool :=
 if 0 ≤ p_k ∧ p_k < ((p_a1.f_Rows.length : Nat) : Int) then
  some (decide ((p_a1.f_Rows.getD (p_k.toNat) d_api_Row).f_From ≥ p_a2))
 else none
noncomputable def m_sort_Search_decomp_find_1_L5 (p_f : T_api_Norm) (p_a2 : Int) (s4 : Int × Int) : Option (Stp (Int × Int) Int) :=
 bif (decide (s4.1 < s4.2)) then
  Option.bind (m_decomp_find_1 (IntKind.wrap .i64 (Int.fdiv (IntKind.wrap .u64 (IntKind.wrap .i64 (s4.1 + s4.2))) 2)) p_f p_a2) fun y7 =>
  bif (!y7) then
   some (.next ((IntKind.wrap .i64 ((IntKind.wrap .i64 (Int.fdiv (IntKind.wrap .u64 (IntKind.wrap .i64 (s4.1 + s4.2))) 2)) + (1 : Int))), s4.2))
  else
   some (.next (s4.1, (IntKind.wrap .i64 (Int.fdiv (IntKind.wrap .u64 (IntKind.wrap .i64 (s4.1 + s4.2))) 2))))
 else
  some (.done s4.1)
noncomputable def m_sort_Search_decomp_find_1 (p_n : Int) (p_f : T_api_Norm) (p_a2 : Int) : Option Int :=
 Option.bind (
  iter (m_sort_Search_decomp_find_1_L5 p_f p_a2) ((0 : Int), p_n) : Option Int) fun s1 =>
 some s1
noncomputable def m_decomp_find_K3 (y1 : Int) (s2 : Bool) : Option Int :=
 bif s2 then
  some (-1 : Int)
 else
  some y1
noncomputable def m_decomp_find (p_t : T_api_Norm) (p_r : Int) : Option Int :=
 Option.bind (m_sort_Search_decomp_find_1 ((p_t.f_Rows.length : Nat) : Int) p_t p_r) fun y1 =>
 Option.bind (
  bif (y1 == ((p_t.f_Rows.length : Nat) : Int)) then
   some true
  else
   if 0 ≤ y1 ∧ y1 < ((p_t.f_Rows.length : Nat) : Int) then
    some ((p_t.f_Rows.getD (y1.toNat) d_api_Row).f_From != p_r)
   else none : Option Bool) fun s2 =>
 m_decomp_find_K3 y1 s2
noncomputable def m_slices_Reverse_rune_rune_own_L3  (s2 : (List Int) × Int × Int) : Option (Stp ((List Int) × Int × Int) (List Int)) :=
 bif (decide (s2.2.1 < s2.2.2)) then
  if 0 ≤ s2.2.2 ∧ s2.2.2 < ((s2.1.length : Nat) : Int) then
   if 0 ≤ s2.2.1 ∧ s2.2.1 < ((s2.1.length : Nat) : Int) then
    if 0 ≤ s2.2.1 ∧ s2.2.1 < ((s2.1.length : Nat) : Int) then
     if 0 ≤ s2.2.2 ∧ s2.2.2 < ((s2.1.length : Nat) : Int) then
      some (.next (((s2.1.set (s2.2.1.toNat) (s2.1.getD (s2.2.2.toNat) 0)).set (s2.2.2.toNat) (s2.1.getD (s2.2.1.toNat) 0)), (IntKind.wrap .i64 (s2.2.1 + (1 : Int))), (IntKind.wrap .i64 (s2.2.2 - (1 : Int)))))
     else none
    else none
   else none
  else none
 else
  some (.done s2.1)
noncomputable def m_slices_Reverse_rune_rune_own (p_s : (List Int)) : Option (List Int) :=
 Option.bind (iter (m_slices_Reverse_rune_rune_own_L3) (p_s, (0 : Int), (IntKind.wrap .i64 (((p_s.length : Nat) : Int) - (1 : Int))))) fun s5 =>
 some s5
noncomputable def m_decomp_One_K3  (s2 : Int × (List Int)) : Option (List Int) :=
 Option.bind (m_slices_Reverse_rune_rune_own s2.2) fun y4 =>
 if y4.length = s2.2.length then
  if (1 + s2.2.length) * 4 ≤ 140737488355328 then
   some ([s2.1] ++ y4)
  else none
 else none
noncomputable def m_decomp_One_K11 (p_t : T_api_Norm) (s6 : Int × (List Int) × Int) (y9 : Int) (s10 : Bool) : Option (Stp (Int × (List Int) × Int) (Int × (List Int))) :=
 bif s10 then
  some (.done (s6.1, s6.2.1))
 else
  if 0 ≤ y9 ∧ y9 < ((p_t.f_Rows.length : Nat) : Int) then
   bif ((((p_t.f_Rows.getD (y9.toNat) d_api_Row).f_To.length : Nat) : Int) == (2 : Int)) then
    if 0 ≤ (1 : Int) ∧ (1 : Int) < (((p_t.f_Rows.getD (y9.toNat) d_api_Row).f_To.length : Nat) : Int) then
     if (s6.2.1.length + 1) * 4 ≤ 140737488355328 then
      if 0 ≤ (0 : Int) ∧ (0 : Int) < (((p_t.f_Rows.getD (y9.toNat) d_api_Row).f_To.length : Nat) : Int) then
       some (.next (((p_t.f_Rows.getD (y9.toNat) d_api_Row).f_To.getD 0 0), (s6.2.1 ++ [((p_t.f_Rows.getD (y9.toNat) d_api_Row).f_To.getD 1 0)]), (IntKind.wrap .i64 (s6.2.2 + (1 : Int)))))
      else none
     else none
    else none
   else
    if 0 ≤ (0 : Int) ∧ (0 : Int) < (((p_t.f_Rows.getD (y9.toNat) d_api_Row).f_To.length : Nat) : Int) then
     some (.next (((p_t.f_Rows.getD (y9.toNat) d_api_Row).f_To.getD 0 0), s6.2.1, (IntKind.wrap .i64 (s6.2.2 + (1 : Int)))))
    else none
  else none
noncomputable def m_decomp_One_L7 (p_t : T_api_Norm) (s6 : Int × (List Int) × Int) : Option (Stp (Int × (List Int) × Int) (Int × (List Int))) :=
 bif (decide (s6.2.2 ≤ (8 : Int))) then
  Option.bind (m_decomp_find p_t s6.1) fun y9 =>
  Option.bind (
   bif (decide (y9 < (0 : Int))) then
    some true
   else
    if 0 ≤ y9 ∧ y9 < ((p_t.f_Rows.length : Nat) : Int) then
     some ((((p_t.f_Rows.getD (y9.toNat) d_api_Row).f_To.length : Nat) : Int) == (0 : Int))
    else none : Option Bool) fun s10 =>
  m_decomp_One_K11 p_t s6 y9 s10
 else
  some (.done (s6.1, s6.2.1))
noncomputable def m_decomp_One (p_t : T_api_Norm) (p_r : Int) : Option (List Int) :=
 Option.bind (m_decomp_hangul p_r) fun y1 =>
 bif (y1 == (4 : Int)) then
  bif (decide ((Int.tmod (IntKind.wrap .i64 ((IntKind.wrap .i64 p_r) - (44032 : Int))) (28 : Int)) > (0 : Int))) then
   some ([(IntKind.wrap .i32 (IntKind.wrap .i64 ((4352 : Int) + (IntKind.wrap .i64 (Int.tdiv (IntKind.wrap .i64 ((IntKind.wrap .i64 p_r) - (44032 : Int))) (588 : Int)))))), (IntKind.wrap .i32 (IntKind.wrap .i64 ((4449 : Int) + (Int.tmod (IntKind.wrap .i64 (Int.tdiv (IntKind.wrap .i64 ((IntKind.wrap .i64 p_r) - (44032 : Int))) (28 : Int))) (21 : Int)))))] ++ [(IntKind.wrap .i32 (IntKind.wrap .i64 ((4519 : Int) + (Int.tmod (IntKind.wrap .i64 ((IntKind.wrap .i64 p_r) - (44032 : Int))) (28 : Int)))))])
  else
   some [(IntKind.wrap .i32 (IntKind.wrap .i64 ((4352 : Int) + (IntKind.wrap .i64 (Int.tdiv (IntKind.wrap .i64 ((IntKind.wrap .i64 p_r) - (44032 : Int))) (588 : Int)))))), (IntKind.wrap .i32 (IntKind.wrap .i64 ((4449 : Int) + (Int.tmod (IntKind.wrap .i64 (Int.tdiv (IntKind.wrap .i64 ((IntKind.wrap .i64 p_r) - (44032 : Int))) (28 : Int))) (21 : Int)))))]
 else
  Option.bind (
   iter (m_decomp_One_L7 p_t) (p_r, [], (0 : Int)) : Option (Int × (List Int))) fun s2 =>
  m_decomp_One_K3 s2
noncomputable def m_slices_Clone_rune_rune_own_som (p_s : (List Int)) : Option (List Int) :=
 if (0 + p_s.length) * 4 ≤ 140737488355328 then
  some p_s
 else none
noncomputable def m_slices_Clone_rune_rune_own_nil  : Option (List Int) :=
 some []
noncomputable def m_slices_Clone_rune_rune_own (p_s : (List Int)) : Option (List Int) := m_slices_Clone_rune_rune_own_som p_s
noncomputable def m_ranges_Find_1 (p_k : Int) (p_a1 : (List T_api_Range)) (p_a2 : Int) : Option Bool :=
 if 0 ≤ p_k ∧ p_k < ((p_a1.length : Nat) : Int) then
  some (decide ((p_a1.getD (p_k.toNat) d_api_Range).f_Hi ≥ p_a2))
 else none
noncomputable def m_sort_Search_ranges_Find_1_L5 (p_f : (List T_api_Range)) (p_a2 : Int) (s4 : Int × Int) : Option (Stp (Int × Int) Int) :=
 bif (decide (s4.1 < s4.2)) then
  Option.bind (m_ranges_Find_1 (IntKind.wrap .i64 (Int.fdiv (IntKind.wrap .u64 (IntKind.wrap .i64 (s4.1 + s4.2))) 2)) p_f p_a2) fun y7 =>
  bif (!y7) then
   some (.next ((IntKind.wrap .i64 ((IntKind.wrap .i64 (Int.fdiv (IntKind.wrap .u64 (IntKind.wrap .i64 (s4.1 + s4.2))) 2)) + (1 : Int))), s4.2))
  else
   some (.next (s4.1, (IntKind.wrap .i64 (Int.fdiv (IntKind.wrap .u64 (IntKind.wrap .i64 (s4.1 + s4.2))) 2))))
 else
  some (.done s4.1)
noncomputable def m_sort_Search_ranges_Find_1 (p_n : Int) (p_f : (List T_api_Range)) (p_a2 : Int) : Option Int :=
 Option.bind (
  iter (m_sort_Search_ranges_Find_1_L5 p_f p_a2) ((0 : Int), p_n) : Option Int) fun s1 =>
 some s1
noncomputable def m_ranges_Find_K3 (p_l : (List T_api_Range)) (y1 : Int) (s2 : Bool) : Option (Int × Bool) :=
 bif s2 then
  some ((0 : Int), false)
 else
  if 0 ≤ y1 ∧ y1 < ((p_l.length : Nat) : Int) then
   some ((p_l.getD (y1.toNat) d_api_Range).f_Value, true)
  else none
noncomputable def m_ranges_Find (p_l : (List T_api_Range)) (p_r : Int) : Option (Int × Bool) :=
 Option.bind (m_sort_Search_ranges_Find_1 ((p_l.length : Nat) : Int) p_l p_r) fun y1 =>
 Option.bind (
  bif (y1 == ((p_l.length : Nat) : Int)) then
   some true
  else
   if 0 ≤ y1 ∧ y1 < ((p_l.length : Nat) : Int) then
    some (decide ((p_l.getD (y1.toNat) d_api_Range).f_Lo > p_r))
   else none : Option Bool) fun s2 =>
 m_ranges_Find_K3 p_l y1 s2
noncomputable def m_decomp_Class (p_t : T_api_Norm) (p_r : Int) : Option Int :=
 Option.bind (m_ranges_Find p_t.f_Classes p_r) fun y1 =>
 some y1.1
noncomputable def m_decomp_Order_1 (p_a : Int) (p_b : Int) (p_a2 : T_api_Norm) : Option Int :=
 Option.bind (m_decomp_Class p_a2 p_a) fun y1 =>
 Option.bind (m_decomp_Class p_a2 p_b) fun y2 =>
 some (IntKind.wrap .i64 (y1 - y2))
noncomputable def m_slices_insertionSortCmpFunc_rune_own_K12 (p_data_o : Nat) (p_data_n : Nat) (s8 : (List Int) × Int) (s11 : Bool) : Option (Stp ((List Int) × Int) (List Int)) :=
 bif s11 then
  if 0 ≤ (IntKind.wrap .i64 (s8.2 - (1 : Int))) ∧ (IntKind.wrap .i64 (s8.2 - (1 : Int))) < ((p_data_n : Nat) : Int) then
   if 0 ≤ s8.2 ∧ s8.2 < ((p_data_n : Nat) : Int) then
    if 0 ≤ s8.2 ∧ s8.2 < ((p_data_n : Nat) : Int) then
     if 0 ≤ (IntKind.wrap .i64 (s8.2 - (1 : Int))) ∧ (IntKind.wrap .i64 (s8.2 - (1 : Int))) < ((p_data_n : Nat) : Int) then
      some (.next (((s8.1.set (p_data_o + (s8.2.toNat)) (s8.1.getD (p_data_o + ((IntKind.wrap .i64 (s8.2 - (1 : Int))).toNat)) 0)).set (p_data_o + ((IntKind.wrap .i64 (s8.2 - (1 : Int))).toNat)) (s8.1.getD (p_data_o + (s8.2.toNat)) 0)), (IntKind.wrap .i64 (s8.2 - (1 : Int)))))
     else none
    else none
   else none
  else none
 else
  some (.done s8.1)
noncomputable def m_slices_insertionSortCmpFunc_rune_own_L9 (p_data_o : Nat) (p_data_n : Nat) (p_a : Int) (p_cmp_0 : T_api_Norm) (s8 : (List Int) × Int) : Option (Stp ((List Int) × Int) (List Int)) :=
 Option.bind (
  bif (decide (s8.2 > p_a)) then
   if 0 ≤ s8.2 ∧ s8.2 < ((p_data_n : Nat) : Int) then
    if 0 ≤ (IntKind.wrap .i64 (s8.2 - (1 : Int))) ∧ (IntKind.wrap .i64 (s8.2 - (1 : Int))) < ((p_data_n : Nat) : Int) then
     Option.bind (m_decomp_Order_1 (s8.1.getD (p_data_o + (s8.2.toNat)) 0) (s8.1.getD (p_data_o + ((IntKind.wrap .i64 (s8.2 - (1 : Int))).toNat)) 0) p_cmp_0) fun y13 =>
     some (decide (y13 < (0 : Int)))
    else none
   else none
  else
   some false : Option Bool) fun s11 =>
 m_slices_insertionSortCmpFunc_rune_own_K12 p_data_o p_data_n s8 s11
noncomputable def m_slices_insertionSortCmpFunc_rune_own_L3 (p_data_o : Nat) (p_data_n : Nat) (p_a : Int) (p_b : Int) (p_cmp_0 : T_api_Norm) (s2 : (List Int) × Int) : Option (Stp ((List Int) × Int) (List Int)) :=
 bif (decide (s2.2 < p_b)) then
  Option.bind (
   iter (m_slices_insertionSortCmpFunc_rune_own_L9 p_data_o p_data_n p_a p_cmp_0) (s2.1, s2.2) : Option (List Int)) fun s5 =>
  some (.next (s5, (IntKind.wrap .i64 (s2.2 + (1 : Int)))))
 else
  some (.done s2.1)
noncomputable def m_slices_insertionSortCmpFunc_rune_own (p_data : (List Int)) (p_data_o : Nat) (p_data_n : Nat) (p_a : Int) (p_b : Int) (p_cmp_0 : T_api_Norm) : Option (List Int) :=
 Option.bind (iter (m_slices_insertionSortCmpFunc_rune_own_L3 p_data_o p_data_n p_a p_b p_cmp_0) (p_data, (IntKind.wrap .i64 (p_a + (1 : Int))))) fun s15 =>
 some s15
noncomputable def m_slices_swapRangeCmpFunc_rune_own_L3 (p_data_o : Nat) (p_data_n : Nat) (p_a : Int) (p_b : Int) (p_n : Int) (s2 : (List Int) × Int) : Option (Stp ((List Int) × Int) (List Int)) :=
 bif (decide (s2.2 < p_n)) then
  if 0 ≤ (IntKind.wrap .i64 (p_b + s2.2)) ∧ (IntKind.wrap .i64 (p_b + s2.2)) < ((p_data_n : Nat) : Int) then
   if 0 ≤ (IntKind.wrap .i64 (p_a + s2.2)) ∧ (IntKind.wrap .i64 (p_a + s2.2)) < ((p_data_n : Nat) : Int) then
    if 0 ≤ (IntKind.wrap .i64 (p_a + s2.2)) ∧ (IntKind.wrap .i64 (p_a + s2.2)) < ((p_data_n : Nat) : Int) then
     if 0 ≤ (IntKind.wrap .i64 (p_b + s2.2)) ∧ (IntKind.wrap .i64 (p_b + s2.2)) < ((p_data_n : Nat) : Int) then
      some (.next (((s2.1.set (p_data_o + ((IntKind.wrap .i64 (p_a + s2.2)).toNat)) (s2.1.getD (p_data_o + ((IntKind.wrap .i64 (p_b + s2.2)).toNat)) 0)).set (p_data_o + ((IntKind.wrap .i64 (p_b + s2.2)).toNat)) (s2.1.getD (p_data_o + ((IntKind.wrap .i64 (p_a + s2.2)).toNat)) 0)), (IntKind.wrap .i64 (s2.2 + (1 : Int)))))
     else none
    else none
   else none
  else none
 else
  some (.done s2.1)
noncomputable def m_slices_swapRangeCmpFunc_rune_own (p_data : (List Int)) (p_data_o : Nat) (p_data_n : Nat) (p_a : Int) (p_b : Int) (p_n : Int) (p_cmp_0 : T_api_Norm) : Option (List Int) :=
 Option.bind (iter (m_slices_swapRangeCmpFunc_rune_own_L3 p_data_o p_data_n p_a p_b p_n) (p_data, (0 : Int))) fun s5 =>
 some s5
noncomputable def m_slices_rotateCmpFunc_rune_own_K2 (p_data_o : Nat) (p_data_n : Nat) (p_m : Int) (p_cmp_0 : T_api_Norm) (s1 : (List Int) × Int) : Option (List Int) :=
 Option.bind (m_slices_swapRangeCmpFunc_rune_own s1.1 p_data_o p_data_n (IntKind.wrap .i64 (p_m - s1.2)) p_m s1.2 p_cmp_0) fun y3 =>
 if y3.length = s1.1.length then
  some y3
 else none
noncomputable def m_slices_rotateCmpFunc_rune_own_L6 (p_data_o : Nat) (p_data_n : Nat) (p_m : Int) (p_cmp_0 : T_api_Norm) (s5 : (List Int) × Int × Int) : Option (Stp ((List Int) × Int × Int) ((List Int) × Int)) :=
 bif (s5.2.1 != s5.2.2) then
  bif (decide (s5.2.1 > s5.2.2)) then
   Option.bind (m_slices_swapRangeCmpFunc_rune_own s5.1 p_data_o p_data_n (IntKind.wrap .i64 (p_m - s5.2.1)) p_m s5.2.2 p_cmp_0) fun y8 =>
   if y8.length = s5.1.length then
    some (.next (y8, (IntKind.wrap .i64 (s5.2.1 - s5.2.2)), s5.2.2))
   else none
  else
   Option.bind (m_slices_swapRangeCmpFunc_rune_own s5.1 p_data_o p_data_n (IntKind.wrap .i64 (p_m - s5.2.1)) (IntKind.wrap .i64 ((IntKind.wrap .i64 (p_m + s5.2.2)) - s5.2.1)) s5.2.1 p_cmp_0) fun y9 =>
   if y9.length = s5.1.length then
    some (.next (y9, s5.2.1, (IntKind.wrap .i64 (s5.2.2 - s5.2.1))))
   else none
 else
  some (.done (s5.1, s5.2.1))
noncomputable def m_slices_rotateCmpFunc_rune_own (p_data : (List Int)) (p_data_o : Nat) (p_data_n : Nat) (p_a : Int) (p_m : Int) (p_b : Int) (p_cmp_0 : T_api_Norm) : Option (List Int) :=
 Option.bind (
  iter (m_slices_rotateCmpFunc_rune_own_L6 p_data_o p_data_n p_m p_cmp_0) (p_data, (IntKind.wrap .i64 (p_m - p_a)), (IntKind.wrap .i64 (p_b - p_m))) : Option ((List Int) × Int)) fun s1 =>
 m_slices_rotateCmpFunc_rune_own_K2 p_data_o p_data_n p_m p_cmp_0 s1
noncomputable def m_slices_symMergeCmpFunc_rune_own_K14 (p_data_o : Nat) (p_data_n : Nat) (p_a : Int) (p_m : Int) (p_b : Int) (p_cmp_0 : T_api_Norm) (rec_ : (List Int) → Nat → Nat → Int → Int → Int → T_api_Norm → Option (List Int)) (s7 : Int) (s11 : (List Int)) (s13 : Bool) : Option (List Int) :=
 bif s13 then
  Option.bind (rec_ s11 p_data_o p_data_n (IntKind.wrap .i64 (Int.fdiv (IntKind.wrap .u64 (IntKind.wrap .i64 (p_a + p_b))) 2)) (IntKind.wrap .i64 ((IntKind.wrap .i64 ((IntKind.wrap .i64 (Int.fdiv (IntKind.wrap .u64 (IntKind.wrap .i64 (p_a + p_b))) 2)) + p_m)) - s7)) p_b p_cmp_0) fun y15 =>
  if y15.length = s11.length then
   some y15
  else none
 else
  some s11
noncomputable def m_slices_symMergeCmpFunc_rune_own_K12 (p_data_o : Nat) (p_data_n : Nat) (p_a : Int) (p_m : Int) (p_b : Int) (p_cmp_0 : T_api_Norm) (rec_ : (List Int) → Nat → Nat → Int → Int → Int → T_api_Norm → Option (List Int)) (s7 : Int) (s11 : (List Int)) : Option (List Int) :=
 Option.bind (
  bif (decide ((IntKind.wrap .i64 (Int.fdiv (IntKind.wrap .u64 (IntKind.wrap .i64 (p_a + p_b))) 2)) < (IntKind.wrap .i64 ((IntKind.wrap .i64 ((IntKind.wrap .i64 (Int.fdiv (IntKind.wrap .u64 (IntKind.wrap .i64 (p_a + p_b))) 2)) + p_m)) - s7)))) then
   some (decide ((IntKind.wrap .i64 ((IntKind.wrap .i64 ((IntKind.wrap .i64 (Int.fdiv (IntKind.wrap .u64 (IntKind.wrap .i64 (p_a + p_b))) 2)) + p_m)) - s7)) < p_b))
  else
   some false : Option Bool) fun s13 =>
 m_slices_symMergeCmpFunc_rune_own_K14 p_data_o p_data_n p_a p_m p_b p_cmp_0 rec_ s7 s11 s13
noncomputable def m_slices_symMergeCmpFunc_rune_own_K17 (p_data_o : Nat) (p_data_n : Nat) (p_a : Int) (p_b : Int) (p_cmp_0 : T_api_Norm) (rec_ : (List Int) → Nat → Nat → Int → Int → Int → T_api_Norm → Option (List Int)) (s7 : Int) (s9 : (List Int)) (s16 : Bool) : Option (List Int) :=
 bif s16 then
  Option.bind (rec_ s9 p_data_o p_data_n p_a s7 (IntKind.wrap .i64 (Int.fdiv (IntKind.wrap .u64 (IntKind.wrap .i64 (p_a + p_b))) 2)) p_cmp_0) fun y18 =>
  if y18.length = s9.length then
   some y18
  else none
 else
  some s9
noncomputable def m_slices_symMergeCmpFunc_rune_own_K10 (p_data_o : Nat) (p_data_n : Nat) (p_a : Int) (p_m : Int) (p_b : Int) (p_cmp_0 : T_api_Norm) (rec_ : (List Int) → Nat → Nat → Int → Int → Int → T_api_Norm → Option (List Int)) (s7 : Int) (s9 : (List Int)) : Option (List Int) :=
 Option.bind (
  Option.bind (
   bif (decide (p_a < s7)) then
    some (decide (s7 < (IntKind.wrap .i64 (Int.fdiv (IntKind.wrap .u64 (IntKind.wrap .i64 (p_a + p_b))) 2))))
   else
    some false : Option Bool) fun s16 =>
  m_slices_symMergeCmpFunc_rune_own_K17 p_data_o p_data_n p_a p_b p_cmp_0 rec_ s7 s9 s16 : Option (List Int)) fun s11 =>
 m_slices_symMergeCmpFunc_rune_own_K12 p_data_o p_data_n p_a p_m p_b p_cmp_0 rec_ s7 s11
noncomputable def m_slices_symMergeCmpFunc_rune_own_K20 (p_data : (List Int)) (p_data_o : Nat) (p_data_n : Nat) (p_a : Int) (p_m : Int) (p_b : Int) (p_cmp_0 : T_api_Norm) (s7 : Int) (s19 : Bool) : Option (List Int) :=
 bif s19 then
  Option.bind (m_slices_rotateCmpFunc_rune_own p_data p_data_o p_data_n s7 p_m (IntKind.wrap .i64 ((IntKind.wrap .i64 ((IntKind.wrap .i64 (Int.fdiv (IntKind.wrap .u64 (IntKind.wrap .i64 (p_a + p_b))) 2)) + p_m)) - s7)) p_cmp_0) fun y21 =>
  if y21.length = p_data.length then
   some y21
  else none
 else
  some p_data
noncomputable def m_slices_symMergeCmpFunc_rune_own_K8 (p_data : (List Int)) (p_data_o : Nat) (p_data_n : Nat) (p_a : Int) (p_m : Int) (p_b : Int) (p_cmp_0 : T_api_Norm) (rec_ : (List Int) → Nat → Nat → Int → Int → Int → T_api_Norm → Option (List Int)) (s7 : Int) : Option (List Int) :=
 Option.bind (
  Option.bind (
   bif (decide (s7 < p_m)) then
    some (decide (p_m < (IntKind.wrap .i64 ((IntKind.wrap .i64 ((IntKind.wrap .i64 (Int.fdiv (IntKind.wrap .u64 (IntKind.wrap .i64 (p_a + p_b))) 2)) + p_m)) - s7))))
   else
    some false : Option Bool) fun s19 =>
  m_slices_symMergeCmpFunc_rune_own_K20 p_data p_data_o p_data_n p_a p_m p_b p_cmp_0 s7 s19 : Option (List Int)) fun s9 =>
 m_slices_symMergeCmpFunc_rune_own_K10 p_data_o p_data_n p_a p_m p_b p_cmp_0 rec_ s7 s9
noncomputable def m_slices_symMergeCmpFunc_rune_own_L24 (p_data : (List Int)) (p_data_o : Nat) (p_data_n : Nat) (p_a : Int) (p_m : Int) (p_b : Int) (p_cmp_0 : T_api_Norm) (s23 : Int × Int) : Option (Stp (Int × Int) Int) :=
 bif (decide (s23.1 < s23.2)) then
  if 0 ≤ (IntKind.wrap .i64 ((IntKind.wrap .i64 ((IntKind.wrap .i64 ((IntKind.wrap .i64 (Int.fdiv (IntKind.wrap .u64 (IntKind.wrap .i64 (p_a + p_b))) 2)) + p_m)) - (1 : Int))) - (IntKind.wrap .i64 (Int.fdiv (IntKind.wrap .u64 (IntKind.wrap .i64 (s23.1 + s23.2))) 2)))) ∧ (IntKind.wrap .i64 ((IntKind.wrap .i64 ((IntKind.wrap .i64 ((IntKind.wrap .i64 (Int.fdiv (IntKind.wrap .u64 (IntKind.wrap .i64 (p_a + p_b))) 2)) + p_m)) - (1 : Int))) - (IntKind.wrap .i64 (Int.fdiv (IntKind.wrap .u64 (IntKind.wrap .i64 (s23.1 + s23.2))) 2)))) < ((p_data_n : Nat) : Int) then
   if 0 ≤ (IntKind.wrap .i64 (Int.fdiv (IntKind.wrap .u64 (IntKind.wrap .i64 (s23.1 + s23.2))) 2)) ∧ (IntKind.wrap .i64 (Int.fdiv (IntKind.wrap .u64 (IntKind.wrap .i64 (s23.1 + s23.2))) 2)) < ((p_data_n : Nat) : Int) then
    Option.bind (m_decomp_Order_1 (p_data.getD (p_data_o + ((IntKind.wrap .i64 ((IntKind.wrap .i64 ((IntKind.wrap .i64 ((IntKind.wrap .i64 (Int.fdiv (IntKind.wrap .u64 (IntKind.wrap .i64 (p_a + p_b))) 2)) + p_m)) - (1 : Int))) - (IntKind.wrap .i64 (Int.fdiv (IntKind.wrap .u64 (IntKind.wrap .i64 (s23.1 + s23.2))) 2)))).toNat)) 0) (p_data.getD (p_data_o + ((IntKind.wrap .i64 (Int.fdiv (IntKind.wrap .u64 (IntKind.wrap .i64 (s23.1 + s23.2))) 2)).toNat)) 0) p_cmp_0) fun y26 =>
    bif (!(decide (y26 < (0 : Int)))) then
     some (.next ((IntKind.wrap .i64 ((IntKind.wrap .i64 (Int.fdiv (IntKind.wrap .u64 (IntKind.wrap .i64 (s23.1 + s23.2))) 2)) + (1 : Int))), s23.2))
    else
     some (.next (s23.1, (IntKind.wrap .i64 (Int.fdiv (IntKind.wrap .u64 (IntKind.wrap .i64 (s23.1 + s23.2))) 2))))
   else none
  else none
 else
  some (.done s23.1)
noncomputable def m_slices_symMergeCmpFunc_rune_own_K6 (p_data : (List Int)) (p_data_o : Nat) (p_data_n : Nat) (p_a : Int) (p_m : Int) (p_b : Int) (p_cmp_0 : T_api_Norm) (rec_ : (List Int) → Nat → Nat → Int → Int → Int → T_api_Norm → Option (List Int)) (s5 : Int × Int) : Option (List Int) :=
 Option.bind (
  iter (m_slices_symMergeCmpFunc_rune_own_L24 p_data p_data_o p_data_n p_a p_m p_b p_cmp_0) (s5.1, s5.2) : Option Int) fun s7 =>
 m_slices_symMergeCmpFunc_rune_own_K8 p_data p_data_o p_data_n p_a p_m p_b p_cmp_0 rec_ s7
noncomputable def m_slices_symMergeCmpFunc_rune_own_K4 (p_data : (List Int)) (p_data_o : Nat) (p_data_n : Nat) (p_a : Int) (p_m : Int) (p_b : Int) (p_cmp_0 : T_api_Norm) (rec_ : (List Int) → Nat → Nat → Int → Int → Int → T_api_Norm → Option (List Int)) (s3 : Unit) : Option (List Int) :=
 Option.bind (
  bif (decide (p_m > (IntKind.wrap .i64 (Int.fdiv (IntKind.wrap .u64 (IntKind.wrap .i64 (p_a + p_b))) 2)))) then
   some ((IntKind.wrap .i64 ((IntKind.wrap .i64 ((IntKind.wrap .i64 (Int.fdiv (IntKind.wrap .u64 (IntKind.wrap .i64 (p_a + p_b))) 2)) + p_m)) - p_b)), (IntKind.wrap .i64 (Int.fdiv (IntKind.wrap .u64 (IntKind.wrap .i64 (p_a + p_b))) 2)))
  else
   some (p_a, p_m) : Option (Int × Int)) fun s5 =>
 m_slices_symMergeCmpFunc_rune_own_K6 p_data p_data_o p_data_n p_a p_m p_b p_cmp_0 rec_ s5
noncomputable def m_slices_symMergeCmpFunc_rune_own_L32 (p_data_o : Nat) (p_data_n : Nat) (s28 : Int) (s31 : (List Int) × Int) : Option (Stp ((List Int) × Int) (List Int)) :=
 bif (decide (s31.2 > s28)) then
  if 0 ≤ (IntKind.wrap .i64 (s31.2 - (1 : Int))) ∧ (IntKind.wrap .i64 (s31.2 - (1 : Int))) < ((p_data_n : Nat) : Int) then
   if 0 ≤ s31.2 ∧ s31.2 < ((p_data_n : Nat) : Int) then
    if 0 ≤ s31.2 ∧ s31.2 < ((p_data_n : Nat) : Int) then
     if 0 ≤ (IntKind.wrap .i64 (s31.2 - (1 : Int))) ∧ (IntKind.wrap .i64 (s31.2 - (1 : Int))) < ((p_data_n : Nat) : Int) then
      some (.next (((s31.1.set (p_data_o + (s31.2.toNat)) (s31.1.getD (p_data_o + ((IntKind.wrap .i64 (s31.2 - (1 : Int))).toNat)) 0)).set (p_data_o + ((IntKind.wrap .i64 (s31.2 - (1 : Int))).toNat)) (s31.1.getD (p_data_o + (s31.2.toNat)) 0)), (IntKind.wrap .i64 (s31.2 - (1 : Int)))))
     else none
    else none
   else none
  else none
 else
  some (.done s31.1)
noncomputable def m_slices_symMergeCmpFunc_rune_own_K29 (p_data : (List Int)) (p_data_o : Nat) (p_data_n : Nat) (p_m : Int) (s28 : Int) : Option (Sum Unit (List Int)) :=
 Option.bind (iter (m_slices_symMergeCmpFunc_rune_own_L32 p_data_o p_data_n s28) (p_data, p_m)) fun s34 =>
 some (.inr s34)
noncomputable def m_slices_symMergeCmpFunc_rune_own_L37 (p_data : (List Int)) (p_data_o : Nat) (p_data_n : Nat) (p_m : Int) (p_cmp_0 : T_api_Norm) (s36 : Int × Int) : Option (Stp (Int × Int) Int) :=
 bif (decide (s36.1 < s36.2)) then
  if 0 ≤ p_m ∧ p_m < ((p_data_n : Nat) : Int) then
   if 0 ≤ (IntKind.wrap .i64 (Int.fdiv (IntKind.wrap .u64 (IntKind.wrap .i64 (s36.1 + s36.2))) 2)) ∧ (IntKind.wrap .i64 (Int.fdiv (IntKind.wrap .u64 (IntKind.wrap .i64 (s36.1 + s36.2))) 2)) < ((p_data_n : Nat) : Int) then
    Option.bind (m_decomp_Order_1 (p_data.getD (p_data_o + (p_m.toNat)) 0) (p_data.getD (p_data_o + ((IntKind.wrap .i64 (Int.fdiv (IntKind.wrap .u64 (IntKind.wrap .i64 (s36.1 + s36.2))) 2)).toNat)) 0) p_cmp_0) fun y39 =>
    bif (!(decide (y39 < (0 : Int)))) then
     some (.next ((IntKind.wrap .i64 ((IntKind.wrap .i64 (Int.fdiv (IntKind.wrap .u64 (IntKind.wrap .i64 (s36.1 + s36.2))) 2)) + (1 : Int))), s36.2))
    else
     some (.next (s36.1, (IntKind.wrap .i64 (Int.fdiv (IntKind.wrap .u64 (IntKind.wrap .i64 (s36.1 + s36.2))) 2))))
   else none
  else none
 else
  some (.done s36.1)
noncomputable def m_slices_symMergeCmpFunc_rune_own_K2 (p_data : (List Int)) (p_data_o : Nat) (p_data_n : Nat) (p_a : Int) (p_m : Int) (p_b : Int) (p_cmp_0 : T_api_Norm) (rec_ : (List Int) → Nat → Nat → Int → Int → Int → T_api_Norm → Option (List Int)) (s1 : Unit) : Option (List Int) :=
 Option.bind (
  bif ((IntKind.wrap .i64 (p_b - p_m)) == (1 : Int)) then
   Option.bind (
    iter (m_slices_symMergeCmpFunc_rune_own_L37 p_data p_data_o p_data_n p_m p_cmp_0) (p_a, p_m) : Option Int) fun s28 =>
   m_slices_symMergeCmpFunc_rune_own_K29 p_data p_data_o p_data_n p_m s28
  else
   some (.inl ()) : Option (Sum Unit (List Int))) fun z =>
 match z with
 | .inl s3 =>
  m_slices_symMergeCmpFunc_rune_own_K4 p_data p_data_o p_data_n p_a p_m p_b p_cmp_0 rec_ s3
 | .inr (v41) =>
  some v41
noncomputable def m_slices_symMergeCmpFunc_rune_own_L46 (p_data_o : Nat) (p_data_n : Nat) (s42 : Int) (s45 : (List Int) × Int) : Option (Stp ((List Int) × Int) (List Int)) :=
 bif (decide (s45.2 < (IntKind.wrap .i64 (s42 - (1 : Int))))) then
  if 0 ≤ (IntKind.wrap .i64 (s45.2 + (1 : Int))) ∧ (IntKind.wrap .i64 (s45.2 + (1 : Int))) < ((p_data_n : Nat) : Int) then
   if 0 ≤ s45.2 ∧ s45.2 < ((p_data_n : Nat) : Int) then
    if 0 ≤ s45.2 ∧ s45.2 < ((p_data_n : Nat) : Int) then
     if 0 ≤ (IntKind.wrap .i64 (s45.2 + (1 : Int))) ∧ (IntKind.wrap .i64 (s45.2 + (1 : Int))) < ((p_data_n : Nat) : Int) then
      some (.next (((s45.1.set (p_data_o + (s45.2.toNat)) (s45.1.getD (p_data_o + ((IntKind.wrap .i64 (s45.2 + (1 : Int))).toNat)) 0)).set (p_data_o + ((IntKind.wrap .i64 (s45.2 + (1 : Int))).toNat)) (s45.1.getD (p_data_o + (s45.2.toNat)) 0)), (IntKind.wrap .i64 (s45.2 + (1 : Int)))))
     else none
    else none
   else none
  else none
 else
  some (.done s45.1)
noncomputable def m_slices_symMergeCmpFunc_rune_own_K43 (p_data : (List Int)) (p_data_o : Nat) (p_data_n : Nat) (p_a : Int) (s42 : Int) : Option (Sum Unit (List Int)) :=
 Option.bind (iter (m_slices_symMergeCmpFunc_rune_own_L46 p_data_o p_data_n s42) (p_data, p_a)) fun s48 =>
 some (.inr s48)
noncomputable def m_slices_symMergeCmpFunc_rune_own_L51 (p_data : (List Int)) (p_data_o : Nat) (p_data_n : Nat) (p_a : Int) (p_cmp_0 : T_api_Norm) (s50 : Int × Int) : Option (Stp (Int × Int) Int) :=
 bif (decide (s50.1 < s50.2)) then
  if 0 ≤ (IntKind.wrap .i64 (Int.fdiv (IntKind.wrap .u64 (IntKind.wrap .i64 (s50.1 + s50.2))) 2)) ∧ (IntKind.wrap .i64 (Int.fdiv (IntKind.wrap .u64 (IntKind.wrap .i64 (s50.1 + s50.2))) 2)) < ((p_data_n : Nat) : Int) then
   if 0 ≤ p_a ∧ p_a < ((p_data_n : Nat) : Int) then
    Option.bind (m_decomp_Order_1 (p_data.getD (p_data_o + ((IntKind.wrap .i64 (Int.fdiv (IntKind.wrap .u64 (IntKind.wrap .i64 (s50.1 + s50.2))) 2)).toNat)) 0) (p_data.getD (p_data_o + (p_a.toNat)) 0) p_cmp_0) fun y53 =>
    bif (decide (y53 < (0 : Int))) then
     some (.next ((IntKind.wrap .i64 ((IntKind.wrap .i64 (Int.fdiv (IntKind.wrap .u64 (IntKind.wrap .i64 (s50.1 + s50.2))) 2)) + (1 : Int))), s50.2))
    else
     some (.next (s50.1, (IntKind.wrap .i64 (Int.fdiv (IntKind.wrap .u64 (IntKind.wrap .i64 (s50.1 + s50.2))) 2))))
   else none
  else none
 else
  some (.done s50.1)
noncomputable def m_slices_symMergeCmpFunc_rune_own_body (rec_ : (List Int) → Nat → Nat → Int → Int → Int → T_api_Norm → Option (List Int)) (p_data : (List Int)) (p_data_o : Nat) (p_data_n : Nat) (p_a : Int) (p_m : Int) (p_b : Int) (p_cmp_0 : T_api_Norm) : Option (List Int) :=
 Option.bind (
  bif ((IntKind.wrap .i64 (p_m - p_a)) == (1 : Int)) then
   Option.bind (
    iter (m_slices_symMergeCmpFunc_rune_own_L51 p_data p_data_o p_data_n p_a p_cmp_0) (p_m, p_b) : Option Int) fun s42 =>
   m_slices_symMergeCmpFunc_rune_own_K43 p_data p_data_o p_data_n p_a s42
  else
   some (.inl ()) : Option (Sum Unit (List Int))) fun z =>
 match z with
 | .inl s1 =>
  m_slices_symMergeCmpFunc_rune_own_K2 p_data p_data_o p_data_n p_a p_m p_b p_cmp_0 rec_ s1
 | .inr (v55) =>
  some v55
noncomputable def m_slices_symMergeCmpFunc_rune_own_n : Nat → (List Int) → Nat → Nat → Int → Int → Int → T_api_Norm → Option (List Int)
 | 0 => fun _ _ _ _ _ _ _ => none
 | n + 1 => m_slices_symMergeCmpFunc_rune_own_body (m_slices_symMergeCmpFunc_rune_own_n n)
noncomputable def m_slices_symMergeCmpFunc_rune_own (p_data : (List Int)) (p_data_o : Nat) (p_data_n : Nat) (p_a : Int) (p_m : Int) (p_b : Int) (p_cmp_0 : T_api_Norm) : Option (List Int) :=
 @dite _ (∃ n, (m_slices_symMergeCmpFunc_rune_own_n n p_data p_data_o p_data_n p_a p_m p_b p_cmp_0).isSome = true) (Classical.propDecidable _) (fun h => m_slices_symMergeCmpFunc_rune_own_n (Classical.choose h) p_data p_data_o p_data_n p_a p_m p_b p_cmp_0) (fun _ => none)
noncomputable def m_slices_stableCmpFunc_rune_own_K9 (p_data_o : Nat) (p_data_n : Nat) (p_n : Int) (p_cmp_0 : T_api_Norm) (s5 : (List Int) × Int) (s8 : (List Int) × Int) : Option (Stp ((List Int) × Int) (List Int)) :=
 bif (decide ((IntKind.wrap .i64 (s8.2 + s5.2)) < p_n)) then
  Option.bind (m_slices_symMergeCmpFunc_rune_own s8.1 p_data_o p_data_n s8.2 (IntKind.wrap .i64 (s8.2 + s5.2)) p_n p_cmp_0) fun y10 =>
  if y10.length = s8.1.length then
   some (.next (y10, (IntKind.wrap .i64 (s5.2 * (2 : Int)))))
  else none
 else
  some (.next (s8.1, (IntKind.wrap .i64 (s5.2 * (2 : Int)))))
noncomputable def m_slices_stableCmpFunc_rune_own_L13 (p_data_o : Nat) (p_data_n : Nat) (p_n : Int) (p_cmp_0 : T_api_Norm) (s5 : (List Int) × Int) (s12 : (List Int) × Int × Int) : Option (Stp ((List Int) × Int × Int) ((List Int) × Int)) :=
 bif (decide (s12.2.2 ≤ p_n)) then
  Option.bind (m_slices_symMergeCmpFunc_rune_own s12.1 p_data_o p_data_n s12.2.1 (IntKind.wrap .i64 (s12.2.1 + s5.2)) s12.2.2 p_cmp_0) fun y15 =>
  if y15.length = s12.1.length then
   some (.next (y15, s12.2.2, (IntKind.wrap .i64 (s12.2.2 + (IntKind.wrap .i64 ((2 : Int) * s5.2))))))
  else none
 else
  some (.done (s12.1, s12.2.1))
noncomputable def m_slices_stableCmpFunc_rune_own_L6 (p_data_o : Nat) (p_data_n : Nat) (p_n : Int) (p_cmp_0 : T_api_Norm) (s5 : (List Int) × Int) : Option (Stp ((List Int) × Int) (List Int)) :=
 bif (decide (s5.2 < p_n)) then
  Option.bind (
   iter (m_slices_stableCmpFunc_rune_own_L13 p_data_o p_data_n p_n p_cmp_0 s5) (s5.1, (0 : Int), (IntKind.wrap .i64 ((2 : Int) * s5.2))) : Option ((List Int) × Int)) fun s8 =>
  m_slices_stableCmpFunc_rune_own_K9 p_data_o p_data_n p_n p_cmp_0 s5 s8
 else
  some (.done s5.1)
noncomputable def m_slices_stableCmpFunc_rune_own_K2 (p_data_o : Nat) (p_data_n : Nat) (p_n : Int) (p_cmp_0 : T_api_Norm) (s1 : (List Int) × Int) : Option (List Int) :=
 Option.bind (m_slices_insertionSortCmpFunc_rune_own s1.1 p_data_o p_data_n s1.2 p_n p_cmp_0) fun y3 =>
 if y3.length = s1.1.length then
  Option.bind (iter (m_slices_stableCmpFunc_rune_own_L6 p_data_o p_data_n p_n p_cmp_0) (y3, (20 : Int))) fun s17 =>
  some s17
 else none
noncomputable def m_slices_stableCmpFunc_rune_own_L20 (p_data_o : Nat) (p_data_n : Nat) (p_n : Int) (p_cmp_0 : T_api_Norm) (s19 : (List Int) × Int × Int) : Option (Stp ((List Int) × Int × Int) ((List Int) × Int)) :=
 bif (decide (s19.2.2 ≤ p_n)) then
  Option.bind (m_slices_insertionSortCmpFunc_rune_own s19.1 p_data_o p_data_n s19.2.1 s19.2.2 p_cmp_0) fun y22 =>
  if y22.length = s19.1.length then
   some (.next (y22, s19.2.2, (IntKind.wrap .i64 (s19.2.2 + (20 : Int)))))
  else none
 else
  some (.done (s19.1, s19.2.1))
noncomputable def m_slices_stableCmpFunc_rune_own (p_data : (List Int)) (p_data_o : Nat) (p_data_n : Nat) (p_n : Int) (p_cmp_0 : T_api_Norm) : Option (List Int) :=
 Option.bind (
  iter (m_slices_stableCmpFunc_rune_own_L20 p_data_o p_data_n p_n p_cmp_0) (p_data, (0 : Int), (20 : Int)) : Option ((List Int) × Int)) fun s1 =>
 m_slices_stableCmpFunc_rune_own_K2 p_data_o p_data_n p_n p_cmp_0 s1
noncomputable def m_slices_SortStableFunc_rune_rune_own (p_x : (List Int)) (p_x_o : Nat) (p_x_n : Nat) (p_cmp_0 : T_api_Norm) : Option (List Int) :=
 Option.bind (m_slices_stableCmpFunc_rune_own p_x p_x_o p_x_n ((p_x_n : Nat) : Int) p_cmp_0) fun y1 =>
 if y1.length = p_x.length then
  some y1
 else none
noncomputable def m_decomp_Order_K9 (p_t : T_api_Norm) (s5 : (List Int) × Int) (s8 : Int) : Option (Stp ((List Int) × Int) (List Int)) :=
 if 0 ≤ s5.2 ∧ s5.2 ≤ s8 ∧ s8 ≤ ((s5.1.length : Nat) : Int) then
  Option.bind (m_slices_SortStableFunc_rune_rune_own s5.1 (s5.2.toNat) ((s8.toNat) - (s5.2.toNat)) p_t) fun y10 =>
  if y10.length = s5.1.length then
   some (.next (y10, (IntKind.wrap .i64 (s8 + (1 : Int)))))
  else none
 else none
noncomputable def m_decomp_Order_K16 (s12 : Int) (s15 : Bool) : Option (Stp Int Int) :=
 bif s15 then
  some (.next (IntKind.wrap .i64 (s12 + (1 : Int))))
 else
  some (.done s12)
noncomputable def m_decomp_Order_L13 (p_t : T_api_Norm) (s5 : (List Int) × Int) (s12 : Int) : Option (Stp Int Int) :=
 Option.bind (
  bif (decide (s12 < ((s5.1.length : Nat) : Int))) then
   if 0 ≤ s12 ∧ s12 < ((s5.1.length : Nat) : Int) then
    Option.bind (m_decomp_Class p_t (s5.1.getD (s12.toNat) 0)) fun y17 =>
    some (decide (y17 > (0 : Int)))
   else none
  else
   some false : Option Bool) fun s15 =>
 m_decomp_Order_K16 s12 s15
noncomputable def m_decomp_Order_L6 (p_t : T_api_Norm) (s5 : (List Int) × Int) : Option (Stp ((List Int) × Int) (List Int)) :=
 bif (decide (s5.2 < ((s5.1.length : Nat) : Int))) then
  Option.bind (
   iter (m_decomp_Order_L13 p_t s5) s5.2 : Option Int) fun s8 =>
  m_decomp_Order_K9 p_t s5 s8
 else
  some (.done s5.1)
noncomputable def m_decomp_Order (p_t : T_api_Norm) (p_l : (List Int)) : Option (List Int) :=
 Option.bind (m_slices_Clone_rune_rune_own p_l) fun y1 =>
 Option.bind (
  iter (m_decomp_Order_L6 p_t) (y1, (0 : Int)) : Option (List Int)) fun s2 =>
 some s2
noncomputable def m_decomp_All_K2 (p_t : T_api_Norm) (s1 : (List Int)) : Option (List Int) :=
 Option.bind (m_decomp_Order p_t s1) fun y3 =>
 some y3
noncomputable def m_decomp_All_L6 (p_t : T_api_Norm) (p_l : (List Int)) (s5 : (List Int) × Int) : Option (Stp ((List Int) × Int) (List Int)) :=
 bif (decide (s5.2 < ((p_l.length : Nat) : Int))) then
  if 0 ≤ s5.2 ∧ s5.2 < ((p_l.length : Nat) : Int) then
   Option.bind (m_decomp_One p_t (p_l.getD (s5.2.toNat) 0)) fun y8 =>
   if (s5.1.length + y8.length) * 4 ≤ 140737488355328 then
    some (.next ((s5.1 ++ y8), (IntKind.wrap .i64 (s5.2 + (1 : Int)))))
   else none
  else none
 else
  some (.done s5.1)
noncomputable def m_decomp_All (p_t : T_api_Norm) (p_l : (List Int)) : Option (List Int) :=
 Option.bind (
  iter (m_decomp_All_L6 p_t p_l) ([], (0 : Int)) : Option (List Int)) fun s1 =>
 m_decomp_All_K2 p_t s1
noncomputable def m_comp_within (p_r : Int) (p_from : Int) (p_many : Int) : Option Bool :=
 bif (decide (p_r ≥ p_from)) then
  some (decide ((IntKind.wrap .i64 (IntKind.wrap .i32 (p_r - p_from))) < p_many))
 else
  some false
noncomputable def m_comp_open (p_r : Int) : Option Bool :=
 Option.bind (m_comp_within p_r (44032 : Int) (11172 : Int)) fun y1 =>
 bif y1 then
  some ((Int.tmod (IntKind.wrap .i32 (p_r - (44032 : Int))) (28 : Int)) == (0 : Int))
 else
  some false
noncomputable def m_comp_hangul_K4 (p_a : Int) (p_b : Int) (s3 : Bool) : Option (Int × Bool) :=
 bif s3 then
  some ((IntKind.wrap .i32 ((IntKind.wrap .i32 (p_a + p_b)) - (4519 : Int))), true)
 else
  some ((0 : Int), false)
noncomputable def m_comp_hangul_K2 (p_a : Int) (p_b : Int) (s1 : Bool) : Option (Int × Bool) :=
 bif s1 then
  some ((IntKind.wrap .i32 ((44032 : Int) + (IntKind.wrap .i32 ((IntKind.wrap .i32 ((IntKind.wrap .i32 ((IntKind.wrap .i32 ((IntKind.wrap .i32 (p_a - (4352 : Int))) * (21 : Int))) + p_b)) - (4449 : Int))) * (28 : Int))))), true)
 else
  Option.bind (
   Option.bind (m_comp_open p_a) fun y5 =>
   bif y5 then
    Option.bind (m_comp_within p_b (4520 : Int) (27 : Int)) fun y6 =>
    some y6
   else
    some false : Option Bool) fun s3 =>
  m_comp_hangul_K4 p_a p_b s3
noncomputable def m_comp_hangul (p_a : Int) (p_b : Int) : Option (Int × Bool) :=
 Option.bind (
  Option.bind (m_comp_within p_a (4352 : Int) (19 : Int)) fun y7 =>
  bif y7 then
   Option.bind (m_comp_within p_b (4449 : Int) (21 : Int)) fun y8 =>
   some y8
  else
   some false : Option Bool) fun s1 =>
 m_comp_hangul_K2 p_a p_b s1
noncomputable def m_cmp_isNaN_rune (p_x : Int) : Option Bool :=
 some (p_x != p_x)
noncomputable def m_cmp_Less_rune (p_x : Int) (p_y : Int) : Option Bool :=
 Option.bind (m_cmp_isNaN_rune p_x) fun y1 =>
 bif y1 then
  Option.bind (m_cmp_isNaN_rune p_y) fun y2 =>
  bif (!y2) then
   some true
  else
   some (decide (p_x < p_y))
 else
  some (decide (p_x < p_y))
noncomputable def m_slices_isNaN_rune (p_x : Int) : Option Bool :=
 some (p_x != p_x)
noncomputable def m_slices_BinarySearch_rune_rune_K2 (p_x : (List Int)) (p_target : Int) (s1 : Int) : Option (Int × Bool) :=
 bif (decide (s1 < ((p_x.length : Nat) : Int))) then
  if 0 ≤ s1 ∧ s1 < ((p_x.length : Nat) : Int) then
   bif ((p_x.getD (s1.toNat) 0) == p_target) then
    some (s1, true)
   else
    if 0 ≤ s1 ∧ s1 < ((p_x.length : Nat) : Int) then
     Option.bind (m_slices_isNaN_rune (p_x.getD (s1.toNat) 0)) fun y3 =>
     bif y3 then
      Option.bind (m_slices_isNaN_rune p_target) fun y4 =>
      some (s1, y4)
     else
      some (s1, false)
    else none
  else none
 else
  some (s1, false)
noncomputable def m_slices_BinarySearch_rune_rune_L7 (p_x : (List Int)) (p_target : Int) (s6 : Int × Int) : Option (Stp (Int × Int) Int) :=
 bif (decide (s6.1 < s6.2)) then
  if 0 ≤ (IntKind.wrap .i64 (Int.fdiv (IntKind.wrap .u64 (IntKind.wrap .i64 (s6.1 + s6.2))) 2)) ∧ (IntKind.wrap .i64 (Int.fdiv (IntKind.wrap .u64 (IntKind.wrap .i64 (s6.1 + s6.2))) 2)) < ((p_x.length : Nat) : Int) then
   Option.bind (m_cmp_Less_rune (p_x.getD ((IntKind.wrap .i64 (Int.fdiv (IntKind.wrap .u64 (IntKind.wrap .i64 (s6.1 + s6.2))) 2)).toNat) 0) p_target) fun y9 =>
   bif y9 then
    some (.next ((IntKind.wrap .i64 ((IntKind.wrap .i64 (Int.fdiv (IntKind.wrap .u64 (IntKind.wrap .i64 (s6.1 + s6.2))) 2)) + (1 : Int))), s6.2))
   else
    some (.next (s6.1, (IntKind.wrap .i64 (Int.fdiv (IntKind.wrap .u64 (IntKind.wrap .i64 (s6.1 + s6.2))) 2))))
  else none
 else
  some (.done s6.1)
noncomputable def m_slices_BinarySearch_rune_rune (p_x : (List Int)) (p_target : Int) : Option (Int × Bool) :=
 Option.bind (
  iter (m_slices_BinarySearch_rune_rune_L7 p_x p_target) ((0 : Int), ((p_x.length : Nat) : Int)) : Option Int) fun s1 =>
 m_slices_BinarySearch_rune_rune_K2 p_x p_target s1
noncomputable def m_decomp_Composes_K2 (p_t : T_api_Norm) (p_row : Int) (s1 : Bool) : Option Bool :=
 bif s1 then
  some false
 else
  if 0 ≤ p_row ∧ p_row < ((p_t.f_Rows.length : Nat) : Int) then
   Option.bind (m_slices_BinarySearch_rune_rune p_t.f_Excluded ((p_t.f_Rows.getD (p_row.toNat) d_api_Row).f_From)) fun y3 =>
   bif (!y3.2) then
    Option.bind (m_decomp_Class p_t ((p_t.f_Rows.getD (p_row.toNat) d_api_Row).f_From)) fun y4 =>
    bif (y4 == (0 : Int)) then
     if 0 ≤ (0 : Int) ∧ (0 : Int) < (((p_t.f_Rows.getD (p_row.toNat) d_api_Row).f_To.length : Nat) : Int) then
      Option.bind (m_decomp_Class p_t ((p_t.f_Rows.getD (p_row.toNat) d_api_Row).f_To.getD 0 0)) fun y5 =>
      some (y5 == (0 : Int))
     else none
    else
     some false
   else
    some false
  else none
noncomputable def m_decomp_Composes (p_t : T_api_Norm) (p_row : Int) : Option Bool :=
 Option.bind (
  bif (decide (p_row < (0 : Int))) then
   some true
  else
   bif (decide (p_row ≥ ((p_t.f_Rows.length : Nat) : Int))) then
    some true
   else
    if 0 ≤ p_row ∧ p_row < ((p_t.f_Rows.length : Nat) : Int) then
     some ((((p_t.f_Rows.getD (p_row.toNat) d_api_Row).f_To.length : Nat) : Int) != (2 : Int))
    else none : Option Bool) fun s1 =>
 m_decomp_Composes_K2 p_t p_row s1
noncomputable def m_comp_Pair_K9 (p_t : T_api_Norm) (s5 : Int) (s8 : Bool) : Option (Stp Int (Sum Unit (Int × Bool))) :=
 bif s8 then
  some (.done (.inr ((p_t.f_Rows.getD (s5.toNat) d_api_Row).f_From, true)))
 else
  some (.next (IntKind.wrap .i64 (s5 + (1 : Int))))
noncomputable def m_comp_Pair_L6 (p_t : T_api_Norm) (p_a : Int) (p_b : Int) (s5 : Int) : Option (Stp Int (Sum Unit (Int × Bool))) :=
 bif (decide (s5 < ((p_t.f_Rows.length : Nat) : Int))) then
  if 0 ≤ s5 ∧ s5 < ((p_t.f_Rows.length : Nat) : Int) then
   Option.bind (
    bif ((((p_t.f_Rows.getD (s5.toNat) d_api_Row).f_To.length : Nat) : Int) == (2 : Int)) then
     if 0 ≤ (0 : Int) ∧ (0 : Int) < (((p_t.f_Rows.getD (s5.toNat) d_api_Row).f_To.length : Nat) : Int) then
      bif (((p_t.f_Rows.getD (s5.toNat) d_api_Row).f_To.getD 0 0) == p_a) then
       if 0 ≤ (1 : Int) ∧ (1 : Int) < (((p_t.f_Rows.getD (s5.toNat) d_api_Row).f_To.length : Nat) : Int) then
        bif (((p_t.f_Rows.getD (s5.toNat) d_api_Row).f_To.getD 1 0) == p_b) then
         Option.bind (m_decomp_Composes p_t s5) fun y10 =>
         some y10
        else
         some false
       else none
      else
       some false
     else none
    else
     some false : Option Bool) fun s8 =>
   m_comp_Pair_K9 p_t s5 s8
  else none
 else
  some (.done (.inl ()))
noncomputable def m_comp_Pair (p_t : T_api_Norm) (p_a : Int) (p_b : Int) : Option (Int × Bool) :=
 Option.bind (m_comp_hangul p_a p_b) fun y1 =>
 bif y1.2 then
  some (y1.1, true)
 else
  Option.bind (
   iter (m_comp_Pair_L6 p_t p_a p_b) (0 : Int) : Option (Sum Unit (Int × Bool))) fun z =>
  match z with
  | .inl s2 =>
   some ((0 : Int), false)
  | .inr (v13) =>
   some (v13.1, v13.2)
noncomputable def m_comp_row_add_own_K3 (p_w_0 : (List T_api_Row)) (p_w_1 : (List T_api_Range)) (p_w_2 : (List Int)) (p_w_3 : (List Int)) (p_w_4 : Int) (p_w_5 : Int) (p_r : Int) (y1 : Int) (s2 : Unit) : Option ((List T_api_Row) × (List T_api_Range) × (List Int) × (List Int) × Int × Int) :=
 if (p_w_3.length + 1) * 4 ≤ 140737488355328 then
  bif (y1 == (0 : Int)) then
   some (p_w_0, p_w_1, p_w_2, (p_w_3 ++ [p_r]), (IntKind.wrap .i64 ((((p_w_3.length + 1) : Nat) : Int) - (1 : Int))), (0 : Int))
  else
   some (p_w_0, p_w_1, p_w_2, (p_w_3 ++ [p_r]), p_w_4, (max p_w_5 y1))
 else none
noncomputable def m_comp_row_add_own_K5 (p_w_0 : (List T_api_Row)) (p_w_1 : (List T_api_Range)) (p_w_2 : (List Int)) (p_w_3 : (List Int)) (p_w_4 : Int) (p_w_5 : Int) (p_r : Int) (s4 : Bool) : Option (Sum Unit ((List T_api_Row) × (List T_api_Range) × (List Int) × (List Int) × Int × Int)) :=
 bif s4 then
  if 0 ≤ p_w_4 ∧ p_w_4 < ((p_w_3.length : Nat) : Int) then
   Option.bind (m_comp_Pair ({ f_Rows := p_w_0, f_Classes := p_w_1, f_Excluded := p_w_2 } : T_api_Norm) (p_w_3.getD (p_w_4.toNat) 0) p_r) fun y6 =>
   bif y6.2 then
    if 0 ≤ p_w_4 ∧ p_w_4 < ((p_w_3.length : Nat) : Int) then
     some (.inr (p_w_0, p_w_1, p_w_2, (p_w_3.set (p_w_4.toNat) y6.1), p_w_4, p_w_5))
    else none
   else
    some (.inl ())
  else none
 else
  some (.inl ())
noncomputable def m_comp_row_add_own (p_w_0 : (List T_api_Row)) (p_w_1 : (List T_api_Range)) (p_w_2 : (List Int)) (p_w_3 : (List Int)) (p_w_4 : Int) (p_w_5 : Int) (p_r : Int) : Option ((List T_api_Row) × (List T_api_Range) × (List Int) × (List Int) × Int × Int) :=
 Option.bind (m_decomp_Class ({ f_Rows := p_w_0, f_Classes := p_w_1, f_Excluded := p_w_2 } : T_api_Norm) p_r) fun y1 =>
 Option.bind (
  Option.bind (
   bif (decide (p_w_4 ≥ (0 : Int))) then
    bif (((p_w_3.length : Nat) : Int) == (IntKind.wrap .i64 (p_w_4 + (1 : Int)))) then
     some true
    else
     some (decide (p_w_5 < y1))
   else
    some false : Option Bool) fun s4 =>
  m_comp_row_add_own_K5 p_w_0 p_w_1 p_w_2 p_w_3 p_w_4 p_w_5 p_r s4 : Option (Sum Unit ((List T_api_Row) × (List T_api_Range) × (List Int) × (List Int) × Int × Int))) fun z =>
 match z with
 | .inl s2 =>
  m_comp_row_add_own_K3 p_w_0 p_w_1 p_w_2 p_w_3 p_w_4 p_w_5 p_r y1 s2
 | .inr (v7) =>
  some v7
noncomputable def m_comp_Put_L5 (p_l : (List Int)) (s4 : (List T_api_Row) × (List T_api_Range) × (List Int) × (List Int) × Int × Int × Int) : Option (Stp ((List T_api_Row) × (List T_api_Range) × (List Int) × (List Int) × Int × Int × Int) ((List T_api_Row) × (List T_api_Range) × (List Int) × (List Int) × Int × Int)) :=
 bif (decide (s4.2.2.2.2.2.2 < ((p_l.length : Nat) : Int))) then
  if 0 ≤ s4.2.2.2.2.2.2 ∧ s4.2.2.2.2.2.2 < ((p_l.length : Nat) : Int) then
   Option.bind (m_comp_row_add_own s4.1 s4.2.1 s4.2.2.1 s4.2.2.2.1 s4.2.2.2.2.1 s4.2.2.2.2.2.1 (p_l.getD (s4.2.2.2.2.2.2.toNat) 0)) fun y7 =>
   some (.next (y7.1, y7.2.1, y7.2.2.1, y7.2.2.2.1, y7.2.2.2.2.1, y7.2.2.2.2.2, (IntKind.wrap .i64 (s4.2.2.2.2.2.2 + (1 : Int)))))
  else none
 else
  some (.done (s4.1, s4.2.1, s4.2.2.1, s4.2.2.2.1, s4.2.2.2.2.1, s4.2.2.2.2.2.1))
noncomputable def m_comp_Put (p_t : T_api_Norm) (p_l : (List Int)) : Option (List Int) :=
 Option.bind (
  iter (m_comp_Put_L5 p_l) (p_t.f_Rows, p_t.f_Classes, p_t.f_Excluded, [], (-1 : Int), (0 : Int), (0 : Int)) : Option ((List T_api_Row) × (List T_api_Range) × (List Int) × (List Int) × Int × Int)) fun s1 =>
 some s1.2.2.2.1
noncomputable def m_comp_All (p_t : T_api_Norm) (p_l : (List Int)) : Option (List Int) :=
 Option.bind (m_decomp_All p_t p_l) fun y1 =>
 Option.bind (m_comp_Put p_t y1) fun y2 =>
 some y2
noncomputable def m_eponymlaw01_Same_L5 (p_a : (List Int)) (p_b : (List Int)) (s4 : Int) : Option (Stp Int (Sum Unit Bool)) :=
 bif (decide (s4 < ((p_a.length : Nat) : Int))) then
  if 0 ≤ s4 ∧ s4 < ((p_a.length : Nat) : Int) then
   if 0 ≤ s4 ∧ s4 < ((p_b.length : Nat) : Int) then
    bif ((p_a.getD (s4.toNat) 0) != (p_b.getD (s4.toNat) 0)) then
     some (.done (.inr false))
    else
     some (.next (IntKind.wrap .i64 (s4 + (1 : Int))))
   else none
  else none
 else
  some (.done (.inl ()))
noncomputable def m_eponymlaw01_Same (p_a : (List Int)) (p_b : (List Int)) : Option Bool :=
 bif (((p_a.length : Nat) : Int) != ((p_b.length : Nat) : Int)) then
  some false
 else
  Option.bind (
   iter (m_eponymlaw01_Same_L5 p_a p_b) (0 : Int) : Option (Sum Unit Bool)) fun z =>
  match z with
  | .inl s1 =>
   some true
  | .inr (v9) =>
   some v9
noncomputable def m_eponymlaw05_awake  : Option Bool :=
 Option.bind (m_comp_All ({ f_Rows := [({ f_From := (233 : Int), f_To := [(101 : Int), (769 : Int)] } : T_api_Row)], f_Classes := [({ f_Lo := (769 : Int), f_Hi := (769 : Int), f_Value := (230 : Int) } : T_api_Range)], f_Excluded := [] } : T_api_Norm) [(101 : Int), (769 : Int)]) fun y1 =>
 Option.bind (m_eponymlaw01_Same y1 [(233 : Int)]) fun y2 =>
 bif y2 then
  Option.bind (m_comp_All ({ f_Rows := [({ f_From := (233 : Int), f_To := [(101 : Int), (769 : Int)] } : T_api_Row)], f_Classes := [({ f_Lo := (769 : Int), f_Hi := (769 : Int), f_Value := (230 : Int) } : T_api_Range)], f_Excluded := [] } : T_api_Norm) [(4352 : Int), (4449 : Int), (4520 : Int)]) fun y3 =>
  Option.bind (m_eponymlaw01_Same y3 [(44033 : Int)]) fun y4 =>
  some y4
 else
  some false
noncomputable def m_eponymlaw04_Great_L7 (p_t : T_api_Norm) (s6 : Int) : Option (Stp Int (Sum Unit Bool)) :=
 bif (decide (s6 < ((p_t.f_Rows.length : Nat) : Int))) then
  if 0 ≤ s6 ∧ s6 < ((p_t.f_Rows.length : Nat) : Int) then
   bif (decide ((((p_t.f_Rows.getD (s6.toNat) d_api_Row).f_To.length : Nat) : Int) > (4 : Int))) then
    some (.done (.inr true))
   else
    some (.next (IntKind.wrap .i64 (s6 + (1 : Int))))
  else none
 else
  some (.done (.inl ()))
noncomputable def m_eponymlaw04_Great_K2 (p_t : T_api_Norm) (s1 : Bool) : Option Bool :=
 bif s1 then
  some true
 else
  Option.bind (
   iter (m_eponymlaw04_Great_L7 p_t) (0 : Int) : Option (Sum Unit Bool)) fun z =>
  match z with
  | .inl s3 =>
   some false
  | .inr (v11) =>
   some v11
noncomputable def m_eponymlaw04_Great (p_t : T_api_Norm) : Option Bool :=
 Option.bind (
  bif (decide (((p_t.f_Rows.length : Nat) : Int) > (40 : Int))) then
   some true
  else
   bif (decide (((p_t.f_Classes.length : Nat) : Int) > (40 : Int))) then
    some true
   else
    some (decide (((p_t.f_Excluded.length : Nat) : Int) > (40 : Int))) : Option Bool) fun s1 =>
 m_eponymlaw04_Great_K2 p_t s1
noncomputable def m_eponymref01_Right (p_r : Int) : Option Bool :=
 bif (decide (p_r ≥ (0 : Int))) then
  bif (decide (p_r ≤ (1114111 : Int))) then
   bif (decide (p_r ≥ (55296 : Int))) then
    some (!(decide (p_r ≤ (57343 : Int))))
   else
    some true
  else
   some false
 else
  some false
noncomputable def m_eponymref04_hangul (p_r : Int) : Option Bool :=
 bif (decide (p_r ≥ (44032 : Int))) then
  bif (decide (p_r ≤ (55203 : Int))) then
   some true
  else
   bif (decide (p_r ≥ (4352 : Int))) then
    bif (decide (p_r ≤ (4370 : Int))) then
     some true
    else
     bif (decide (p_r ≥ (4449 : Int))) then
      bif (decide (p_r ≤ (4469 : Int))) then
       some true
      else
       bif (decide (p_r ≥ (4520 : Int))) then
        some (decide (p_r ≤ (4546 : Int)))
       else
        some false
     else
      bif (decide (p_r ≥ (4520 : Int))) then
       some (decide (p_r ≤ (4546 : Int)))
      else
       some false
   else
    bif (decide (p_r ≥ (4449 : Int))) then
     bif (decide (p_r ≤ (4469 : Int))) then
      some true
     else
      bif (decide (p_r ≥ (4520 : Int))) then
       some (decide (p_r ≤ (4546 : Int)))
      else
       some false
    else
     bif (decide (p_r ≥ (4520 : Int))) then
      some (decide (p_r ≤ (4546 : Int)))
     else
      some false
 else
  bif (decide (p_r ≥ (4352 : Int))) then
   bif (decide (p_r ≤ (4370 : Int))) then
    some true
   else
    bif (decide (p_r ≥ (4449 : Int))) then
     bif (decide (p_r ≤ (4469 : Int))) then
      some true
     else
      bif (decide (p_r ≥ (4520 : Int))) then
       some (decide (p_r ≤ (4546 : Int)))
      else
       some false
    else
     bif (decide (p_r ≥ (4520 : Int))) then
      some (decide (p_r ≤ (4546 : Int)))
     else
      some false
  else
   bif (decide (p_r ≥ (4449 : Int))) then
    bif (decide (p_r ≤ (4469 : Int))) then
     some true
    else
     bif (decide (p_r ≥ (4520 : Int))) then
      some (decide (p_r ≤ (4546 : Int)))
     else
      some false
   else
    bif (decide (p_r ≥ (4520 : Int))) then
     some (decide (p_r ≤ (4546 : Int)))
    else
     some false
noncomputable def m_eponymref04_Row_L5 (p_t : T_api_Norm) (p_r : Int) (s4 : Int) : Option (Stp Int (Sum Unit Int)) :=
 bif (decide (s4 < ((p_t.f_Rows.length : Nat) : Int))) then
  if 0 ≤ s4 ∧ s4 < ((p_t.f_Rows.length : Nat) : Int) then
   bif ((p_t.f_Rows.getD (s4.toNat) d_api_Row).f_From == p_r) then
    some (.done (.inr s4))
   else
    some (.next (IntKind.wrap .i64 (s4 + (1 : Int))))
  else none
 else
  some (.done (.inl ()))
noncomputable def m_eponymref04_Row (p_t : T_api_Norm) (p_r : Int) : Option Int :=
 Option.bind (
  iter (m_eponymref04_Row_L5 p_t p_r) (0 : Int) : Option (Sum Unit Int)) fun z =>
 match z with
 | .inl s1 =>
  some (-1 : Int)
 | .inr (v9) =>
  some v9
noncomputable def m_eponymref04_ahead_L5 (p_t : T_api_Norm) (p_i : Int) (s4 : Int) : Option (Stp Int (Sum Unit Int)) :=
 bif (decide (s4 < p_i)) then
  if 0 ≤ s4 ∧ s4 < ((p_t.f_Rows.length : Nat) : Int) then
   if 0 ≤ p_i ∧ p_i < ((p_t.f_Rows.length : Nat) : Int) then
    if 0 ≤ (0 : Int) ∧ (0 : Int) < (((p_t.f_Rows.getD (p_i.toNat) d_api_Row).f_To.length : Nat) : Int) then
     bif ((p_t.f_Rows.getD (s4.toNat) d_api_Row).f_From == ((p_t.f_Rows.getD (p_i.toNat) d_api_Row).f_To.getD 0 0)) then
      some (.done (.inr s4))
     else
      some (.next (IntKind.wrap .i64 (s4 + (1 : Int))))
    else none
   else none
  else none
 else
  some (.done (.inl ()))
noncomputable def m_eponymref04_ahead (p_t : T_api_Norm) (p_i : Int) : Option Int :=
 Option.bind (
  iter (m_eponymref04_ahead_L5 p_t p_i) (0 : Int) : Option (Sum Unit Int)) fun z =>
 match z with
 | .inl s1 =>
  some (-1 : Int)
 | .inr (v9) =>
  some v9
noncomputable def m_eponymref04_row_L15 (p_t : T_api_Norm) (s14 : Int × Int) : Option (Stp (Int × Int) (Sum Unit Int)) :=
 bif (decide (s14.2 ≥ (0 : Int))) then
  bif (decide ((IntKind.wrap .i64 (s14.1 + (1 : Int))) > (8 : Int))) then
   some (.done (.inr (9 : Int)))
  else
   Option.bind (m_eponymref04_ahead p_t s14.2) fun y17 =>
   some (.next ((IntKind.wrap .i64 (s14.1 + (1 : Int))), y17))
 else
  some (.done (.inl ()))
noncomputable def m_eponymref04_row_K10 (p_t : T_api_Norm) (p_i : Int) (s9 : Bool) : Option Int :=
 bif s9 then
  some (9 : Int)
 else
  Option.bind (
   iter (m_eponymref04_row_L15 p_t) ((0 : Int), p_i) : Option (Sum Unit Int)) fun z =>
  match z with
  | .inl s11 =>
   some (0 : Int)
  | .inr (v20) =>
   some v20
noncomputable def m_eponymref04_row_K8 (p_t : T_api_Norm) (p_i : Int) (s7 : Unit) : Option Int :=
 Option.bind (
  bif ((((p_t.f_Rows.getD (p_i.toNat) d_api_Row).f_To.length : Nat) : Int) == (2 : Int)) then
   if 0 ≤ (1 : Int) ∧ (1 : Int) < (((p_t.f_Rows.getD (p_i.toNat) d_api_Row).f_To.length : Nat) : Int) then
    Option.bind (m_eponymref04_Row p_t ((p_t.f_Rows.getD (p_i.toNat) d_api_Row).f_To.getD 1 0)) fun y21 =>
    some (decide (y21 ≥ (0 : Int)))
   else none
  else
   some false : Option Bool) fun s9 =>
 m_eponymref04_row_K10 p_t p_i s9
noncomputable def m_eponymref04_row_K27 (s23 : Int) (s26 : Bool) : Option (Stp Int (Sum Unit Int)) :=
 bif s26 then
  some (.done (.inr (5 : Int)))
 else
  some (.next (IntKind.wrap .i64 (s23 + (1 : Int))))
noncomputable def m_eponymref04_row_L24 (p_t : T_api_Norm) (p_i : Int) (s23 : Int) : Option (Stp Int (Sum Unit Int)) :=
 bif (decide (s23 < (((p_t.f_Rows.getD (p_i.toNat) d_api_Row).f_To.length : Nat) : Int))) then
  Option.bind (
   if 0 ≤ s23 ∧ s23 < (((p_t.f_Rows.getD (p_i.toNat) d_api_Row).f_To.length : Nat) : Int) then
    Option.bind (m_eponymref01_Right ((p_t.f_Rows.getD (p_i.toNat) d_api_Row).f_To.getD (s23.toNat) 0)) fun y28 =>
    bif (!y28) then
     some true
    else
     if 0 ≤ s23 ∧ s23 < (((p_t.f_Rows.getD (p_i.toNat) d_api_Row).f_To.length : Nat) : Int) then
      Option.bind (m_eponymref04_hangul ((p_t.f_Rows.getD (p_i.toNat) d_api_Row).f_To.getD (s23.toNat) 0)) fun y29 =>
      some y29
     else none
   else none : Option Bool) fun s26 =>
  m_eponymref04_row_K27 s23 s26
 else
  some (.done (.inl ()))
noncomputable def m_eponymref04_row_K6 (p_t : T_api_Norm) (p_i : Int) (s5 : Bool) : Option Int :=
 bif s5 then
  some (5 : Int)
 else
  Option.bind (
   iter (m_eponymref04_row_L24 p_t p_i) (0 : Int) : Option (Sum Unit Int)) fun z =>
  match z with
  | .inl s7 =>
   m_eponymref04_row_K8 p_t p_i s7
  | .inr (v32) =>
   some v32
noncomputable def m_eponymref04_row_K4 (p_t : T_api_Norm) (p_i : Int) (s3 : Bool) : Option Int :=
 bif s3 then
  some (6 : Int)
 else
  Option.bind (
   bif ((((p_t.f_Rows.getD (p_i.toNat) d_api_Row).f_To.length : Nat) : Int) != (1 : Int)) then
    bif ((((p_t.f_Rows.getD (p_i.toNat) d_api_Row).f_To.length : Nat) : Int) != (2 : Int)) then
     some true
    else
     if 0 ≤ (0 : Int) ∧ (0 : Int) < (((p_t.f_Rows.getD (p_i.toNat) d_api_Row).f_To.length : Nat) : Int) then
      some (decide (((p_t.f_Rows.getD (p_i.toNat) d_api_Row).f_To.getD 0 0) ≥ (p_t.f_Rows.getD (p_i.toNat) d_api_Row).f_From))
     else none
   else
    if 0 ≤ (0 : Int) ∧ (0 : Int) < (((p_t.f_Rows.getD (p_i.toNat) d_api_Row).f_To.length : Nat) : Int) then
     some (decide (((p_t.f_Rows.getD (p_i.toNat) d_api_Row).f_To.getD 0 0) ≥ (p_t.f_Rows.getD (p_i.toNat) d_api_Row).f_From))
    else none : Option Bool) fun s5 =>
  m_eponymref04_row_K6 p_t p_i s5
noncomputable def m_eponymref04_row_K2 (p_t : T_api_Norm) (p_i : Int) (s1 : Bool) : Option Int :=
 bif s1 then
  some (4 : Int)
 else
  Option.bind (
   bif (decide (p_i > (0 : Int))) then
    if 0 ≤ (IntKind.wrap .i64 (p_i - (1 : Int))) ∧ (IntKind.wrap .i64 (p_i - (1 : Int))) < ((p_t.f_Rows.length : Nat) : Int) then
     some (decide ((p_t.f_Rows.getD (p_i.toNat) d_api_Row).f_From ≤ (p_t.f_Rows.getD ((IntKind.wrap .i64 (p_i - (1 : Int))).toNat) d_api_Row).f_From))
    else none
   else
    some false : Option Bool) fun s3 =>
  m_eponymref04_row_K4 p_t p_i s3
noncomputable def m_eponymref04_row (p_t : T_api_Norm) (p_i : Int) : Option Int :=
 if 0 ≤ p_i ∧ p_i < ((p_t.f_Rows.length : Nat) : Int) then
  Option.bind (
   Option.bind (m_eponymref01_Right ((p_t.f_Rows.getD (p_i.toNat) d_api_Row).f_From)) fun y33 =>
   bif (!y33) then
    some true
   else
    Option.bind (m_eponymref04_hangul ((p_t.f_Rows.getD (p_i.toNat) d_api_Row).f_From)) fun y34 =>
    some y34 : Option Bool) fun s1 =>
  m_eponymref04_row_K2 p_t p_i s1
 else none
noncomputable def m_eponymref03_May (p_x : T_api_Range) : Option Bool :=
 bif (decide (p_x.f_Lo ≥ (0 : Int))) then
  bif (decide (p_x.f_Lo ≤ p_x.f_Hi)) then
   bif (decide (p_x.f_Hi ≤ (1114111 : Int))) then
    bif (decide (p_x.f_Value ≥ (0 : Int))) then
     some (decide (p_x.f_Value ≤ (999999 : Int)))
    else
     some false
   else
    some false
  else
   some false
 else
  some false
noncomputable def m_eponymref03_Check_K9 (s4 : Int) (s8 : Bool) : Option (Stp Int (Sum Unit (Int × Int))) :=
 bif s8 then
  some (.done (.inr (s4, (6 : Int))))
 else
  some (.next (IntKind.wrap .i64 (s4 + (1 : Int))))
noncomputable def m_eponymref03_Check_L5 (p_l : (List T_api_Range)) (s4 : Int) : Option (Stp Int (Sum Unit (Int × Int))) :=
 bif (decide (s4 < ((p_l.length : Nat) : Int))) then
  if 0 ≤ s4 ∧ s4 < ((p_l.length : Nat) : Int) then
   Option.bind (m_eponymref03_May (p_l.getD (s4.toNat) d_api_Range)) fun y7 =>
   bif (!y7) then
    some (.done (.inr (s4, (4 : Int))))
   else
    Option.bind (
     bif (decide (s4 > (0 : Int))) then
      if 0 ≤ s4 ∧ s4 < ((p_l.length : Nat) : Int) then
       if 0 ≤ (IntKind.wrap .i64 (s4 - (1 : Int))) ∧ (IntKind.wrap .i64 (s4 - (1 : Int))) < ((p_l.length : Nat) : Int) then
        some (decide ((p_l.getD (s4.toNat) d_api_Range).f_Lo ≤ (p_l.getD ((IntKind.wrap .i64 (s4 - (1 : Int))).toNat) d_api_Range).f_Hi))
       else none
      else none
     else
      some false : Option Bool) fun s8 =>
    m_eponymref03_Check_K9 s4 s8
  else none
 else
  some (.done (.inl ()))
noncomputable def m_eponymref03_Check (p_l : (List T_api_Range)) : Option (Int × Int) :=
 bif (decide (((p_l.length : Nat) : Int) > (2000 : Int))) then
  some ((0 : Int), (18 : Int))
 else
  Option.bind (
   iter (m_eponymref03_Check_L5 p_l) (0 : Int) : Option (Sum Unit (Int × Int))) fun z =>
  match z with
  | .inl s1 =>
   some ((0 : Int), (0 : Int))
  | .inr (v12) =>
   some (v12.1, v12.2)
noncomputable def m_eponymref04_excluded_L5 (p_t : T_api_Norm) (p_r : Int) (s4 : Int) : Option (Stp Int (Sum Unit Bool)) :=
 bif (decide (s4 < ((p_t.f_Excluded.length : Nat) : Int))) then
  if 0 ≤ s4 ∧ s4 < ((p_t.f_Excluded.length : Nat) : Int) then
   bif ((p_t.f_Excluded.getD (s4.toNat) 0) == p_r) then
    some (.done (.inr true))
   else
    some (.next (IntKind.wrap .i64 (s4 + (1 : Int))))
  else none
 else
  some (.done (.inl ()))
noncomputable def m_eponymref04_excluded (p_t : T_api_Norm) (p_r : Int) : Option Bool :=
 Option.bind (
  iter (m_eponymref04_excluded_L5 p_t p_r) (0 : Int) : Option (Sum Unit Bool)) fun z =>
 match z with
 | .inl s1 =>
  some false
 | .inr (v9) =>
  some v9
noncomputable def m_eponymref03_Find_K8 (p_l : (List T_api_Range)) (s4 : Int) (s7 : Bool) : Option (Stp Int (Sum Unit (Int × Bool))) :=
 bif s7 then
  if 0 ≤ s4 ∧ s4 < ((p_l.length : Nat) : Int) then
   some (.done (.inr ((p_l.getD (s4.toNat) d_api_Range).f_Value, true)))
  else none
 else
  some (.next (IntKind.wrap .i64 (s4 + (1 : Int))))
noncomputable def m_eponymref03_Find_L5 (p_l : (List T_api_Range)) (p_r : Int) (s4 : Int) : Option (Stp Int (Sum Unit (Int × Bool))) :=
 bif (decide (s4 < ((p_l.length : Nat) : Int))) then
  Option.bind (
   if 0 ≤ s4 ∧ s4 < ((p_l.length : Nat) : Int) then
    bif (decide ((p_l.getD (s4.toNat) d_api_Range).f_Lo ≤ p_r)) then
     if 0 ≤ s4 ∧ s4 < ((p_l.length : Nat) : Int) then
      some (decide (p_r ≤ (p_l.getD (s4.toNat) d_api_Range).f_Hi))
     else none
    else
     some false
   else none : Option Bool) fun s7 =>
  m_eponymref03_Find_K8 p_l s4 s7
 else
  some (.done (.inl ()))
noncomputable def m_eponymref03_Find (p_l : (List T_api_Range)) (p_r : Int) : Option (Int × Bool) :=
 Option.bind (
  iter (m_eponymref03_Find_L5 p_l p_r) (0 : Int) : Option (Sum Unit (Int × Bool))) fun z =>
 match z with
 | .inl s1 =>
  some ((0 : Int), false)
 | .inr (v11) =>
  some (v11.1, v11.2)
noncomputable def m_eponymref04_Class (p_t : T_api_Norm) (p_r : Int) : Option Int :=
 Option.bind (m_eponymref03_Find p_t.f_Classes p_r) fun y1 =>
 some y1.1
noncomputable def m_eponymref04_Composes_K2 (p_t : T_api_Norm) (p_i : Int) (s1 : Bool) : Option Bool :=
 bif s1 then
  some false
 else
  if 0 ≤ p_i ∧ p_i < ((p_t.f_Rows.length : Nat) : Int) then
   Option.bind (m_eponymref04_excluded p_t ((p_t.f_Rows.getD (p_i.toNat) d_api_Row).f_From)) fun y3 =>
   bif (!y3) then
    if 0 ≤ p_i ∧ p_i < ((p_t.f_Rows.length : Nat) : Int) then
     Option.bind (m_eponymref04_Class p_t ((p_t.f_Rows.getD (p_i.toNat) d_api_Row).f_From)) fun y4 =>
     bif (y4 == (0 : Int)) then
      if 0 ≤ p_i ∧ p_i < ((p_t.f_Rows.length : Nat) : Int) then
       if 0 ≤ (0 : Int) ∧ (0 : Int) < (((p_t.f_Rows.getD (p_i.toNat) d_api_Row).f_To.length : Nat) : Int) then
        Option.bind (m_eponymref04_Class p_t ((p_t.f_Rows.getD (p_i.toNat) d_api_Row).f_To.getD 0 0)) fun y5 =>
        some (y5 == (0 : Int))
       else none
      else none
     else
      some false
    else none
   else
    some false
  else none
noncomputable def m_eponymref04_Composes (p_t : T_api_Norm) (p_i : Int) : Option Bool :=
 Option.bind (
  bif (decide (p_i < (0 : Int))) then
   some true
  else
   bif (decide (p_i ≥ ((p_t.f_Rows.length : Nat) : Int))) then
    some true
   else
    if 0 ≤ p_i ∧ p_i < ((p_t.f_Rows.length : Nat) : Int) then
     some ((((p_t.f_Rows.getD (p_i.toNat) d_api_Row).f_To.length : Nat) : Int) != (2 : Int))
    else none : Option Bool) fun s1 =>
 m_eponymref04_Composes_K2 p_t p_i s1
noncomputable def m_eponymref04_Check_K23 (s13 : Int) (s19 : Int) (s22 : Bool) : Option (Stp Int (Sum Unit (Int × Int))) :=
 bif s22 then
  some (.done (.inr (s13, (7 : Int))))
 else
  some (.next (IntKind.wrap .i64 (s19 + (1 : Int))))
noncomputable def m_eponymref04_Check_L20 (p_t : T_api_Norm) (s13 : Int) (s19 : Int) : Option (Stp Int (Sum Unit (Int × Int))) :=
 bif (decide (s19 < s13)) then
  Option.bind (
   Option.bind (m_eponymref04_Composes p_t s13) fun y24 =>
   bif y24 then
    Option.bind (m_eponymref04_Composes p_t s19) fun y25 =>
    bif y25 then
     if 0 ≤ s13 ∧ s13 < ((p_t.f_Rows.length : Nat) : Int) then
      if 0 ≤ (0 : Int) ∧ (0 : Int) < (((p_t.f_Rows.getD (s13.toNat) d_api_Row).f_To.length : Nat) : Int) then
       if 0 ≤ s19 ∧ s19 < ((p_t.f_Rows.length : Nat) : Int) then
        if 0 ≤ (0 : Int) ∧ (0 : Int) < (((p_t.f_Rows.getD (s19.toNat) d_api_Row).f_To.length : Nat) : Int) then
         bif (((p_t.f_Rows.getD (s13.toNat) d_api_Row).f_To.getD 0 0) == ((p_t.f_Rows.getD (s19.toNat) d_api_Row).f_To.getD 0 0)) then
          if 0 ≤ s13 ∧ s13 < ((p_t.f_Rows.length : Nat) : Int) then
           if 0 ≤ (1 : Int) ∧ (1 : Int) < (((p_t.f_Rows.getD (s13.toNat) d_api_Row).f_To.length : Nat) : Int) then
            if 0 ≤ s19 ∧ s19 < ((p_t.f_Rows.length : Nat) : Int) then
             if 0 ≤ (1 : Int) ∧ (1 : Int) < (((p_t.f_Rows.getD (s19.toNat) d_api_Row).f_To.length : Nat) : Int) then
              some (((p_t.f_Rows.getD (s13.toNat) d_api_Row).f_To.getD 1 0) == ((p_t.f_Rows.getD (s19.toNat) d_api_Row).f_To.getD 1 0))
             else none
            else none
           else none
          else none
         else
          some false
        else none
       else none
      else none
     else none
    else
     some false
   else
    some false : Option Bool) fun s22 =>
  m_eponymref04_Check_K23 s13 s19 s22
 else
  some (.done (.inl ()))
noncomputable def m_eponymref04_Check_L14 (p_t : T_api_Norm) (s13 : Int) : Option (Stp Int (Sum Unit (Int × Int))) :=
 bif (decide (s13 < ((p_t.f_Rows.length : Nat) : Int))) then
  Option.bind (
   iter (m_eponymref04_Check_L20 p_t s13) (0 : Int) : Option (Sum Unit (Int × Int))) fun z =>
  match z with
  | .inl s16 =>
   some (.next (IntKind.wrap .i64 (s13 + (1 : Int))))
  | .inr (v28) =>
   some (.done (.inr (v28.1, v28.2)))
 else
  some (.done (.inl ()))
noncomputable def m_eponymref04_Check_K9 (p_t : T_api_Norm) (s8 : Unit) : Option (Int × Int) :=
 Option.bind (
  iter (m_eponymref04_Check_L14 p_t) (0 : Int) : Option (Sum Unit (Int × Int))) fun z =>
 match z with
 | .inl s10 =>
  some ((0 : Int), (0 : Int))
 | .inr (v31) =>
  some (v31.1, v31.2)
noncomputable def m_eponymref04_Check_K38 (s33 : Int) (s37 : Bool) : Option (Stp Int (Sum Unit (Int × Int))) :=
 bif s37 then
  some (.done (.inr (s33, (6 : Int))))
 else
  some (.next (IntKind.wrap .i64 (s33 + (1 : Int))))
noncomputable def m_eponymref04_Check_L34 (p_t : T_api_Norm) (s33 : Int) : Option (Stp Int (Sum Unit (Int × Int))) :=
 bif (decide (s33 < ((p_t.f_Excluded.length : Nat) : Int))) then
  if 0 ≤ s33 ∧ s33 < ((p_t.f_Excluded.length : Nat) : Int) then
   Option.bind (m_eponymref01_Right (p_t.f_Excluded.getD (s33.toNat) 0)) fun y36 =>
   bif (!y36) then
    some (.done (.inr (s33, (4 : Int))))
   else
    Option.bind (
     bif (decide (s33 > (0 : Int))) then
      if 0 ≤ s33 ∧ s33 < ((p_t.f_Excluded.length : Nat) : Int) then
       if 0 ≤ (IntKind.wrap .i64 (s33 - (1 : Int))) ∧ (IntKind.wrap .i64 (s33 - (1 : Int))) < ((p_t.f_Excluded.length : Nat) : Int) then
        some (decide ((p_t.f_Excluded.getD (s33.toNat) 0) ≤ (p_t.f_Excluded.getD ((IntKind.wrap .i64 (s33 - (1 : Int))).toNat) 0)))
       else none
      else none
     else
      some false : Option Bool) fun s37 =>
    m_eponymref04_Check_K38 s33 s37
  else none
 else
  some (.done (.inl ()))
noncomputable def m_eponymref04_Check_K7 (p_t : T_api_Norm) (s6 : Unit) : Option (Int × Int) :=
 Option.bind (
  iter (m_eponymref04_Check_L34 p_t) (0 : Int) : Option (Sum Unit (Int × Int))) fun z =>
 match z with
 | .inl s8 =>
  m_eponymref04_Check_K9 p_t s8
 | .inr (v41) =>
  some (v41.1, v41.2)
noncomputable def m_eponymref04_Check_L52 (p_t : T_api_Norm) (s43 : Int) (s51 : Int) : Option (Stp Int (Sum Unit (Int × Int))) :=
 if 0 ≤ s43 ∧ s43 < ((p_t.f_Classes.length : Nat) : Int) then
  bif (decide (s51 ≤ (p_t.f_Classes.getD (s43.toNat) d_api_Range).f_Hi)) then
   Option.bind (m_eponymref04_hangul s51) fun y54 =>
   bif y54 then
    some (.done (.inr (s43, (17 : Int))))
   else
    some (.next (IntKind.wrap .i32 (s51 + (1 : Int))))
  else
   some (.done (.inl ()))
 else none
noncomputable def m_eponymref04_Check_K49 (p_t : T_api_Norm) (s43 : Int) (s48 : Bool) : Option (Sum Unit (Int × Int)) :=
 bif s48 then
  some (.inr (s43, (17 : Int)))
 else
  if 0 ≤ s43 ∧ s43 < ((p_t.f_Classes.length : Nat) : Int) then
   Option.bind (iter (m_eponymref04_Check_L52 p_t s43) ((p_t.f_Classes.getD (s43.toNat) d_api_Range).f_Lo)) fun z =>
   match z with
   | .inl s55 =>
    some (.inl ())
   | .inr (v56) =>
    some (.inr (v56.1, v56.2))
  else none
noncomputable def m_eponymref04_Check_L44 (p_t : T_api_Norm) (s43 : Int) : Option (Stp Int (Sum Unit (Int × Int))) :=
 bif (decide (s43 < ((p_t.f_Classes.length : Nat) : Int))) then
  Option.bind (
   Option.bind (
    if 0 ≤ s43 ∧ s43 < ((p_t.f_Classes.length : Nat) : Int) then
     bif (decide ((p_t.f_Classes.getD (s43.toNat) d_api_Range).f_Value < (1 : Int))) then
      some true
     else
      if 0 ≤ s43 ∧ s43 < ((p_t.f_Classes.length : Nat) : Int) then
       some (decide ((p_t.f_Classes.getD (s43.toNat) d_api_Range).f_Value > (254 : Int)))
      else none
    else none : Option Bool) fun s48 =>
   m_eponymref04_Check_K49 p_t s43 s48 : Option (Sum Unit (Int × Int))) fun z =>
  match z with
  | .inl s46 =>
   some (.next (IntKind.wrap .i64 (s43 + (1 : Int))))
  | .inr (v57) =>
   some (.done (.inr (v57.1, v57.2)))
 else
  some (.done (.inl ()))
noncomputable def m_eponymref04_Check_K4 (p_t : T_api_Norm) (s3 : Unit) : Option (Int × Int) :=
 Option.bind (m_eponymref03_Check p_t.f_Classes) fun y5 =>
 bif (y5.2 != (0 : Int)) then
  some (y5.1, y5.2)
 else
  Option.bind (
   iter (m_eponymref04_Check_L44 p_t) (0 : Int) : Option (Sum Unit (Int × Int))) fun z =>
  match z with
  | .inl s6 =>
   m_eponymref04_Check_K7 p_t s6
  | .inr (v60) =>
   some (v60.1, v60.2)
noncomputable def m_eponymref04_Check_L63 (p_t : T_api_Norm) (s62 : Int) : Option (Stp Int (Sum Unit (Int × Int))) :=
 bif (decide (s62 < ((p_t.f_Rows.length : Nat) : Int))) then
  Option.bind (m_eponymref04_row p_t s62) fun y65 =>
  bif (y65 != (0 : Int)) then
   some (.done (.inr (s62, y65)))
  else
   some (.next (IntKind.wrap .i64 (s62 + (1 : Int))))
 else
  some (.done (.inl ()))
noncomputable def m_eponymref04_Check_K2 (p_t : T_api_Norm) (s1 : Bool) : Option (Int × Int) :=
 bif s1 then
  some ((0 : Int), (18 : Int))
 else
  Option.bind (
   iter (m_eponymref04_Check_L63 p_t) (0 : Int) : Option (Sum Unit (Int × Int))) fun z =>
  match z with
  | .inl s3 =>
   m_eponymref04_Check_K4 p_t s3
  | .inr (v68) =>
   some (v68.1, v68.2)
noncomputable def m_eponymref04_Check (p_t : T_api_Norm) : Option (Int × Int) :=
 Option.bind (
  bif (decide (((p_t.f_Rows.length : Nat) : Int) > (2000 : Int))) then
   some true
  else
   some (decide (((p_t.f_Excluded.length : Nat) : Int) > (2000 : Int))) : Option Bool) fun s1 =>
 m_eponymref04_Check_K2 p_t s1
noncomputable def m_eponymlaw04_Right (p_t : T_api_Norm) : Option Bool :=
 Option.bind (m_eponymref04_Check p_t) fun y1 =>
 some (y1.2 == (0 : Int))
noncomputable def m_utf_fault (p_at : Int) (p_e : Er) : Option Er :=
 some (Er.box 51 p_at p_e)
noncomputable def m_utf_first_K2 (p_b : Int) (s1 : Int) : Option (Int × Int × Int × Int) :=
 bif (p_b == (224 : Int)) then
  if 0 ≤ s1 then
   some (s1, (IntKind.wrap .i32 (iand .u8 p_b (Int.fdiv (63 : Int) (2 ^ (min (s1).toNat (IntKind.bits .u8)))))), (160 : Int), (191 : Int))
  else none
 else
  bif (p_b == (237 : Int)) then
   if 0 ≤ s1 then
    some (s1, (IntKind.wrap .i32 (iand .u8 p_b (Int.fdiv (63 : Int) (2 ^ (min (s1).toNat (IntKind.bits .u8)))))), (128 : Int), (159 : Int))
   else none
  else
   bif (p_b == (240 : Int)) then
    if 0 ≤ s1 then
     some (s1, (IntKind.wrap .i32 (iand .u8 p_b (Int.fdiv (63 : Int) (2 ^ (min (s1).toNat (IntKind.bits .u8)))))), (144 : Int), (191 : Int))
    else none
   else
    bif (p_b == (244 : Int)) then
     if 0 ≤ s1 then
      some (s1, (IntKind.wrap .i32 (iand .u8 p_b (Int.fdiv (63 : Int) (2 ^ (min (s1).toNat (IntKind.bits .u8)))))), (128 : Int), (143 : Int))
     else none
    else
     if 0 ≤ s1 then
      some (s1, (IntKind.wrap .i32 (iand .u8 p_b (Int.fdiv (63 : Int) (2 ^ (min (s1).toNat (IntKind.bits .u8)))))), (128 : Int), (191 : Int))
     else none
noncomputable def m_utf_first (p_b : Int) : Option (Int × Int × Int × Int) :=
 Option.bind (
  bif (decide (p_b ≥ (245 : Int))) then
   some (.inr ((-1 : Int), (0 : Int), (128 : Int), (191 : Int)))
  else
   bif (decide (p_b ≥ (240 : Int))) then
    some (.inl (IntKind.wrap .i64 ((IntKind.wrap .i64 ((IntKind.wrap .i64 ((0 : Int) + (1 : Int))) + (1 : Int))) + (1 : Int))))
   else
    bif (decide (p_b ≥ (224 : Int))) then
     some (.inl (IntKind.wrap .i64 ((IntKind.wrap .i64 ((0 : Int) + (1 : Int))) + (1 : Int))))
    else
     bif (decide (p_b ≥ (194 : Int))) then
      some (.inl (IntKind.wrap .i64 ((0 : Int) + (1 : Int))))
     else
      bif (decide (p_b ≥ (128 : Int))) then
       some (.inr ((-1 : Int), (0 : Int), (128 : Int), (191 : Int)))
      else
       some (.inr ((0 : Int), (IntKind.wrap .i32 p_b), (128 : Int), (191 : Int))) : Option (Sum Int (Int × Int × Int × Int))) fun z =>
 match z with
 | .inl s1 =>
  m_utf_first_K2 p_b s1
 | .inr (v3) =>
  some (v3.1, v3.2.1, v3.2.2.1, v3.2.2.2)
noncomputable def m_utf_Next_K14 (p_s : ByteArray) (p_at : Int) (s9 : Int × Int × Int × Int) (s13 : Bool) : Option (Stp (Int × Int × Int × Int) (Sum Int (Int × Int × Er))) :=
 bif s13 then
  Option.bind (m_utf_fault p_at (Er.sent 2)) fun y15 =>
  some (.done (.inr ((0 : Int), (0 : Int), y15)))
 else
  some (.next ((ior .i32 (IntKind.wrap .i32 (s9.1 * 64)) (IntKind.wrap .i32 (iand .u8 (bt p_s (IntKind.wrap .i64 (p_at + s9.2.2.2))) (63 : Int)))), (128 : Int), (191 : Int), (IntKind.wrap .i64 (s9.2.2.2 + (1 : Int)))))
noncomputable def m_utf_Next_L10 (p_s : ByteArray) (p_at : Int) (y4 : Int × Int × Int × Int) (s9 : Int × Int × Int × Int) : Option (Stp (Int × Int × Int × Int) (Sum Int (Int × Int × Er))) :=
 bif (decide (s9.2.2.2 ≤ y4.1)) then
  bif (decide ((IntKind.wrap .i64 (p_at + s9.2.2.2)) ≥ ((p_s.size : Nat) : Int))) then
   Option.bind (m_utf_fault p_at (Er.sent 3)) fun y12 =>
   some (.done (.inr ((0 : Int), (0 : Int), y12)))
  else
   if 0 ≤ (IntKind.wrap .i64 (p_at + s9.2.2.2)) ∧ (IntKind.wrap .i64 (p_at + s9.2.2.2)) < ((p_s.size : Nat) : Int) then
    Option.bind (
     bif (decide ((bt p_s (IntKind.wrap .i64 (p_at + s9.2.2.2))) < s9.2.1)) then
      some true
     else
      some (decide ((bt p_s (IntKind.wrap .i64 (p_at + s9.2.2.2))) > s9.2.2.1)) : Option Bool) fun s13 =>
    m_utf_Next_K14 p_s p_at s9 s13
   else none
 else
  some (.done (.inl s9.1))
noncomputable def m_utf_Next_K2 (p_s : ByteArray) (p_at : Int) (s1 : Bool) : Option (Int × Int × Er) :=
 bif s1 then
  Option.bind (m_utf_fault p_at (Er.sent 0)) fun y3 =>
  some ((0 : Int), (0 : Int), y3)
 else
  if 0 ≤ p_at ∧ p_at < ((p_s.size : Nat) : Int) then
   Option.bind (m_utf_first (bt p_s p_at)) fun y4 =>
   bif (decide (y4.1 < (0 : Int))) then
    Option.bind (m_utf_fault p_at (Er.sent 2)) fun y5 =>
    some ((0 : Int), (0 : Int), y5)
   else
    Option.bind (
     iter (m_utf_Next_L10 p_s p_at y4) (y4.2.1, y4.2.2.1, y4.2.2.2, (1 : Int)) : Option (Sum Int (Int × Int × Er))) fun z =>
    match z with
    | .inl s6 =>
     some (s6, (IntKind.wrap .i64 (y4.1 + (1 : Int))), Er.nil)
    | .inr (v18) =>
     some (v18.1, v18.2.1, v18.2.2)
  else none
noncomputable def m_utf_Next (p_s : ByteArray) (p_at : Int) : Option (Int × Int × Er) :=
 Option.bind (
  bif (decide (p_at < (0 : Int))) then
   some true
  else
   some (decide (p_at ≥ ((p_s.size : Nat) : Int))) : Option Bool) fun s1 =>
 m_utf_Next_K2 p_s p_at s1
noncomputable def m_utf_Decode_L5 (p_s : ByteArray) (s4 : (List Int) × Int) : Option (Stp ((List Int) × Int) (Sum (List Int) ((List Int) × Er))) :=
 bif (decide (s4.2 < ((p_s.size : Nat) : Int))) then
  Option.bind (m_utf_Next p_s s4.2) fun y7 =>
  bif (!y7.2.2.isNil) then
   some (.done (.inr ([], y7.2.2)))
  else
   if (s4.1.length + 1) * 4 ≤ 140737488355328 then
    some (.next ((s4.1 ++ [y7.1]), (IntKind.wrap .i64 (s4.2 + y7.2.1))))
   else none
 else
  some (.done (.inl s4.1))
noncomputable def m_utf_Decode (p_s : ByteArray) : Option ((List Int) × Er) :=
 Option.bind (
  iter (m_utf_Decode_L5 p_s) ([], (0 : Int)) : Option (Sum (List Int) ((List Int) × Er))) fun z =>
 match z with
 | .inl s1 =>
  some (s1, Er.nil)
 | .inr (v10) =>
  some (v10.1, v10.2)
noncomputable def m_utf_Right (p_r : Int) : Option Bool :=
 bif (decide (p_r ≥ (0 : Int))) then
  bif (decide (p_r ≤ (1114111 : Int))) then
   bif (decide (p_r < (55296 : Int))) then
    some true
   else
    some (decide (p_r > (57343 : Int)))
  else
   some false
 else
  some false
noncomputable def m_utf_Width (p_r : Int) : Option Int :=
 Option.bind (m_utf_Right p_r) fun y1 =>
 bif (!y1) then
  some (0 : Int)
 else
  bif (decide (p_r < (128 : Int))) then
   some (1 : Int)
  else
   bif (decide (p_r < (2048 : Int))) then
    some (2 : Int)
   else
    bif (decide (p_r < (65536 : Int))) then
     some (3 : Int)
    else
     some (4 : Int)
noncomputable def m_strings_Builder_copyCheck_own (p_b_0 : Bool) (p_b_1 : (List Int)) : Option Bool :=
 bif (!p_b_0) then
  some true
 else
  bif (!p_b_0) then
   none
  else
   some p_b_0
noncomputable def m_strings_Builder_WriteByte_own (p_b_0 : Bool) (p_b_1 : (List Int)) (p_c : Int) : Option (Bool × (List Int) × Er) :=
 Option.bind (m_strings_Builder_copyCheck_own p_b_0 p_b_1) fun y1 =>
 if (p_b_1.length + 1) * 1 ≤ 140737488355328 then
  some (y1, (p_b_1 ++ [p_c]), Er.nil)
 else none
noncomputable def m_utf_put_own_L9 (p_r : Int) (s8 : Bool × (List Int) × Int) : Option (Stp (Bool × (List Int) × Int) (Bool × (List Int))) :=
 bif (decide (s8.2.2 ≥ (0 : Int))) then
  if 0 ≤ (IntKind.wrap .i64 ((6 : Int) * s8.2.2)) then
   Option.bind (m_strings_Builder_WriteByte_own s8.1 s8.2.1 (ior .u8 (128 : Int) (iand .u8 (IntKind.wrap .u8 (Int.fdiv p_r (2 ^ (min ((IntKind.wrap .i64 ((6 : Int) * s8.2.2))).toNat (IntKind.bits .i32))))) (63 : Int)))) fun y11 =>
   some (.next (y11.1, y11.2.1, (IntKind.wrap .i64 (s8.2.2 - (1 : Int)))))
  else none
 else
  some (.done (s8.1, s8.2.1))
noncomputable def m_utf_put_own (p_b_0 : Bool) (p_b_1 : (List Int)) (p_r : Int) : Option (Bool × (List Int)) :=
 Option.bind (m_utf_Width p_r) fun y4 =>
 bif (y4 == (1 : Int)) then
  Option.bind (m_strings_Builder_WriteByte_own p_b_0 p_b_1 (IntKind.wrap .u8 p_r)) fun y5 =>
  some (y5.1, y5.2.1)
 else
  if 0 ≤ (IntKind.wrap .i64 ((4 : Int) - y4)) then
   if 0 ≤ (IntKind.wrap .i64 ((6 : Int) * (IntKind.wrap .i64 (y4 - (1 : Int))))) then
    Option.bind (m_strings_Builder_WriteByte_own p_b_0 p_b_1 (ior .u8 (IntKind.wrap .u8 ((240 : Int) * 2 ^ (min ((IntKind.wrap .i64 ((4 : Int) - y4))).toNat (IntKind.bits .u8)))) (IntKind.wrap .u8 (Int.fdiv p_r (2 ^ (min ((IntKind.wrap .i64 ((6 : Int) * (IntKind.wrap .i64 (y4 - (1 : Int)))))).toNat (IntKind.bits .i32))))))) fun y6 =>
    Option.bind (iter (m_utf_put_own_L9 p_r) (y6.1, y6.2.1, (IntKind.wrap .i64 (y4 - (2 : Int))))) fun s12 =>
    some (s12.1, s12.2)
   else none
  else none
noncomputable def m_strings_Builder_String_own (p_b_0 : Bool) (p_b_1 : (List Int)) : Option (Bool × (List Int) × ByteArray) :=
 if p_b_1.length ≤ 9223372036854775807 then
  some (p_b_0, p_b_1, (strOfNums (p_b_1.take p_b_1.length)))
 else none
noncomputable def m_utf_Encode_K2  (s1 : Bool × (List Int)) : Option (ByteArray × Er) :=
 Option.bind (m_strings_Builder_String_own s1.1 s1.2) fun y3 =>
 if y3.2.1.length = s1.2.length then
  some (y3.2.2, Er.nil)
 else none
noncomputable def m_utf_Encode_L6 (p_l : (List Int)) (s5 : Bool × (List Int) × Int) : Option (Stp (Bool × (List Int) × Int) (Sum (Bool × (List Int)) (ByteArray × Er))) :=
 bif (decide (s5.2.2 < ((p_l.length : Nat) : Int))) then
  if 0 ≤ s5.2.2 ∧ s5.2.2 < ((p_l.length : Nat) : Int) then
   Option.bind (m_utf_Right (p_l.getD (s5.2.2.toNat) 0)) fun y8 =>
   bif (!y8) then
    Option.bind (m_utf_fault s5.2.2 (Er.sent 0)) fun y9 =>
    some (.done (.inr ((ByteArray.mk #[]), y9)))
   else
    Option.bind (m_utf_put_own s5.1 s5.2.1 (p_l.getD (s5.2.2.toNat) 0)) fun y10 =>
    some (.next (y10.1, y10.2, (IntKind.wrap .i64 (s5.2.2 + (1 : Int)))))
  else none
 else
  some (.done (.inl (s5.1, s5.2.1)))
noncomputable def m_utf_Encode (p_l : (List Int)) : Option (ByteArray × Er) :=
 Option.bind (
  iter (m_utf_Encode_L6 p_l) (false, [], (0 : Int)) : Option (Sum (Bool × (List Int)) (ByteArray × Er))) fun z =>
 match z with
 | .inl s1 =>
  m_utf_Encode_K2 s1
 | .inr (v13) =>
  some (v13.1, v13.2)
noncomputable def m_comp_Text (p_t : T_api_Norm) (p_s : ByteArray) : Option (ByteArray × Er) :=
 Option.bind (m_utf_Decode p_s) fun y1 =>
 bif (!y1.2.isNil) then
  some ((ByteArray.mk #[]), y1.2)
 else
  Option.bind (m_comp_All p_t y1.1) fun y2 =>
  Option.bind (m_utf_Encode y2) fun y3 =>
  some (y3.1, y3.2)
noncomputable def m_eponymref01_value_K16 (p_s : ByteArray) (s12 : Int × Int) (s15 : Bool) : Option (Stp (Int × Int) (Sum Int Int)) :=
 bif s15 then
  some (.done (.inr (-1 : Int)))
 else
  if 0 ≤ s12.2 ∧ s12.2 < ((p_s.size : Nat) : Int) then
   some (.next ((IntKind.wrap .i32 ((IntKind.wrap .i32 ((IntKind.wrap .i32 (s12.1 * (64 : Int))) + (IntKind.wrap .i32 (bt p_s s12.2)))) - (128 : Int))), (IntKind.wrap .i64 (s12.2 + (1 : Int)))))
  else none
noncomputable def m_eponymref01_value_L13 (p_s : ByteArray) (s12 : Int × Int) : Option (Stp (Int × Int) (Sum Int Int)) :=
 bif (decide (s12.2 < ((p_s.size : Nat) : Int))) then
  Option.bind (
   if 0 ≤ s12.2 ∧ s12.2 < ((p_s.size : Nat) : Int) then
    bif (decide ((bt p_s s12.2) < (128 : Int))) then
     some true
    else
     if 0 ≤ s12.2 ∧ s12.2 < ((p_s.size : Nat) : Int) then
      some (decide ((bt p_s s12.2) > (191 : Int)))
     else none
   else none : Option Bool) fun s15 =>
  m_eponymref01_value_K16 p_s s12 s15
 else
  some (.done (.inl s12.1))
noncomputable def m_eponymref01_value_K8 (p_s : ByteArray) (s7 : Int) : Option Int :=
 bif (decide (s7 < (0 : Int))) then
  some (-1 : Int)
 else
  Option.bind (
   iter (m_eponymref01_value_L13 p_s) (s7, (1 : Int)) : Option (Sum Int Int)) fun z =>
  match z with
  | .inl s9 =>
   some s9
  | .inr (v19) =>
   some v19
noncomputable def m_eponymref01_value_K21 (p_s : ByteArray) (s5 : Int) (s20 : Bool) : Option Int :=
 bif s20 then
  some (IntKind.wrap .i32 ((IntKind.wrap .i32 (bt p_s (0 : Int))) - (240 : Int)))
 else
  some s5
noncomputable def m_eponymref01_value_K6 (p_s : ByteArray) (s5 : Int) : Option Int :=
 Option.bind (
  Option.bind (
   bif (((p_s.size : Nat) : Int) == (4 : Int)) then
    bif (decide ((IntKind.wrap .i32 (bt p_s (0 : Int))) ≥ (240 : Int))) then
     some (decide ((IntKind.wrap .i32 (bt p_s (0 : Int))) < (248 : Int)))
    else
     some false
   else
    some false : Option Bool) fun s20 =>
  m_eponymref01_value_K21 p_s s5 s20 : Option Int) fun s7 =>
 m_eponymref01_value_K8 p_s s7
noncomputable def m_eponymref01_value_K23 (p_s : ByteArray) (s3 : Int) (s22 : Bool) : Option Int :=
 bif s22 then
  some (IntKind.wrap .i32 ((IntKind.wrap .i32 (bt p_s (0 : Int))) - (224 : Int)))
 else
  some s3
noncomputable def m_eponymref01_value_K4 (p_s : ByteArray) (s3 : Int) : Option Int :=
 Option.bind (
  Option.bind (
   bif (((p_s.size : Nat) : Int) == (3 : Int)) then
    bif (decide ((IntKind.wrap .i32 (bt p_s (0 : Int))) ≥ (224 : Int))) then
     some (decide ((IntKind.wrap .i32 (bt p_s (0 : Int))) < (240 : Int)))
    else
     some false
   else
    some false : Option Bool) fun s22 =>
  m_eponymref01_value_K23 p_s s3 s22 : Option Int) fun s5 =>
 m_eponymref01_value_K6 p_s s5
noncomputable def m_eponymref01_value_K25 (p_s : ByteArray) (s24 : Bool) : Option Int :=
 bif s24 then
  some (IntKind.wrap .i32 ((IntKind.wrap .i32 (bt p_s (0 : Int))) - (192 : Int)))
 else
  some (-1 : Int)
noncomputable def m_eponymref01_value_K2 (p_s : ByteArray) (s1 : Bool) : Option Int :=
 bif s1 then
  some (IntKind.wrap .i32 (bt p_s (0 : Int)))
 else
  Option.bind (
   Option.bind (
    bif (((p_s.size : Nat) : Int) == (2 : Int)) then
     bif (decide ((IntKind.wrap .i32 (bt p_s (0 : Int))) ≥ (192 : Int))) then
      some (decide ((IntKind.wrap .i32 (bt p_s (0 : Int))) < (224 : Int)))
     else
      some false
    else
     some false : Option Bool) fun s24 =>
   m_eponymref01_value_K25 p_s s24 : Option Int) fun s3 =>
  m_eponymref01_value_K4 p_s s3
noncomputable def m_eponymref01_value (p_s : ByteArray) : Option Int :=
 if 0 ≤ (0 : Int) ∧ (0 : Int) < ((p_s.size : Nat) : Int) then
  Option.bind (
   bif (((p_s.size : Nat) : Int) == (1 : Int)) then
    some (decide ((IntKind.wrap .i32 (bt p_s (0 : Int))) < (128 : Int)))
   else
    some false : Option Bool) fun s1 =>
  m_eponymref01_value_K2 p_s s1
 else none
noncomputable def m_eponymref01_Form (p_r : Int) : Option ByteArray :=
 bif (decide (p_r < (128 : Int))) then
  some (strOfNums [(IntKind.wrap .u8 p_r)])
 else
  bif (decide (p_r < (2048 : Int))) then
   some (strOfNums [(IntKind.wrap .u8 (IntKind.wrap .i32 ((192 : Int) + (IntKind.wrap .i32 (Int.tdiv p_r (64 : Int)))))), (IntKind.wrap .u8 (IntKind.wrap .i32 ((128 : Int) + (Int.tmod p_r (64 : Int)))))])
  else
   bif (decide (p_r < (65536 : Int))) then
    some (strOfNums [(IntKind.wrap .u8 (IntKind.wrap .i32 ((224 : Int) + (IntKind.wrap .i32 (Int.tdiv p_r (4096 : Int)))))), (IntKind.wrap .u8 (IntKind.wrap .i32 ((128 : Int) + (Int.tmod (IntKind.wrap .i32 (Int.tdiv p_r (64 : Int))) (64 : Int))))), (IntKind.wrap .u8 (IntKind.wrap .i32 ((128 : Int) + (Int.tmod p_r (64 : Int)))))])
   else
    some (strOfNums [(IntKind.wrap .u8 (IntKind.wrap .i32 ((240 : Int) + (IntKind.wrap .i32 (Int.tdiv p_r (262144 : Int)))))), (IntKind.wrap .u8 (IntKind.wrap .i32 ((128 : Int) + (Int.tmod (IntKind.wrap .i32 (Int.tdiv p_r (4096 : Int))) (64 : Int))))), (IntKind.wrap .u8 (IntKind.wrap .i32 ((128 : Int) + (Int.tmod (IntKind.wrap .i32 (Int.tdiv p_r (64 : Int))) (64 : Int))))), (IntKind.wrap .u8 (IntKind.wrap .i32 ((128 : Int) + (Int.tmod p_r (64 : Int)))))])
noncomputable def m_eponymref01_some_K10 (s5 : Int) (s7 : Int) (s9 : Bool) : Option Bool :=
 bif s9 then
  some (decide ((57344 : Int) ≤ s7))
 else
  some (decide (s5 ≤ s7))
noncomputable def m_eponymref01_some_K8 (s5 : Int) (s7 : Int) : Option Bool :=
 Option.bind (
  bif (decide (s5 ≥ (55296 : Int))) then
   some (decide (s5 ≤ (57343 : Int)))
  else
   some false : Option Bool) fun s9 =>
 m_eponymref01_some_K10 s5 s7 s9
noncomputable def m_eponymref01_some_K6 (p_b : Int) (s3 : Int × Int) (s5 : Int) : Option Bool :=
 Option.bind (
  bif (decide (p_b > s3.2)) then
   some s3.2
  else
   some p_b : Option Int) fun s7 =>
 m_eponymref01_some_K8 s5 s7
noncomputable def m_eponymref01_some_K4 (p_a : Int) (p_b : Int) (s3 : Int × Int) : Option Bool :=
 Option.bind (
  bif (decide (p_a < s3.1)) then
   some s3.1
  else
   some p_a : Option Int) fun s5 =>
 m_eponymref01_some_K6 p_b s3 s5
noncomputable def m_eponymref01_some_K2 (p_a : Int) (p_b : Int) (p_n : Int) (s1 : Int × Int) : Option Bool :=
 Option.bind (
  bif (p_n == (4 : Int)) then
   some ((65536 : Int), (1114111 : Int))
  else
   some (s1.1, s1.2) : Option (Int × Int)) fun s3 =>
 m_eponymref01_some_K4 p_a p_b s3
noncomputable def m_eponymref01_some (p_a : Int) (p_b : Int) (p_n : Int) : Option Bool :=
 Option.bind (
  bif (p_n == (3 : Int)) then
   some ((2048 : Int), (65535 : Int))
  else
   some ((128 : Int), (2047 : Int)) : Option (Int × Int)) fun s1 =>
 m_eponymref01_some_K2 p_a p_b p_n s1
noncomputable def m_eponymref01_Next_K16  (s15 : Bool) : Option (Sum Unit (Int × Int × Int)) :=
 bif s15 then
  some (.inr ((0 : Int), (0 : Int), (2 : Int)))
 else
  some (.inl ())
noncomputable def m_eponymref01_Next_K12 (s6 : Int) (s11 : ByteArray × ByteArray) : Option (Sum Unit (Int × Int × Int)) :=
 Option.bind (m_eponymref01_value s11.1) fun y13 =>
 Option.bind (m_eponymref01_value s11.2) fun y14 =>
 Option.bind (
  bif (decide (y13 ≥ (0 : Int))) then
   bif (decide (y14 ≥ (0 : Int))) then
    Option.bind (m_eponymref01_some y13 y14 s6) fun y17 =>
    some y17
   else
    some false
  else
   some false : Option Bool) fun s15 =>
 m_eponymref01_Next_K16 s15
noncomputable def m_eponymref01_Next_L20 (s6 : Int) (s19 : ByteArray × ByteArray) : Option (Stp (ByteArray × ByteArray) (ByteArray × ByteArray)) :=
 bif (decide (((s19.1.size : Nat) : Int) < s6)) then
  if s19.1.size + (ByteArray.mk #[128]).size ≤ 9223372036854775807 then
   if s19.2.size + (ByteArray.mk #[191]).size ≤ 9223372036854775807 then
    some (.next ((s19.1 ++ (ByteArray.mk #[128])), (s19.2 ++ (ByteArray.mk #[191]))))
   else none
  else none
 else
  some (.done (s19.1, s19.2))
noncomputable def m_eponymref01_Next_L7 (p_s : ByteArray) (p_at : Int) (s6 : Int) : Option (Stp Int (Sum Unit (Int × Int × Int))) :=
 bif (decide (s6 ≤ (4 : Int))) then
  Option.bind (
   Option.bind (
    iter (m_eponymref01_Next_L20 s6) ((p_s.extract (p_at.toNat) p_s.size), (p_s.extract (p_at.toNat) p_s.size)) : Option (ByteArray × ByteArray)) fun s11 =>
   m_eponymref01_Next_K12 s6 s11 : Option (Sum Unit (Int × Int × Int))) fun z =>
  match z with
  | .inl s9 =>
   some (.next (IntKind.wrap .i64 (s6 + (1 : Int))))
  | .inr (v23) =>
   some (.done (.inr (v23.1, v23.2.1, v23.2.2)))
 else
  some (.done (.inl ()))
noncomputable def m_eponymref01_Next_K2 (p_s : ByteArray) (p_at : Int) (s1 : Unit) : Option (Int × Int × Int) :=
 if 0 ≤ p_at ∧ p_at ≤ ((p_s.size : Nat) : Int) ∧ ((p_s.size : Nat) : Int) ≤ ((p_s.size : Nat) : Int) then
  Option.bind (
   iter (m_eponymref01_Next_L7 p_s p_at) (IntKind.wrap .i64 ((((p_s.extract (p_at.toNat) p_s.size).size : Nat) : Int) + (1 : Int))) : Option (Sum Unit (Int × Int × Int))) fun z =>
  match z with
  | .inl s3 =>
   some ((0 : Int), (0 : Int), (1 : Int))
  | .inr (v26) =>
   some (v26.1, v26.2.1, v26.2.2)
 else none
noncomputable def m_eponymref01_Next_K35 (s28 : Int) (y33 : Int) (s34 : Bool) : Option (Stp Int (Sum Unit (Int × Int × Int))) :=
 bif s34 then
  some (.done (.inr (y33, s28, (0 : Int))))
 else
  some (.next (IntKind.wrap .i64 (s28 + (1 : Int))))
noncomputable def m_eponymref01_Next_K32 (p_s : ByteArray) (p_at : Int) (s28 : Int) (s31 : Bool) : Option (Stp Int (Sum Unit (Int × Int × Int))) :=
 bif s31 then
  if 0 ≤ p_at ∧ p_at ≤ (IntKind.wrap .i64 (p_at + s28)) ∧ (IntKind.wrap .i64 (p_at + s28)) ≤ ((p_s.size : Nat) : Int) then
   Option.bind (m_eponymref01_value (p_s.extract (p_at.toNat) ((IntKind.wrap .i64 (p_at + s28)).toNat))) fun y33 =>
   Option.bind (
    bif (decide (y33 ≥ (0 : Int))) then
     Option.bind (m_eponymref01_Right y33) fun y36 =>
     bif y36 then
      Option.bind (m_eponymref01_Form y33) fun y37 =>
      if 0 ≤ p_at ∧ p_at ≤ (IntKind.wrap .i64 (p_at + s28)) ∧ (IntKind.wrap .i64 (p_at + s28)) ≤ ((p_s.size : Nat) : Int) then
       some (y37.toList == (p_s.extract (p_at.toNat) ((IntKind.wrap .i64 (p_at + s28)).toNat)).toList)
      else none
     else
      some false
    else
     some false : Option Bool) fun s34 =>
   m_eponymref01_Next_K35 s28 y33 s34
  else none
 else
  some (.done (.inl ()))
noncomputable def m_eponymref01_Next_L29 (p_s : ByteArray) (p_at : Int) (s28 : Int) : Option (Stp Int (Sum Unit (Int × Int × Int))) :=
 Option.bind (
  bif (decide (s28 ≤ (4 : Int))) then
   some (decide ((IntKind.wrap .i64 (p_at + s28)) ≤ ((p_s.size : Nat) : Int)))
  else
   some false : Option Bool) fun s31 =>
 m_eponymref01_Next_K32 p_s p_at s28 s31
noncomputable def m_eponymref01_Next (p_s : ByteArray) (p_at : Int) : Option (Int × Int × Int) :=
 Option.bind (
  iter (m_eponymref01_Next_L29 p_s p_at) (1 : Int) : Option (Sum Unit (Int × Int × Int))) fun z =>
 match z with
 | .inl s1 =>
  m_eponymref01_Next_K2 p_s p_at s1
 | .inr (v40) =>
  some (v40.1, v40.2.1, v40.2.2)
noncomputable def m_eponymref01_Decode_L5 (p_s : ByteArray) (s4 : (List Int) × Int) : Option (Stp ((List Int) × Int) (Sum (List Int) ((List Int) × Int × Int))) :=
 bif (decide (s4.2 < ((p_s.size : Nat) : Int))) then
  Option.bind (m_eponymref01_Next p_s s4.2) fun y7 =>
  bif (y7.2.2 != (0 : Int)) then
   some (.done (.inr ([], s4.2, y7.2.2)))
  else
   if (s4.1.length + 1) * 4 ≤ 140737488355328 then
    some (.next ((s4.1 ++ [y7.1]), (IntKind.wrap .i64 (s4.2 + y7.2.1))))
   else none
 else
  some (.done (.inl s4.1))
noncomputable def m_eponymref01_Decode (p_s : ByteArray) : Option ((List Int) × Int × Int) :=
 Option.bind (
  iter (m_eponymref01_Decode_L5 p_s) ([], (0 : Int)) : Option (Sum (List Int) ((List Int) × Int × Int))) fun z =>
 match z with
 | .inl s1 =>
  some (s1, (0 : Int), (0 : Int))
 | .inr (v10) =>
  some (v10.1, v10.2.1, v10.2.2)
/-- A rune's parts by definition, with fuel. -/
noncomputable def m_eponymref04_One_n (p_t : T_api_Norm) : Nat → Int → Option (List Int)
 | 0, _ => none
 | k + 1, r =>
  if 44032 ≤ r ∧ r ≤ 55203 then some (if (r - 44032) % 28 > 0 then [4352 + (r - 44032) / 588, 4449 + (r - 44032) / 28 % 21, 4519 + (r - 44032) % 28] else [4352 + (r - 44032) / 588, 4449 + (r - 44032) / 28 % 21])
  else Option.bind (m_eponymref04_Row p_t r) fun y =>
   if y < 0 then some [r]
   else if y < ((p_t.f_Rows.length : Nat) : Int) then
    if 0 < (p_t.f_Rows.getD y.toNat d_api_Row).f_To.length then
     Option.bind (m_eponymref04_One_n p_t k ((p_t.f_Rows.getD y.toNat d_api_Row).f_To.getD 0 0)) fun out =>
     if (p_t.f_Rows.getD y.toNat d_api_Row).f_To.length = 2 then
      if out.length ≤ 1000000 then some (out ++ [(p_t.f_Rows.getD y.toNat d_api_Row).f_To.getD 1 0]) else none
     else some out
    else none
   else none
noncomputable def m_eponymref04_One (p_t : T_api_Norm) (p_r : Int) : Option (List Int) := m_eponymref04_One_n p_t 50 p_r
noncomputable def m_eponymref04_Order_K14 (s8 : (List Int) × Bool × Int) (s13 : Bool) : Option (Stp ((List Int) × Bool × Int) ((List Int) × Bool)) :=
 bif s13 then
  if 0 ≤ s8.2.2 ∧ s8.2.2 < ((s8.1.length : Nat) : Int) then
   if 0 ≤ (IntKind.wrap .i64 (s8.2.2 - (1 : Int))) ∧ (IntKind.wrap .i64 (s8.2.2 - (1 : Int))) < ((s8.1.length : Nat) : Int) then
    if 0 ≤ (IntKind.wrap .i64 (s8.2.2 - (1 : Int))) ∧ (IntKind.wrap .i64 (s8.2.2 - (1 : Int))) < ((s8.1.length : Nat) : Int) then
     if 0 ≤ s8.2.2 ∧ s8.2.2 < ((s8.1.length : Nat) : Int) then
      some (.next (((s8.1.set ((IntKind.wrap .i64 (s8.2.2 - (1 : Int))).toNat) (s8.1.getD (s8.2.2.toNat) 0)).set (s8.2.2.toNat) (s8.1.getD ((IntKind.wrap .i64 (s8.2.2 - (1 : Int))).toNat) 0)), true, (IntKind.wrap .i64 (s8.2.2 + (1 : Int)))))
     else none
    else none
   else none
  else none
 else
  some (.next (s8.1, s8.2.1, (IntKind.wrap .i64 (s8.2.2 + (1 : Int)))))
noncomputable def m_eponymref04_Order_L9 (p_t : T_api_Norm) (s8 : (List Int) × Bool × Int) : Option (Stp ((List Int) × Bool × Int) ((List Int) × Bool)) :=
 bif (decide (s8.2.2 < ((s8.1.length : Nat) : Int))) then
  if 0 ≤ (IntKind.wrap .i64 (s8.2.2 - (1 : Int))) ∧ (IntKind.wrap .i64 (s8.2.2 - (1 : Int))) < ((s8.1.length : Nat) : Int) then
   Option.bind (m_eponymref04_Class p_t (s8.1.getD ((IntKind.wrap .i64 (s8.2.2 - (1 : Int))).toNat) 0)) fun y11 =>
   if 0 ≤ s8.2.2 ∧ s8.2.2 < ((s8.1.length : Nat) : Int) then
    Option.bind (m_eponymref04_Class p_t (s8.1.getD (s8.2.2.toNat) 0)) fun y12 =>
    Option.bind (
     bif (decide (y12 > (0 : Int))) then
      some (decide (y11 > y12))
     else
      some false : Option Bool) fun s13 =>
    m_eponymref04_Order_K14 s8 s13
   else none
  else none
 else
  some (.done (s8.1, s8.2.1))
noncomputable def m_eponymref04_Order_L5 (p_t : T_api_Norm) (s4 : (List Int) × Bool) : Option (Stp ((List Int) × Bool) (List Int)) :=
 bif s4.2 then
  Option.bind (iter (m_eponymref04_Order_L9 p_t) (s4.1, false, (1 : Int))) fun s15 =>
  some (.next (s15.1, s15.2))
 else
  some (.done s4.1)
noncomputable def m_eponymref04_Order (p_t : T_api_Norm) (p_l : (List Int)) : Option (List Int) :=
 if (0 + p_l.length) * 4 ≤ 140737488355328 then
  Option.bind (
   iter (m_eponymref04_Order_L5 p_t) (p_l, true) : Option (List Int)) fun s1 =>
  some s1
 else none
noncomputable def m_eponymref04_All_K2 (p_t : T_api_Norm) (s1 : (List Int)) : Option (List Int) :=
 Option.bind (m_eponymref04_Order p_t s1) fun y3 =>
 some y3
noncomputable def m_eponymref04_All_L6 (p_t : T_api_Norm) (p_l : (List Int)) (s5 : (List Int) × Int) : Option (Stp ((List Int) × Int) (List Int)) :=
 bif (decide (s5.2 < ((p_l.length : Nat) : Int))) then
  if 0 ≤ s5.2 ∧ s5.2 < ((p_l.length : Nat) : Int) then
   Option.bind (m_eponymref04_One p_t (p_l.getD (s5.2.toNat) 0)) fun y8 =>
   if (s5.1.length + y8.length) * 4 ≤ 140737488355328 then
    some (.next ((s5.1 ++ y8), (IntKind.wrap .i64 (s5.2 + (1 : Int)))))
   else none
  else none
 else
  some (.done s5.1)
noncomputable def m_eponymref04_All (p_t : T_api_Norm) (p_l : (List Int)) : Option (List Int) :=
 Option.bind (
  iter (m_eponymref04_All_L6 p_t p_l) ([], (0 : Int)) : Option (List Int)) fun s1 =>
 m_eponymref04_All_K2 p_t s1
noncomputable def m_eponymref05_Pair_K12 (p_t : T_api_Norm) (s8 : Int) (s11 : Bool) : Option (Stp Int (Sum Unit Int)) :=
 bif s11 then
  if 0 ≤ s8 ∧ s8 < ((p_t.f_Rows.length : Nat) : Int) then
   some (.done (.inr ((p_t.f_Rows.getD (s8.toNat) d_api_Row).f_From)))
  else none
 else
  some (.next (IntKind.wrap .i64 (s8 + (1 : Int))))
noncomputable def m_eponymref05_Pair_L9 (p_t : T_api_Norm) (p_a : Int) (p_b : Int) (s8 : Int) : Option (Stp Int (Sum Unit Int)) :=
 bif (decide (s8 < ((p_t.f_Rows.length : Nat) : Int))) then
  Option.bind (
   Option.bind (m_eponymref04_Composes p_t s8) fun y13 =>
   bif y13 then
    if 0 ≤ s8 ∧ s8 < ((p_t.f_Rows.length : Nat) : Int) then
     if 0 ≤ (0 : Int) ∧ (0 : Int) < (((p_t.f_Rows.getD (s8.toNat) d_api_Row).f_To.length : Nat) : Int) then
      bif (((p_t.f_Rows.getD (s8.toNat) d_api_Row).f_To.getD 0 0) == p_a) then
       if 0 ≤ s8 ∧ s8 < ((p_t.f_Rows.length : Nat) : Int) then
        if 0 ≤ (1 : Int) ∧ (1 : Int) < (((p_t.f_Rows.getD (s8.toNat) d_api_Row).f_To.length : Nat) : Int) then
         some (((p_t.f_Rows.getD (s8.toNat) d_api_Row).f_To.getD 1 0) == p_b)
        else none
       else none
      else
       some false
     else none
    else none
   else
    some false : Option Bool) fun s11 =>
  m_eponymref05_Pair_K12 p_t s8 s11
 else
  some (.done (.inl ()))
noncomputable def m_eponymref05_Pair_K4 (p_t : T_api_Norm) (p_a : Int) (p_b : Int) (s3 : Bool) : Option Int :=
 bif s3 then
  some (IntKind.wrap .i32 ((IntKind.wrap .i32 (p_a + p_b)) - (4519 : Int)))
 else
  Option.bind (
   iter (m_eponymref05_Pair_L9 p_t p_a p_b) (0 : Int) : Option (Sum Unit Int)) fun z =>
  match z with
  | .inl s5 =>
   some (-1 : Int)
  | .inr (v16) =>
   some v16
noncomputable def m_eponymref05_Pair_K2 (p_t : T_api_Norm) (p_a : Int) (p_b : Int) (s1 : Unit) : Option Int :=
 Option.bind (
  bif (decide (p_a ≥ (44032 : Int))) then
   bif (decide (p_a ≤ (55203 : Int))) then
    bif ((Int.tmod (IntKind.wrap .i32 (p_a - (44032 : Int))) (28 : Int)) == (0 : Int)) then
     bif (decide (p_b ≥ (4520 : Int))) then
      some (decide (p_b ≤ (4546 : Int)))
     else
      some false
    else
     some false
   else
    some false
  else
   some false : Option Bool) fun s3 =>
 m_eponymref05_Pair_K4 p_t p_a p_b s3
noncomputable def m_eponymref05_Pair_K30 (s18 : Int) (s26 : Int) (s29 : Bool) : Option (Stp Int (Sum Unit Int)) :=
 bif s29 then
  some (.done (.inr (IntKind.wrap .i32 (s18 + (IntKind.wrap .i32 ((28 : Int) * s26))))))
 else
  some (.next (IntKind.wrap .i32 (s26 + (1 : Int))))
noncomputable def m_eponymref05_Pair_L27 (p_a : Int) (p_b : Int) (s18 : Int) (s26 : Int) : Option (Stp Int (Sum Unit Int)) :=
 bif (decide (s26 < (21 : Int))) then
  Option.bind (
   bif (p_a == (IntKind.wrap .i32 ((4352 : Int) + (IntKind.wrap .i32 (Int.tdiv (IntKind.wrap .i32 (s18 - (44032 : Int))) (588 : Int)))))) then
    some (p_b == (IntKind.wrap .i32 ((4449 : Int) + s26)))
   else
    some false : Option Bool) fun s29 =>
  m_eponymref05_Pair_K30 s18 s26 s29
 else
  some (.done (.inl ()))
noncomputable def m_eponymref05_Pair_K22 (p_a : Int) (p_b : Int) (s18 : Int) (s21 : Bool) : Option (Stp Int (Sum Unit Int)) :=
 bif s21 then
  Option.bind (
   iter (m_eponymref05_Pair_L27 p_a p_b s18) (0 : Int) : Option (Sum Unit Int)) fun z =>
  match z with
  | .inl s23 =>
   some (.next (IntKind.wrap .i32 (s18 + (588 : Int))))
  | .inr (v33) =>
   some (.done (.inr v33))
 else
  some (.done (.inl ()))
noncomputable def m_eponymref05_Pair_L19 (p_a : Int) (p_b : Int) (s18 : Int) : Option (Stp Int (Sum Unit Int)) :=
 Option.bind (
  bif (decide (p_a ≥ (4352 : Int))) then
   bif (decide (p_a ≤ (4370 : Int))) then
    some (decide (s18 ≤ (55203 : Int)))
   else
    some false
  else
   some false : Option Bool) fun s21 =>
 m_eponymref05_Pair_K22 p_a p_b s18 s21
noncomputable def m_eponymref05_Pair (p_t : T_api_Norm) (p_a : Int) (p_b : Int) : Option Int :=
 Option.bind (
  iter (m_eponymref05_Pair_L19 p_a p_b) (44032 : Int) : Option (Sum Unit Int)) fun z =>
 match z with
 | .inl s1 =>
  m_eponymref05_Pair_K2 p_t p_a p_b s1
 | .inr (v36) =>
  some v36
noncomputable def m_eponymref05_Put_K15 (p_l : (List Int)) (s5 : (List Int) × Int) (s10 : Int) (s14 : Int) : Option (List Int) :=
 bif (decide (s14 ≥ (0 : Int))) then
  if 0 ≤ s10 ∧ s10 < ((s5.1.length : Nat) : Int) then
   some (s5.1.set (s10.toNat) s14)
  else none
 else
  if 0 ≤ s5.2 ∧ s5.2 < ((p_l.length : Nat) : Int) then
   if (s5.1.length + 1) * 4 ≤ 140737488355328 then
    some (s5.1 ++ [(p_l.getD (s5.2.toNat) 0)])
   else none
  else none
noncomputable def m_eponymref05_Put_K13 (p_t : T_api_Norm) (p_l : (List Int)) (s5 : (List Int) × Int) (s10 : Int) (s12 : Bool) : Option (List Int) :=
 Option.bind (
  bif s12 then
   if 0 ≤ s10 ∧ s10 < ((s5.1.length : Nat) : Int) then
    if 0 ≤ s5.2 ∧ s5.2 < ((p_l.length : Nat) : Int) then
     Option.bind (m_eponymref05_Pair p_t (s5.1.getD (s10.toNat) 0) (p_l.getD (s5.2.toNat) 0)) fun y16 =>
     some y16
    else none
   else none
  else
   some (-1 : Int) : Option Int) fun s14 =>
 m_eponymref05_Put_K15 p_l s5 s10 s14
noncomputable def m_eponymref05_Put_K22 (p_t : T_api_Norm) (p_l : (List Int)) (s5 : (List Int) × Int) (s18 : Bool × Int) (s21 : Bool) : Option (Stp (Bool × Int) Bool) :=
 bif s21 then
  if 0 ≤ s18.2 ∧ s18.2 < ((s5.1.length : Nat) : Int) then
   Option.bind (m_eponymref04_Class p_t (s5.1.getD (s18.2.toNat) 0)) fun y23 =>
   if 0 ≤ s5.2 ∧ s5.2 < ((p_l.length : Nat) : Int) then
    Option.bind (m_eponymref04_Class p_t (p_l.getD (s5.2.toNat) 0)) fun y24 =>
    bif (decide (y23 ≥ y24)) then
     some (.next (false, (IntKind.wrap .i64 (s18.2 + (1 : Int)))))
    else
     some (.next (s18.1, (IntKind.wrap .i64 (s18.2 + (1 : Int)))))
   else none
  else none
 else
  some (.done s18.1)
noncomputable def m_eponymref05_Put_L19 (p_t : T_api_Norm) (p_l : (List Int)) (s5 : (List Int) × Int) (s18 : Bool × Int) : Option (Stp (Bool × Int) Bool) :=
 Option.bind (
  bif s18.1 then
   some (decide (s18.2 < ((s5.1.length : Nat) : Int)))
  else
   some false : Option Bool) fun s21 =>
 m_eponymref05_Put_K22 p_t p_l s5 s18 s21
noncomputable def m_eponymref05_Put_K11 (p_t : T_api_Norm) (p_l : (List Int)) (s5 : (List Int) × Int) (s10 : Int) : Option (List Int) :=
 Option.bind (
  iter (m_eponymref05_Put_L19 p_t p_l s5) ((decide (s10 ≥ (0 : Int))), (IntKind.wrap .i64 (s10 + (1 : Int)))) : Option Bool) fun s12 =>
 m_eponymref05_Put_K13 p_t p_l s5 s10 s12
noncomputable def m_eponymref05_Put_K31 (s27 : Int) (s30 : Bool) : Option (Stp Int Int) :=
 bif s30 then
  some (.next (IntKind.wrap .i64 (s27 - (1 : Int))))
 else
  some (.done s27)
noncomputable def m_eponymref05_Put_L28 (p_t : T_api_Norm) (s5 : (List Int) × Int) (s27 : Int) : Option (Stp Int Int) :=
 Option.bind (
  bif (decide (s27 ≥ (0 : Int))) then
   if 0 ≤ s27 ∧ s27 < ((s5.1.length : Nat) : Int) then
    Option.bind (m_eponymref04_Class p_t (s5.1.getD (s27.toNat) 0)) fun y32 =>
    some (decide (y32 > (0 : Int)))
   else none
  else
   some false : Option Bool) fun s30 =>
 m_eponymref05_Put_K31 s27 s30
noncomputable def m_eponymref05_Put_L6 (p_t : T_api_Norm) (p_l : (List Int)) (s5 : (List Int) × Int) : Option (Stp ((List Int) × Int) (List Int)) :=
 bif (decide (s5.2 < ((p_l.length : Nat) : Int))) then
  Option.bind (
   Option.bind (
    iter (m_eponymref05_Put_L28 p_t s5) (IntKind.wrap .i64 (((s5.1.length : Nat) : Int) - (1 : Int))) : Option Int) fun s10 =>
   m_eponymref05_Put_K11 p_t p_l s5 s10 : Option (List Int)) fun s8 =>
  some (.next (s8, (IntKind.wrap .i64 (s5.2 + (1 : Int)))))
 else
  some (.done s5.1)
noncomputable def m_eponymref05_Put (p_t : T_api_Norm) (p_l : (List Int)) : Option (List Int) :=
 Option.bind (
  iter (m_eponymref05_Put_L6 p_t p_l) ([], (0 : Int)) : Option (List Int)) fun s1 =>
 some s1
noncomputable def m_eponymref05_All (p_t : T_api_Norm) (p_l : (List Int)) : Option (List Int) :=
 Option.bind (m_eponymref04_All p_t p_l) fun y1 =>
 Option.bind (m_eponymref05_Put p_t y1) fun y2 =>
 some y2
noncomputable def m_eponymref01_Encode_L5 (p_l : (List Int)) (s4 : ByteArray × Int) : Option (Stp (ByteArray × Int) ByteArray) :=
 bif (decide (s4.2 < ((p_l.length : Nat) : Int))) then
  if 0 ≤ s4.2 ∧ s4.2 < ((p_l.length : Nat) : Int) then
   Option.bind (m_eponymref01_Form (p_l.getD (s4.2.toNat) 0)) fun y7 =>
   if s4.1.size + y7.size ≤ 9223372036854775807 then
    some (.next ((s4.1 ++ y7), (IntKind.wrap .i64 (s4.2 + (1 : Int)))))
   else none
  else none
 else
  some (.done s4.1)
noncomputable def m_eponymref01_Encode (p_l : (List Int)) : Option ByteArray :=
 Option.bind (
  iter (m_eponymref01_Encode_L5 p_l) ((ByteArray.mk #[]), (0 : Int)) : Option ByteArray) fun s1 =>
 some s1
noncomputable def m_eponymref05_Text (p_t : T_api_Norm) (p_s : ByteArray) : Option (ByteArray × Int × Int) :=
 Option.bind (m_eponymref01_Decode p_s) fun y1 =>
 bif (y1.2.2 != (0 : Int)) then
  some ((ByteArray.mk #[]), y1.2.1, y1.2.2)
 else
  Option.bind (m_eponymref05_All p_t y1.1) fun y2 =>
  Option.bind (m_eponymref01_Encode y2) fun y3 =>
  some (y3, (0 : Int), (0 : Int))
noncomputable def m_eponymlaw01_Named (p_code : Int) : Option Er :=
 bif (p_code == (1 : Int)) then
  some (Er.sent 2)
 else
  bif (p_code == (2 : Int)) then
   some (Er.sent 3)
  else
   bif (p_code == (3 : Int)) then
    some (Er.sent 4)
   else
    bif (p_code == (4 : Int)) then
     some (Er.sent 0)
    else
     bif (p_code == (5 : Int)) then
      some (Er.sent 5)
     else
      bif (p_code == (6 : Int)) then
       some (Er.sent 6)
      else
       bif (p_code == (7 : Int)) then
        some (Er.sent 7)
       else
        bif (p_code == (8 : Int)) then
         some (Er.sent 8)
        else
         bif (p_code == (9 : Int)) then
          some (Er.sent 9)
         else
          bif (p_code == (10 : Int)) then
           some (Er.sent 10)
          else
           bif (p_code == (11 : Int)) then
            some (Er.sent 11)
           else
            bif (p_code == (12 : Int)) then
             some (Er.sent 12)
            else
             bif (p_code == (13 : Int)) then
              some (Er.sent 13)
             else
              bif (p_code == (14 : Int)) then
               some (Er.sent 14)
              else
               bif (p_code == (15 : Int)) then
                some (Er.sent 15)
               else
                bif (p_code == (16 : Int)) then
                 some (Er.sent 16)
                else
                 bif (p_code == (17 : Int)) then
                  some (Er.sent 17)
                 else
                  bif (p_code == (18 : Int)) then
                   some (Er.sent 18)
                  else
                   some Er.nil
noncomputable def m_eponymlaw01_Is (p_e : Er) (p_at : Int) (p_code : Int) : Option Bool :=
 bif (p_code == (0 : Int)) then
  some p_e.isNil
 else
  bif (!p_e.isNil) then
   Option.bind (m_errors_As p_e) fun y1 =>
   bif (y1.1 == p_at) then
    Option.bind (m_eponymlaw01_Named p_code) fun y2 =>
    Option.bind (m_errors_Is p_e y2) fun y3 =>
    some y3
   else
    some false
  else
   some false
noncomputable def m_eponymlaw05_CompTexts_K3 (p_t : T_api_Norm) (p_s : ByteArray) (s2 : Bool) : Option Bool :=
 bif s2 then
  some true
 else
  Option.bind (m_comp_Text p_t p_s) fun y4 =>
  Option.bind (m_eponymref05_Text p_t p_s) fun y5 =>
  bif (y4.1.toList == y5.1.toList) then
   Option.bind (m_eponymlaw01_Is y4.2 y5.2.1 y5.2.2) fun y6 =>
   some y6
  else
   some false
noncomputable def m_eponymlaw05_CompTexts (p_t : T_api_Norm) (p_s : ByteArray) : Option Bool :=
 Option.bind (m_eponymlaw05_awake) fun y1 =>
 bif (!y1) then
  some false
 else
  Option.bind (
   Option.bind (m_eponymlaw04_Great p_t) fun y7 =>
   bif y7 then
    some true
   else
    Option.bind (m_eponymlaw04_Right p_t) fun y8 =>
    bif (!y8) then
     some true
    else
     some (decide (((p_s.size : Nat) : Int) > (40 : Int))) : Option Bool) fun s2 =>
  m_eponymlaw05_CompTexts_K3 p_t p_s s2
end Go.Proofs.YtjhgaacecfmadaaGreatDoor
