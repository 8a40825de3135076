/- Models of functions, printed by a program of ours. No condition. -/
import Derived.Test.YtclhniadffljdaaDoorL
namespace Go.Proofs.YtclhniadffljdaaDoor
open Go Go.SE
set_option linter.unusedVariables false
set_option linter.unusedSimpArgs false
def e_L_i32 (l : (List Int)) : AV := .sl none l.length fun i => (AV.int .i32 (l.getD i 0))
noncomputable def m_utf_Right (p_r : Int) : Option Bool :=
 bif (decide (p_r ≥ (0 : Int))) then
  bif (decide (p_r ≤ (1114111 : Int))) then
   bif (decide (p_r < (55296 : Int))) then
    some true
   else
    some (decide (p_r > (57343 : Int)))
  else
   some false
 else
  some false
noncomputable def m_puny_fault (p_at : Int) (p_e : Er) : Option Er :=
 some (Er.box 62 p_at p_e)
noncomputable def m_strings_Builder_copyCheck_own (p_b_0 : Int) (p_b_1 : Bool) (p_b_2 : Bool) (p_b_3 : (List Int)) (p_b_4 : Int) (p_b_5 : Int) (p_b_6 : Int) : Option (Int × Bool × Bool × Int × Int × Int) :=
 bif (!p_b_2) then
  some (p_b_0, p_b_1, true, p_b_4, p_b_5, p_b_6)
 else
  bif (!p_b_2) then
   none
  else
   some (p_b_0, p_b_1, p_b_2, p_b_4, p_b_5, p_b_6)
noncomputable def m_strings_Builder_WriteByte_own (p_b_0 : Int) (p_b_1 : Bool) (p_b_2 : Bool) (p_b_3 : (List Int)) (p_b_4 : Int) (p_b_5 : Int) (p_b_6 : Int) (p_c : Int) : Option (Int × Bool × Bool × (List Int) × Int × Int × Int × Er) :=
 Option.bind (m_strings_Builder_copyCheck_own p_b_0 p_b_1 p_b_2 p_b_3 p_b_4 p_b_5 p_b_6) fun y1 =>
 if (p_b_3.length + 1) * 1 ≤ 140737488355328 then
  some (y1.1, y1.2.1, y1.2.2.1, (p_b_3 ++ [p_c]), y1.2.2.2.1, y1.2.2.2.2.1, y1.2.2.2.2.2, Er.nil)
 else none
noncomputable def m_math_bits_Len64_K4  (s3 : Int × Int) : Option Int :=
 bif (decide (s3.1 ≥ (256 : Int))) then
  if 0 ≤ (IntKind.wrap .u8 (Int.fdiv s3.1 256)) ∧ (IntKind.wrap .u8 (Int.fdiv s3.1 256)) < (((ByteArray.mk #[0, 1, 2, 2, 3, 3, 3, 3, 4, 4, 4, 4, 4, 4, 4, 4, 5, 5, 5, 5, 5, 5, 5, 5, 5, 5, 5, 5, 5, 5, 5, 5, 6, 6, 6, 6, 6, 6, 6, 6, 6, 6, 6, 6, 6, 6, 6, 6, 6, 6, 6, 6, 6, 6, 6, 6, 6, 6, 6, 6, 6, 6, 6, 6, 7, 7, 7, 7, 7, 7, 7, 7, 7, 7, 7, 7, 7, 7, 7, 7, 7, 7, 7, 7, 7, 7, 7, 7, 7, 7, 7, 7, 7, 7, 7, 7, 7, 7, 7, 7, 7, 7, 7, 7, 7, 7, 7, 7, 7, 7, 7, 7, 7, 7, 7, 7, 7, 7, 7, 7, 7, 7, 7, 7, 7, 7, 7, 7, 8, 8, 8, 8, 8, 8, 8, 8, 8, 8, 8, 8, 8, 8, 8, 8, 8, 8, 8, 8, 8, 8, 8, 8, 8, 8, 8, 8, 8, 8, 8, 8, 8, 8, 8, 8, 8, 8, 8, 8, 8, 8, 8, 8, 8, 8, 8, 8, 8, 8, 8, 8, 8, 8, 8, 8, 8, 8, 8, 8, 8, 8, 8, 8, 8, 8, 8, 8, 8, 8, 8, 8, 8, 8, 8, 8, 8, 8, 8, 8, 8, 8, 8, 8, 8, 8, 8, 8, 8, 8, 8, 8, 8, 8, 8, 8, 8, 8, 8, 8, 8, 8, 8, 8, 8, 8, 8, 8, 8, 8, 8, 8, 8, 8, 8, 8, 8, 8, 8, 8, 8, 8, 8, 8, 8, 8, 8, 8]).size : Nat) : Int) then
   some (IntKind.wrap .i64 ((IntKind.wrap .i64 (s3.2 + (8 : Int))) + (IntKind.wrap .i64 (bt (ByteArray.mk #[0, 1, 2, 2, 3, 3, 3, 3, 4, 4, 4, 4, 4, 4, 4, 4, 5, 5, 5, 5, 5, 5, 5, 5, 5, 5, 5, 5, 5, 5, 5, 5, 6, 6, 6, 6, 6, 6, 6, 6, 6, 6, 6, 6, 6, 6, 6, 6, 6, 6, 6, 6, 6, 6, 6, 6, 6, 6, 6, 6, 6, 6, 6, 6, 7, 7, 7, 7, 7, 7, 7, 7, 7, 7, 7, 7, 7, 7, 7, 7, 7, 7, 7, 7, 7, 7, 7, 7, 7, 7, 7, 7, 7, 7, 7, 7, 7, 7, 7, 7, 7, 7, 7, 7, 7, 7, 7, 7, 7, 7, 7, 7, 7, 7, 7, 7, 7, 7, 7, 7, 7, 7, 7, 7, 7, 7, 7, 7, 8, 8, 8, 8, 8, 8, 8, 8, 8, 8, 8, 8, 8, 8, 8, 8, 8, 8, 8, 8, 8, 8, 8, 8, 8, 8, 8, 8, 8, 8, 8, 8, 8, 8, 8, 8, 8, 8, 8, 8, 8, 8, 8, 8, 8, 8, 8, 8, 8, 8, 8, 8, 8, 8, 8, 8, 8, 8, 8, 8, 8, 8, 8, 8, 8, 8, 8, 8, 8, 8, 8, 8, 8, 8, 8, 8, 8, 8, 8, 8, 8, 8, 8, 8, 8, 8, 8, 8, 8, 8, 8, 8, 8, 8, 8, 8, 8, 8, 8, 8, 8, 8, 8, 8, 8, 8, 8, 8, 8, 8, 8, 8, 8, 8, 8, 8, 8, 8, 8, 8, 8, 8, 8, 8, 8, 8, 8, 8]) (IntKind.wrap .u8 (Int.fdiv s3.1 256))))))
  else none
 else
  if 0 ≤ (IntKind.wrap .u8 s3.1) ∧ (IntKind.wrap .u8 s3.1) < (((ByteArray.mk #[0, 1, 2, 2, 3, 3, 3, 3, 4, 4, 4, 4, 4, 4, 4, 4, 5, 5, 5, 5, 5, 5, 5, 5, 5, 5, 5, 5, 5, 5, 5, 5, 6, 6, 6, 6, 6, 6, 6, 6, 6, 6, 6, 6, 6, 6, 6, 6, 6, 6, 6, 6, 6, 6, 6, 6, 6, 6, 6, 6, 6, 6, 6, 6, 7, 7, 7, 7, 7, 7, 7, 7, 7, 7, 7, 7, 7, 7, 7, 7, 7, 7, 7, 7, 7, 7, 7, 7, 7, 7, 7, 7, 7, 7, 7, 7, 7, 7, 7, 7, 7, 7, 7, 7, 7, 7, 7, 7, 7, 7, 7, 7, 7, 7, 7, 7, 7, 7, 7, 7, 7, 7, 7, 7, 7, 7, 7, 7, 8, 8, 8, 8, 8, 8, 8, 8, 8, 8, 8, 8, 8, 8, 8, 8, 8, 8, 8, 8, 8, 8, 8, 8, 8, 8, 8, 8, 8, 8, 8, 8, 8, 8, 8, 8, 8, 8, 8, 8, 8, 8, 8, 8, 8, 8, 8, 8, 8, 8, 8, 8, 8, 8, 8, 8, 8, 8, 8, 8, 8, 8, 8, 8, 8, 8, 8, 8, 8, 8, 8, 8, 8, 8, 8, 8, 8, 8, 8, 8, 8, 8, 8, 8, 8, 8, 8, 8, 8, 8, 8, 8, 8, 8, 8, 8, 8, 8, 8, 8, 8, 8, 8, 8, 8, 8, 8, 8, 8, 8, 8, 8, 8, 8, 8, 8, 8, 8, 8, 8, 8, 8, 8, 8, 8, 8, 8, 8]).size : Nat) : Int) then
   some (IntKind.wrap .i64 (s3.2 + (IntKind.wrap .i64 (bt (ByteArray.mk #[0, 1, 2, 2, 3, 3, 3, 3, 4, 4, 4, 4, 4, 4, 4, 4, 5, 5, 5, 5, 5, 5, 5, 5, 5, 5, 5, 5, 5, 5, 5, 5, 6, 6, 6, 6, 6, 6, 6, 6, 6, 6, 6, 6, 6, 6, 6, 6, 6, 6, 6, 6, 6, 6, 6, 6, 6, 6, 6, 6, 6, 6, 6, 6, 7, 7, 7, 7, 7, 7, 7, 7, 7, 7, 7, 7, 7, 7, 7, 7, 7, 7, 7, 7, 7, 7, 7, 7, 7, 7, 7, 7, 7, 7, 7, 7, 7, 7, 7, 7, 7, 7, 7, 7, 7, 7, 7, 7, 7, 7, 7, 7, 7, 7, 7, 7, 7, 7, 7, 7, 7, 7, 7, 7, 7, 7, 7, 7, 8, 8, 8, 8, 8, 8, 8, 8, 8, 8, 8, 8, 8, 8, 8, 8, 8, 8, 8, 8, 8, 8, 8, 8, 8, 8, 8, 8, 8, 8, 8, 8, 8, 8, 8, 8, 8, 8, 8, 8, 8, 8, 8, 8, 8, 8, 8, 8, 8, 8, 8, 8, 8, 8, 8, 8, 8, 8, 8, 8, 8, 8, 8, 8, 8, 8, 8, 8, 8, 8, 8, 8, 8, 8, 8, 8, 8, 8, 8, 8, 8, 8, 8, 8, 8, 8, 8, 8, 8, 8, 8, 8, 8, 8, 8, 8, 8, 8, 8, 8, 8, 8, 8, 8, 8, 8, 8, 8, 8, 8, 8, 8, 8, 8, 8, 8, 8, 8, 8, 8, 8, 8, 8, 8, 8, 8, 8, 8]) (IntKind.wrap .u8 s3.1)))))
  else none
noncomputable def m_math_bits_Len64_K2  (s1 : Int × Int) : Option Int :=
 Option.bind (
  bif (decide (s1.1 ≥ (65536 : Int))) then
   some ((Int.fdiv s1.1 65536), (IntKind.wrap .i64 (s1.2 + (16 : Int))))
  else
   some (s1.1, s1.2) : Option (Int × Int)) fun s3 =>
 m_math_bits_Len64_K4 s3
noncomputable def m_math_bits_Len64 (p_x : Int) : Option Int :=
 Option.bind (
  bif (decide (p_x ≥ (4294967296 : Int))) then
   some ((Int.fdiv p_x 4294967296), (32 : Int))
  else
   some (p_x, (0 : Int)) : Option (Int × Int)) fun s1 =>
 m_math_bits_Len64_K2 s1
noncomputable def m_math_bits_Len (p_x : Int) : Option Int :=
 Option.bind (m_math_bits_Len64 p_x) fun y1 =>
 some y1
noncomputable def m_cmp_isNaN_rune (p_x : Int) : Option Bool :=
 some (p_x != p_x)
noncomputable def m_cmp_Less_rune (p_x : Int) (p_y : Int) : Option Bool :=
 Option.bind (m_cmp_isNaN_rune p_x) fun y1 =>
 bif y1 then
  Option.bind (m_cmp_isNaN_rune p_y) fun y2 =>
  bif (!y2) then
   some true
  else
   some (decide (p_x < p_y))
 else
  some (decide (p_x < p_y))
noncomputable def m_slices_insertionSortOrdered_rune_own_K12 (s8 : (List Int) × Int) (s11 : Bool) : Option (Stp ((List Int) × Int) (List Int)) :=
 bif s11 then
  if 0 ≤ (IntKind.wrap .i64 (s8.2 - (1 : Int))) ∧ (IntKind.wrap .i64 (s8.2 - (1 : Int))) < ((s8.1.length : Nat) : Int) then
   if 0 ≤ s8.2 ∧ s8.2 < ((s8.1.length : Nat) : Int) then
    if 0 ≤ s8.2 ∧ s8.2 < ((s8.1.length : Nat) : Int) then
     if 0 ≤ (IntKind.wrap .i64 (s8.2 - (1 : Int))) ∧ (IntKind.wrap .i64 (s8.2 - (1 : Int))) < ((s8.1.length : Nat) : Int) then
      some (.next (((s8.1.set (s8.2.toNat) (s8.1.getD ((IntKind.wrap .i64 (s8.2 - (1 : Int))).toNat) 0)).set ((IntKind.wrap .i64 (s8.2 - (1 : Int))).toNat) (s8.1.getD (s8.2.toNat) 0)), (IntKind.wrap .i64 (s8.2 - (1 : Int)))))
     else none
    else none
   else none
  else none
 else
  some (.done s8.1)
noncomputable def m_slices_insertionSortOrdered_rune_own_L9 (p_a : Int) (s8 : (List Int) × Int) : Option (Stp ((List Int) × Int) (List Int)) :=
 Option.bind (
  bif (decide (s8.2 > p_a)) then
   if 0 ≤ s8.2 ∧ s8.2 < ((s8.1.length : Nat) : Int) then
    if 0 ≤ (IntKind.wrap .i64 (s8.2 - (1 : Int))) ∧ (IntKind.wrap .i64 (s8.2 - (1 : Int))) < ((s8.1.length : Nat) : Int) then
     Option.bind (m_cmp_Less_rune (s8.1.getD (s8.2.toNat) 0) (s8.1.getD ((IntKind.wrap .i64 (s8.2 - (1 : Int))).toNat) 0)) fun y13 =>
     some y13
    else none
   else none
  else
   some false : Option Bool) fun s11 =>
 m_slices_insertionSortOrdered_rune_own_K12 s8 s11
noncomputable def m_slices_insertionSortOrdered_rune_own_L3 (p_a : Int) (p_b : Int) (s2 : (List Int) × Int) : Option (Stp ((List Int) × Int) (List Int)) :=
 bif (decide (s2.2 < p_b)) then
  Option.bind (
   iter (m_slices_insertionSortOrdered_rune_own_L9 p_a) (s2.1, s2.2) : Option (List Int)) fun s5 =>
  some (.next (s5, (IntKind.wrap .i64 (s2.2 + (1 : Int)))))
 else
  some (.done s2.1)
noncomputable def m_slices_insertionSortOrdered_rune_own (p_data : (List Int)) (p_a : Int) (p_b : Int) : Option (List Int) :=
 Option.bind (iter (m_slices_insertionSortOrdered_rune_own_L3 p_a p_b) (p_data, (IntKind.wrap .i64 (p_a + (1 : Int))))) fun s15 =>
 some s15
noncomputable def m_slices_siftDownOrdered_rune_own_K6 (p_first : Int) (s2 : (List Int) × Int) (s5 : Int) : Option (Stp ((List Int) × Int) (Sum (List Int) (List Int))) :=
 if 0 ≤ (IntKind.wrap .i64 (p_first + s2.2)) ∧ (IntKind.wrap .i64 (p_first + s2.2)) < ((s2.1.length : Nat) : Int) then
  if 0 ≤ (IntKind.wrap .i64 (p_first + s5)) ∧ (IntKind.wrap .i64 (p_first + s5)) < ((s2.1.length : Nat) : Int) then
   Option.bind (m_cmp_Less_rune (s2.1.getD ((IntKind.wrap .i64 (p_first + s2.2)).toNat) 0) (s2.1.getD ((IntKind.wrap .i64 (p_first + s5)).toNat) 0)) fun y7 =>
   bif (!y7) then
    some (.done (.inr s2.1))
   else
    if 0 ≤ (IntKind.wrap .i64 (p_first + s5)) ∧ (IntKind.wrap .i64 (p_first + s5)) < ((s2.1.length : Nat) : Int) then
     if 0 ≤ (IntKind.wrap .i64 (p_first + s2.2)) ∧ (IntKind.wrap .i64 (p_first + s2.2)) < ((s2.1.length : Nat) : Int) then
      if 0 ≤ (IntKind.wrap .i64 (p_first + s2.2)) ∧ (IntKind.wrap .i64 (p_first + s2.2)) < ((s2.1.length : Nat) : Int) then
       if 0 ≤ (IntKind.wrap .i64 (p_first + s5)) ∧ (IntKind.wrap .i64 (p_first + s5)) < ((s2.1.length : Nat) : Int) then
        some (.next (((s2.1.set ((IntKind.wrap .i64 (p_first + s2.2)).toNat) (s2.1.getD ((IntKind.wrap .i64 (p_first + s5)).toNat) 0)).set ((IntKind.wrap .i64 (p_first + s5)).toNat) (s2.1.getD ((IntKind.wrap .i64 (p_first + s2.2)).toNat) 0)), s5))
       else none
      else none
     else none
    else none
  else none
 else none
noncomputable def m_slices_siftDownOrdered_rune_own_K9 (s2 : (List Int) × Int) (s8 : Bool) : Option Int :=
 bif s8 then
  some (IntKind.wrap .i64 ((IntKind.wrap .i64 ((IntKind.wrap .i64 ((2 : Int) * s2.2)) + (1 : Int))) + (1 : Int)))
 else
  some (IntKind.wrap .i64 ((IntKind.wrap .i64 ((2 : Int) * s2.2)) + (1 : Int)))
noncomputable def m_slices_siftDownOrdered_rune_own_L3 (p_hi : Int) (p_first : Int) (s2 : (List Int) × Int) : Option (Stp ((List Int) × Int) (Sum (List Int) (List Int))) :=
 bif (decide ((IntKind.wrap .i64 ((IntKind.wrap .i64 ((2 : Int) * s2.2)) + (1 : Int))) ≥ p_hi)) then
  some (.done (.inl s2.1))
 else
  Option.bind (
   Option.bind (
    bif (decide ((IntKind.wrap .i64 ((IntKind.wrap .i64 ((IntKind.wrap .i64 ((2 : Int) * s2.2)) + (1 : Int))) + (1 : Int))) < p_hi)) then
     if 0 ≤ (IntKind.wrap .i64 (p_first + (IntKind.wrap .i64 ((IntKind.wrap .i64 ((2 : Int) * s2.2)) + (1 : Int))))) ∧ (IntKind.wrap .i64 (p_first + (IntKind.wrap .i64 ((IntKind.wrap .i64 ((2 : Int) * s2.2)) + (1 : Int))))) < ((s2.1.length : Nat) : Int) then
      if 0 ≤ (IntKind.wrap .i64 ((IntKind.wrap .i64 (p_first + (IntKind.wrap .i64 ((IntKind.wrap .i64 ((2 : Int) * s2.2)) + (1 : Int))))) + (1 : Int))) ∧ (IntKind.wrap .i64 ((IntKind.wrap .i64 (p_first + (IntKind.wrap .i64 ((IntKind.wrap .i64 ((2 : Int) * s2.2)) + (1 : Int))))) + (1 : Int))) < ((s2.1.length : Nat) : Int) then
       Option.bind (m_cmp_Less_rune (s2.1.getD ((IntKind.wrap .i64 (p_first + (IntKind.wrap .i64 ((IntKind.wrap .i64 ((2 : Int) * s2.2)) + (1 : Int))))).toNat) 0) (s2.1.getD ((IntKind.wrap .i64 ((IntKind.wrap .i64 (p_first + (IntKind.wrap .i64 ((IntKind.wrap .i64 ((2 : Int) * s2.2)) + (1 : Int))))) + (1 : Int))).toNat) 0)) fun y10 =>
       some y10
      else none
     else none
    else
     some false : Option Bool) fun s8 =>
   m_slices_siftDownOrdered_rune_own_K9 s2 s8 : Option Int) fun s5 =>
  m_slices_siftDownOrdered_rune_own_K6 p_first s2 s5
noncomputable def m_slices_siftDownOrdered_rune_own (p_data : (List Int)) (p_lo : Int) (p_hi : Int) (p_first : Int) : Option (List Int) :=
 Option.bind (iter (m_slices_siftDownOrdered_rune_own_L3 p_hi p_first) (p_data, p_lo)) fun z =>
 match z with
 | .inl s11 =>
  some s11
 | .inr (v12) =>
  some v12
noncomputable def m_slices_heapSortOrdered_rune_own_L5 (p_a : Int) (s4 : (List Int) × Int) : Option (Stp ((List Int) × Int) (List Int)) :=
 bif (decide (s4.2 ≥ (0 : Int))) then
  if 0 ≤ (IntKind.wrap .i64 (p_a + s4.2)) ∧ (IntKind.wrap .i64 (p_a + s4.2)) < ((s4.1.length : Nat) : Int) then
   if 0 ≤ p_a ∧ p_a < ((s4.1.length : Nat) : Int) then
    if 0 ≤ p_a ∧ p_a < ((s4.1.length : Nat) : Int) then
     if 0 ≤ (IntKind.wrap .i64 (p_a + s4.2)) ∧ (IntKind.wrap .i64 (p_a + s4.2)) < ((s4.1.length : Nat) : Int) then
      Option.bind (m_slices_siftDownOrdered_rune_own ((s4.1.set (p_a.toNat) (s4.1.getD ((IntKind.wrap .i64 (p_a + s4.2)).toNat) 0)).set ((IntKind.wrap .i64 (p_a + s4.2)).toNat) (s4.1.getD (p_a.toNat) 0)) (0 : Int) s4.2 p_a) fun y7 =>
      if y7.length = ((s4.1.set (p_a.toNat) (s4.1.getD ((IntKind.wrap .i64 (p_a + s4.2)).toNat) 0)).set ((IntKind.wrap .i64 (p_a + s4.2)).toNat) (s4.1.getD (p_a.toNat) 0)).length then
       some (.next (y7, (IntKind.wrap .i64 (s4.2 - (1 : Int)))))
      else none
     else none
    else none
   else none
  else none
 else
  some (.done s4.1)
noncomputable def m_slices_heapSortOrdered_rune_own_K2 (p_a : Int) (p_b : Int) (s1 : (List Int)) : Option (List Int) :=
 Option.bind (iter (m_slices_heapSortOrdered_rune_own_L5 p_a) (s1, (IntKind.wrap .i64 ((IntKind.wrap .i64 (p_b - p_a)) - (1 : Int))))) fun s8 =>
 some s8
noncomputable def m_slices_heapSortOrdered_rune_own_L11 (p_a : Int) (p_b : Int) (s10 : (List Int) × Int) : Option (Stp ((List Int) × Int) (List Int)) :=
 bif (decide (s10.2 ≥ (0 : Int))) then
  Option.bind (m_slices_siftDownOrdered_rune_own s10.1 s10.2 (IntKind.wrap .i64 (p_b - p_a)) p_a) fun y13 =>
  if y13.length = s10.1.length then
   some (.next (y13, (IntKind.wrap .i64 (s10.2 - (1 : Int)))))
  else none
 else
  some (.done s10.1)
noncomputable def m_slices_heapSortOrdered_rune_own (p_data : (List Int)) (p_a : Int) (p_b : Int) : Option (List Int) :=
 Option.bind (
  iter (m_slices_heapSortOrdered_rune_own_L11 p_a p_b) (p_data, (IntKind.wrap .i64 (Int.tdiv (IntKind.wrap .i64 ((IntKind.wrap .i64 (p_b - p_a)) - (1 : Int))) (2 : Int)))) : Option (List Int)) fun s1 =>
 m_slices_heapSortOrdered_rune_own_K2 p_a p_b s1
noncomputable def m_slices_order2Ordered_rune_own (p_data : (List Int)) (p_a : Int) (p_b : Int) (p_swaps : Int) : Option (Int × Int × Int) :=
 if 0 ≤ p_b ∧ p_b < ((p_data.length : Nat) : Int) then
  if 0 ≤ p_a ∧ p_a < ((p_data.length : Nat) : Int) then
   Option.bind (m_cmp_Less_rune (p_data.getD (p_b.toNat) 0) (p_data.getD (p_a.toNat) 0)) fun y1 =>
   bif y1 then
    some ((IntKind.wrap .i64 (p_swaps + (1 : Int))), p_b, p_a)
   else
    some (p_swaps, p_a, p_b)
  else none
 else none
noncomputable def m_slices_medianOrdered_rune_own (p_data : (List Int)) (p_a : Int) (p_b : Int) (p_c : Int) (p_swaps : Int) : Option (Int × Int) :=
 Option.bind (m_slices_order2Ordered_rune_own p_data p_a p_b p_swaps) fun y1 =>
 Option.bind (m_slices_order2Ordered_rune_own p_data y1.2.2 p_c y1.1) fun y2 =>
 Option.bind (m_slices_order2Ordered_rune_own p_data y1.2.1 y2.2.1 y2.1) fun y3 =>
 some (y3.1, y3.2.2)
noncomputable def m_slices_medianAdjacentOrdered_rune_own (p_data : (List Int)) (p_a : Int) (p_swaps : Int) : Option (Int × Int) :=
 Option.bind (m_slices_medianOrdered_rune_own p_data (IntKind.wrap .i64 (p_a - (1 : Int))) p_a (IntKind.wrap .i64 (p_a + (1 : Int))) p_swaps) fun y1 =>
 some (y1.1, y1.2)
noncomputable def m_slices_choosePivotOrdered_rune_K2  (s1 : Int × Int) : Option (Int × Int) :=
 bif (s1.1 == (0 : Int)) then
  some (s1.2, (1 : Int))
 else
  bif (s1.1 == (12 : Int)) then
   some (s1.2, (2 : Int))
  else
   some (s1.2, (0 : Int))
noncomputable def m_slices_choosePivotOrdered_rune (p_data : (List Int)) (p_a : Int) (p_b : Int) : Option (Int × Int) :=
 Option.bind (
  bif (decide ((IntKind.wrap .i64 (p_b - p_a)) ≥ (8 : Int))) then
   bif (decide ((IntKind.wrap .i64 (p_b - p_a)) ≥ (50 : Int))) then
    Option.bind (m_slices_medianAdjacentOrdered_rune_own p_data (IntKind.wrap .i64 (p_a + (IntKind.wrap .i64 ((IntKind.wrap .i64 (Int.tdiv (IntKind.wrap .i64 (p_b - p_a)) (4 : Int))) * (1 : Int))))) (0 : Int)) fun y3 =>
    Option.bind (m_slices_medianAdjacentOrdered_rune_own p_data (IntKind.wrap .i64 (p_a + (IntKind.wrap .i64 ((IntKind.wrap .i64 (Int.tdiv (IntKind.wrap .i64 (p_b - p_a)) (4 : Int))) * (2 : Int))))) y3.1) fun y4 =>
    Option.bind (m_slices_medianAdjacentOrdered_rune_own p_data (IntKind.wrap .i64 (p_a + (IntKind.wrap .i64 ((IntKind.wrap .i64 (Int.tdiv (IntKind.wrap .i64 (p_b - p_a)) (4 : Int))) * (3 : Int))))) y4.1) fun y5 =>
    Option.bind (m_slices_medianOrdered_rune_own p_data y3.2 y4.2 y5.2 y5.1) fun y6 =>
    some (y6.1, y6.2)
   else
    Option.bind (m_slices_medianOrdered_rune_own p_data (IntKind.wrap .i64 (p_a + (IntKind.wrap .i64 ((IntKind.wrap .i64 (Int.tdiv (IntKind.wrap .i64 (p_b - p_a)) (4 : Int))) * (1 : Int))))) (IntKind.wrap .i64 (p_a + (IntKind.wrap .i64 ((IntKind.wrap .i64 (Int.tdiv (IntKind.wrap .i64 (p_b - p_a)) (4 : Int))) * (2 : Int))))) (IntKind.wrap .i64 (p_a + (IntKind.wrap .i64 ((IntKind.wrap .i64 (Int.tdiv (IntKind.wrap .i64 (p_b - p_a)) (4 : Int))) * (3 : Int))))) (0 : Int)) fun y7 =>
    some (y7.1, y7.2)
  else
   some ((0 : Int), (IntKind.wrap .i64 (p_a + (IntKind.wrap .i64 ((IntKind.wrap .i64 (Int.tdiv (IntKind.wrap .i64 (p_b - p_a)) (4 : Int))) * (2 : Int)))))) : Option (Int × Int)) fun s1 =>
 m_slices_choosePivotOrdered_rune_K2 s1
noncomputable def m_slices_reverseRangeOrdered_rune_own_L3  (s2 : (List Int) × Int × Int) : Option (Stp ((List Int) × Int × Int) (List Int)) :=
 bif (decide (s2.2.1 < s2.2.2)) then
  if 0 ≤ s2.2.2 ∧ s2.2.2 < ((s2.1.length : Nat) : Int) then
   if 0 ≤ s2.2.1 ∧ s2.2.1 < ((s2.1.length : Nat) : Int) then
    if 0 ≤ s2.2.1 ∧ s2.2.1 < ((s2.1.length : Nat) : Int) then
     if 0 ≤ s2.2.2 ∧ s2.2.2 < ((s2.1.length : Nat) : Int) then
      some (.next (((s2.1.set (s2.2.1.toNat) (s2.1.getD (s2.2.2.toNat) 0)).set (s2.2.2.toNat) (s2.1.getD (s2.2.1.toNat) 0)), (IntKind.wrap .i64 (s2.2.1 + (1 : Int))), (IntKind.wrap .i64 (s2.2.2 - (1 : Int)))))
     else none
    else none
   else none
  else none
 else
  some (.done s2.1)
noncomputable def m_slices_reverseRangeOrdered_rune_own (p_data : (List Int)) (p_a : Int) (p_b : Int) : Option (List Int) :=
 Option.bind (iter (m_slices_reverseRangeOrdered_rune_own_L3) (p_data, p_a, (IntKind.wrap .i64 (p_b - (1 : Int))))) fun s5 =>
 some s5
noncomputable def m_slices_partialInsertionSortOrdered_rune_own_L15 (p_b : Int) (s14 : (List Int) × Int) : Option (Stp ((List Int) × Int) (List Int)) :=
 bif (decide (s14.2 < p_b)) then
  if 0 ≤ s14.2 ∧ s14.2 < ((s14.1.length : Nat) : Int) then
   if 0 ≤ (IntKind.wrap .i64 (s14.2 - (1 : Int))) ∧ (IntKind.wrap .i64 (s14.2 - (1 : Int))) < ((s14.1.length : Nat) : Int) then
    Option.bind (m_cmp_Less_rune (s14.1.getD (s14.2.toNat) 0) (s14.1.getD ((IntKind.wrap .i64 (s14.2 - (1 : Int))).toNat) 0)) fun y17 =>
    bif (!y17) then
     some (.done s14.1)
    else
     if 0 ≤ (IntKind.wrap .i64 (s14.2 - (1 : Int))) ∧ (IntKind.wrap .i64 (s14.2 - (1 : Int))) < ((s14.1.length : Nat) : Int) then
      if 0 ≤ s14.2 ∧ s14.2 < ((s14.1.length : Nat) : Int) then
       if 0 ≤ s14.2 ∧ s14.2 < ((s14.1.length : Nat) : Int) then
        if 0 ≤ (IntKind.wrap .i64 (s14.2 - (1 : Int))) ∧ (IntKind.wrap .i64 (s14.2 - (1 : Int))) < ((s14.1.length : Nat) : Int) then
         some (.next (((s14.1.set (s14.2.toNat) (s14.1.getD ((IntKind.wrap .i64 (s14.2 - (1 : Int))).toNat) 0)).set ((IntKind.wrap .i64 (s14.2 - (1 : Int))).toNat) (s14.1.getD (s14.2.toNat) 0)), (IntKind.wrap .i64 (s14.2 + (1 : Int)))))
        else none
       else none
      else none
     else none
   else none
  else none
 else
  some (.done s14.1)
noncomputable def m_slices_partialInsertionSortOrdered_rune_own_K12 (p_b : Int) (s9 : Int) (s11 : (List Int)) : Option (Sum ((List Int) × Int) ((List Int) × Bool)) :=
 bif (decide ((IntKind.wrap .i64 (p_b - s9)) ≥ (2 : Int))) then
  Option.bind (iter (m_slices_partialInsertionSortOrdered_rune_own_L15 p_b) (s11, (IntKind.wrap .i64 (s9 + (1 : Int))))) fun s18 =>
  some (.inl (s18, s9))
 else
  some (.inl (s11, s9))
noncomputable def m_slices_partialInsertionSortOrdered_rune_own_L21  (s20 : (List Int) × Int) : Option (Stp ((List Int) × Int) (List Int)) :=
 bif (decide (s20.2 ≥ (1 : Int))) then
  if 0 ≤ s20.2 ∧ s20.2 < ((s20.1.length : Nat) : Int) then
   if 0 ≤ (IntKind.wrap .i64 (s20.2 - (1 : Int))) ∧ (IntKind.wrap .i64 (s20.2 - (1 : Int))) < ((s20.1.length : Nat) : Int) then
    Option.bind (m_cmp_Less_rune (s20.1.getD (s20.2.toNat) 0) (s20.1.getD ((IntKind.wrap .i64 (s20.2 - (1 : Int))).toNat) 0)) fun y23 =>
    bif (!y23) then
     some (.done s20.1)
    else
     if 0 ≤ (IntKind.wrap .i64 (s20.2 - (1 : Int))) ∧ (IntKind.wrap .i64 (s20.2 - (1 : Int))) < ((s20.1.length : Nat) : Int) then
      if 0 ≤ s20.2 ∧ s20.2 < ((s20.1.length : Nat) : Int) then
       if 0 ≤ s20.2 ∧ s20.2 < ((s20.1.length : Nat) : Int) then
        if 0 ≤ (IntKind.wrap .i64 (s20.2 - (1 : Int))) ∧ (IntKind.wrap .i64 (s20.2 - (1 : Int))) < ((s20.1.length : Nat) : Int) then
         some (.next (((s20.1.set (s20.2.toNat) (s20.1.getD ((IntKind.wrap .i64 (s20.2 - (1 : Int))).toNat) 0)).set ((IntKind.wrap .i64 (s20.2 - (1 : Int))).toNat) (s20.1.getD (s20.2.toNat) 0)), (IntKind.wrap .i64 (s20.2 - (1 : Int)))))
        else none
       else none
      else none
     else none
   else none
  else none
 else
  some (.done s20.1)
noncomputable def m_slices_partialInsertionSortOrdered_rune_own_K10 (p_a : Int) (p_b : Int) (s4 : (List Int) × Int × Int) (s9 : Int) : Option (Sum ((List Int) × Int) ((List Int) × Bool)) :=
 bif (s9 == p_b) then
  some (.inr (s4.1, true))
 else
  bif (decide ((IntKind.wrap .i64 (p_b - p_a)) < (50 : Int))) then
   some (.inr (s4.1, false))
  else
   if 0 ≤ (IntKind.wrap .i64 (s9 - (1 : Int))) ∧ (IntKind.wrap .i64 (s9 - (1 : Int))) < ((s4.1.length : Nat) : Int) then
    if 0 ≤ s9 ∧ s9 < ((s4.1.length : Nat) : Int) then
     if 0 ≤ s9 ∧ s9 < ((s4.1.length : Nat) : Int) then
      if 0 ≤ (IntKind.wrap .i64 (s9 - (1 : Int))) ∧ (IntKind.wrap .i64 (s9 - (1 : Int))) < ((s4.1.length : Nat) : Int) then
       Option.bind (
        bif (decide ((IntKind.wrap .i64 (s9 - p_a)) ≥ (2 : Int))) then
         Option.bind (iter (m_slices_partialInsertionSortOrdered_rune_own_L21) (((s4.1.set (s9.toNat) (s4.1.getD ((IntKind.wrap .i64 (s9 - (1 : Int))).toNat) 0)).set ((IntKind.wrap .i64 (s9 - (1 : Int))).toNat) (s4.1.getD (s9.toNat) 0)), (IntKind.wrap .i64 (s9 - (1 : Int))))) fun s24 =>
         some s24
        else
         some ((s4.1.set (s9.toNat) (s4.1.getD ((IntKind.wrap .i64 (s9 - (1 : Int))).toNat) 0)).set ((IntKind.wrap .i64 (s9 - (1 : Int))).toNat) (s4.1.getD (s9.toNat) 0)) : Option (List Int)) fun s11 =>
       m_slices_partialInsertionSortOrdered_rune_own_K12 p_b s9 s11
      else none
     else none
    else none
   else none
noncomputable def m_slices_partialInsertionSortOrdered_rune_own_K30 (s26 : Int) (s29 : Bool) : Option (Stp Int Int) :=
 bif s29 then
  some (.next (IntKind.wrap .i64 (s26 + (1 : Int))))
 else
  some (.done s26)
noncomputable def m_slices_partialInsertionSortOrdered_rune_own_L27 (p_b : Int) (s4 : (List Int) × Int × Int) (s26 : Int) : Option (Stp Int Int) :=
 Option.bind (
  bif (decide (s26 < p_b)) then
   if 0 ≤ s26 ∧ s26 < ((s4.1.length : Nat) : Int) then
    if 0 ≤ (IntKind.wrap .i64 (s26 - (1 : Int))) ∧ (IntKind.wrap .i64 (s26 - (1 : Int))) < ((s4.1.length : Nat) : Int) then
     Option.bind (m_cmp_Less_rune (s4.1.getD (s26.toNat) 0) (s4.1.getD ((IntKind.wrap .i64 (s26 - (1 : Int))).toNat) 0)) fun y31 =>
     some (!y31)
    else none
   else none
  else
   some false : Option Bool) fun s29 =>
 m_slices_partialInsertionSortOrdered_rune_own_K30 s26 s29
noncomputable def m_slices_partialInsertionSortOrdered_rune_own_L5 (p_a : Int) (p_b : Int) (s4 : (List Int) × Int × Int) : Option (Stp ((List Int) × Int × Int) (Sum (List Int) ((List Int) × Bool))) :=
 bif (decide (s4.2.2 < (5 : Int))) then
  Option.bind (
   Option.bind (
    iter (m_slices_partialInsertionSortOrdered_rune_own_L27 p_b s4) s4.2.1 : Option Int) fun s9 =>
   m_slices_partialInsertionSortOrdered_rune_own_K10 p_a p_b s4 s9 : Option (Sum ((List Int) × Int) ((List Int) × Bool))) fun z =>
  match z with
  | .inl s7 =>
   some (.next (s7.1, s7.2, (IntKind.wrap .i64 (s4.2.2 + (1 : Int)))))
  | .inr (v33) =>
   some (.done (.inr (v33.1, v33.2)))
 else
  some (.done (.inl s4.1))
noncomputable def m_slices_partialInsertionSortOrdered_rune_own (p_data : (List Int)) (p_a : Int) (p_b : Int) : Option ((List Int) × Bool) :=
 Option.bind (
  iter (m_slices_partialInsertionSortOrdered_rune_own_L5 p_a p_b) (p_data, (IntKind.wrap .i64 (p_a + (1 : Int))), (0 : Int)) : Option (Sum (List Int) ((List Int) × Bool))) fun z =>
 match z with
 | .inl s1 =>
  some (s1, false)
 | .inr (v36) =>
  some v36
noncomputable def m_slices_partitionEqualOrdered_rune_own_K10 (s4 : (List Int) × Int × Int) (s7 : Int) (s9 : Int) : Option (Stp ((List Int) × Int × Int) ((List Int) × Int)) :=
 bif (decide (s7 > s9)) then
  some (.done (s4.1, s7))
 else
  if 0 ≤ s9 ∧ s9 < ((s4.1.length : Nat) : Int) then
   if 0 ≤ s7 ∧ s7 < ((s4.1.length : Nat) : Int) then
    if 0 ≤ s7 ∧ s7 < ((s4.1.length : Nat) : Int) then
     if 0 ≤ s9 ∧ s9 < ((s4.1.length : Nat) : Int) then
      some (.next (((s4.1.set (s7.toNat) (s4.1.getD (s9.toNat) 0)).set (s9.toNat) (s4.1.getD (s7.toNat) 0)), (IntKind.wrap .i64 (s7 + (1 : Int))), (IntKind.wrap .i64 (s9 - (1 : Int)))))
     else none
    else none
   else none
  else none
noncomputable def m_slices_partitionEqualOrdered_rune_own_K16 (s12 : Int) (s15 : Bool) : Option (Stp Int Int) :=
 bif s15 then
  some (.next (IntKind.wrap .i64 (s12 - (1 : Int))))
 else
  some (.done s12)
noncomputable def m_slices_partitionEqualOrdered_rune_own_L13 (p_a : Int) (s4 : (List Int) × Int × Int) (s7 : Int) (s12 : Int) : Option (Stp Int Int) :=
 Option.bind (
  bif (decide (s7 ≤ s12)) then
   if 0 ≤ p_a ∧ p_a < ((s4.1.length : Nat) : Int) then
    if 0 ≤ s12 ∧ s12 < ((s4.1.length : Nat) : Int) then
     Option.bind (m_cmp_Less_rune (s4.1.getD (p_a.toNat) 0) (s4.1.getD (s12.toNat) 0)) fun y17 =>
     some y17
    else none
   else none
  else
   some false : Option Bool) fun s15 =>
 m_slices_partitionEqualOrdered_rune_own_K16 s12 s15
noncomputable def m_slices_partitionEqualOrdered_rune_own_K8 (p_a : Int) (s4 : (List Int) × Int × Int) (s7 : Int) : Option (Stp ((List Int) × Int × Int) ((List Int) × Int)) :=
 Option.bind (
  iter (m_slices_partitionEqualOrdered_rune_own_L13 p_a s4 s7) s4.2.2 : Option Int) fun s9 =>
 m_slices_partitionEqualOrdered_rune_own_K10 s4 s7 s9
noncomputable def m_slices_partitionEqualOrdered_rune_own_K24 (s20 : Int) (s23 : Bool) : Option (Stp Int Int) :=
 bif s23 then
  some (.next (IntKind.wrap .i64 (s20 + (1 : Int))))
 else
  some (.done s20)
noncomputable def m_slices_partitionEqualOrdered_rune_own_L21 (p_a : Int) (s4 : (List Int) × Int × Int) (s20 : Int) : Option (Stp Int Int) :=
 Option.bind (
  bif (decide (s20 ≤ s4.2.2)) then
   if 0 ≤ p_a ∧ p_a < ((s4.1.length : Nat) : Int) then
    if 0 ≤ s20 ∧ s20 < ((s4.1.length : Nat) : Int) then
     Option.bind (m_cmp_Less_rune (s4.1.getD (p_a.toNat) 0) (s4.1.getD (s20.toNat) 0)) fun y25 =>
     some (!y25)
    else none
   else none
  else
   some false : Option Bool) fun s23 =>
 m_slices_partitionEqualOrdered_rune_own_K24 s20 s23
noncomputable def m_slices_partitionEqualOrdered_rune_own_L5 (p_a : Int) (s4 : (List Int) × Int × Int) : Option (Stp ((List Int) × Int × Int) ((List Int) × Int)) :=
 Option.bind (
  iter (m_slices_partitionEqualOrdered_rune_own_L21 p_a s4) s4.2.1 : Option Int) fun s7 =>
 m_slices_partitionEqualOrdered_rune_own_K8 p_a s4 s7
noncomputable def m_slices_partitionEqualOrdered_rune_own (p_data : (List Int)) (p_a : Int) (p_b : Int) (p_pivot : Int) : Option ((List Int) × Int) :=
 if 0 ≤ p_pivot ∧ p_pivot < ((p_data.length : Nat) : Int) then
  if 0 ≤ p_a ∧ p_a < ((p_data.length : Nat) : Int) then
   if 0 ≤ p_a ∧ p_a < ((p_data.length : Nat) : Int) then
    if 0 ≤ p_pivot ∧ p_pivot < ((p_data.length : Nat) : Int) then
     Option.bind (
      iter (m_slices_partitionEqualOrdered_rune_own_L5 p_a) (((p_data.set (p_a.toNat) (p_data.getD (p_pivot.toNat) 0)).set (p_pivot.toNat) (p_data.getD (p_a.toNat) 0)), (IntKind.wrap .i64 (p_a + (1 : Int))), (IntKind.wrap .i64 (p_b - (1 : Int)))) : Option ((List Int) × Int)) fun s1 =>
     some (s1.1, s1.2)
    else none
   else none
  else none
 else none
noncomputable def m_slices_partitionOrdered_rune_own_K6 (p_a : Int) (s5 : (List Int) × Int) : Option ((List Int) × Int × Bool) :=
 if 0 ≤ p_a ∧ p_a < ((s5.1.length : Nat) : Int) then
  if 0 ≤ s5.2 ∧ s5.2 < ((s5.1.length : Nat) : Int) then
   if 0 ≤ s5.2 ∧ s5.2 < ((s5.1.length : Nat) : Int) then
    if 0 ≤ p_a ∧ p_a < ((s5.1.length : Nat) : Int) then
     some (((s5.1.set (s5.2.toNat) (s5.1.getD (p_a.toNat) 0)).set (p_a.toNat) (s5.1.getD (s5.2.toNat) 0)), s5.2, false)
    else none
   else none
  else none
 else none
noncomputable def m_slices_partitionOrdered_rune_own_K14 (s8 : (List Int) × Int × Int) (s11 : Int) (s13 : Int) : Option (Stp ((List Int) × Int × Int) ((List Int) × Int)) :=
 bif (decide (s11 > s13)) then
  some (.done (s8.1, s13))
 else
  if 0 ≤ s13 ∧ s13 < ((s8.1.length : Nat) : Int) then
   if 0 ≤ s11 ∧ s11 < ((s8.1.length : Nat) : Int) then
    if 0 ≤ s11 ∧ s11 < ((s8.1.length : Nat) : Int) then
     if 0 ≤ s13 ∧ s13 < ((s8.1.length : Nat) : Int) then
      some (.next (((s8.1.set (s11.toNat) (s8.1.getD (s13.toNat) 0)).set (s13.toNat) (s8.1.getD (s11.toNat) 0)), (IntKind.wrap .i64 (s11 + (1 : Int))), (IntKind.wrap .i64 (s13 - (1 : Int)))))
     else none
    else none
   else none
  else none
noncomputable def m_slices_partitionOrdered_rune_own_K20 (s16 : Int) (s19 : Bool) : Option (Stp Int Int) :=
 bif s19 then
  some (.next (IntKind.wrap .i64 (s16 - (1 : Int))))
 else
  some (.done s16)
noncomputable def m_slices_partitionOrdered_rune_own_L17 (p_a : Int) (s8 : (List Int) × Int × Int) (s11 : Int) (s16 : Int) : Option (Stp Int Int) :=
 Option.bind (
  bif (decide (s11 ≤ s16)) then
   if 0 ≤ s16 ∧ s16 < ((s8.1.length : Nat) : Int) then
    if 0 ≤ p_a ∧ p_a < ((s8.1.length : Nat) : Int) then
     Option.bind (m_cmp_Less_rune (s8.1.getD (s16.toNat) 0) (s8.1.getD (p_a.toNat) 0)) fun y21 =>
     some (!y21)
    else none
   else none
  else
   some false : Option Bool) fun s19 =>
 m_slices_partitionOrdered_rune_own_K20 s16 s19
noncomputable def m_slices_partitionOrdered_rune_own_K12 (p_a : Int) (s8 : (List Int) × Int × Int) (s11 : Int) : Option (Stp ((List Int) × Int × Int) ((List Int) × Int)) :=
 Option.bind (
  iter (m_slices_partitionOrdered_rune_own_L17 p_a s8 s11) s8.2.2 : Option Int) fun s13 =>
 m_slices_partitionOrdered_rune_own_K14 s8 s11 s13
noncomputable def m_slices_partitionOrdered_rune_own_K28 (s24 : Int) (s27 : Bool) : Option (Stp Int Int) :=
 bif s27 then
  some (.next (IntKind.wrap .i64 (s24 + (1 : Int))))
 else
  some (.done s24)
noncomputable def m_slices_partitionOrdered_rune_own_L25 (p_a : Int) (s8 : (List Int) × Int × Int) (s24 : Int) : Option (Stp Int Int) :=
 Option.bind (
  bif (decide (s24 ≤ s8.2.2)) then
   if 0 ≤ s24 ∧ s24 < ((s8.1.length : Nat) : Int) then
    if 0 ≤ p_a ∧ p_a < ((s8.1.length : Nat) : Int) then
     Option.bind (m_cmp_Less_rune (s8.1.getD (s24.toNat) 0) (s8.1.getD (p_a.toNat) 0)) fun y29 =>
     some y29
    else none
   else none
  else
   some false : Option Bool) fun s27 =>
 m_slices_partitionOrdered_rune_own_K28 s24 s27
noncomputable def m_slices_partitionOrdered_rune_own_L9 (p_a : Int) (s8 : (List Int) × Int × Int) : Option (Stp ((List Int) × Int × Int) ((List Int) × Int)) :=
 Option.bind (
  iter (m_slices_partitionOrdered_rune_own_L25 p_a s8) s8.2.1 : Option Int) fun s11 =>
 m_slices_partitionOrdered_rune_own_K12 p_a s8 s11
noncomputable def m_slices_partitionOrdered_rune_own_K4 (p_data : (List Int)) (p_a : Int) (p_pivot : Int) (s1 : Int) (s3 : Int) : Option ((List Int) × Int × Bool) :=
 bif (decide (s1 > s3)) then
  if 0 ≤ p_a ∧ p_a < ((((p_data.set (p_a.toNat) (p_data.getD (p_pivot.toNat) 0)).set (p_pivot.toNat) (p_data.getD (p_a.toNat) 0)).length : Nat) : Int) then
   if 0 ≤ s3 ∧ s3 < ((((p_data.set (p_a.toNat) (p_data.getD (p_pivot.toNat) 0)).set (p_pivot.toNat) (p_data.getD (p_a.toNat) 0)).length : Nat) : Int) then
    if 0 ≤ s3 ∧ s3 < ((((p_data.set (p_a.toNat) (p_data.getD (p_pivot.toNat) 0)).set (p_pivot.toNat) (p_data.getD (p_a.toNat) 0)).length : Nat) : Int) then
     if 0 ≤ p_a ∧ p_a < ((((p_data.set (p_a.toNat) (p_data.getD (p_pivot.toNat) 0)).set (p_pivot.toNat) (p_data.getD (p_a.toNat) 0)).length : Nat) : Int) then
      some (((((p_data.set (p_a.toNat) (p_data.getD (p_pivot.toNat) 0)).set (p_pivot.toNat) (p_data.getD (p_a.toNat) 0)).set (s3.toNat) (((p_data.set (p_a.toNat) (p_data.getD (p_pivot.toNat) 0)).set (p_pivot.toNat) (p_data.getD (p_a.toNat) 0)).getD (p_a.toNat) 0)).set (p_a.toNat) (((p_data.set (p_a.toNat) (p_data.getD (p_pivot.toNat) 0)).set (p_pivot.toNat) (p_data.getD (p_a.toNat) 0)).getD (s3.toNat) 0)), s3, true)
     else none
    else none
   else none
  else none
 else
  if 0 ≤ s3 ∧ s3 < ((((p_data.set (p_a.toNat) (p_data.getD (p_pivot.toNat) 0)).set (p_pivot.toNat) (p_data.getD (p_a.toNat) 0)).length : Nat) : Int) then
   if 0 ≤ s1 ∧ s1 < ((((p_data.set (p_a.toNat) (p_data.getD (p_pivot.toNat) 0)).set (p_pivot.toNat) (p_data.getD (p_a.toNat) 0)).length : Nat) : Int) then
    if 0 ≤ s1 ∧ s1 < ((((p_data.set (p_a.toNat) (p_data.getD (p_pivot.toNat) 0)).set (p_pivot.toNat) (p_data.getD (p_a.toNat) 0)).length : Nat) : Int) then
     if 0 ≤ s3 ∧ s3 < ((((p_data.set (p_a.toNat) (p_data.getD (p_pivot.toNat) 0)).set (p_pivot.toNat) (p_data.getD (p_a.toNat) 0)).length : Nat) : Int) then
      Option.bind (
       iter (m_slices_partitionOrdered_rune_own_L9 p_a) (((((p_data.set (p_a.toNat) (p_data.getD (p_pivot.toNat) 0)).set (p_pivot.toNat) (p_data.getD (p_a.toNat) 0)).set (s1.toNat) (((p_data.set (p_a.toNat) (p_data.getD (p_pivot.toNat) 0)).set (p_pivot.toNat) (p_data.getD (p_a.toNat) 0)).getD (s3.toNat) 0)).set (s3.toNat) (((p_data.set (p_a.toNat) (p_data.getD (p_pivot.toNat) 0)).set (p_pivot.toNat) (p_data.getD (p_a.toNat) 0)).getD (s1.toNat) 0)), (IntKind.wrap .i64 (s1 + (1 : Int))), (IntKind.wrap .i64 (s3 - (1 : Int)))) : Option ((List Int) × Int)) fun s5 =>
      m_slices_partitionOrdered_rune_own_K6 p_a s5
     else none
    else none
   else none
  else none
noncomputable def m_slices_partitionOrdered_rune_own_K37 (s33 : Int) (s36 : Bool) : Option (Stp Int Int) :=
 bif s36 then
  some (.next (IntKind.wrap .i64 (s33 - (1 : Int))))
 else
  some (.done s33)
noncomputable def m_slices_partitionOrdered_rune_own_L34 (p_data : (List Int)) (p_a : Int) (p_pivot : Int) (s1 : Int) (s33 : Int) : Option (Stp Int Int) :=
 Option.bind (
  bif (decide (s1 ≤ s33)) then
   if 0 ≤ s33 ∧ s33 < ((((p_data.set (p_a.toNat) (p_data.getD (p_pivot.toNat) 0)).set (p_pivot.toNat) (p_data.getD (p_a.toNat) 0)).length : Nat) : Int) then
    if 0 ≤ p_a ∧ p_a < ((((p_data.set (p_a.toNat) (p_data.getD (p_pivot.toNat) 0)).set (p_pivot.toNat) (p_data.getD (p_a.toNat) 0)).length : Nat) : Int) then
     Option.bind (m_cmp_Less_rune (((p_data.set (p_a.toNat) (p_data.getD (p_pivot.toNat) 0)).set (p_pivot.toNat) (p_data.getD (p_a.toNat) 0)).getD (s33.toNat) 0) (((p_data.set (p_a.toNat) (p_data.getD (p_pivot.toNat) 0)).set (p_pivot.toNat) (p_data.getD (p_a.toNat) 0)).getD (p_a.toNat) 0)) fun y38 =>
     some (!y38)
    else none
   else none
  else
   some false : Option Bool) fun s36 =>
 m_slices_partitionOrdered_rune_own_K37 s33 s36
noncomputable def m_slices_partitionOrdered_rune_own_K2 (p_data : (List Int)) (p_a : Int) (p_b : Int) (p_pivot : Int) (s1 : Int) : Option ((List Int) × Int × Bool) :=
 Option.bind (
  iter (m_slices_partitionOrdered_rune_own_L34 p_data p_a p_pivot s1) (IntKind.wrap .i64 (p_b - (1 : Int))) : Option Int) fun s3 =>
 m_slices_partitionOrdered_rune_own_K4 p_data p_a p_pivot s1 s3
noncomputable def m_slices_partitionOrdered_rune_own_K45 (s41 : Int) (s44 : Bool) : Option (Stp Int Int) :=
 bif s44 then
  some (.next (IntKind.wrap .i64 (s41 + (1 : Int))))
 else
  some (.done s41)
noncomputable def m_slices_partitionOrdered_rune_own_L42 (p_data : (List Int)) (p_a : Int) (p_b : Int) (p_pivot : Int) (s41 : Int) : Option (Stp Int Int) :=
 Option.bind (
  bif (decide (s41 ≤ (IntKind.wrap .i64 (p_b - (1 : Int))))) then
   if 0 ≤ s41 ∧ s41 < ((((p_data.set (p_a.toNat) (p_data.getD (p_pivot.toNat) 0)).set (p_pivot.toNat) (p_data.getD (p_a.toNat) 0)).length : Nat) : Int) then
    if 0 ≤ p_a ∧ p_a < ((((p_data.set (p_a.toNat) (p_data.getD (p_pivot.toNat) 0)).set (p_pivot.toNat) (p_data.getD (p_a.toNat) 0)).length : Nat) : Int) then
     Option.bind (m_cmp_Less_rune (((p_data.set (p_a.toNat) (p_data.getD (p_pivot.toNat) 0)).set (p_pivot.toNat) (p_data.getD (p_a.toNat) 0)).getD (s41.toNat) 0) (((p_data.set (p_a.toNat) (p_data.getD (p_pivot.toNat) 0)).set (p_pivot.toNat) (p_data.getD (p_a.toNat) 0)).getD (p_a.toNat) 0)) fun y46 =>
     some y46
    else none
   else none
  else
   some false : Option Bool) fun s44 =>
 m_slices_partitionOrdered_rune_own_K45 s41 s44
noncomputable def m_slices_partitionOrdered_rune_own (p_data : (List Int)) (p_a : Int) (p_b : Int) (p_pivot : Int) : Option ((List Int) × Int × Bool) :=
 if 0 ≤ p_pivot ∧ p_pivot < ((p_data.length : Nat) : Int) then
  if 0 ≤ p_a ∧ p_a < ((p_data.length : Nat) : Int) then
   if 0 ≤ p_a ∧ p_a < ((p_data.length : Nat) : Int) then
    if 0 ≤ p_pivot ∧ p_pivot < ((p_data.length : Nat) : Int) then
     Option.bind (
      iter (m_slices_partitionOrdered_rune_own_L42 p_data p_a p_b p_pivot) (IntKind.wrap .i64 (p_a + (1 : Int))) : Option Int) fun s1 =>
     m_slices_partitionOrdered_rune_own_K2 p_data p_a p_b p_pivot s1
    else none
   else none
  else none
 else none
noncomputable def m_slices_nextPowerOfTwo (p_length : Int) : Option Int :=
 Option.bind (m_math_bits_Len (IntKind.wrap .u64 p_length)) fun y1 =>
 if 0 ≤ y1 then
  some (IntKind.wrap .u64 ((1 : Int) * 2 ^ (min (y1).toNat (IntKind.bits .u64))))
 else none
noncomputable def m_slices_xorshift_Next_own (p_r : Int) : Option (Int × Int) :=
 some ((ixor .u64 (ixor .u64 (ixor .u64 p_r (IntKind.wrap .u64 (p_r * 8192))) (Int.fdiv (ixor .u64 p_r (IntKind.wrap .u64 (p_r * 8192))) 128)) (IntKind.wrap .u64 ((ixor .u64 (ixor .u64 p_r (IntKind.wrap .u64 (p_r * 8192))) (Int.fdiv (ixor .u64 p_r (IntKind.wrap .u64 (p_r * 8192))) 128)) * 131072))), (ixor .u64 (ixor .u64 (ixor .u64 p_r (IntKind.wrap .u64 (p_r * 8192))) (Int.fdiv (ixor .u64 p_r (IntKind.wrap .u64 (p_r * 8192))) 128)) (IntKind.wrap .u64 ((ixor .u64 (ixor .u64 p_r (IntKind.wrap .u64 (p_r * 8192))) (Int.fdiv (ixor .u64 p_r (IntKind.wrap .u64 (p_r * 8192))) 128)) * 131072))))
noncomputable def m_slices_breakPatternsOrdered_rune_own_K8 (p_a : Int) (s3 : (List Int) × Int × Int) (y6 : Int × Int) (s7 : Int) : Option (Stp ((List Int) × Int × Int) (List Int)) :=
 if 0 ≤ (IntKind.wrap .i64 (p_a + s7)) ∧ (IntKind.wrap .i64 (p_a + s7)) < ((s3.1.length : Nat) : Int) then
  if 0 ≤ s3.2.2 ∧ s3.2.2 < ((s3.1.length : Nat) : Int) then
   if 0 ≤ s3.2.2 ∧ s3.2.2 < ((s3.1.length : Nat) : Int) then
    if 0 ≤ (IntKind.wrap .i64 (p_a + s7)) ∧ (IntKind.wrap .i64 (p_a + s7)) < ((s3.1.length : Nat) : Int) then
     some (.next (((s3.1.set (s3.2.2.toNat) (s3.1.getD ((IntKind.wrap .i64 (p_a + s7)).toNat) 0)).set ((IntKind.wrap .i64 (p_a + s7)).toNat) (s3.1.getD (s3.2.2.toNat) 0)), y6.1, (IntKind.wrap .i64 (s3.2.2 + (1 : Int)))))
    else none
   else none
  else none
 else none
noncomputable def m_slices_breakPatternsOrdered_rune_own_L4 (p_a : Int) (p_b : Int) (y1 : Int) (s3 : (List Int) × Int × Int) : Option (Stp ((List Int) × Int × Int) (List Int)) :=
 bif (decide (s3.2.2 ≤ (IntKind.wrap .i64 ((IntKind.wrap .i64 (p_a + (IntKind.wrap .i64 ((IntKind.wrap .i64 (Int.tdiv (IntKind.wrap .i64 (p_b - p_a)) (4 : Int))) * (2 : Int))))) + (1 : Int))))) then
  Option.bind (m_slices_xorshift_Next_own s3.2.1) fun y6 =>
  Option.bind (
   bif (decide ((IntKind.wrap .i64 (iand .u64 y6.2 (IntKind.wrap .u64 (y1 - (1 : Int))))) ≥ (IntKind.wrap .i64 (p_b - p_a)))) then
    some (IntKind.wrap .i64 ((IntKind.wrap .i64 (iand .u64 y6.2 (IntKind.wrap .u64 (y1 - (1 : Int))))) - (IntKind.wrap .i64 (p_b - p_a))))
   else
    some (IntKind.wrap .i64 (iand .u64 y6.2 (IntKind.wrap .u64 (y1 - (1 : Int))))) : Option Int) fun s7 =>
  m_slices_breakPatternsOrdered_rune_own_K8 p_a s3 y6 s7
 else
  some (.done s3.1)
noncomputable def m_slices_breakPatternsOrdered_rune_own (p_data : (List Int)) (p_a : Int) (p_b : Int) : Option (List Int) :=
 bif (decide ((IntKind.wrap .i64 (p_b - p_a)) ≥ (8 : Int))) then
  Option.bind (m_slices_nextPowerOfTwo (IntKind.wrap .i64 (p_b - p_a))) fun y1 =>
  Option.bind (iter (m_slices_breakPatternsOrdered_rune_own_L4 p_a p_b y1) (p_data, (IntKind.wrap .u64 (IntKind.wrap .i64 (p_b - p_a))), (IntKind.wrap .i64 ((IntKind.wrap .i64 (p_a + (IntKind.wrap .i64 ((IntKind.wrap .i64 (Int.tdiv (IntKind.wrap .i64 (p_b - p_a)) (4 : Int))) * (2 : Int))))) - (1 : Int))))) fun s9 =>
  some s9
 else
  some p_data
noncomputable def m_slices_pdqsortOrdered_rune_own_K16 (rec_ : (List Int) → Int → Int → Int → Option (List Int)) (s3 : (List Int) × Int × Int × Int × Bool × Bool) (s8 : (List Int) × Int) (s11 : (List Int) × Int × Int) (s13 : (List Int)) (s15 : Bool) : Option (Stp ((List Int) × Int × Int × Int × Bool × Bool) (List Int)) :=
 bif s15 then
  Option.bind (m_slices_partitionEqualOrdered_rune_own s13 s3.2.1 s3.2.2.1 s11.2.1) fun y17 =>
  if y17.1.length = s13.length then
   some (.next (y17.1, y17.2, s3.2.2.1, s8.2, s3.2.2.2.2.1, s3.2.2.2.2.2))
  else none
 else
  Option.bind (m_slices_partitionOrdered_rune_own s13 s3.2.1 s3.2.2.1 s11.2.1) fun y18 =>
  if y18.1.length = s13.length then
   bif (decide ((IntKind.wrap .i64 (y18.2.1 - s3.2.1)) < (IntKind.wrap .i64 (s3.2.2.1 - y18.2.1)))) then
    Option.bind (rec_ y18.1 s3.2.1 y18.2.1 s8.2) fun y19 =>
    if y19.length = y18.1.length then
     some (.next (y19, (IntKind.wrap .i64 (y18.2.1 + (1 : Int))), s3.2.2.1, s8.2, (decide ((IntKind.wrap .i64 (y18.2.1 - s3.2.1)) ≥ (IntKind.wrap .i64 (Int.tdiv (IntKind.wrap .i64 (s3.2.2.1 - s3.2.1)) (8 : Int))))), y18.2.2))
    else none
   else
    Option.bind (rec_ y18.1 (IntKind.wrap .i64 (y18.2.1 + (1 : Int))) s3.2.2.1 s8.2) fun y20 =>
    if y20.length = y18.1.length then
     some (.next (y20, s3.2.1, y18.2.1, s8.2, (decide ((IntKind.wrap .i64 (s3.2.2.1 - y18.2.1)) ≥ (IntKind.wrap .i64 (Int.tdiv (IntKind.wrap .i64 (s3.2.2.1 - s3.2.1)) (8 : Int))))), y18.2.2))
    else none
  else none
noncomputable def m_slices_pdqsortOrdered_rune_own_K14 (rec_ : (List Int) → Int → Int → Int → Option (List Int)) (s3 : (List Int) × Int × Int × Int × Bool × Bool) (s8 : (List Int) × Int) (s11 : (List Int) × Int × Int) (s13 : (List Int)) : Option (Stp ((List Int) × Int × Int × Int × Bool × Bool) (List Int)) :=
 Option.bind (
  bif (decide (s3.2.1 > (0 : Int))) then
   if 0 ≤ (IntKind.wrap .i64 (s3.2.1 - (1 : Int))) ∧ (IntKind.wrap .i64 (s3.2.1 - (1 : Int))) < ((s13.length : Nat) : Int) then
    if 0 ≤ s11.2.1 ∧ s11.2.1 < ((s13.length : Nat) : Int) then
     Option.bind (m_cmp_Less_rune (s13.getD ((IntKind.wrap .i64 (s3.2.1 - (1 : Int))).toNat) 0) (s13.getD (s11.2.1.toNat) 0)) fun y21 =>
     some (!y21)
    else none
   else none
  else
   some false : Option Bool) fun s15 =>
 m_slices_pdqsortOrdered_rune_own_K16 rec_ s3 s8 s11 s13 s15
noncomputable def m_slices_pdqsortOrdered_rune_own_K23 (s3 : (List Int) × Int × Int × Int × Bool × Bool) (s11 : (List Int) × Int × Int) (s22 : Bool) : Option (Sum (List Int) (List Int)) :=
 bif s22 then
  Option.bind (m_slices_partialInsertionSortOrdered_rune_own s11.1 s3.2.1 s3.2.2.1) fun y24 =>
  if y24.1.length = s11.1.length then
   bif y24.2 then
    some (.inr y24.1)
   else
    some (.inl y24.1)
  else none
 else
  some (.inl s11.1)
noncomputable def m_slices_pdqsortOrdered_rune_own_K12 (rec_ : (List Int) → Int → Int → Int → Option (List Int)) (s3 : (List Int) × Int × Int × Int × Bool × Bool) (s8 : (List Int) × Int) (s11 : (List Int) × Int × Int) : Option (Stp ((List Int) × Int × Int × Int × Bool × Bool) (List Int)) :=
 Option.bind (
  Option.bind (
   bif s3.2.2.2.2.1 then
    bif s3.2.2.2.2.2 then
     some (s11.2.2 == (1 : Int))
    else
     some false
   else
    some false : Option Bool) fun s22 =>
  m_slices_pdqsortOrdered_rune_own_K23 s3 s11 s22 : Option (Sum (List Int) (List Int))) fun z =>
 match z with
 | .inl s13 =>
  m_slices_pdqsortOrdered_rune_own_K14 rec_ s3 s8 s11 s13
 | .inr (v25) =>
  some (.done v25)
noncomputable def m_slices_pdqsortOrdered_rune_own_K9 (rec_ : (List Int) → Int → Int → Int → Option (List Int)) (s3 : (List Int) × Int × Int × Int × Bool × Bool) (s8 : (List Int) × Int) : Option (Stp ((List Int) × Int × Int × Int × Bool × Bool) (List Int)) :=
 Option.bind (m_slices_choosePivotOrdered_rune s8.1 s3.2.1 s3.2.2.1) fun y10 =>
 Option.bind (
  bif (y10.2 == (2 : Int)) then
   Option.bind (m_slices_reverseRangeOrdered_rune_own s8.1 s3.2.1 s3.2.2.1) fun y26 =>
   if y26.length = s8.1.length then
    some (y26, (IntKind.wrap .i64 ((IntKind.wrap .i64 (s3.2.2.1 - (1 : Int))) - (IntKind.wrap .i64 (y10.1 - s3.2.1)))), (1 : Int))
   else none
  else
   some (s8.1, y10.1, y10.2) : Option ((List Int) × Int × Int)) fun s11 =>
 m_slices_pdqsortOrdered_rune_own_K12 rec_ s3 s8 s11
noncomputable def m_slices_pdqsortOrdered_rune_own_L4 (rec_ : (List Int) → Int → Int → Int → Option (List Int)) (s3 : (List Int) × Int × Int × Int × Bool × Bool) : Option (Stp ((List Int) × Int × Int × Int × Bool × Bool) (List Int)) :=
 bif (decide ((IntKind.wrap .i64 (s3.2.2.1 - s3.2.1)) ≤ (12 : Int))) then
  Option.bind (m_slices_insertionSortOrdered_rune_own s3.1 s3.2.1 s3.2.2.1) fun y6 =>
  if y6.length = s3.1.length then
   some (.done y6)
  else none
 else
  bif (s3.2.2.2.1 == (0 : Int)) then
   Option.bind (m_slices_heapSortOrdered_rune_own s3.1 s3.2.1 s3.2.2.1) fun y7 =>
   if y7.length = s3.1.length then
    some (.done y7)
   else none
  else
   Option.bind (
    bif (!s3.2.2.2.2.1) then
     Option.bind (m_slices_breakPatternsOrdered_rune_own s3.1 s3.2.1 s3.2.2.1) fun y27 =>
     if y27.length = s3.1.length then
      some (y27, (IntKind.wrap .i64 (s3.2.2.2.1 - (1 : Int))))
     else none
    else
     some (s3.1, s3.2.2.2.1) : Option ((List Int) × Int)) fun s8 =>
   m_slices_pdqsortOrdered_rune_own_K9 rec_ s3 s8
noncomputable def m_slices_pdqsortOrdered_rune_own_body (rec_ : (List Int) → Int → Int → Int → Option (List Int)) (p_data : (List Int)) (p_a : Int) (p_b : Int) (p_limit : Int) : Option (List Int) :=
 Option.bind (iter (m_slices_pdqsortOrdered_rune_own_L4 rec_) (p_data, p_a, p_b, p_limit, true, true)) fun v28 =>
 some v28
noncomputable def m_slices_pdqsortOrdered_rune_own_n : Nat → (List Int) → Int → Int → Int → Option (List Int)
 | 0 => fun _ _ _ _ => none
 | n + 1 => m_slices_pdqsortOrdered_rune_own_body (m_slices_pdqsortOrdered_rune_own_n n)
noncomputable def m_slices_pdqsortOrdered_rune_own (p_data : (List Int)) (p_a : Int) (p_b : Int) (p_limit : Int) : Option (List Int) :=
 @dite _ (∃ n, (m_slices_pdqsortOrdered_rune_own_n n p_data p_a p_b p_limit).isSome = true) (Classical.propDecidable _) (fun h => m_slices_pdqsortOrdered_rune_own_n (Classical.choose h) p_data p_a p_b p_limit) (fun _ => none)
noncomputable def m_slices_Sort_rune_rune_own (p_x : (List Int)) : Option (List Int) :=
 Option.bind (m_math_bits_Len (IntKind.wrap .u64 ((p_x.length : Nat) : Int))) fun y1 =>
 Option.bind (m_slices_pdqsortOrdered_rune_own p_x (0 : Int) ((p_x.length : Nat) : Int) y1) fun y2 =>
 if y2.length = p_x.length then
  some y2
 else none
noncomputable def m_slices_Compact_rune_rune_own_K10  (s9 : (List Int) × Int) : Option (Sum Unit ((List Int) × Nat)) :=
 if 0 ≤ s9.2 ∧ s9.2 ≤ ((s9.1.length : Nat) : Int) ∧ ((s9.1.length : Nat) : Int) ≤ ((s9.1.length : Nat) : Int) then
  if (s9.2.toNat) + (s9.1.length - (s9.2.toNat)) ≤ s9.1.length then
   if 0 ≤ s9.2 ∧ s9.2 ≤ ((s9.1.length : Nat) : Int) then
    some (.inr ((s9.1.take (s9.2.toNat) ++ (List.replicate (s9.1.length - (s9.2.toNat)) 0 ++ s9.1.drop ((s9.2.toNat) + (s9.1.length - (s9.2.toNat))))), (s9.2.toNat)))
   else none
  else none
 else none
noncomputable def m_slices_Compact_rune_rune_own_L13 (p_s : (List Int)) (s4 : Int) (s12 : (List Int) × Int × Int) : Option (Stp ((List Int) × Int × Int) ((List Int) × Int)) :=
 bif (decide (s12.2.2 < (((p_s.length - (s4.toNat)) : Nat) : Int))) then
  if 0 ≤ s12.2.2 ∧ s12.2.2 < (((p_s.length - (s4.toNat)) : Nat) : Int) then
   if 0 ≤ (IntKind.wrap .i64 (s12.2.2 - (1 : Int))) ∧ (IntKind.wrap .i64 (s12.2.2 - (1 : Int))) < (((p_s.length - (s4.toNat)) : Nat) : Int) then
    bif ((s12.1.getD ((s4.toNat) + (s12.2.2.toNat)) 0) != (s12.1.getD ((s4.toNat) + ((IntKind.wrap .i64 (s12.2.2 - (1 : Int))).toNat)) 0)) then
     if 0 ≤ s12.2.2 ∧ s12.2.2 < (((p_s.length - (s4.toNat)) : Nat) : Int) then
      if 0 ≤ s12.2.1 ∧ s12.2.1 < ((s12.1.length : Nat) : Int) then
       some (.next ((s12.1.set (s12.2.1.toNat) (s12.1.getD ((s4.toNat) + (s12.2.2.toNat)) 0)), (IntKind.wrap .i64 (s12.2.1 + (1 : Int))), (IntKind.wrap .i64 (s12.2.2 + (1 : Int)))))
      else none
     else none
    else
     some (.next (s12.1, s12.2.1, (IntKind.wrap .i64 (s12.2.2 + (1 : Int)))))
   else none
  else none
 else
  some (.done (s12.1, s12.2.1))
noncomputable def m_slices_Compact_rune_rune_own_L5 (p_s : (List Int)) (s4 : Int) : Option (Stp Int (Sum Unit ((List Int) × Nat))) :=
 bif (decide (s4 < ((p_s.length : Nat) : Int))) then
  Option.bind (
   if 0 ≤ s4 ∧ s4 < ((p_s.length : Nat) : Int) then
    if 0 ≤ (IntKind.wrap .i64 (s4 - (1 : Int))) ∧ (IntKind.wrap .i64 (s4 - (1 : Int))) < ((p_s.length : Nat) : Int) then
     bif ((p_s.getD (s4.toNat) 0) == (p_s.getD ((IntKind.wrap .i64 (s4 - (1 : Int))).toNat) 0)) then
      if 0 ≤ s4 ∧ s4 ≤ ((p_s.length : Nat) : Int) ∧ ((p_s.length : Nat) : Int) ≤ ((p_s.length : Nat) : Int) then
       Option.bind (
        iter (m_slices_Compact_rune_rune_own_L13 p_s s4) (p_s, s4, (1 : Int)) : Option ((List Int) × Int)) fun s9 =>
       m_slices_Compact_rune_rune_own_K10 s9
      else none
     else
      some (.inl ())
    else none
   else none : Option (Sum Unit ((List Int) × Nat))) fun z =>
  match z with
  | .inl s7 =>
   some (.next (IntKind.wrap .i64 (s4 + (1 : Int))))
  | .inr (v16) =>
   some (.done (.inr (v16.1, v16.2)))
 else
  some (.done (.inl ()))
noncomputable def m_slices_Compact_rune_rune_own (p_s : (List Int)) : Option ((List Int) × Nat) :=
 bif (decide (((p_s.length : Nat) : Int) < (2 : Int))) then
  some (p_s, p_s.length)
 else
  Option.bind (
   iter (m_slices_Compact_rune_rune_own_L5 p_s) (1 : Int) : Option (Sum Unit ((List Int) × Nat))) fun z =>
  match z with
  | .inl s1 =>
   some (p_s, p_s.length)
  | .inr (v19) =>
   some v19
noncomputable def m_puny_within (p_n : Int) (p_low : Int) (p_high : Int) : Option Int :=
 some (max p_low (min p_n p_high))
noncomputable def m_puny_bias_bound_own (p_b_0 : Int) (p_b_1 : Bool) (p_b_2 : Bool) (p_b_3 : (List Int)) (p_b_4 : Int) (p_b_5 : Int) (p_b_6 : Int) (p_k : Int) : Option (Int × Bool × Bool × Int × Int × Int × Int) :=
 Option.bind (m_puny_within (IntKind.wrap .i64 ((IntKind.wrap .i64 ((36 : Int) * (IntKind.wrap .i64 (p_k + (1 : Int))))) - p_b_0)) (1 : Int) (26 : Int)) fun y1 =>
 some (p_b_0, p_b_1, p_b_2, p_b_4, p_b_5, p_b_6, y1)
noncomputable def m_puny_sign (p_n : Int) : Option Int :=
 bif (decide (p_n < (26 : Int))) then
  some (IntKind.wrap .u8 (IntKind.wrap .i64 ((97 : Int) + p_n)))
 else
  some (IntKind.wrap .u8 (IntKind.wrap .i64 ((IntKind.wrap .i64 ((48 : Int) + p_n)) - (26 : Int))))
noncomputable def m_puny_bias_digits_own_L3 (p_b_3 : (List Int)) (s2 : Int × Bool × Bool × Int × Int × Int × Int × (List Int) × Int) : Option (Stp (Int × Bool × Bool × Int × Int × Int × Int × (List Int) × Int) (Int × Bool × Bool × Int × Int × Int × ByteArray)) :=
 Option.bind (m_puny_bias_bound_own s2.1 s2.2.1 s2.2.2.1 p_b_3 s2.2.2.2.1 s2.2.2.2.2.1 s2.2.2.2.2.2.1 s2.2.2.2.2.2.2.2.2) fun y5 =>
 bif (decide (s2.2.2.2.2.2.2.1 < y5.2.2.2.2.2.2)) then
  Option.bind (m_puny_sign s2.2.2.2.2.2.2.1) fun y6 =>
  if (s2.2.2.2.2.2.2.2.1.length + 1) * 1 ≤ 140737488355328 then
   some (.done (y5.1, y5.2.1, y5.2.2.1, y5.2.2.2.1, y5.2.2.2.2.1, y5.2.2.2.2.2.1, (strOfNums (s2.2.2.2.2.2.2.2.1 ++ [y6]))))
  else none
 else
  if (IntKind.wrap .i64 ((36 : Int) - y5.2.2.2.2.2.2)) ≠ 0 then
   Option.bind (m_puny_sign (IntKind.wrap .i64 (y5.2.2.2.2.2.2 + (Int.tmod (IntKind.wrap .i64 (s2.2.2.2.2.2.2.1 - y5.2.2.2.2.2.2)) (IntKind.wrap .i64 ((36 : Int) - y5.2.2.2.2.2.2)))))) fun y7 =>
   if (s2.2.2.2.2.2.2.2.1.length + 1) * 1 ≤ 140737488355328 then
    if (IntKind.wrap .i64 ((36 : Int) - y5.2.2.2.2.2.2)) ≠ 0 then
     some (.next (y5.1, y5.2.1, y5.2.2.1, y5.2.2.2.1, y5.2.2.2.2.1, y5.2.2.2.2.2.1, (IntKind.wrap .i64 (Int.tdiv (IntKind.wrap .i64 (s2.2.2.2.2.2.2.1 - y5.2.2.2.2.2.2)) (IntKind.wrap .i64 ((36 : Int) - y5.2.2.2.2.2.2)))), (s2.2.2.2.2.2.2.2.1 ++ [y7]), (IntKind.wrap .i64 (s2.2.2.2.2.2.2.2.2 + (1 : Int)))))
    else none
   else none
  else none
noncomputable def m_puny_bias_digits_own (p_b_0 : Int) (p_b_1 : Bool) (p_b_2 : Bool) (p_b_3 : (List Int)) (p_b_4 : Int) (p_b_5 : Int) (p_b_6 : Int) (p_d : Int) : Option (Int × Bool × Bool × Int × Int × Int × ByteArray) :=
 Option.bind (iter (m_puny_bias_digits_own_L3 p_b_3) (p_b_0, p_b_1, p_b_2, p_b_4, p_b_5, p_b_6, p_d, [], (0 : Int))) fun v8 =>
 some v8
noncomputable def m_strings_Builder_WriteString_own (p_b_0 : Int) (p_b_1 : Bool) (p_b_2 : Bool) (p_b_3 : (List Int)) (p_b_4 : Int) (p_b_5 : Int) (p_b_6 : Int) (p_s : ByteArray) : Option (Int × Bool × Bool × (List Int) × Int × Int × Int × Int) :=
 Option.bind (m_strings_Builder_copyCheck_own p_b_0 p_b_1 p_b_2 p_b_3 p_b_4 p_b_5 p_b_6) fun y1 =>
 if (p_b_3.length + p_s.size) ≤ 140737488355328 then
  some (y1.1, y1.2.1, y1.2.2.1, (p_b_3 ++ (numsOf p_s)), y1.2.2.2.1, y1.2.2.2.2.1, y1.2.2.2.2.2, ((p_s.size : Nat) : Int))
 else none
noncomputable def m_puny_Bias_K6  (s5 : Int × Int) : Option Int :=
 if (IntKind.wrap .i64 (s5.1 + (38 : Int))) ≠ 0 then
  some (IntKind.wrap .i64 (s5.2 + (IntKind.wrap .i64 (Int.tdiv (IntKind.wrap .i64 ((36 : Int) * s5.1)) (IntKind.wrap .i64 (s5.1 + (38 : Int)))))))
 else none
noncomputable def m_puny_Bias_L9  (s8 : Int × Int) : Option (Stp (Int × Int) (Int × Int)) :=
 bif (decide (s8.1 > (455 : Int))) then
  some (.next ((IntKind.wrap .i64 (Int.tdiv s8.1 (35 : Int))), (IntKind.wrap .i64 (s8.2 + (36 : Int)))))
 else
  some (.done (s8.1, s8.2))
noncomputable def m_puny_Bias_K4 (y2 : Int) (s3 : Int) : Option Int :=
 if y2 ≠ 0 then
  Option.bind (
   iter (m_puny_Bias_L9) ((IntKind.wrap .i64 (s3 + (IntKind.wrap .i64 (Int.tdiv s3 y2)))), (0 : Int)) : Option (Int × Int)) fun s5 =>
  m_puny_Bias_K6 s5
 else none
noncomputable def m_puny_Bias (p_d : Int) (p_many : Int) (p_first : Bool) : Option Int :=
 Option.bind (m_puny_within p_d (0 : Int) (2147483647 : Int)) fun y1 =>
 Option.bind (m_puny_within p_many (1 : Int) (2147483647 : Int)) fun y2 =>
 Option.bind (
  bif p_first then
   some (IntKind.wrap .i64 (Int.tdiv y1 (700 : Int)))
  else
   some (IntKind.wrap .i64 (Int.tdiv y1 (2 : Int))) : Option Int) fun s3 =>
 m_puny_Bias_K4 y2 s3
noncomputable def m_puny_bias_adapt_own (p_b_0 : Int) (p_b_1 : Bool) (p_b_2 : Bool) (p_b_3 : (List Int)) (p_b_4 : Int) (p_b_5 : Int) (p_b_6 : Int) (p_d : Int) (p_many : Int) : Option (Int × Bool × Bool × Int × Int × Int) :=
 Option.bind (m_puny_Bias p_d p_many (!p_b_1)) fun y1 =>
 some (y1, true, p_b_2, p_b_4, p_b_5, p_b_6)
noncomputable def m_puny_encoder_put_own (p_w_0 : Int) (p_w_1 : Bool) (p_w_2 : Bool) (p_w_3 : (List Int)) (p_w_4 : Int) (p_w_5 : Int) (p_w_6 : Int) (p_r : Int) (p_i : Int) : Option (Int × Bool × Bool × (List Int) × Int × Int × Int) :=
 Option.bind (m_puny_bias_digits_own p_w_0 p_w_1 p_w_2 p_w_3 p_w_4 p_w_5 p_w_6 (IntKind.wrap .i64 ((IntKind.wrap .i64 ((IntKind.wrap .i64 ((IntKind.wrap .i64 ((IntKind.wrap .i64 p_r) - (IntKind.wrap .i64 p_w_4))) * (IntKind.wrap .i64 (p_w_6 + (1 : Int))))) + p_i)) - p_w_5))) fun y1 =>
 Option.bind (m_strings_Builder_WriteString_own y1.1 y1.2.1 y1.2.2.1 p_w_3 y1.2.2.2.1 y1.2.2.2.2.1 y1.2.2.2.2.2.1 y1.2.2.2.2.2.2) fun y2 =>
 Option.bind (m_puny_bias_adapt_own y2.1 y2.2.1 y2.2.2.1 y2.2.2.2.1 y2.2.2.2.2.1 y2.2.2.2.2.2.1 (IntKind.wrap .i64 (y2.2.2.2.2.2.2.1 + (1 : Int))) (IntKind.wrap .i64 ((IntKind.wrap .i64 ((IntKind.wrap .i64 ((IntKind.wrap .i64 ((IntKind.wrap .i64 p_r) - (IntKind.wrap .i64 p_w_4))) * (IntKind.wrap .i64 (p_w_6 + (1 : Int))))) + p_i)) - p_w_5)) (IntKind.wrap .i64 (y2.2.2.2.2.2.2.1 + (1 : Int)))) fun y3 =>
 some (y3.1, y3.2.1, y3.2.2.1, y2.2.2.2.1, p_r, (IntKind.wrap .i64 (p_i + (1 : Int))), y3.2.2.2.2.2)
noncomputable def m_puny_encoder_all_own_K7 (p_l : (List Int)) (p_r : Int) (s3 : Int × Bool × Bool × (List Int) × Int × Int × Int × Int × Int) (s6 : Int × Bool × Bool × (List Int) × Int × Int × Int) : Option (Stp (Int × Bool × Bool × (List Int) × Int × Int × Int × Int × Int) (Int × Bool × Bool × (List Int) × Int × Int × Int)) :=
 bif (decide ((p_l.getD (s3.2.2.2.2.2.2.2.2.toNat) 0) ≤ p_r)) then
  some (.next (s6.1, s6.2.1, s6.2.2.1, s6.2.2.2.1, s6.2.2.2.2.1, s6.2.2.2.2.2.1, s6.2.2.2.2.2.2, (IntKind.wrap .i64 (s3.2.2.2.2.2.2.2.1 + (1 : Int))), (IntKind.wrap .i64 (s3.2.2.2.2.2.2.2.2 + (1 : Int)))))
 else
  some (.next (s6.1, s6.2.1, s6.2.2.1, s6.2.2.2.1, s6.2.2.2.2.1, s6.2.2.2.2.2.1, s6.2.2.2.2.2.2, s3.2.2.2.2.2.2.2.1, (IntKind.wrap .i64 (s3.2.2.2.2.2.2.2.2 + (1 : Int)))))
noncomputable def m_puny_encoder_all_own_L4 (p_l : (List Int)) (p_r : Int) (s3 : Int × Bool × Bool × (List Int) × Int × Int × Int × Int × Int) : Option (Stp (Int × Bool × Bool × (List Int) × Int × Int × Int × Int × Int) (Int × Bool × Bool × (List Int) × Int × Int × Int)) :=
 bif (decide (s3.2.2.2.2.2.2.2.2 < ((p_l.length : Nat) : Int))) then
  if 0 ≤ s3.2.2.2.2.2.2.2.2 ∧ s3.2.2.2.2.2.2.2.2 < ((p_l.length : Nat) : Int) then
   Option.bind (
    bif ((p_l.getD (s3.2.2.2.2.2.2.2.2.toNat) 0) == p_r) then
     Option.bind (m_puny_encoder_put_own s3.1 s3.2.1 s3.2.2.1 s3.2.2.2.1 s3.2.2.2.2.1 s3.2.2.2.2.2.1 s3.2.2.2.2.2.2.1 p_r s3.2.2.2.2.2.2.2.1) fun y8 =>
     some (y8.1, y8.2.1, y8.2.2.1, y8.2.2.2.1, y8.2.2.2.2.1, y8.2.2.2.2.2.1, y8.2.2.2.2.2.2)
    else
     some (s3.1, s3.2.1, s3.2.2.1, s3.2.2.2.1, s3.2.2.2.2.1, s3.2.2.2.2.2.1, s3.2.2.2.2.2.2.1) : Option (Int × Bool × Bool × (List Int) × Int × Int × Int)) fun s6 =>
   m_puny_encoder_all_own_K7 p_l p_r s3 s6
  else none
 else
  some (.done (s3.1, s3.2.1, s3.2.2.1, s3.2.2.2.1, s3.2.2.2.2.1, s3.2.2.2.2.2.1, s3.2.2.2.2.2.2.1))
noncomputable def m_puny_encoder_all_own (p_w_0 : Int) (p_w_1 : Bool) (p_w_2 : Bool) (p_w_3 : (List Int)) (p_w_4 : Int) (p_w_5 : Int) (p_w_6 : Int) (p_l : (List Int)) (p_r : Int) : Option (Int × Bool × Bool × (List Int) × Int × Int × Int) :=
 Option.bind (iter (m_puny_encoder_all_own_L4 p_l p_r) (p_w_0, p_w_1, p_w_2, p_w_3, p_w_4, p_w_5, p_w_6, (0 : Int), (0 : Int))) fun s9 =>
 some (s9.1, s9.2.1, s9.2.2.1, s9.2.2.2.1, s9.2.2.2.2.1, s9.2.2.2.2.2.1, s9.2.2.2.2.2.2)
noncomputable def m_strings_Builder_Len_own (p_b_0 : Int) (p_b_1 : Bool) (p_b_2 : Bool) (p_b_3 : (List Int)) (p_b_4 : Int) (p_b_5 : Int) (p_b_6 : Int) : Option (Int × Bool × Bool × Int × Int × Int × Int) :=
 some (p_b_0, p_b_1, p_b_2, p_b_4, p_b_5, p_b_6, ((p_b_3.length : Nat) : Int))
noncomputable def m_strings_Builder_String_own (p_b_0 : Int) (p_b_1 : Bool) (p_b_2 : Bool) (p_b_3 : (List Int)) (p_b_4 : Int) (p_b_5 : Int) (p_b_6 : Int) : Option (Int × Bool × Bool × (List Int) × Int × Int × Int × ByteArray) :=
 if p_b_3.length ≤ 9223372036854775807 then
  some (p_b_0, p_b_1, p_b_2, p_b_3, p_b_4, p_b_5, p_b_6, (strOfNums (p_b_3.take p_b_3.length)))
 else none
noncomputable def m_puny_Encode_K10  (s9 : Int × Bool × Bool × (List Int) × Int × Int × Int) : Option (ByteArray × Er) :=
 Option.bind (m_strings_Builder_Len_own s9.1 s9.2.1 s9.2.2.1 s9.2.2.2.1 s9.2.2.2.2.1 s9.2.2.2.2.2.1 s9.2.2.2.2.2.2) fun y11 =>
 bif (decide (y11.2.2.2.2.2.2 > (120 : Int))) then
  Option.bind (m_puny_fault (0 : Int) (Er.sent 4)) fun y12 =>
  some ((ByteArray.mk #[]), y12)
 else
  Option.bind (m_strings_Builder_String_own y11.1 y11.2.1 y11.2.2.1 s9.2.2.2.1 y11.2.2.2.1 y11.2.2.2.2.1 y11.2.2.2.2.2.1) fun y13 =>
  if y13.2.2.2.1.length = s9.2.2.2.1.length then
   some (y13.2.2.2.2.2.2.2, Er.nil)
  else none
noncomputable def m_puny_Encode_L17 (p_l : (List Int)) (y14 : (List Int) × Nat) (s16 : Int × Bool × Bool × (List Int) × Int × Int × Int × Int) : Option (Stp (Int × Bool × Bool × (List Int) × Int × Int × Int × Int) (Int × Bool × Bool × (List Int) × Int × Int × Int)) :=
 bif (decide (s16.2.2.2.2.2.2.2 < ((y14.2 : Nat) : Int))) then
  if 0 ≤ s16.2.2.2.2.2.2.2 ∧ s16.2.2.2.2.2.2.2 < ((y14.2 : Nat) : Int) then
   Option.bind (m_puny_encoder_all_own s16.1 s16.2.1 s16.2.2.1 s16.2.2.2.1 s16.2.2.2.2.1 s16.2.2.2.2.2.1 s16.2.2.2.2.2.2.1 p_l (y14.1.getD (s16.2.2.2.2.2.2.2.toNat) 0)) fun y19 =>
   some (.next (y19.1, y19.2.1, y19.2.2.1, y19.2.2.2.1, y19.2.2.2.2.1, y19.2.2.2.2.2.1, y19.2.2.2.2.2.2, (IntKind.wrap .i64 (s16.2.2.2.2.2.2.2 + (1 : Int)))))
  else none
 else
  some (.done (s16.1, s16.2.1, s16.2.2.1, s16.2.2.2.1, s16.2.2.2.2.1, s16.2.2.2.2.2.1, s16.2.2.2.2.2.2.1))
noncomputable def m_puny_Encode_K7 (p_l : (List Int)) (s4 : Int × Bool × Bool × (List Int) × Int × Int × Int × (List Int)) (s6 : Int × Bool × Bool × (List Int) × Int × Int × Int) : Option (ByteArray × Er) :=
 Option.bind (m_slices_Sort_rune_rune_own s4.2.2.2.2.2.2.2) fun y8 =>
 if y8.length = s4.2.2.2.2.2.2.2.length then
  Option.bind (
   Option.bind (m_slices_Compact_rune_rune_own y8) fun y14 =>
   if y14.1.length = y8.length then
    iter (m_puny_Encode_L17 p_l y14) (s6.1, s6.2.1, s6.2.2.1, s6.2.2.2.1, s6.2.2.2.2.1, s6.2.2.2.2.2.1, s6.2.2.2.2.2.2, (0 : Int))
   else none : Option (Int × Bool × Bool × (List Int) × Int × Int × Int)) fun s9 =>
  m_puny_Encode_K10 s9
 else none
noncomputable def m_puny_Encode_K5 (p_l : (List Int)) (s4 : Int × Bool × Bool × (List Int) × Int × Int × Int × (List Int)) : Option (ByteArray × Er) :=
 Option.bind (
  bif (decide (s4.2.2.2.2.2.2.1 > (0 : Int))) then
   Option.bind (m_strings_Builder_WriteByte_own s4.1 s4.2.1 s4.2.2.1 s4.2.2.2.1 s4.2.2.2.2.1 s4.2.2.2.2.2.1 s4.2.2.2.2.2.2.1 (45 : Int)) fun y21 =>
   some (y21.1, y21.2.1, y21.2.2.1, y21.2.2.2.1, y21.2.2.2.2.1, y21.2.2.2.2.2.1, y21.2.2.2.2.2.2.1)
  else
   some (s4.1, s4.2.1, s4.2.2.1, s4.2.2.2.1, s4.2.2.2.2.1, s4.2.2.2.2.2.1, s4.2.2.2.2.2.2.1) : Option (Int × Bool × Bool × (List Int) × Int × Int × Int)) fun s6 =>
 m_puny_Encode_K7 p_l s4 s6
noncomputable def m_puny_Encode_L24 (p_l : (List Int)) (s23 : Int × Bool × Bool × (List Int) × Int × Int × Int × (List Int) × Int) : Option (Stp (Int × Bool × Bool × (List Int) × Int × Int × Int × (List Int) × Int) (Int × Bool × Bool × (List Int) × Int × Int × Int × (List Int))) :=
 bif (decide (s23.2.2.2.2.2.2.2.2 < ((p_l.length : Nat) : Int))) then
  if 0 ≤ s23.2.2.2.2.2.2.2.2 ∧ s23.2.2.2.2.2.2.2.2 < ((p_l.length : Nat) : Int) then
   bif (decide ((p_l.getD (s23.2.2.2.2.2.2.2.2.toNat) 0) < (128 : Int))) then
    Option.bind (m_strings_Builder_WriteByte_own s23.1 s23.2.1 s23.2.2.1 s23.2.2.2.1 s23.2.2.2.2.1 s23.2.2.2.2.2.1 s23.2.2.2.2.2.2.1 (IntKind.wrap .u8 (p_l.getD (s23.2.2.2.2.2.2.2.2.toNat) 0))) fun y26 =>
    some (.next (y26.1, y26.2.1, y26.2.2.1, y26.2.2.2.1, y26.2.2.2.2.1, y26.2.2.2.2.2.1, (IntKind.wrap .i64 (y26.2.2.2.2.2.2.1 + (1 : Int))), s23.2.2.2.2.2.2.2.1, (IntKind.wrap .i64 (s23.2.2.2.2.2.2.2.2 + (1 : Int)))))
   else
    if (s23.2.2.2.2.2.2.2.1.length + 1) * 4 ≤ 140737488355328 then
     some (.next (s23.1, s23.2.1, s23.2.2.1, s23.2.2.2.1, s23.2.2.2.2.1, s23.2.2.2.2.2.1, s23.2.2.2.2.2.2.1, (s23.2.2.2.2.2.2.2.1 ++ [(p_l.getD (s23.2.2.2.2.2.2.2.2.toNat) 0)]), (IntKind.wrap .i64 (s23.2.2.2.2.2.2.2.2 + (1 : Int)))))
    else none
  else none
 else
  some (.done (s23.1, s23.2.1, s23.2.2.1, s23.2.2.2.1, s23.2.2.2.2.1, s23.2.2.2.2.2.1, s23.2.2.2.2.2.2.1, s23.2.2.2.2.2.2.2.1))
noncomputable def m_puny_Encode_K2 (p_l : (List Int)) (s1 : Unit) : Option (ByteArray × Er) :=
 bif (decide (((p_l.length : Nat) : Int) > (120 : Int))) then
  Option.bind (m_puny_fault (0 : Int) (Er.sent 4)) fun y3 =>
  some ((ByteArray.mk #[]), y3)
 else
  Option.bind (
   iter (m_puny_Encode_L24 p_l) ((72 : Int), false, false, [], (128 : Int), (0 : Int), (0 : Int), [], (0 : Int)) : Option (Int × Bool × Bool × (List Int) × Int × Int × Int × (List Int))) fun s4 =>
  m_puny_Encode_K5 p_l s4
noncomputable def m_puny_Encode_L30 (p_l : (List Int)) (s29 : Int) : Option (Stp Int (Sum Unit (ByteArray × Er))) :=
 bif (decide (s29 < ((p_l.length : Nat) : Int))) then
  if 0 ≤ s29 ∧ s29 < ((p_l.length : Nat) : Int) then
   Option.bind (m_utf_Right (p_l.getD (s29.toNat) 0)) fun y32 =>
   bif (!y32) then
    Option.bind (m_puny_fault s29 (Er.sent 3)) fun y33 =>
    some (.done (.inr ((ByteArray.mk #[]), y33)))
   else
    some (.next (IntKind.wrap .i64 (s29 + (1 : Int))))
  else none
 else
  some (.done (.inl ()))
noncomputable def m_puny_Encode (p_l : (List Int)) : Option (ByteArray × Er) :=
 Option.bind (
  iter (m_puny_Encode_L30 p_l) (0 : Int) : Option (Sum Unit (ByteArray × Er))) fun z =>
 match z with
 | .inl s1 =>
  m_puny_Encode_K2 p_l s1
 | .inr (v36) =>
  some (v36.1, v36.2)
noncomputable def m_internal_bytealg_LastIndexByteString_L5 (p_s : ByteArray) (p_c : Int) (s4 : Int) : Option (Stp Int (Sum Unit Int)) :=
 bif (decide (s4 ≥ (0 : Int))) then
  if 0 ≤ s4 ∧ s4 < ((p_s.size : Nat) : Int) then
   bif ((bt p_s s4) == p_c) then
    some (.done (.inr s4))
   else
    some (.next (IntKind.wrap .i64 (s4 - (1 : Int))))
  else none
 else
  some (.done (.inl ()))
noncomputable def m_internal_bytealg_LastIndexByteString (p_s : ByteArray) (p_c : Int) : Option Int :=
 Option.bind (
  iter (m_internal_bytealg_LastIndexByteString_L5 p_s p_c) (IntKind.wrap .i64 (((p_s.size : Nat) : Int) - (1 : Int))) : Option (Sum Unit Int)) fun z =>
 match z with
 | .inl s1 =>
  some (-1 : Int)
 | .inr (v9) =>
  some v9
noncomputable def m_strings_LastIndexByte (p_s : ByteArray) (p_c : Int) : Option Int :=
 Option.bind (m_internal_bytealg_LastIndexByteString p_s p_c) fun y1 =>
 some y1
noncomputable def m_puny_value_K6 (p_b : Int) (s5 : Bool) : Option Int :=
 bif s5 then
  some (IntKind.wrap .i64 ((IntKind.wrap .i64 (IntKind.wrap .u8 (p_b - (48 : Int)))) + (26 : Int)))
 else
  some (-1 : Int)
noncomputable def m_puny_value_K4 (p_b : Int) (s3 : Bool) : Option Int :=
 bif s3 then
  some (IntKind.wrap .i64 (IntKind.wrap .u8 (p_b - (65 : Int))))
 else
  Option.bind (
   bif (decide (p_b ≥ (48 : Int))) then
    some (decide (p_b ≤ (57 : Int)))
   else
    some false : Option Bool) fun s5 =>
  m_puny_value_K6 p_b s5
noncomputable def m_puny_value_K2 (p_b : Int) (s1 : Bool) : Option Int :=
 bif s1 then
  some (IntKind.wrap .i64 (IntKind.wrap .u8 (p_b - (97 : Int))))
 else
  Option.bind (
   bif (decide (p_b ≥ (65 : Int))) then
    some (decide (p_b ≤ (90 : Int)))
   else
    some false : Option Bool) fun s3 =>
  m_puny_value_K4 p_b s3
noncomputable def m_puny_value (p_b : Int) : Option Int :=
 Option.bind (
  bif (decide (p_b ≥ (97 : Int))) then
   some (decide (p_b ≤ (122 : Int)))
  else
   some false : Option Bool) fun s1 =>
 m_puny_value_K2 p_b s1
noncomputable def m_puny_bias_bound_own2 (p_b_0 : Int) (p_b_1 : Bool) (p_b_2 : ByteArray) (p_b_3 : Int) (p_b_4 : Int) (p_b_5 : Int) (p_b_6 : (List Int)) (p_k : Int) : Option (Int × Bool × ByteArray × Int × Int × Int × Int) :=
 Option.bind (m_puny_within (IntKind.wrap .i64 ((IntKind.wrap .i64 ((36 : Int) * (IntKind.wrap .i64 (p_k + (1 : Int))))) - p_b_0)) (1 : Int) (26 : Int)) fun y1 =>
 some (p_b_0, p_b_1, p_b_2, p_b_3, p_b_4, p_b_5, y1)
noncomputable def m_puny_decoder_number_own_L3 (p_d_6 : (List Int)) (s2 : Int × Bool × ByteArray × Int × Int × Int × Int × Int × Int) : Option (Stp (Int × Bool × ByteArray × Int × Int × Int × Int × Int × Int) (Int × Bool × ByteArray × Int × Int × Int × Int × Er)) :=
 bif (s2.2.2.2.1 == ((s2.2.2.1.size : Nat) : Int)) then
  Option.bind (m_puny_fault s2.2.2.2.1 (Er.sent 9)) fun y5 =>
  some (.done (s2.1, s2.2.1, s2.2.2.1, s2.2.2.2.1, s2.2.2.2.2.1, s2.2.2.2.2.2.1, (0 : Int), y5))
 else
  if 0 ≤ s2.2.2.2.1 ∧ s2.2.2.2.1 < ((s2.2.2.1.size : Nat) : Int) then
   Option.bind (m_puny_value (bt s2.2.2.1 s2.2.2.2.1)) fun y6 =>
   bif (decide (y6 < (0 : Int))) then
    Option.bind (m_puny_fault s2.2.2.2.1 (Er.sent 17)) fun y7 =>
    some (.done (s2.1, s2.2.1, s2.2.2.1, s2.2.2.2.1, s2.2.2.2.2.1, s2.2.2.2.2.2.1, (0 : Int), y7))
   else
    bif (decide ((IntKind.wrap .i64 (s2.2.2.2.2.2.2.1 + (IntKind.wrap .i64 (y6 * s2.2.2.2.2.2.2.2.1)))) > (2147483647 : Int))) then
     Option.bind (m_puny_fault s2.2.2.2.1 (Er.sent 4)) fun y8 =>
     some (.done (s2.1, s2.2.1, s2.2.2.1, s2.2.2.2.1, s2.2.2.2.2.1, s2.2.2.2.2.2.1, (0 : Int), y8))
    else
     Option.bind (m_puny_bias_bound_own2 s2.1 s2.2.1 s2.2.2.1 (IntKind.wrap .i64 (s2.2.2.2.1 + (1 : Int))) s2.2.2.2.2.1 s2.2.2.2.2.2.1 p_d_6 s2.2.2.2.2.2.2.2.2) fun y9 =>
     bif (decide (y6 < y9.2.2.2.2.2.2)) then
      some (.done (y9.1, y9.2.1, y9.2.2.1, y9.2.2.2.1, y9.2.2.2.2.1, y9.2.2.2.2.2.1, (IntKind.wrap .i64 (s2.2.2.2.2.2.2.1 + (IntKind.wrap .i64 (y6 * s2.2.2.2.2.2.2.2.1)))), Er.nil))
     else
      some (.next (y9.1, y9.2.1, y9.2.2.1, y9.2.2.2.1, y9.2.2.2.2.1, y9.2.2.2.2.2.1, (IntKind.wrap .i64 (s2.2.2.2.2.2.2.1 + (IntKind.wrap .i64 (y6 * s2.2.2.2.2.2.2.2.1)))), (IntKind.wrap .i64 (s2.2.2.2.2.2.2.2.1 * (IntKind.wrap .i64 ((36 : Int) - y9.2.2.2.2.2.2)))), (IntKind.wrap .i64 (s2.2.2.2.2.2.2.2.2 + (1 : Int)))))
  else none
noncomputable def m_puny_decoder_number_own (p_d_0 : Int) (p_d_1 : Bool) (p_d_2 : ByteArray) (p_d_3 : Int) (p_d_4 : Int) (p_d_5 : Int) (p_d_6 : (List Int)) : Option (Int × Bool × ByteArray × Int × Int × Int × Int × Er) :=
 Option.bind (iter (m_puny_decoder_number_own_L3 p_d_6) (p_d_0, p_d_1, p_d_2, p_d_3, p_d_4, p_d_5, (0 : Int), (1 : Int), (0 : Int))) fun v10 =>
 some v10
noncomputable def m_puny_bias_adapt_own2 (p_b_0 : Int) (p_b_1 : Bool) (p_b_2 : ByteArray) (p_b_3 : Int) (p_b_4 : Int) (p_b_5 : Int) (p_b_6 : (List Int)) (p_d : Int) (p_many : Int) : Option (Int × Bool × ByteArray × Int × Int × Int) :=
 Option.bind (m_puny_Bias p_d p_many (!p_b_1)) fun y1 =>
 some (y1, true, p_b_2, p_b_3, p_b_4, p_b_5)
def m_slices_Insert (p_s : List Int) (p_i : Int) (p_v : List Int) : Option (List Int) :=
 match p_v with
 | [x] => if 0 ≤ p_i ∧ p_i ≤ ((p_s.length : Nat) : Int) ∧ (p_s.length + 1) * 4 ≤ 140737488355328 then some (p_s.take p_i.toNat ++ x :: p_s.drop p_i.toNat) else none
 | _ => none
noncomputable def m_puny_decoder_next_own_K4 (p_d_6 : (List Int)) (y1 : Int × Bool × ByteArray × Int × Int × Int × Int × Er) (y2 : Int × Bool × ByteArray × Int × Int × Int) (s3 : Bool) : Option (Int × Bool × ByteArray × Int × Int × Int × (List Int) × Er) :=
 bif s3 then
  Option.bind (m_puny_fault (IntKind.wrap .i64 (y2.2.2.2.1 - (1 : Int))) (Er.sent 3)) fun y5 =>
  some (y2.1, y2.2.1, y2.2.2.1, y2.2.2.2.1, (IntKind.wrap .i64 (y2.2.2.2.2.1 + (IntKind.wrap .i64 (Int.tdiv (IntKind.wrap .i64 (y2.2.2.2.2.2 + y1.2.2.2.2.2.2.1)) (IntKind.wrap .i64 (((p_d_6.length : Nat) : Int) + (1 : Int))))))), (Int.tmod (IntKind.wrap .i64 (y2.2.2.2.2.2 + y1.2.2.2.2.2.2.1)) (IntKind.wrap .i64 (((p_d_6.length : Nat) : Int) + (1 : Int)))), p_d_6, y5)
 else
  Option.bind (m_slices_Insert p_d_6 (Int.tmod (IntKind.wrap .i64 (y2.2.2.2.2.2 + y1.2.2.2.2.2.2.1)) (IntKind.wrap .i64 (((p_d_6.length : Nat) : Int) + (1 : Int)))) [(IntKind.wrap .i32 (IntKind.wrap .i64 (y2.2.2.2.2.1 + (IntKind.wrap .i64 (Int.tdiv (IntKind.wrap .i64 (y2.2.2.2.2.2 + y1.2.2.2.2.2.2.1)) (IntKind.wrap .i64 (((p_d_6.length : Nat) : Int) + (1 : Int))))))))]) fun y6 =>
  some (y2.1, y2.2.1, y2.2.2.1, y2.2.2.2.1, (IntKind.wrap .i64 (y2.2.2.2.2.1 + (IntKind.wrap .i64 (Int.tdiv (IntKind.wrap .i64 (y2.2.2.2.2.2 + y1.2.2.2.2.2.2.1)) (IntKind.wrap .i64 (((p_d_6.length : Nat) : Int) + (1 : Int))))))), (IntKind.wrap .i64 ((Int.tmod (IntKind.wrap .i64 (y2.2.2.2.2.2 + y1.2.2.2.2.2.2.1)) (IntKind.wrap .i64 (((p_d_6.length : Nat) : Int) + (1 : Int)))) + (1 : Int))), y6, Er.nil)
noncomputable def m_puny_decoder_next_own (p_d_0 : Int) (p_d_1 : Bool) (p_d_2 : ByteArray) (p_d_3 : Int) (p_d_4 : Int) (p_d_5 : Int) (p_d_6 : (List Int)) : Option (Int × Bool × ByteArray × Int × Int × Int × (List Int) × Er) :=
 Option.bind (m_puny_decoder_number_own p_d_0 p_d_1 p_d_2 p_d_3 p_d_4 p_d_5 p_d_6) fun y1 =>
 bif (!y1.2.2.2.2.2.2.2.isNil) then
  some (y1.1, y1.2.1, y1.2.2.1, y1.2.2.2.1, y1.2.2.2.2.1, y1.2.2.2.2.2.1, p_d_6, y1.2.2.2.2.2.2.2)
 else
  Option.bind (m_puny_bias_adapt_own2 y1.1 y1.2.1 y1.2.2.1 y1.2.2.2.1 y1.2.2.2.2.1 y1.2.2.2.2.2.1 p_d_6 y1.2.2.2.2.2.2.1 (IntKind.wrap .i64 (((p_d_6.length : Nat) : Int) + (1 : Int)))) fun y2 =>
  if (IntKind.wrap .i64 (((p_d_6.length : Nat) : Int) + (1 : Int))) ≠ 0 then
   if (IntKind.wrap .i64 (((p_d_6.length : Nat) : Int) + (1 : Int))) ≠ 0 then
    Option.bind (
     bif (decide ((IntKind.wrap .i64 (y2.2.2.2.2.1 + (IntKind.wrap .i64 (Int.tdiv (IntKind.wrap .i64 (y2.2.2.2.2.2 + y1.2.2.2.2.2.2.1)) (IntKind.wrap .i64 (((p_d_6.length : Nat) : Int) + (1 : Int))))))) > (1114111 : Int))) then
      some true
     else
      Option.bind (m_utf_Right (IntKind.wrap .i32 (IntKind.wrap .i64 (y2.2.2.2.2.1 + (IntKind.wrap .i64 (Int.tdiv (IntKind.wrap .i64 (y2.2.2.2.2.2 + y1.2.2.2.2.2.2.1)) (IntKind.wrap .i64 (((p_d_6.length : Nat) : Int) + (1 : Int))))))))) fun y7 =>
      some (!y7) : Option Bool) fun s3 =>
    m_puny_decoder_next_own_K4 p_d_6 y1 y2 s3
   else none
  else none
noncomputable def m_puny_Decode_L10 (p_s : ByteArray) (s9 : Int × Bool × ByteArray × Int × Int × Int × (List Int)) : Option (Stp (Int × Bool × ByteArray × Int × Int × Int × (List Int)) (Sum (Int × Bool × ByteArray × Int × Int × Int × (List Int)) ((List Int) × Er))) :=
 bif (decide (s9.2.2.2.1 < ((p_s.size : Nat) : Int))) then
  Option.bind (m_puny_decoder_next_own s9.1 s9.2.1 s9.2.2.1 s9.2.2.2.1 s9.2.2.2.2.1 s9.2.2.2.2.2.1 s9.2.2.2.2.2.2) fun y12 =>
  bif (!y12.2.2.2.2.2.2.2.isNil) then
   some (.done (.inr ([], y12.2.2.2.2.2.2.2)))
  else
   some (.next (y12.1, y12.2.1, y12.2.2.1, y12.2.2.2.1, y12.2.2.2.2.1, y12.2.2.2.2.2.1, y12.2.2.2.2.2.2.1))
 else
  some (.done (.inl (s9.1, s9.2.1, s9.2.2.1, s9.2.2.2.1, s9.2.2.2.2.1, s9.2.2.2.2.2.1, s9.2.2.2.2.2.2)))
noncomputable def m_puny_Decode_K5 (p_s : ByteArray) (s4 : Int × (List Int)) : Option ((List Int) × Er) :=
 Option.bind (
  iter (m_puny_Decode_L10 p_s) ((72 : Int), false, p_s, s4.1, (128 : Int), (0 : Int), s4.2) : Option (Sum (Int × Bool × ByteArray × Int × Int × Int × (List Int)) ((List Int) × Er))) fun z =>
 match z with
 | .inl s6 =>
  some (s6.2.2.2.2.2.2, Er.nil)
 | .inr (v15) =>
  some (v15.1, v15.2)
noncomputable def m_puny_Decode_K3 (p_s : ByteArray) (s2 : Unit) : Option ((List Int) × Er) :=
 Option.bind (
  Option.bind (m_strings_LastIndexByte p_s (45 : Int)) fun y16 =>
  bif (decide (y16 > (0 : Int))) then
   if 0 ≤ (0 : Int) ∧ (0 : Int) ≤ y16 ∧ y16 ≤ ((p_s.size : Nat) : Int) then
    if (p_s.extract 0 (y16.toNat)).size ≤ 70368744177664 then
     some ((IntKind.wrap .i64 (y16 + (1 : Int))), (runesL (p_s.extract 0 (y16.toNat))))
    else none
   else none
  else
   some ((0 : Int), []) : Option (Int × (List Int))) fun s4 =>
 m_puny_Decode_K5 p_s s4
noncomputable def m_puny_Decode_L19 (p_s : ByteArray) (s18 : Int) : Option (Stp Int (Sum Unit ((List Int) × Er))) :=
 bif (decide (s18 < ((p_s.size : Nat) : Int))) then
  if 0 ≤ s18 ∧ s18 < ((p_s.size : Nat) : Int) then
   bif (decide ((bt p_s s18) ≥ (128 : Int))) then
    Option.bind (m_puny_fault s18 (Er.sent 5)) fun y21 =>
    some (.done (.inr ([], y21)))
   else
    some (.next (IntKind.wrap .i64 (s18 + (1 : Int))))
  else none
 else
  some (.done (.inl ()))
noncomputable def m_puny_Decode (p_s : ByteArray) : Option ((List Int) × Er) :=
 bif (decide (((p_s.size : Nat) : Int) > (120 : Int))) then
  Option.bind (m_puny_fault (0 : Int) (Er.sent 4)) fun y1 =>
  some ([], y1)
 else
  Option.bind (
   iter (m_puny_Decode_L19 p_s) (0 : Int) : Option (Sum Unit ((List Int) × Er))) fun z =>
  match z with
  | .inl s2 =>
   m_puny_Decode_K3 p_s s2
  | .inr (v24) =>
   some (v24.1, v24.2)
noncomputable def m_eponymlaw01_Named (p_code : Int) : Option Er :=
 bif (p_code == (1 : Int)) then
  some (Er.sent 5)
 else
  bif (p_code == (2 : Int)) then
   some (Er.sent 9)
  else
   bif (p_code == (3 : Int)) then
    some (Er.sent 4)
   else
    bif (p_code == (4 : Int)) then
     some (Er.sent 3)
    else
     bif (p_code == (5 : Int)) then
      some (Er.sent 0)
     else
      bif (p_code == (6 : Int)) then
       some (Er.sent 7)
      else
       bif (p_code == (7 : Int)) then
        some (Er.sent 2)
       else
        bif (p_code == (8 : Int)) then
         some (Er.sent 10)
        else
         bif (p_code == (9 : Int)) then
          some (Er.sent 11)
         else
          bif (p_code == (10 : Int)) then
           some (Er.sent 12)
          else
           bif (p_code == (11 : Int)) then
            some (Er.sent 13)
           else
            bif (p_code == (12 : Int)) then
             some (Er.sent 14)
            else
             bif (p_code == (13 : Int)) then
              some (Er.sent 15)
             else
              bif (p_code == (14 : Int)) then
               some (Er.sent 16)
              else
               bif (p_code == (15 : Int)) then
                some (Er.sent 17)
               else
                bif (p_code == (16 : Int)) then
                 some (Er.sent 6)
                else
                 bif (p_code == (17 : Int)) then
                  some (Er.sent 18)
                 else
                  bif (p_code == (18 : Int)) then
                   some (Er.sent 1)
                  else
                   some Er.nil
noncomputable def m_eponymlaw01_Is (p_e : Er) (p_at : Int) (p_code : Int) : Option Bool :=
 bif (p_code == (0 : Int)) then
  some p_e.isNil
 else
  bif (!p_e.isNil) then
   bif p_e.isNil then
    some false
   else
    Option.bind (m_errors_As p_e) fun y1 =>
    bif (y1.1 == p_at) then
     Option.bind (m_eponymlaw01_Named p_code) fun y2 =>
     Option.bind (m_errors_Is p_e y2) fun y3 =>
     some y3
    else
     some false
  else
   some false
noncomputable def m_eponymlaw06_awake  : Option Bool :=
 Option.bind (m_puny_Encode [(98 : Int), (252 : Int), (99 : Int), (104 : Int), (101 : Int), (114 : Int)]) fun y1 =>
 Option.bind (m_puny_Decode (ByteArray.mk #[107, 118])) fun y2 =>
 bif y1.2.isNil then
  bif (y1.1.toList == (ByteArray.mk #[98, 99, 104, 101, 114, 45, 107, 118, 97]).toList) then
   Option.bind (m_eponymlaw01_Is y2.2 (2 : Int) (2 : Int)) fun y3 =>
   some y3
  else
   some false
 else
  some false
noncomputable def m_eponymref06_Lower_K10 (p_s : ByteArray) (s6 : ByteArray × Int) (s9 : Bool) : Option (Stp (ByteArray × Int) ByteArray) :=
 bif s9 then
  if s6.1.size + (strOfNums [(IntKind.wrap .u8 ((bt p_s s6.2) + (32 : Int)))]).size ≤ 9223372036854775807 then
   some (.next ((s6.1 ++ (strOfNums [(IntKind.wrap .u8 ((bt p_s s6.2) + (32 : Int)))])), (IntKind.wrap .i64 (s6.2 + (1 : Int)))))
  else none
 else
  if s6.1.size + (strOfNums [(bt p_s s6.2)]).size ≤ 9223372036854775807 then
   some (.next ((s6.1 ++ (strOfNums [(bt p_s s6.2)])), (IntKind.wrap .i64 (s6.2 + (1 : Int)))))
  else none
noncomputable def m_eponymref06_Lower_L7 (p_s : ByteArray) (s6 : ByteArray × Int) : Option (Stp (ByteArray × Int) ByteArray) :=
 bif (decide (s6.2 < ((p_s.size : Nat) : Int))) then
  if 0 ≤ s6.2 ∧ s6.2 < ((p_s.size : Nat) : Int) then
   Option.bind (
    bif (decide ((bt p_s s6.2) ≥ (65 : Int))) then
     some (decide ((bt p_s s6.2) ≤ (90 : Int)))
    else
     some false : Option Bool) fun s9 =>
   m_eponymref06_Lower_K10 p_s s6 s9
  else none
 else
  some (.done s6.1)
noncomputable def m_eponymref06_Lower_K2 (p_s : ByteArray) (s1 : Int) : Option ByteArray :=
 if 0 ≤ (0 : Int) ∧ (0 : Int) ≤ s1 ∧ s1 ≤ ((p_s.size : Nat) : Int) then
  Option.bind (
   iter (m_eponymref06_Lower_L7 p_s) ((p_s.extract 0 (s1.toNat)), s1) : Option ByteArray) fun s3 =>
  some s3
 else none
noncomputable def m_eponymref06_Lower_L14 (p_s : ByteArray) (s13 : Int × Int) : Option (Stp (Int × Int) Int) :=
 bif (decide (s13.2 < ((p_s.size : Nat) : Int))) then
  if 0 ≤ s13.2 ∧ s13.2 < ((p_s.size : Nat) : Int) then
   bif ((bt p_s s13.2) == (45 : Int)) then
    some (.next ((IntKind.wrap .i64 (s13.2 + (1 : Int))), (IntKind.wrap .i64 (s13.2 + (1 : Int)))))
   else
    some (.next (s13.1, (IntKind.wrap .i64 (s13.2 + (1 : Int)))))
  else none
 else
  some (.done s13.1)
noncomputable def m_eponymref06_Lower (p_s : ByteArray) : Option ByteArray :=
 Option.bind (
  iter (m_eponymref06_Lower_L14 p_s) ((0 : Int), (1 : Int)) : Option Int) fun s1 =>
 m_eponymref06_Lower_K2 p_s s1
noncomputable def m_eponymlaw06_PunyThere (p_s : ByteArray) : Option Bool :=
 Option.bind (m_eponymlaw06_awake) fun y1 =>
 bif (!y1) then
  some false
 else
  bif (decide (((p_s.size : Nat) : Int) > (120 : Int))) then
   some true
  else
   Option.bind (m_puny_Decode p_s) fun y2 =>
   bif (!y2.2.isNil) then
    some (((y2.1.length : Nat) : Int) == (0 : Int))
   else
    Option.bind (m_puny_Encode y2.1) fun y3 =>
    bif y3.2.isNil then
     Option.bind (m_eponymref06_Lower p_s) fun y4 =>
     some (y3.1.toList == y4.toList)
    else
     some false
noncomputable def m_eponymref06_value_K6 (p_b : Int) (s5 : Bool) : Option Int :=
 bif s5 then
  some (IntKind.wrap .i64 ((IntKind.wrap .i64 p_b) - (22 : Int)))
 else
  some (-1 : Int)
noncomputable def m_eponymref06_value_K4 (p_b : Int) (s3 : Bool) : Option Int :=
 bif s3 then
  some (IntKind.wrap .i64 ((IntKind.wrap .i64 p_b) - (65 : Int)))
 else
  Option.bind (
   bif (decide (p_b ≥ (48 : Int))) then
    some (decide (p_b ≤ (57 : Int)))
   else
    some false : Option Bool) fun s5 =>
  m_eponymref06_value_K6 p_b s5
noncomputable def m_eponymref06_value_K2 (p_b : Int) (s1 : Bool) : Option Int :=
 bif s1 then
  some (IntKind.wrap .i64 ((IntKind.wrap .i64 p_b) - (97 : Int)))
 else
  Option.bind (
   bif (decide (p_b ≥ (65 : Int))) then
    some (decide (p_b ≤ (90 : Int)))
   else
    some false : Option Bool) fun s3 =>
  m_eponymref06_value_K4 p_b s3
noncomputable def m_eponymref06_value (p_b : Int) : Option Int :=
 Option.bind (
  bif (decide (p_b ≥ (97 : Int))) then
   some (decide (p_b ≤ (122 : Int)))
  else
   some false : Option Bool) fun s1 =>
 m_eponymref06_value_K2 p_b s1
noncomputable def m_eponymref06_within (p_n : Int) (p_low : Int) (p_high : Int) : Option Int :=
 bif (decide (p_n < p_low)) then
  some p_low
 else
  bif (decide (p_n > p_high)) then
   some p_high
  else
   some p_n
noncomputable def m_eponymref06_bound (p_k : Int) (p_bias : Int) : Option Int :=
 Option.bind (m_eponymref06_within (IntKind.wrap .i64 ((IntKind.wrap .i64 ((36 : Int) * (IntKind.wrap .i64 (p_k + (1 : Int))))) - p_bias)) (1 : Int) (26 : Int)) fun y1 =>
 some y1
noncomputable def m_eponymref01_Right (p_r : Int) : Option Bool :=
 bif (decide (p_r ≥ (0 : Int))) then
  bif (decide (p_r ≤ (1114111 : Int))) then
   bif (decide (p_r ≥ (55296 : Int))) then
    some (!(decide (p_r ≤ (57343 : Int))))
   else
    some true
  else
   some false
 else
  some false
noncomputable def m_eponymref06_Bias_K6  (s5 : Int × Int) : Option Int :=
 if (IntKind.wrap .i64 (s5.1 + (38 : Int))) ≠ 0 then
  some (IntKind.wrap .i64 (s5.2 + (IntKind.wrap .i64 (Int.tdiv (IntKind.wrap .i64 ((36 : Int) * s5.1)) (IntKind.wrap .i64 (s5.1 + (38 : Int)))))))
 else none
noncomputable def m_eponymref06_Bias_L9  (s8 : Int × Int) : Option (Stp (Int × Int) (Int × Int)) :=
 bif (decide (s8.1 > (455 : Int))) then
  some (.next ((IntKind.wrap .i64 (Int.tdiv s8.1 (35 : Int))), (IntKind.wrap .i64 (s8.2 + (36 : Int)))))
 else
  some (.done (s8.1, s8.2))
noncomputable def m_eponymref06_Bias_K4 (y1 : Int) (y2 : Int) (s3 : Int) : Option Int :=
 if s3 ≠ 0 then
  if y2 ≠ 0 then
   Option.bind (
    iter (m_eponymref06_Bias_L9) ((IntKind.wrap .i64 ((IntKind.wrap .i64 (Int.tdiv y1 s3)) + (IntKind.wrap .i64 (Int.tdiv (IntKind.wrap .i64 (Int.tdiv y1 s3)) y2)))), (0 : Int)) : Option (Int × Int)) fun s5 =>
   m_eponymref06_Bias_K6 s5
  else none
 else none
noncomputable def m_eponymref06_Bias (p_d : Int) (p_many : Int) (p_first : Bool) : Option Int :=
 Option.bind (m_eponymref06_within p_d (0 : Int) (2147483647 : Int)) fun y1 =>
 Option.bind (m_eponymref06_within p_many (1 : Int) (2147483647 : Int)) fun y2 =>
 Option.bind (
  bif p_first then
   some (700 : Int)
  else
   some (2 : Int) : Option Int) fun s3 =>
 m_eponymref06_Bias_K4 y1 y2 s3
noncomputable def m_eponymref06_Decode_K6 (p_s : ByteArray) (s5 : (List Int) × Int) : Option ((List Int) × Int × Int) :=
 bif (decide (s5.2 > (0 : Int))) then
  some ([], ((p_s.size : Nat) : Int), (2 : Int))
 else
  some (s5.1, (0 : Int), (0 : Int))
noncomputable def m_eponymref06_Decode_K14 (s8 : (List Int) × Int × Bool × Int × Int × Int × Int × Int × Int) (y11 : Int) (s13 : Bool) : Option (Stp ((List Int) × Int × Bool × Int × Int × Int × Int × Int × Int) (Sum ((List Int) × Int) ((List Int) × Int × Int))) :=
 bif s13 then
  some (.done (.inr ([], s8.2.2.2.2.2.2.2.2, (4 : Int))))
 else
  if 0 ≤ (Int.tmod (IntKind.wrap .i64 (s8.2.2.2.2.1 + (IntKind.wrap .i64 (s8.2.2.2.2.2.1 + (IntKind.wrap .i64 (y11 * s8.2.2.2.2.2.2.1)))))) (IntKind.wrap .i64 (((s8.1.length : Nat) : Int) + (1 : Int)))) ∧ (Int.tmod (IntKind.wrap .i64 (s8.2.2.2.2.1 + (IntKind.wrap .i64 (s8.2.2.2.2.2.1 + (IntKind.wrap .i64 (y11 * s8.2.2.2.2.2.2.1)))))) (IntKind.wrap .i64 (((s8.1.length : Nat) : Int) + (1 : Int)))) ≤ ((s8.1.length : Nat) : Int) then
   if ((Int.tmod (IntKind.wrap .i64 (s8.2.2.2.2.1 + (IntKind.wrap .i64 (s8.2.2.2.2.2.1 + (IntKind.wrap .i64 (y11 * s8.2.2.2.2.2.2.1)))))) (IntKind.wrap .i64 (((s8.1.length : Nat) : Int) + (1 : Int)))).toNat) * 4 ≤ 140737488355328 then
    if (((Int.tmod (IntKind.wrap .i64 (s8.2.2.2.2.1 + (IntKind.wrap .i64 (s8.2.2.2.2.2.1 + (IntKind.wrap .i64 (y11 * s8.2.2.2.2.2.2.1)))))) (IntKind.wrap .i64 (((s8.1.length : Nat) : Int) + (1 : Int)))).toNat) + 1) * 4 ≤ 140737488355328 then
     if 0 ≤ (Int.tmod (IntKind.wrap .i64 (s8.2.2.2.2.1 + (IntKind.wrap .i64 (s8.2.2.2.2.2.1 + (IntKind.wrap .i64 (y11 * s8.2.2.2.2.2.2.1)))))) (IntKind.wrap .i64 (((s8.1.length : Nat) : Int) + (1 : Int)))) ∧ (Int.tmod (IntKind.wrap .i64 (s8.2.2.2.2.1 + (IntKind.wrap .i64 (s8.2.2.2.2.2.1 + (IntKind.wrap .i64 (y11 * s8.2.2.2.2.2.2.1)))))) (IntKind.wrap .i64 (((s8.1.length : Nat) : Int) + (1 : Int)))) ≤ ((s8.1.length : Nat) : Int) ∧ ((s8.1.length : Nat) : Int) ≤ ((s8.1.length : Nat) : Int) then
      if ((((Int.tmod (IntKind.wrap .i64 (s8.2.2.2.2.1 + (IntKind.wrap .i64 (s8.2.2.2.2.2.1 + (IntKind.wrap .i64 (y11 * s8.2.2.2.2.2.2.1)))))) (IntKind.wrap .i64 (((s8.1.length : Nat) : Int) + (1 : Int)))).toNat) + 1) + (s8.1.length - ((Int.tmod (IntKind.wrap .i64 (s8.2.2.2.2.1 + (IntKind.wrap .i64 (s8.2.2.2.2.2.1 + (IntKind.wrap .i64 (y11 * s8.2.2.2.2.2.2.1)))))) (IntKind.wrap .i64 (((s8.1.length : Nat) : Int) + (1 : Int)))).toNat))) * 4 ≤ 140737488355328 then
       Option.bind (m_eponymref06_Bias (IntKind.wrap .i64 (s8.2.2.2.2.2.1 + (IntKind.wrap .i64 (y11 * s8.2.2.2.2.2.2.1)))) (IntKind.wrap .i64 (((s8.1.length : Nat) : Int) + (1 : Int))) s8.2.2.1) fun y15 =>
       some (.next ((((s8.1.take ((Int.tmod (IntKind.wrap .i64 (s8.2.2.2.2.1 + (IntKind.wrap .i64 (s8.2.2.2.2.2.1 + (IntKind.wrap .i64 (y11 * s8.2.2.2.2.2.2.1)))))) (IntKind.wrap .i64 (((s8.1.length : Nat) : Int) + (1 : Int)))).toNat)) ++ [(IntKind.wrap .i32 (IntKind.wrap .i64 (s8.2.2.2.1 + (IntKind.wrap .i64 (Int.tdiv (IntKind.wrap .i64 (s8.2.2.2.2.1 + (IntKind.wrap .i64 (s8.2.2.2.2.2.1 + (IntKind.wrap .i64 (y11 * s8.2.2.2.2.2.2.1)))))) (IntKind.wrap .i64 (((s8.1.length : Nat) : Int) + (1 : Int))))))))]) ++ ((s8.1.drop ((Int.tmod (IntKind.wrap .i64 (s8.2.2.2.2.1 + (IntKind.wrap .i64 (s8.2.2.2.2.2.1 + (IntKind.wrap .i64 (y11 * s8.2.2.2.2.2.2.1)))))) (IntKind.wrap .i64 (((s8.1.length : Nat) : Int) + (1 : Int)))).toNat)).take (s8.1.length - ((Int.tmod (IntKind.wrap .i64 (s8.2.2.2.2.1 + (IntKind.wrap .i64 (s8.2.2.2.2.2.1 + (IntKind.wrap .i64 (y11 * s8.2.2.2.2.2.2.1)))))) (IntKind.wrap .i64 (((s8.1.length : Nat) : Int) + (1 : Int)))).toNat)))), y15, false, (IntKind.wrap .i64 (s8.2.2.2.1 + (IntKind.wrap .i64 (Int.tdiv (IntKind.wrap .i64 (s8.2.2.2.2.1 + (IntKind.wrap .i64 (s8.2.2.2.2.2.1 + (IntKind.wrap .i64 (y11 * s8.2.2.2.2.2.2.1)))))) (IntKind.wrap .i64 (((s8.1.length : Nat) : Int) + (1 : Int))))))), (IntKind.wrap .i64 ((Int.tmod (IntKind.wrap .i64 (s8.2.2.2.2.1 + (IntKind.wrap .i64 (s8.2.2.2.2.2.1 + (IntKind.wrap .i64 (y11 * s8.2.2.2.2.2.2.1)))))) (IntKind.wrap .i64 (((s8.1.length : Nat) : Int) + (1 : Int)))) + (1 : Int))), (0 : Int), (1 : Int), (0 : Int), (IntKind.wrap .i64 (s8.2.2.2.2.2.2.2.2 + (1 : Int)))))
      else none
     else none
    else none
   else none
  else none
noncomputable def m_eponymref06_Decode_L9 (p_s : ByteArray) (s8 : (List Int) × Int × Bool × Int × Int × Int × Int × Int × Int) : Option (Stp ((List Int) × Int × Bool × Int × Int × Int × Int × Int × Int) (Sum ((List Int) × Int) ((List Int) × Int × Int))) :=
 bif (decide (s8.2.2.2.2.2.2.2.2 < ((p_s.size : Nat) : Int))) then
  if 0 ≤ s8.2.2.2.2.2.2.2.2 ∧ s8.2.2.2.2.2.2.2.2 < ((p_s.size : Nat) : Int) then
   Option.bind (m_eponymref06_value (bt p_s s8.2.2.2.2.2.2.2.2)) fun y11 =>
   bif (decide (y11 < (0 : Int))) then
    some (.done (.inr ([], s8.2.2.2.2.2.2.2.2, (15 : Int))))
   else
    bif (decide ((IntKind.wrap .i64 (s8.2.2.2.2.2.1 + (IntKind.wrap .i64 (y11 * s8.2.2.2.2.2.2.1)))) > (2147483647 : Int))) then
     some (.done (.inr ([], s8.2.2.2.2.2.2.2.2, (3 : Int))))
    else
     Option.bind (m_eponymref06_bound s8.2.2.2.2.2.2.2.1 s8.2.1) fun y12 =>
     bif (decide (y11 ≥ y12)) then
      some (.next (s8.1, s8.2.1, s8.2.2.1, s8.2.2.2.1, s8.2.2.2.2.1, (IntKind.wrap .i64 (s8.2.2.2.2.2.1 + (IntKind.wrap .i64 (y11 * s8.2.2.2.2.2.2.1)))), (IntKind.wrap .i64 (s8.2.2.2.2.2.2.1 * (IntKind.wrap .i64 ((36 : Int) - y12)))), (IntKind.wrap .i64 (s8.2.2.2.2.2.2.2.1 + (1 : Int))), (IntKind.wrap .i64 (s8.2.2.2.2.2.2.2.2 + (1 : Int)))))
     else
      if (IntKind.wrap .i64 (((s8.1.length : Nat) : Int) + (1 : Int))) ≠ 0 then
       if (IntKind.wrap .i64 (((s8.1.length : Nat) : Int) + (1 : Int))) ≠ 0 then
        Option.bind (
         bif (decide ((IntKind.wrap .i64 (s8.2.2.2.1 + (IntKind.wrap .i64 (Int.tdiv (IntKind.wrap .i64 (s8.2.2.2.2.1 + (IntKind.wrap .i64 (s8.2.2.2.2.2.1 + (IntKind.wrap .i64 (y11 * s8.2.2.2.2.2.2.1)))))) (IntKind.wrap .i64 (((s8.1.length : Nat) : Int) + (1 : Int))))))) > (1114111 : Int))) then
          some true
         else
          Option.bind (m_eponymref01_Right (IntKind.wrap .i32 (IntKind.wrap .i64 (s8.2.2.2.1 + (IntKind.wrap .i64 (Int.tdiv (IntKind.wrap .i64 (s8.2.2.2.2.1 + (IntKind.wrap .i64 (s8.2.2.2.2.2.1 + (IntKind.wrap .i64 (y11 * s8.2.2.2.2.2.2.1)))))) (IntKind.wrap .i64 (((s8.1.length : Nat) : Int) + (1 : Int))))))))) fun y16 =>
          some (!y16) : Option Bool) fun s13 =>
        m_eponymref06_Decode_K14 s8 y11 s13
       else none
      else none
  else none
 else
  some (.done (.inl (s8.1, s8.2.2.2.2.2.2.2.1)))
noncomputable def m_eponymref06_Decode_K4 (p_s : ByteArray) (s1 : Int) (s3 : (List Int)) : Option ((List Int) × Int × Int) :=
 Option.bind (
  iter (m_eponymref06_Decode_L9 p_s) (s3, (72 : Int), true, (128 : Int), (0 : Int), (0 : Int), (1 : Int), (0 : Int), s1) : Option (Sum ((List Int) × Int) ((List Int) × Int × Int))) fun z =>
 match z with
 | .inl s5 =>
  m_eponymref06_Decode_K6 p_s s5
 | .inr (v19) =>
  some (v19.1, v19.2.1, v19.2.2)
noncomputable def m_eponymref06_Decode_L22 (p_s : ByteArray) (s1 : Int) (s21 : (List Int) × Int) : Option (Stp ((List Int) × Int) (List Int)) :=
 bif (decide ((IntKind.wrap .i64 (s21.2 + (1 : Int))) < s1)) then
  if 0 ≤ s21.2 ∧ s21.2 < ((p_s.size : Nat) : Int) then
   if (s21.1.length + 1) * 4 ≤ 140737488355328 then
    some (.next ((s21.1 ++ [(IntKind.wrap .i32 (bt p_s s21.2))]), (IntKind.wrap .i64 (s21.2 + (1 : Int)))))
   else none
  else none
 else
  some (.done s21.1)
noncomputable def m_eponymref06_Decode_K2 (p_s : ByteArray) (s1 : Int) : Option ((List Int) × Int × Int) :=
 Option.bind (
  iter (m_eponymref06_Decode_L22 p_s s1) ([], (0 : Int)) : Option (List Int)) fun s3 =>
 m_eponymref06_Decode_K4 p_s s1 s3
noncomputable def m_eponymref06_Decode_K30 (s26 : Int × Int) (s29 : Bool) : Option (Stp (Int × Int) (Sum Int ((List Int) × Int × Int))) :=
 bif s29 then
  some (.next ((IntKind.wrap .i64 (s26.2 + (1 : Int))), (IntKind.wrap .i64 (s26.2 + (1 : Int)))))
 else
  some (.next (s26.1, (IntKind.wrap .i64 (s26.2 + (1 : Int)))))
noncomputable def m_eponymref06_Decode_L27 (p_s : ByteArray) (s26 : Int × Int) : Option (Stp (Int × Int) (Sum Int ((List Int) × Int × Int))) :=
 bif (decide (s26.2 < ((p_s.size : Nat) : Int))) then
  if 0 ≤ s26.2 ∧ s26.2 < ((p_s.size : Nat) : Int) then
   bif (decide ((bt p_s s26.2) > (127 : Int))) then
    some (.done (.inr ([], s26.2, (1 : Int))))
   else
    Option.bind (
     if 0 ≤ s26.2 ∧ s26.2 < ((p_s.size : Nat) : Int) then
      bif ((bt p_s s26.2) == (45 : Int)) then
       some (decide (s26.2 > (0 : Int)))
      else
       some false
     else none : Option Bool) fun s29 =>
    m_eponymref06_Decode_K30 s26 s29
  else none
 else
  some (.done (.inl s26.1))
noncomputable def m_eponymref06_Decode (p_s : ByteArray) : Option ((List Int) × Int × Int) :=
 bif (decide (((p_s.size : Nat) : Int) > (120 : Int))) then
  some ([], (0 : Int), (3 : Int))
 else
  Option.bind (
   iter (m_eponymref06_Decode_L27 p_s) ((0 : Int), (0 : Int)) : Option (Sum Int ((List Int) × Int × Int))) fun z =>
  match z with
  | .inl s1 =>
   m_eponymref06_Decode_K2 p_s s1
  | .inr (v33) =>
   some (v33.1, v33.2.1, v33.2.2)
noncomputable def m_eponymlaw01_Same_L5 (p_a : (List Int)) (p_b : (List Int)) (s4 : Int) : Option (Stp Int (Sum Unit Bool)) :=
 bif (decide (s4 < ((p_a.length : Nat) : Int))) then
  if 0 ≤ s4 ∧ s4 < ((p_a.length : Nat) : Int) then
   if 0 ≤ s4 ∧ s4 < ((p_b.length : Nat) : Int) then
    bif ((p_a.getD (s4.toNat) 0) != (p_b.getD (s4.toNat) 0)) then
     some (.done (.inr false))
    else
     some (.next (IntKind.wrap .i64 (s4 + (1 : Int))))
   else none
  else none
 else
  some (.done (.inl ()))
noncomputable def m_eponymlaw01_Same (p_a : (List Int)) (p_b : (List Int)) : Option Bool :=
 bif (((p_a.length : Nat) : Int) != ((p_b.length : Nat) : Int)) then
  some false
 else
  Option.bind (
   iter (m_eponymlaw01_Same_L5 p_a p_b) (0 : Int) : Option (Sum Unit Bool)) fun z =>
  match z with
  | .inl s1 =>
   some true
  | .inr (v9) =>
   some v9
noncomputable def m_eponymlaw06_PunyDecodes (p_s : ByteArray) : Option Bool :=
 Option.bind (m_eponymlaw06_awake) fun y1 =>
 bif (!y1) then
  some false
 else
  bif (decide (((p_s.size : Nat) : Int) > (130 : Int))) then
   some true
  else
   Option.bind (m_puny_Decode p_s) fun y2 =>
   Option.bind (m_eponymref06_Decode p_s) fun y3 =>
   Option.bind (m_eponymlaw01_Same y2.1 y3.1) fun y4 =>
   bif y4 then
    Option.bind (m_eponymlaw01_Is y2.2 y3.2.1 y3.2.2) fun y5 =>
    some y5
   else
    some false
noncomputable def m_eponymref06_sign (p_n : Int) : Option ByteArray :=
 bif (decide (p_n < (26 : Int))) then
  some (strOfNums [(IntKind.wrap .u8 (IntKind.wrap .i64 ((97 : Int) + p_n)))])
 else
  some (strOfNums [(IntKind.wrap .u8 (IntKind.wrap .i64 ((IntKind.wrap .i64 ((48 : Int) + p_n)) - (26 : Int))))])
noncomputable def m_eponymref06_Digits_L5 (y2 : Int) (s4 : Int × ByteArray × Int) : Option (Stp (Int × ByteArray × Int) ByteArray) :=
 Option.bind (m_eponymref06_bound s4.2.2 y2) fun y7 =>
 bif (decide (s4.1 < y7)) then
  Option.bind (m_eponymref06_sign s4.1) fun y8 =>
  if s4.2.1.size + y8.size ≤ 9223372036854775807 then
   some (.done (s4.2.1 ++ y8))
  else none
 else
  if (IntKind.wrap .i64 ((36 : Int) - y7)) ≠ 0 then
   Option.bind (m_eponymref06_sign (IntKind.wrap .i64 (y7 + (Int.tmod (IntKind.wrap .i64 (s4.1 - y7)) (IntKind.wrap .i64 ((36 : Int) - y7)))))) fun y9 =>
   if s4.2.1.size + y9.size ≤ 9223372036854775807 then
    if (IntKind.wrap .i64 ((36 : Int) - y7)) ≠ 0 then
     some (.next ((IntKind.wrap .i64 (Int.tdiv (IntKind.wrap .i64 (s4.1 - y7)) (IntKind.wrap .i64 ((36 : Int) - y7)))), (s4.2.1 ++ y9), (IntKind.wrap .i64 (s4.2.2 + (1 : Int)))))
    else none
   else none
  else none
noncomputable def m_eponymref06_Digits (p_d : Int) (p_bias : Int) : Option ByteArray :=
 Option.bind (m_eponymref06_within p_d (0 : Int) (2147483647 : Int)) fun y1 =>
 Option.bind (m_eponymref06_within p_bias (0 : Int) (1000 : Int)) fun y2 =>
 Option.bind (iter (m_eponymref06_Digits_L5 y2) (y1, (ByteArray.mk #[]), (0 : Int))) fun v10 =>
 some v10
end Go.Proofs.YtclhniadffljdaaDoor
