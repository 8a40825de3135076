/- Models of functions, printed by a program of ours. No condition. -/
import Derived.Test.YtclhniadffljdaaDoorL
namespace Go.Proofs.YtclhniadffljdaaDoor
open Go Go.SE
set_option linter.unusedVariables false
set_option linter.unusedSimpArgs false
structure T_api_Family where
 f_Name : ByteArray
 f_Sets : (List (List Int))
def d_api_Family : T_api_Family := ⟨ByteArray.empty, []⟩
def e_L_i32 (l : (List Int)) : AV := .sl none l.length fun i => (AV.int .i32 (l.getD i 0))
def e_L_L_i32 (l : (List (List Int))) : AV := .sl none l.length fun i => (e_L_i32 (l.getD i []))
def e_api_Family (x : T_api_Family) : AV := .agg [(.str x.f_Name), (e_L_L_i32 x.f_Sets)]
noncomputable def m_cmp_isNaN_rune (p_x : Int) : Option Bool :=
 some (p_x != p_x)
noncomputable def m_cmp_Less_rune (p_x : Int) (p_y : Int) : Option Bool :=
 Option.bind (m_cmp_isNaN_rune p_x) fun y1 =>
 bif y1 then
  Option.bind (m_cmp_isNaN_rune p_y) fun y2 =>
  bif (!y2) then
   some true
  else
   some (decide (p_x < p_y))
 else
  some (decide (p_x < p_y))
noncomputable def m_slices_isNaN_rune (p_x : Int) : Option Bool :=
 some (p_x != p_x)
noncomputable def m_slices_BinarySearch_rune_rune_K2 (p_x : (List Int)) (p_target : Int) (s1 : Int) : Option (Int × Bool) :=
 bif (decide (s1 < ((p_x.length : Nat) : Int))) then
  if 0 ≤ s1 ∧ s1 < ((p_x.length : Nat) : Int) then
   bif ((p_x.getD (s1.toNat) 0) == p_target) then
    some (s1, true)
   else
    if 0 ≤ s1 ∧ s1 < ((p_x.length : Nat) : Int) then
     Option.bind (m_slices_isNaN_rune (p_x.getD (s1.toNat) 0)) fun y3 =>
     bif y3 then
      Option.bind (m_slices_isNaN_rune p_target) fun y4 =>
      some (s1, y4)
     else
      some (s1, false)
    else none
  else none
 else
  some (s1, false)
noncomputable def m_slices_BinarySearch_rune_rune_L7 (p_x : (List Int)) (p_target : Int) (s6 : Int × Int) : Option (Stp (Int × Int) Int) :=
 bif (decide (s6.1 < s6.2)) then
  if 0 ≤ (IntKind.wrap .i64 (Int.fdiv (IntKind.wrap .u64 (IntKind.wrap .i64 (s6.1 + s6.2))) 2)) ∧ (IntKind.wrap .i64 (Int.fdiv (IntKind.wrap .u64 (IntKind.wrap .i64 (s6.1 + s6.2))) 2)) < ((p_x.length : Nat) : Int) then
   Option.bind (m_cmp_Less_rune (p_x.getD ((IntKind.wrap .i64 (Int.fdiv (IntKind.wrap .u64 (IntKind.wrap .i64 (s6.1 + s6.2))) 2)).toNat) 0) p_target) fun y9 =>
   bif y9 then
    some (.next ((IntKind.wrap .i64 ((IntKind.wrap .i64 (Int.fdiv (IntKind.wrap .u64 (IntKind.wrap .i64 (s6.1 + s6.2))) 2)) + (1 : Int))), s6.2))
   else
    some (.next (s6.1, (IntKind.wrap .i64 (Int.fdiv (IntKind.wrap .u64 (IntKind.wrap .i64 (s6.1 + s6.2))) 2))))
  else none
 else
  some (.done s6.1)
noncomputable def m_slices_BinarySearch_rune_rune (p_x : (List Int)) (p_target : Int) : Option (Int × Bool) :=
 Option.bind (
  iter (m_slices_BinarySearch_rune_rune_L7 p_x p_target) ((0 : Int), ((p_x.length : Nat) : Int)) : Option Int) fun s1 =>
 m_slices_BinarySearch_rune_rune_K2 p_x p_target s1
noncomputable def m_variants_find_L5 (p_f : T_api_Family) (p_r : Int) (s4 : Int) : Option (Stp Int (Sum Unit (List Int))) :=
 bif (decide (s4 < ((p_f.f_Sets.length : Nat) : Int))) then
  if 0 ≤ s4 ∧ s4 < ((p_f.f_Sets.length : Nat) : Int) then
   Option.bind (m_slices_BinarySearch_rune_rune (p_f.f_Sets.getD (s4.toNat) []) p_r) fun y7 =>
   bif y7.2 then
    some (.done (.inr (p_f.f_Sets.getD (s4.toNat) [])))
   else
    some (.next (IntKind.wrap .i64 (s4 + (1 : Int))))
  else none
 else
  some (.done (.inl ()))
noncomputable def m_variants_find (p_f : T_api_Family) (p_r : Int) : Option (List Int) :=
 Option.bind (
  iter (m_variants_find_L5 p_f p_r) (0 : Int) : Option (Sum Unit (List Int))) fun z =>
 match z with
 | .inl s1 =>
  some []
 | .inr (v10) =>
  some v10
noncomputable def m_slices_Clone_rune_rune_nil  : Option (List Int) :=
 some []
noncomputable def m_slices_Clone_rune_rune_som (p_s : (List Int)) : Option (List Int) :=
 if (0 + p_s.length) * 4 ≤ 140737488355328 then
  some p_s
 else none
noncomputable def m_slices_Clone_rune_rune (p_s : (List Int)) : Option (List Int) := m_slices_Clone_rune_rune_som p_s
noncomputable def m_variants_Set (p_f : T_api_Family) (p_r : Int) : Option (List Int) :=
 Option.bind (m_variants_find p_f p_r) fun y1 =>
 Option.bind (m_slices_Clone_rune_rune y1) fun y2 =>
 some y2
noncomputable def m_variants_Seq_K8 (p_l : (List Int)) (s4 : (List (List Int)) × Int) (s7 : (List (List Int))) : Option (Stp ((List (List Int)) × Int) (List (List Int))) :=
 if 0 ≤ s4.2 ∧ s4.2 < ((s7.length : Nat) : Int) then
  bif ((((s7.getD (s4.2.toNat) []).length : Nat) : Int) == (0 : Int)) then
   if 0 ≤ s4.2 ∧ s4.2 < ((s7.length : Nat) : Int) then
    some (.next ((s7.set (s4.2.toNat) [(p_l.getD (s4.2.toNat) 0)]), (IntKind.wrap .i64 (s4.2 + (1 : Int)))))
   else none
  else
   some (.next (s7, (IntKind.wrap .i64 (s4.2 + (1 : Int)))))
 else none
noncomputable def m_variants_Seq_L5 (p_f : T_api_Family) (p_l : (List Int)) (s4 : (List (List Int)) × Int) : Option (Stp ((List (List Int)) × Int) (List (List Int))) :=
 bif (decide (s4.2 < ((p_l.length : Nat) : Int))) then
  if 0 ≤ s4.2 ∧ s4.2 < ((p_l.length : Nat) : Int) then
   Option.bind (
    Option.bind (m_variants_Set p_f (p_l.getD (s4.2.toNat) 0)) fun y9 =>
    if 0 ≤ s4.2 ∧ s4.2 < ((s4.1.length : Nat) : Int) then
     some (s4.1.set (s4.2.toNat) y9)
    else none : Option (List (List Int))) fun s7 =>
   m_variants_Seq_K8 p_l s4 s7
  else none
 else
  some (.done s4.1)
noncomputable def m_variants_Seq (p_f : T_api_Family) (p_l : (List Int)) : Option (List (List Int)) :=
 if mkOk 24 ((p_l.length : Nat) : Int) then
  Option.bind (
   iter (m_variants_Seq_L5 p_f p_l) ((List.replicate p_l.length []), (0 : Int)) : Option (List (List Int))) fun s1 =>
  some s1
 else none
noncomputable def m_variants_Seq_1_K6  (s5 : (List Int) × Int) : Option (Stp (List Int) Unit) :=
 bif (decide (s5.2 < (0 : Int))) then
  some (.done ())
 else
  if 0 ≤ s5.2 ∧ s5.2 < ((s5.1.length : Nat) : Int) then
   if 0 ≤ s5.2 ∧ s5.2 < ((s5.1.length : Nat) : Int) then
    some (.next (s5.1.set (s5.2.toNat) (IntKind.wrap .i64 ((s5.1.getD (s5.2.toNat) 0) + (1 : Int)))))
   else none
  else none
noncomputable def m_variants_Seq_1_K12 (s8 : (List Int) × Int) (s11 : Bool) : Option (Stp ((List Int) × Int) ((List Int) × Int)) :=
 bif s11 then
  if 0 ≤ s8.2 ∧ s8.2 < ((s8.1.length : Nat) : Int) then
   some (.next ((s8.1.set (s8.2.toNat) (0 : Int)), (IntKind.wrap .i64 (s8.2 - (1 : Int)))))
  else none
 else
  some (.done (s8.1, s8.2))
noncomputable def m_variants_Seq_1_L9 (p_a0 : (List (List Int))) (s8 : (List Int) × Int) : Option (Stp ((List Int) × Int) ((List Int) × Int)) :=
 Option.bind (
  bif (decide (s8.2 ≥ (0 : Int))) then
   if 0 ≤ s8.2 ∧ s8.2 < ((s8.1.length : Nat) : Int) then
    if 0 ≤ s8.2 ∧ s8.2 < ((p_a0.length : Nat) : Int) then
     some ((s8.1.getD (s8.2.toNat) 0) == (IntKind.wrap .i64 ((((p_a0.getD (s8.2.toNat) []).length : Nat) : Int) - (1 : Int))))
    else none
   else none
  else
   some false : Option Bool) fun s11 =>
 m_variants_Seq_1_K12 s8 s11
noncomputable def m_variants_Seq_1_K4 (p_a0 : (List (List Int))) (s2 : (List Int)) (s3 : (List Int)) : Option (YS (List Int) (List Int)) :=
 some (.yld s3 (
  Option.bind (
   iter (m_variants_Seq_1_L9 p_a0) (s2, (IntKind.wrap .i64 (((s2.length : Nat) : Int) - (1 : Int)))) : Option ((List Int) × Int)) fun s5 =>
  m_variants_Seq_1_K6 s5 : Option (Stp (List Int) Unit)))
noncomputable def m_variants_Seq_1_L16 (p_a0 : (List (List Int))) (s2 : (List Int)) (s15 : (List Int) × Int) : Option (Stp ((List Int) × Int) (List Int)) :=
 bif (decide (s15.2 < ((p_a0.length : Nat) : Int))) then
  if 0 ≤ s15.2 ∧ s15.2 < ((p_a0.length : Nat) : Int) then
   if 0 ≤ s15.2 ∧ s15.2 < ((s2.length : Nat) : Int) then
    if 0 ≤ (s2.getD (s15.2.toNat) 0) ∧ (s2.getD (s15.2.toNat) 0) < (((p_a0.getD (s15.2.toNat) []).length : Nat) : Int) then
     if 0 ≤ s15.2 ∧ s15.2 < ((s15.1.length : Nat) : Int) then
      some (.next ((s15.1.set (s15.2.toNat) ((p_a0.getD (s15.2.toNat) []).getD ((s2.getD (s15.2.toNat) 0).toNat) 0)), (IntKind.wrap .i64 (s15.2 + (1 : Int)))))
     else none
    else none
   else none
  else none
 else
  some (.done s15.1)
noncomputable def m_variants_Seq_1_it (p_a0 : (List (List Int))) (s2 : (List Int)) : Option (YS (List Int) (List Int)) :=
 if mkOk 4 ((p_a0.length : Nat) : Int) then
  Option.bind (
   iter (m_variants_Seq_1_L16 p_a0 s2) ((List.replicate p_a0.length 0), (0 : Int)) : Option (List Int)) fun s3 =>
  m_variants_Seq_1_K4 p_a0 s2 s3
 else none
noncomputable def m_variants_Seq_1 (p_a0 : (List (List Int))) : Option (List Int) :=
 if mkOk 8 ((p_a0.length : Nat) : Int) then
  some (List.replicate p_a0.length 0)
 else none
noncomputable def m_variants_All_L9 (p_most : Int) (v4 : (List Int)) (s6 : (List (List Int))) : Option (Stp (List (List Int)) (List (List Int))) :=
 if (s6.length + 1) * 24 ≤ 140737488355328 then
  bif (decide ((((s6.length + 1) : Nat) : Int) ≥ p_most)) then
   some (.done (s6 ++ [v4]))
  else
   some (.next (s6 ++ [v4]))
 else none
noncomputable def m_variants_All (p_f : T_api_Family) (p_l : (List Int)) (p_most : Int) : Option (List (List Int)) :=
 bif (decide (p_most < (1 : Int))) then
  some []
 else
  Option.bind (
   Option.bind (m_variants_Seq p_f p_l) fun y3 =>
   Option.bind (m_variants_Seq_1 y3) fun w7 =>
   Option.bind (iter (rangeB (m_variants_Seq_1_it y3) (m_variants_All_L9 p_most)) (w7, [])) fun z =>
   match z with
   | .inl s6 =>
    some s6
   | .inr (s10) =>
    some s10 : Option (List (List Int))) fun s1 =>
  some s1
noncomputable def m_eponymlaw01_Same_L5 (p_a : (List Int)) (p_b : (List Int)) (s4 : Int) : Option (Stp Int (Sum Unit Bool)) :=
 bif (decide (s4 < ((p_a.length : Nat) : Int))) then
  if 0 ≤ s4 ∧ s4 < ((p_a.length : Nat) : Int) then
   if 0 ≤ s4 ∧ s4 < ((p_b.length : Nat) : Int) then
    bif ((p_a.getD (s4.toNat) 0) != (p_b.getD (s4.toNat) 0)) then
     some (.done (.inr false))
    else
     some (.next (IntKind.wrap .i64 (s4 + (1 : Int))))
   else none
  else none
 else
  some (.done (.inl ()))
noncomputable def m_eponymlaw01_Same (p_a : (List Int)) (p_b : (List Int)) : Option Bool :=
 bif (((p_a.length : Nat) : Int) != ((p_b.length : Nat) : Int)) then
  some false
 else
  Option.bind (
   iter (m_eponymlaw01_Same_L5 p_a p_b) (0 : Int) : Option (Sum Unit Bool)) fun z =>
  match z with
  | .inl s1 =>
   some true
  | .inr (v9) =>
   some v9
noncomputable def m_variants_Key_L5 (p_f : T_api_Family) (p_l : (List Int)) (s4 : (List Int) × Int) : Option (Stp ((List Int) × Int) (List Int)) :=
 bif (decide (s4.2 < ((p_l.length : Nat) : Int))) then
  if 0 ≤ s4.2 ∧ s4.2 < ((s4.1.length : Nat) : Int) then
   Option.bind (m_variants_find p_f (s4.1.getD (s4.2.toNat) 0)) fun y7 =>
   bif (decide (((y7.length : Nat) : Int) > (0 : Int))) then
    if 0 ≤ (0 : Int) ∧ (0 : Int) < ((y7.length : Nat) : Int) then
     if 0 ≤ s4.2 ∧ s4.2 < ((s4.1.length : Nat) : Int) then
      some (.next ((s4.1.set (s4.2.toNat) (y7.getD 0 0)), (IntKind.wrap .i64 (s4.2 + (1 : Int)))))
     else none
    else none
   else
    some (.next (s4.1, (IntKind.wrap .i64 (s4.2 + (1 : Int)))))
  else none
 else
  some (.done s4.1)
noncomputable def m_variants_Key (p_f : T_api_Family) (p_l : (List Int)) : Option (List Int) :=
 if mkOk 4 ((p_l.length : Nat) : Int) then
  Option.bind (
   iter (m_variants_Key_L5 p_f p_l) (((p_l.take (min p_l.length p_l.length)) ++ ((List.replicate p_l.length 0).drop (min p_l.length p_l.length))), (0 : Int)) : Option (List Int)) fun s1 =>
  some s1
 else none
noncomputable def m_eponymlaw19_awake  : Option Bool :=
 Option.bind (m_variants_All ({ f_Name := (ByteArray.mk #[120]), f_Sets := [[(97 : Int), (224 : Int)]] } : T_api_Family) [(97 : Int), (98 : Int)] (9 : Int)) fun y1 =>
 bif (((y1.length : Nat) : Int) == (2 : Int)) then
  if 0 ≤ (1 : Int) ∧ (1 : Int) < ((y1.length : Nat) : Int) then
   Option.bind (m_eponymlaw01_Same (y1.getD 1 []) [(224 : Int), (98 : Int)]) fun y2 =>
   bif y2 then
    if 0 ≤ (1 : Int) ∧ (1 : Int) < ((y1.length : Nat) : Int) then
     Option.bind (m_variants_Key ({ f_Name := (ByteArray.mk #[120]), f_Sets := [[(97 : Int), (224 : Int)]] } : T_api_Family) (y1.getD 1 [])) fun y3 =>
     if 0 ≤ (0 : Int) ∧ (0 : Int) < ((y1.length : Nat) : Int) then
      Option.bind (m_eponymlaw01_Same y3 (y1.getD 0 [])) fun y4 =>
      some y4
     else none
    else none
   else
    some false
  else none
 else
  some false
noncomputable def m_eponymlaw19_Great_L7 (p_f : T_api_Family) (s6 : Int) : Option (Stp Int (Sum Unit Bool)) :=
 bif (decide (s6 < ((p_f.f_Sets.length : Nat) : Int))) then
  if 0 ≤ s6 ∧ s6 < ((p_f.f_Sets.length : Nat) : Int) then
   bif (decide ((((p_f.f_Sets.getD (s6.toNat) []).length : Nat) : Int) > (20 : Int))) then
    some (.done (.inr true))
   else
    some (.next (IntKind.wrap .i64 (s6 + (1 : Int))))
  else none
 else
  some (.done (.inl ()))
noncomputable def m_eponymlaw19_Great_K2 (p_f : T_api_Family) (s1 : Bool) : Option Bool :=
 bif s1 then
  some true
 else
  Option.bind (
   iter (m_eponymlaw19_Great_L7 p_f) (0 : Int) : Option (Sum Unit Bool)) fun z =>
  match z with
  | .inl s3 =>
   some false
  | .inr (v11) =>
   some v11
noncomputable def m_eponymlaw19_Great (p_f : T_api_Family) : Option Bool :=
 Option.bind (
  bif (decide (((p_f.f_Sets.length : Nat) : Int) > (20 : Int))) then
   some true
  else
   some (decide (((p_f.f_Name.size : Nat) : Int) > (100 : Int))) : Option Bool) fun s1 =>
 m_eponymlaw19_Great_K2 p_f s1
noncomputable def m_utf_fault (p_at : Int) (p_e : Er) : Option Er :=
 some (Er.box 62 p_at p_e)
noncomputable def m_utf_first_K2 (p_b : Int) (s1 : Int) : Option (Int × Int × Int × Int) :=
 bif (p_b == (224 : Int)) then
  if 0 ≤ s1 then
   some (s1, (IntKind.wrap .i32 (iand .u8 p_b (Int.fdiv (63 : Int) (2 ^ (min (s1).toNat (IntKind.bits .u8)))))), (160 : Int), (191 : Int))
  else none
 else
  bif (p_b == (237 : Int)) then
   if 0 ≤ s1 then
    some (s1, (IntKind.wrap .i32 (iand .u8 p_b (Int.fdiv (63 : Int) (2 ^ (min (s1).toNat (IntKind.bits .u8)))))), (128 : Int), (159 : Int))
   else none
  else
   bif (p_b == (240 : Int)) then
    if 0 ≤ s1 then
     some (s1, (IntKind.wrap .i32 (iand .u8 p_b (Int.fdiv (63 : Int) (2 ^ (min (s1).toNat (IntKind.bits .u8)))))), (144 : Int), (191 : Int))
    else none
   else
    bif (p_b == (244 : Int)) then
     if 0 ≤ s1 then
      some (s1, (IntKind.wrap .i32 (iand .u8 p_b (Int.fdiv (63 : Int) (2 ^ (min (s1).toNat (IntKind.bits .u8)))))), (128 : Int), (143 : Int))
     else none
    else
     if 0 ≤ s1 then
      some (s1, (IntKind.wrap .i32 (iand .u8 p_b (Int.fdiv (63 : Int) (2 ^ (min (s1).toNat (IntKind.bits .u8)))))), (128 : Int), (191 : Int))
     else none
noncomputable def m_utf_first (p_b : Int) : Option (Int × Int × Int × Int) :=
 Option.bind (
  bif (decide (p_b ≥ (245 : Int))) then
   some (.inr ((-1 : Int), (0 : Int), (128 : Int), (191 : Int)))
  else
   bif (decide (p_b ≥ (240 : Int))) then
    some (.inl (IntKind.wrap .i64 ((IntKind.wrap .i64 ((IntKind.wrap .i64 ((0 : Int) + (1 : Int))) + (1 : Int))) + (1 : Int))))
   else
    bif (decide (p_b ≥ (224 : Int))) then
     some (.inl (IntKind.wrap .i64 ((IntKind.wrap .i64 ((0 : Int) + (1 : Int))) + (1 : Int))))
    else
     bif (decide (p_b ≥ (194 : Int))) then
      some (.inl (IntKind.wrap .i64 ((0 : Int) + (1 : Int))))
     else
      bif (decide (p_b ≥ (128 : Int))) then
       some (.inr ((-1 : Int), (0 : Int), (128 : Int), (191 : Int)))
      else
       some (.inr ((0 : Int), (IntKind.wrap .i32 p_b), (128 : Int), (191 : Int))) : Option (Sum Int (Int × Int × Int × Int))) fun z =>
 match z with
 | .inl s1 =>
  m_utf_first_K2 p_b s1
 | .inr (v3) =>
  some (v3.1, v3.2.1, v3.2.2.1, v3.2.2.2)
noncomputable def m_utf_Next_K14 (p_s : ByteArray) (p_at : Int) (s9 : Int × Int × Int × Int) (s13 : Bool) : Option (Stp (Int × Int × Int × Int) (Sum Int (Int × Int × Er))) :=
 bif s13 then
  Option.bind (m_utf_fault p_at (Er.sent 5)) fun y15 =>
  some (.done (.inr ((0 : Int), (0 : Int), y15)))
 else
  some (.next ((ior .i32 (IntKind.wrap .i32 (s9.1 * 64)) (IntKind.wrap .i32 (iand .u8 (bt p_s (IntKind.wrap .i64 (p_at + s9.2.2.2))) (63 : Int)))), (128 : Int), (191 : Int), (IntKind.wrap .i64 (s9.2.2.2 + (1 : Int)))))
noncomputable def m_utf_Next_L10 (p_s : ByteArray) (p_at : Int) (y4 : Int × Int × Int × Int) (s9 : Int × Int × Int × Int) : Option (Stp (Int × Int × Int × Int) (Sum Int (Int × Int × Er))) :=
 bif (decide (s9.2.2.2 ≤ y4.1)) then
  bif (decide ((IntKind.wrap .i64 (p_at + s9.2.2.2)) ≥ ((p_s.size : Nat) : Int))) then
   Option.bind (m_utf_fault p_at (Er.sent 9)) fun y12 =>
   some (.done (.inr ((0 : Int), (0 : Int), y12)))
  else
   if 0 ≤ (IntKind.wrap .i64 (p_at + s9.2.2.2)) ∧ (IntKind.wrap .i64 (p_at + s9.2.2.2)) < ((p_s.size : Nat) : Int) then
    Option.bind (
     bif (decide ((bt p_s (IntKind.wrap .i64 (p_at + s9.2.2.2))) < s9.2.1)) then
      some true
     else
      some (decide ((bt p_s (IntKind.wrap .i64 (p_at + s9.2.2.2))) > s9.2.2.1)) : Option Bool) fun s13 =>
    m_utf_Next_K14 p_s p_at s9 s13
   else none
 else
  some (.done (.inl s9.1))
noncomputable def m_utf_Next_K2 (p_s : ByteArray) (p_at : Int) (s1 : Bool) : Option (Int × Int × Er) :=
 bif s1 then
  Option.bind (m_utf_fault p_at (Er.sent 3)) fun y3 =>
  some ((0 : Int), (0 : Int), y3)
 else
  if 0 ≤ p_at ∧ p_at < ((p_s.size : Nat) : Int) then
   Option.bind (m_utf_first (bt p_s p_at)) fun y4 =>
   bif (decide (y4.1 < (0 : Int))) then
    Option.bind (m_utf_fault p_at (Er.sent 5)) fun y5 =>
    some ((0 : Int), (0 : Int), y5)
   else
    Option.bind (
     iter (m_utf_Next_L10 p_s p_at y4) (y4.2.1, y4.2.2.1, y4.2.2.2, (1 : Int)) : Option (Sum Int (Int × Int × Er))) fun z =>
    match z with
    | .inl s6 =>
     some (s6, (IntKind.wrap .i64 (y4.1 + (1 : Int))), Er.nil)
    | .inr (v18) =>
     some (v18.1, v18.2.1, v18.2.2)
  else none
noncomputable def m_utf_Next (p_s : ByteArray) (p_at : Int) : Option (Int × Int × Er) :=
 Option.bind (
  bif (decide (p_at < (0 : Int))) then
   some true
  else
   some (decide (p_at ≥ ((p_s.size : Nat) : Int))) : Option Bool) fun s1 =>
 m_utf_Next_K2 p_s p_at s1
noncomputable def m_utf_Decode_L5 (p_s : ByteArray) (s4 : (List Int) × Int) : Option (Stp ((List Int) × Int) (Sum (List Int) ((List Int) × Er))) :=
 bif (decide (s4.2 < ((p_s.size : Nat) : Int))) then
  Option.bind (m_utf_Next p_s s4.2) fun y7 =>
  bif (!y7.2.2.isNil) then
   some (.done (.inr ([], y7.2.2)))
  else
   if (s4.1.length + 1) * 4 ≤ 140737488355328 then
    some (.next ((s4.1 ++ [y7.1]), (IntKind.wrap .i64 (s4.2 + y7.2.1))))
   else none
 else
  some (.done (.inl s4.1))
noncomputable def m_utf_Decode (p_s : ByteArray) : Option ((List Int) × Er) :=
 Option.bind (
  iter (m_utf_Decode_L5 p_s) ([], (0 : Int)) : Option (Sum (List Int) ((List Int) × Er))) fun z =>
 match z with
 | .inl s1 =>
  some (s1, Er.nil)
 | .inr (v10) =>
  some (v10.1, v10.2)
noncomputable def m_utf_Valid (p_s : ByteArray) : Option Bool :=
 Option.bind (m_utf_Decode p_s) fun y1 =>
 bif y1.2.isNil then
  some true
 else
  Option.bind (m_errors_As y1.2) fun y2 =>
  some false
noncomputable def m_variants_fault (p_at : Int) (p_e : Er) : Option Er :=
 some (Er.box 62 p_at p_e)
noncomputable def m_utf_Right (p_r : Int) : Option Bool :=
 bif (decide (p_r ≥ (0 : Int))) then
  bif (decide (p_r ≤ (1114111 : Int))) then
   bif (decide (p_r < (55296 : Int))) then
    some true
   else
    some (decide (p_r > (57343 : Int)))
  else
   some false
 else
  some false
noncomputable def m_variants_setError_K6  (s5 : Bool) : Option Er :=
 bif s5 then
  some (Er.sent 7)
 else
  some Er.nil
noncomputable def m_variants_setError_K4 (p_f : T_api_Family) (p_i : Int) (s3 : Unit) : Option Er :=
 Option.bind (
  bif (decide (p_i > (0 : Int))) then
   if 0 ≤ (0 : Int) ∧ (0 : Int) < (((p_f.f_Sets.getD (p_i.toNat) []).length : Nat) : Int) then
    if 0 ≤ (IntKind.wrap .i64 (p_i - (1 : Int))) ∧ (IntKind.wrap .i64 (p_i - (1 : Int))) < ((p_f.f_Sets.length : Nat) : Int) then
     if 0 ≤ (0 : Int) ∧ (0 : Int) < (((p_f.f_Sets.getD ((IntKind.wrap .i64 (p_i - (1 : Int))).toNat) []).length : Nat) : Int) then
      some (decide (((p_f.f_Sets.getD (p_i.toNat) []).getD 0 0) ≤ ((p_f.f_Sets.getD ((IntKind.wrap .i64 (p_i - (1 : Int))).toNat) []).getD 0 0)))
     else none
    else none
   else none
  else
   some false : Option Bool) fun s5 =>
 m_variants_setError_K6 s5
noncomputable def m_variants_setError_L9 (p_f : T_api_Family) (p_i : Int) (s8 : Int) : Option (Stp Int (Sum Unit Er)) :=
 bif (decide (s8 < (((p_f.f_Sets.getD (p_i.toNat) []).length : Nat) : Int))) then
  if 0 ≤ s8 ∧ s8 < (((p_f.f_Sets.getD (p_i.toNat) []).length : Nat) : Int) then
   if 0 ≤ (IntKind.wrap .i64 (s8 - (1 : Int))) ∧ (IntKind.wrap .i64 (s8 - (1 : Int))) < (((p_f.f_Sets.getD (p_i.toNat) []).length : Nat) : Int) then
    bif (decide (((p_f.f_Sets.getD (p_i.toNat) []).getD (s8.toNat) 0) ≤ ((p_f.f_Sets.getD (p_i.toNat) []).getD ((IntKind.wrap .i64 (s8 - (1 : Int))).toNat) 0))) then
     some (.done (.inr (Er.sent 7)))
    else
     some (.next (IntKind.wrap .i64 (s8 + (1 : Int))))
   else none
  else none
 else
  some (.done (.inl ()))
noncomputable def m_variants_setError_K2 (p_f : T_api_Family) (p_i : Int) (s1 : Unit) : Option Er :=
 Option.bind (
  iter (m_variants_setError_L9 p_f p_i) (1 : Int) : Option (Sum Unit Er)) fun z =>
 match z with
 | .inl s3 =>
  m_variants_setError_K4 p_f p_i s3
 | .inr (v13) =>
  some v13
noncomputable def m_variants_setError_L16 (p_f : T_api_Family) (p_i : Int) (s15 : Int) : Option (Stp Int (Sum Unit Er)) :=
 bif (decide (s15 < (((p_f.f_Sets.getD (p_i.toNat) []).length : Nat) : Int))) then
  if 0 ≤ s15 ∧ s15 < (((p_f.f_Sets.getD (p_i.toNat) []).length : Nat) : Int) then
   Option.bind (m_utf_Right ((p_f.f_Sets.getD (p_i.toNat) []).getD (s15.toNat) 0)) fun y18 =>
   bif (!y18) then
    some (.done (.inr (Er.sent 3)))
   else
    some (.next (IntKind.wrap .i64 (s15 + (1 : Int))))
  else none
 else
  some (.done (.inl ()))
noncomputable def m_variants_setError (p_f : T_api_Family) (p_i : Int) : Option Er :=
 if 0 ≤ p_i ∧ p_i < ((p_f.f_Sets.length : Nat) : Int) then
  bif (decide ((((p_f.f_Sets.getD (p_i.toNat) []).length : Nat) : Int) < (2 : Int))) then
   some (Er.sent 6)
  else
   Option.bind (
    iter (m_variants_setError_L16 p_f p_i) (0 : Int) : Option (Sum Unit Er)) fun z =>
   match z with
   | .inl s1 =>
    m_variants_setError_K2 p_f p_i s1
   | .inr (v21) =>
    some v21
 else none
noncomputable def m_variants_Check_L14 (p_f : T_api_Family) (s7 : Int × (List Int)) (s13 : Int × (List Int)) : Option (Stp (Int × (List Int)) (Sum (List Int) Er)) :=
 bif (decide (s13.1 < (((p_f.f_Sets.getD (s7.1.toNat) []).length : Nat) : Int))) then
  if 0 ≤ s13.1 ∧ s13.1 < (((p_f.f_Sets.getD (s7.1.toNat) []).length : Nat) : Int) then
   if -2147483648 ≤ ((p_f.f_Sets.getD (s7.1.toNat) []).getD (s13.1.toNat) 0) ∧ ((p_f.f_Sets.getD (s7.1.toNat) []).getD (s13.1.toNat) 0) ≤ 2147483647 then
    bif (decide ((bif memT (s13.2.map (AV.int .i32)) ((p_f.f_Sets.getD (s7.1.toNat) []).getD (s13.1.toNat) 0) then 1 else 0) > (0 : Int))) then
     Option.bind (m_variants_fault s7.1 (Er.sent 2)) fun y16 =>
     some (.done (.inr y16))
    else
     if (-2147483648 ≤ ((p_f.f_Sets.getD (s7.1.toNat) []).getD (s13.1.toNat) 0) ∧ ((p_f.f_Sets.getD (s7.1.toNat) []).getD (s13.1.toNat) 0) ≤ 2147483647) ∧ (s13.2.map (AV.int .i32)).length < maxLen then
      some (.next ((IntKind.wrap .i64 (s13.1 + (1 : Int))), (s13.2 ++ [((p_f.f_Sets.getD (s7.1.toNat) []).getD (s13.1.toNat) 0)])))
     else none
   else none
  else none
 else
  some (.done (.inl s13.2))
noncomputable def m_variants_Check_L8 (p_f : T_api_Family) (s7 : Int × (List Int)) : Option (Stp (Int × (List Int)) (Sum (List Int) Er)) :=
 bif (decide (s7.1 < ((p_f.f_Sets.length : Nat) : Int))) then
  if 0 ≤ s7.1 ∧ s7.1 < ((p_f.f_Sets.length : Nat) : Int) then
   Option.bind (m_variants_setError p_f s7.1) fun y10 =>
   bif (!y10.isNil) then
    Option.bind (m_variants_fault s7.1 y10) fun y11 =>
    some (.done (.inr y11))
   else
    Option.bind (iter (m_variants_Check_L14 p_f s7) ((0 : Int), s7.2)) fun z =>
    match z with
    | .inl s17 =>
     some (.next ((IntKind.wrap .i64 (s7.1 + (1 : Int))), s17))
    | .inr (v18) =>
     some (.done (.inr v18))
  else none
 else
  some (.done (.inl s7.2))
noncomputable def m_variants_Check_K5 (p_f : T_api_Family) (s4 : Unit) : Option Er :=
 Option.bind (iter (m_variants_Check_L8 p_f) ((0 : Int), [])) fun z =>
 match z with
 | .inl s19 =>
  some Er.nil
 | .inr (v20) =>
  some v20
noncomputable def m_variants_Check_L23 (p_f : T_api_Family) (s22 : Int × Int) : Option (Stp (Int × Int) (Sum Unit Er)) :=
 bif (decide (s22.2 < ((p_f.f_Sets.length : Nat) : Int))) then
  if 0 ≤ s22.2 ∧ s22.2 < ((p_f.f_Sets.length : Nat) : Int) then
   bif (decide ((IntKind.wrap .i64 (s22.1 + (((p_f.f_Sets.getD (s22.2.toNat) []).length : Nat) : Int))) > (2000 : Int))) then
    Option.bind (m_variants_fault (0 : Int) (Er.sent 1)) fun y25 =>
    some (.done (.inr y25))
   else
    some (.next ((IntKind.wrap .i64 (s22.1 + (((p_f.f_Sets.getD (s22.2.toNat) []).length : Nat) : Int))), (IntKind.wrap .i64 (s22.2 + (1 : Int)))))
  else none
 else
  some (.done (.inl ()))
noncomputable def m_variants_Check_K2 (p_f : T_api_Family) (s1 : Bool) : Option Er :=
 bif s1 then
  Option.bind (m_variants_fault (0 : Int) (Er.sent 0)) fun y3 =>
  some y3
 else
  Option.bind (
   iter (m_variants_Check_L23 p_f) ((0 : Int), (0 : Int)) : Option (Sum Unit Er)) fun z =>
  match z with
  | .inl s4 =>
   m_variants_Check_K5 p_f s4
  | .inr (v28) =>
   some v28
noncomputable def m_variants_Check (p_f : T_api_Family) : Option Er :=
 Option.bind (
  bif (decide (((p_f.f_Name.size : Nat) : Int) < (1 : Int))) then
   some true
  else
   bif (decide (((p_f.f_Name.size : Nat) : Int) > (63 : Int))) then
    some true
   else
    Option.bind (m_utf_Valid p_f.f_Name) fun y29 =>
    some (!y29) : Option Bool) fun s1 =>
 m_variants_Check_K2 p_f s1
noncomputable def m_slices_Equal_rune_rune_L5 (p_s1 : (List Int)) (p_s2 : (List Int)) (s4 : Int) : Option (Stp Int (Sum Unit Bool)) :=
 bif (decide (s4 < ((p_s1.length : Nat) : Int))) then
  if 0 ≤ s4 ∧ s4 < ((p_s1.length : Nat) : Int) then
   if 0 ≤ s4 ∧ s4 < ((p_s2.length : Nat) : Int) then
    bif ((p_s1.getD (s4.toNat) 0) != (p_s2.getD (s4.toNat) 0)) then
     some (.done (.inr false))
    else
     some (.next (IntKind.wrap .i64 (s4 + (1 : Int))))
   else none
  else none
 else
  some (.done (.inl ()))
noncomputable def m_slices_Equal_rune_rune (p_s1 : (List Int)) (p_s2 : (List Int)) : Option Bool :=
 bif (((p_s1.length : Nat) : Int) != ((p_s2.length : Nat) : Int)) then
  some false
 else
  Option.bind (
   iter (m_slices_Equal_rune_rune_L5 p_s1 p_s2) (0 : Int) : Option (Sum Unit Bool)) fun z =>
  match z with
  | .inl s1 =>
   some true
  | .inr (v9) =>
   some v9
noncomputable def m_variants_Same (p_f : T_api_Family) (p_a : (List Int)) (p_b : (List Int)) : Option Bool :=
 Option.bind (m_variants_Key p_f p_a) fun y1 =>
 Option.bind (m_variants_Key p_f p_b) fun y2 =>
 Option.bind (m_slices_Equal_rune_rune y1 y2) fun y3 =>
 some y3
noncomputable def m_variants_Count_L5 (p_f : T_api_Family) (p_l : (List Int)) (s4 : Int × Int) : Option (Stp (Int × Int) Int) :=
 bif (decide (s4.2 < ((p_l.length : Nat) : Int))) then
  if 0 ≤ s4.2 ∧ s4.2 < ((p_l.length : Nat) : Int) then
   Option.bind (m_variants_find p_f (p_l.getD (s4.2.toNat) 0)) fun y7 =>
   some (.next ((min (IntKind.wrap .i64 (s4.1 * (max ((y7.length : Nat) : Int) (1 : Int)))) (1073741824 : Int)), (IntKind.wrap .i64 (s4.2 + (1 : Int)))))
  else none
 else
  some (.done s4.1)
noncomputable def m_variants_Count (p_f : T_api_Family) (p_l : (List Int)) : Option Int :=
 Option.bind (
  iter (m_variants_Count_L5 p_f p_l) ((1 : Int), (0 : Int)) : Option Int) fun s1 =>
 some s1
noncomputable def m_eponymlaw19_VariantsAlike_K6 (p_f : T_api_Family) (p_l : (List Int)) (p_m : (List Int)) (s5 : Bool) : Option Bool :=
 Option.bind (m_variants_Count p_f p_l) fun y7 =>
 bif (decide (y7 > (50 : Int))) then
  some true
 else
  Option.bind (m_variants_Same p_f p_l p_m) fun y8 =>
  some (s5 == y8)
noncomputable def m_eponymlaw19_VariantsAlike_K19 (p_m : (List Int)) (y4 : (List (List Int))) (s11 : Bool × Int) (s18 : Unit) : Option (Sum Bool Bool) :=
 bif s11.1 then
  some (.inl true)
 else
  if 0 ≤ s11.2 ∧ s11.2 < ((y4.length : Nat) : Int) then
   Option.bind (m_eponymlaw01_Same (y4.getD (s11.2.toNat) []) p_m) fun y20 =>
   some (.inl y20)
  else none
noncomputable def m_eponymlaw19_VariantsAlike_K24  (s23 : Bool) : Option (Sum Unit Bool) :=
 bif s23 then
  some (.inr false)
 else
  some (.inl ())
noncomputable def m_eponymlaw19_VariantsAlike_K22 (p_l : (List Int)) (y4 : (List (List Int))) (s11 : Bool × Int) (s21 : Int) : Option (Sum Unit Bool) :=
 Option.bind (
  bif (s21 == ((p_l.length : Nat) : Int)) then
   some true
  else
   if 0 ≤ s11.2 ∧ s11.2 < ((y4.length : Nat) : Int) then
    if 0 ≤ s21 ∧ s21 < (((y4.getD (s11.2.toNat) []).length : Nat) : Int) then
     if 0 ≤ (IntKind.wrap .i64 (s11.2 - (1 : Int))) ∧ (IntKind.wrap .i64 (s11.2 - (1 : Int))) < ((y4.length : Nat) : Int) then
      if 0 ≤ s21 ∧ s21 < (((y4.getD ((IntKind.wrap .i64 (s11.2 - (1 : Int))).toNat) []).length : Nat) : Int) then
       some (decide (((y4.getD (s11.2.toNat) []).getD (s21.toNat) 0) < ((y4.getD ((IntKind.wrap .i64 (s11.2 - (1 : Int))).toNat) []).getD (s21.toNat) 0)))
      else none
     else none
    else none
   else none : Option Bool) fun s23 =>
 m_eponymlaw19_VariantsAlike_K24 s23
noncomputable def m_eponymlaw19_VariantsAlike_K30 (s26 : Int) (s29 : Bool) : Option (Stp Int Int) :=
 bif s29 then
  some (.next (IntKind.wrap .i64 (s26 + (1 : Int))))
 else
  some (.done s26)
noncomputable def m_eponymlaw19_VariantsAlike_L27 (p_l : (List Int)) (y4 : (List (List Int))) (s11 : Bool × Int) (s26 : Int) : Option (Stp Int Int) :=
 Option.bind (
  bif (decide (s26 < ((p_l.length : Nat) : Int))) then
   if 0 ≤ s11.2 ∧ s11.2 < ((y4.length : Nat) : Int) then
    if 0 ≤ s26 ∧ s26 < (((y4.getD (s11.2.toNat) []).length : Nat) : Int) then
     if 0 ≤ (IntKind.wrap .i64 (s11.2 - (1 : Int))) ∧ (IntKind.wrap .i64 (s11.2 - (1 : Int))) < ((y4.length : Nat) : Int) then
      if 0 ≤ s26 ∧ s26 < (((y4.getD ((IntKind.wrap .i64 (s11.2 - (1 : Int))).toNat) []).length : Nat) : Int) then
       some (((y4.getD (s11.2.toNat) []).getD (s26.toNat) 0) == ((y4.getD ((IntKind.wrap .i64 (s11.2 - (1 : Int))).toNat) []).getD (s26.toNat) 0))
      else none
     else none
    else none
   else none
  else
   some false : Option Bool) fun s29 =>
 m_eponymlaw19_VariantsAlike_K30 s26 s29
noncomputable def m_eponymlaw19_VariantsAlike_K17 (p_l : (List Int)) (p_m : (List Int)) (y4 : (List (List Int))) (s11 : Bool × Int) (s16 : Bool) : Option (Sum Bool Bool) :=
 bif s16 then
  some (.inr false)
 else
  Option.bind (
   bif (decide (s11.2 > (0 : Int))) then
    Option.bind (
     iter (m_eponymlaw19_VariantsAlike_L27 p_l y4 s11) (0 : Int) : Option Int) fun s21 =>
    m_eponymlaw19_VariantsAlike_K22 p_l y4 s11 s21
   else
    some (.inl ()) : Option (Sum Unit Bool)) fun z =>
  match z with
  | .inl s18 =>
   m_eponymlaw19_VariantsAlike_K19 p_m y4 s11 s18
  | .inr (v32) =>
   some (.inr v32)
noncomputable def m_eponymlaw19_VariantsAlike_L12 (p_f : T_api_Family) (p_l : (List Int)) (p_m : (List Int)) (y4 : (List (List Int))) (s11 : Bool × Int) : Option (Stp (Bool × Int) (Sum Bool Bool)) :=
 bif (decide (s11.2 < ((y4.length : Nat) : Int))) then
  Option.bind (
   Option.bind (
    if 0 ≤ s11.2 ∧ s11.2 < ((y4.length : Nat) : Int) then
     Option.bind (m_variants_Same p_f (y4.getD (s11.2.toNat) []) p_l) fun y33 =>
     bif (!y33) then
      some true
     else
      if 0 ≤ s11.2 ∧ s11.2 < ((y4.length : Nat) : Int) then
       Option.bind (m_variants_Count p_f (y4.getD (s11.2.toNat) [])) fun y34 =>
       Option.bind (m_variants_Count p_f p_l) fun y35 =>
       bif (y34 != y35) then
        some true
       else
        bif (s11.2 == (0 : Int)) then
         if 0 ≤ s11.2 ∧ s11.2 < ((y4.length : Nat) : Int) then
          Option.bind (m_variants_Key p_f p_l) fun y36 =>
          Option.bind (m_eponymlaw01_Same (y4.getD (s11.2.toNat) []) y36) fun y37 =>
          some (!y37)
         else none
        else
         some false
      else none
    else none : Option Bool) fun s16 =>
   m_eponymlaw19_VariantsAlike_K17 p_l p_m y4 s11 s16 : Option (Sum Bool Bool)) fun z =>
  match z with
  | .inl s14 =>
   some (.next (s14, (IntKind.wrap .i64 (s11.2 + (1 : Int)))))
  | .inr (v38) =>
   some (.done (.inr v38))
 else
  some (.done (.inl s11.1))
noncomputable def m_eponymlaw19_VariantsAlike_K3 (p_f : T_api_Family) (p_l : (List Int)) (p_m : (List Int)) (s2 : Bool) : Option Bool :=
 bif s2 then
  some true
 else
  Option.bind (m_variants_All p_f p_l (50 : Int)) fun y4 =>
  Option.bind (
   iter (m_eponymlaw19_VariantsAlike_L12 p_f p_l p_m y4) (false, (0 : Int)) : Option (Sum Bool Bool)) fun z =>
  match z with
  | .inl s5 =>
   m_eponymlaw19_VariantsAlike_K6 p_f p_l p_m s5
  | .inr (v41) =>
   some v41
noncomputable def m_eponymlaw19_VariantsAlike (p_f : T_api_Family) (p_l : (List Int)) (p_m : (List Int)) : Option Bool :=
 Option.bind (m_eponymlaw19_awake) fun y1 =>
 bif (!y1) then
  some false
 else
  Option.bind (
   Option.bind (m_eponymlaw19_Great p_f) fun y42 =>
   bif y42 then
    some true
   else
    bif (decide (((p_l.length : Nat) : Int) > (8 : Int))) then
     some true
    else
     bif (decide (((p_m.length : Nat) : Int) > (8 : Int))) then
      some true
     else
      Option.bind (m_variants_Check p_f) fun y43 =>
      some (!y43.isNil) : Option Bool) fun s2 =>
  m_eponymlaw19_VariantsAlike_K3 p_f p_l p_m s2
noncomputable def m_eponymref01_value_K16 (p_s : ByteArray) (s12 : Int × Int) (s15 : Bool) : Option (Stp (Int × Int) (Sum Int Int)) :=
 bif s15 then
  some (.done (.inr (-1 : Int)))
 else
  if 0 ≤ s12.2 ∧ s12.2 < ((p_s.size : Nat) : Int) then
   some (.next ((IntKind.wrap .i32 ((IntKind.wrap .i32 ((IntKind.wrap .i32 (s12.1 * (64 : Int))) + (IntKind.wrap .i32 (bt p_s s12.2)))) - (128 : Int))), (IntKind.wrap .i64 (s12.2 + (1 : Int)))))
  else none
noncomputable def m_eponymref01_value_L13 (p_s : ByteArray) (s12 : Int × Int) : Option (Stp (Int × Int) (Sum Int Int)) :=
 bif (decide (s12.2 < ((p_s.size : Nat) : Int))) then
  Option.bind (
   if 0 ≤ s12.2 ∧ s12.2 < ((p_s.size : Nat) : Int) then
    bif (decide ((bt p_s s12.2) < (128 : Int))) then
     some true
    else
     if 0 ≤ s12.2 ∧ s12.2 < ((p_s.size : Nat) : Int) then
      some (decide ((bt p_s s12.2) > (191 : Int)))
     else none
   else none : Option Bool) fun s15 =>
  m_eponymref01_value_K16 p_s s12 s15
 else
  some (.done (.inl s12.1))
noncomputable def m_eponymref01_value_K8 (p_s : ByteArray) (s7 : Int) : Option Int :=
 bif (decide (s7 < (0 : Int))) then
  some (-1 : Int)
 else
  Option.bind (
   iter (m_eponymref01_value_L13 p_s) (s7, (1 : Int)) : Option (Sum Int Int)) fun z =>
  match z with
  | .inl s9 =>
   some s9
  | .inr (v19) =>
   some v19
noncomputable def m_eponymref01_value_K21 (p_s : ByteArray) (s5 : Int) (s20 : Bool) : Option Int :=
 bif s20 then
  some (IntKind.wrap .i32 ((IntKind.wrap .i32 (bt p_s (0 : Int))) - (240 : Int)))
 else
  some s5
noncomputable def m_eponymref01_value_K6 (p_s : ByteArray) (s5 : Int) : Option Int :=
 Option.bind (
  Option.bind (
   bif (((p_s.size : Nat) : Int) == (4 : Int)) then
    bif (decide ((IntKind.wrap .i32 (bt p_s (0 : Int))) ≥ (240 : Int))) then
     some (decide ((IntKind.wrap .i32 (bt p_s (0 : Int))) < (248 : Int)))
    else
     some false
   else
    some false : Option Bool) fun s20 =>
  m_eponymref01_value_K21 p_s s5 s20 : Option Int) fun s7 =>
 m_eponymref01_value_K8 p_s s7
noncomputable def m_eponymref01_value_K23 (p_s : ByteArray) (s3 : Int) (s22 : Bool) : Option Int :=
 bif s22 then
  some (IntKind.wrap .i32 ((IntKind.wrap .i32 (bt p_s (0 : Int))) - (224 : Int)))
 else
  some s3
noncomputable def m_eponymref01_value_K4 (p_s : ByteArray) (s3 : Int) : Option Int :=
 Option.bind (
  Option.bind (
   bif (((p_s.size : Nat) : Int) == (3 : Int)) then
    bif (decide ((IntKind.wrap .i32 (bt p_s (0 : Int))) ≥ (224 : Int))) then
     some (decide ((IntKind.wrap .i32 (bt p_s (0 : Int))) < (240 : Int)))
    else
     some false
   else
    some false : Option Bool) fun s22 =>
  m_eponymref01_value_K23 p_s s3 s22 : Option Int) fun s5 =>
 m_eponymref01_value_K6 p_s s5
noncomputable def m_eponymref01_value_K25 (p_s : ByteArray) (s24 : Bool) : Option Int :=
 bif s24 then
  some (IntKind.wrap .i32 ((IntKind.wrap .i32 (bt p_s (0 : Int))) - (192 : Int)))
 else
  some (-1 : Int)
noncomputable def m_eponymref01_value_K2 (p_s : ByteArray) (s1 : Bool) : Option Int :=
 bif s1 then
  some (IntKind.wrap .i32 (bt p_s (0 : Int)))
 else
  Option.bind (
   Option.bind (
    bif (((p_s.size : Nat) : Int) == (2 : Int)) then
     bif (decide ((IntKind.wrap .i32 (bt p_s (0 : Int))) ≥ (192 : Int))) then
      some (decide ((IntKind.wrap .i32 (bt p_s (0 : Int))) < (224 : Int)))
     else
      some false
    else
     some false : Option Bool) fun s24 =>
   m_eponymref01_value_K25 p_s s24 : Option Int) fun s3 =>
  m_eponymref01_value_K4 p_s s3
noncomputable def m_eponymref01_value (p_s : ByteArray) : Option Int :=
 if 0 ≤ (0 : Int) ∧ (0 : Int) < ((p_s.size : Nat) : Int) then
  Option.bind (
   bif (((p_s.size : Nat) : Int) == (1 : Int)) then
    some (decide ((IntKind.wrap .i32 (bt p_s (0 : Int))) < (128 : Int)))
   else
    some false : Option Bool) fun s1 =>
  m_eponymref01_value_K2 p_s s1
 else none
noncomputable def m_eponymref01_Right (p_r : Int) : Option Bool :=
 bif (decide (p_r ≥ (0 : Int))) then
  bif (decide (p_r ≤ (1114111 : Int))) then
   bif (decide (p_r ≥ (55296 : Int))) then
    some (!(decide (p_r ≤ (57343 : Int))))
   else
    some true
  else
   some false
 else
  some false
noncomputable def m_eponymref01_Form (p_r : Int) : Option ByteArray :=
 bif (decide (p_r < (128 : Int))) then
  some (strOfNums [(IntKind.wrap .u8 p_r)])
 else
  bif (decide (p_r < (2048 : Int))) then
   some (strOfNums [(IntKind.wrap .u8 (IntKind.wrap .i32 ((192 : Int) + (IntKind.wrap .i32 (Int.tdiv p_r (64 : Int)))))), (IntKind.wrap .u8 (IntKind.wrap .i32 ((128 : Int) + (Int.tmod p_r (64 : Int)))))])
  else
   bif (decide (p_r < (65536 : Int))) then
    some (strOfNums [(IntKind.wrap .u8 (IntKind.wrap .i32 ((224 : Int) + (IntKind.wrap .i32 (Int.tdiv p_r (4096 : Int)))))), (IntKind.wrap .u8 (IntKind.wrap .i32 ((128 : Int) + (Int.tmod (IntKind.wrap .i32 (Int.tdiv p_r (64 : Int))) (64 : Int))))), (IntKind.wrap .u8 (IntKind.wrap .i32 ((128 : Int) + (Int.tmod p_r (64 : Int)))))])
   else
    some (strOfNums [(IntKind.wrap .u8 (IntKind.wrap .i32 ((240 : Int) + (IntKind.wrap .i32 (Int.tdiv p_r (262144 : Int)))))), (IntKind.wrap .u8 (IntKind.wrap .i32 ((128 : Int) + (Int.tmod (IntKind.wrap .i32 (Int.tdiv p_r (4096 : Int))) (64 : Int))))), (IntKind.wrap .u8 (IntKind.wrap .i32 ((128 : Int) + (Int.tmod (IntKind.wrap .i32 (Int.tdiv p_r (64 : Int))) (64 : Int))))), (IntKind.wrap .u8 (IntKind.wrap .i32 ((128 : Int) + (Int.tmod p_r (64 : Int)))))])
noncomputable def m_eponymref01_some_K10 (s5 : Int) (s7 : Int) (s9 : Bool) : Option Bool :=
 bif s9 then
  some (decide ((57344 : Int) ≤ s7))
 else
  some (decide (s5 ≤ s7))
noncomputable def m_eponymref01_some_K8 (s5 : Int) (s7 : Int) : Option Bool :=
 Option.bind (
  bif (decide (s5 ≥ (55296 : Int))) then
   some (decide (s5 ≤ (57343 : Int)))
  else
   some false : Option Bool) fun s9 =>
 m_eponymref01_some_K10 s5 s7 s9
noncomputable def m_eponymref01_some_K6 (p_b : Int) (s3 : Int × Int) (s5 : Int) : Option Bool :=
 Option.bind (
  bif (decide (p_b > s3.2)) then
   some s3.2
  else
   some p_b : Option Int) fun s7 =>
 m_eponymref01_some_K8 s5 s7
noncomputable def m_eponymref01_some_K4 (p_a : Int) (p_b : Int) (s3 : Int × Int) : Option Bool :=
 Option.bind (
  bif (decide (p_a < s3.1)) then
   some s3.1
  else
   some p_a : Option Int) fun s5 =>
 m_eponymref01_some_K6 p_b s3 s5
noncomputable def m_eponymref01_some_K2 (p_a : Int) (p_b : Int) (p_n : Int) (s1 : Int × Int) : Option Bool :=
 Option.bind (
  bif (p_n == (4 : Int)) then
   some ((65536 : Int), (1114111 : Int))
  else
   some (s1.1, s1.2) : Option (Int × Int)) fun s3 =>
 m_eponymref01_some_K4 p_a p_b s3
noncomputable def m_eponymref01_some (p_a : Int) (p_b : Int) (p_n : Int) : Option Bool :=
 Option.bind (
  bif (p_n == (3 : Int)) then
   some ((2048 : Int), (65535 : Int))
  else
   some ((128 : Int), (2047 : Int)) : Option (Int × Int)) fun s1 =>
 m_eponymref01_some_K2 p_a p_b p_n s1
noncomputable def m_eponymref01_Next_K16  (s15 : Bool) : Option (Sum Unit (Int × Int × Int)) :=
 bif s15 then
  some (.inr ((0 : Int), (0 : Int), (2 : Int)))
 else
  some (.inl ())
noncomputable def m_eponymref01_Next_K12 (s6 : Int) (s11 : ByteArray × ByteArray) : Option (Sum Unit (Int × Int × Int)) :=
 Option.bind (m_eponymref01_value s11.1) fun y13 =>
 Option.bind (m_eponymref01_value s11.2) fun y14 =>
 Option.bind (
  bif (decide (y13 ≥ (0 : Int))) then
   bif (decide (y14 ≥ (0 : Int))) then
    Option.bind (m_eponymref01_some y13 y14 s6) fun y17 =>
    some y17
   else
    some false
  else
   some false : Option Bool) fun s15 =>
 m_eponymref01_Next_K16 s15
noncomputable def m_eponymref01_Next_L20 (s6 : Int) (s19 : ByteArray × ByteArray) : Option (Stp (ByteArray × ByteArray) (ByteArray × ByteArray)) :=
 bif (decide (((s19.1.size : Nat) : Int) < s6)) then
  if s19.1.size + (ByteArray.mk #[128]).size ≤ 9223372036854775807 then
   if s19.2.size + (ByteArray.mk #[191]).size ≤ 9223372036854775807 then
    some (.next ((s19.1 ++ (ByteArray.mk #[128])), (s19.2 ++ (ByteArray.mk #[191]))))
   else none
  else none
 else
  some (.done (s19.1, s19.2))
noncomputable def m_eponymref01_Next_L7 (p_s : ByteArray) (p_at : Int) (s6 : Int) : Option (Stp Int (Sum Unit (Int × Int × Int))) :=
 bif (decide (s6 ≤ (4 : Int))) then
  Option.bind (
   Option.bind (
    iter (m_eponymref01_Next_L20 s6) ((p_s.extract (p_at.toNat) p_s.size), (p_s.extract (p_at.toNat) p_s.size)) : Option (ByteArray × ByteArray)) fun s11 =>
   m_eponymref01_Next_K12 s6 s11 : Option (Sum Unit (Int × Int × Int))) fun z =>
  match z with
  | .inl s9 =>
   some (.next (IntKind.wrap .i64 (s6 + (1 : Int))))
  | .inr (v23) =>
   some (.done (.inr (v23.1, v23.2.1, v23.2.2)))
 else
  some (.done (.inl ()))
noncomputable def m_eponymref01_Next_K2 (p_s : ByteArray) (p_at : Int) (s1 : Unit) : Option (Int × Int × Int) :=
 if 0 ≤ p_at ∧ p_at ≤ ((p_s.size : Nat) : Int) ∧ ((p_s.size : Nat) : Int) ≤ ((p_s.size : Nat) : Int) then
  Option.bind (
   iter (m_eponymref01_Next_L7 p_s p_at) (IntKind.wrap .i64 ((((p_s.extract (p_at.toNat) p_s.size).size : Nat) : Int) + (1 : Int))) : Option (Sum Unit (Int × Int × Int))) fun z =>
  match z with
  | .inl s3 =>
   some ((0 : Int), (0 : Int), (1 : Int))
  | .inr (v26) =>
   some (v26.1, v26.2.1, v26.2.2)
 else none
noncomputable def m_eponymref01_Next_K35 (s28 : Int) (y33 : Int) (s34 : Bool) : Option (Stp Int (Sum Unit (Int × Int × Int))) :=
 bif s34 then
  some (.done (.inr (y33, s28, (0 : Int))))
 else
  some (.next (IntKind.wrap .i64 (s28 + (1 : Int))))
noncomputable def m_eponymref01_Next_K32 (p_s : ByteArray) (p_at : Int) (s28 : Int) (s31 : Bool) : Option (Stp Int (Sum Unit (Int × Int × Int))) :=
 bif s31 then
  if 0 ≤ p_at ∧ p_at ≤ (IntKind.wrap .i64 (p_at + s28)) ∧ (IntKind.wrap .i64 (p_at + s28)) ≤ ((p_s.size : Nat) : Int) then
   Option.bind (m_eponymref01_value (p_s.extract (p_at.toNat) ((IntKind.wrap .i64 (p_at + s28)).toNat))) fun y33 =>
   Option.bind (
    bif (decide (y33 ≥ (0 : Int))) then
     Option.bind (m_eponymref01_Right y33) fun y36 =>
     bif y36 then
      Option.bind (m_eponymref01_Form y33) fun y37 =>
      if 0 ≤ p_at ∧ p_at ≤ (IntKind.wrap .i64 (p_at + s28)) ∧ (IntKind.wrap .i64 (p_at + s28)) ≤ ((p_s.size : Nat) : Int) then
       some (y37.toList == (p_s.extract (p_at.toNat) ((IntKind.wrap .i64 (p_at + s28)).toNat)).toList)
      else none
     else
      some false
    else
     some false : Option Bool) fun s34 =>
   m_eponymref01_Next_K35 s28 y33 s34
  else none
 else
  some (.done (.inl ()))
noncomputable def m_eponymref01_Next_L29 (p_s : ByteArray) (p_at : Int) (s28 : Int) : Option (Stp Int (Sum Unit (Int × Int × Int))) :=
 Option.bind (
  bif (decide (s28 ≤ (4 : Int))) then
   some (decide ((IntKind.wrap .i64 (p_at + s28)) ≤ ((p_s.size : Nat) : Int)))
  else
   some false : Option Bool) fun s31 =>
 m_eponymref01_Next_K32 p_s p_at s28 s31
noncomputable def m_eponymref01_Next (p_s : ByteArray) (p_at : Int) : Option (Int × Int × Int) :=
 Option.bind (
  iter (m_eponymref01_Next_L29 p_s p_at) (1 : Int) : Option (Sum Unit (Int × Int × Int))) fun z =>
 match z with
 | .inl s1 =>
  m_eponymref01_Next_K2 p_s p_at s1
 | .inr (v40) =>
  some (v40.1, v40.2.1, v40.2.2)
noncomputable def m_eponymref01_Decode_L5 (p_s : ByteArray) (s4 : (List Int) × Int) : Option (Stp ((List Int) × Int) (Sum (List Int) ((List Int) × Int × Int))) :=
 bif (decide (s4.2 < ((p_s.size : Nat) : Int))) then
  Option.bind (m_eponymref01_Next p_s s4.2) fun y7 =>
  bif (y7.2.2 != (0 : Int)) then
   some (.done (.inr ([], s4.2, y7.2.2)))
  else
   if (s4.1.length + 1) * 4 ≤ 140737488355328 then
    some (.next ((s4.1 ++ [y7.1]), (IntKind.wrap .i64 (s4.2 + y7.2.1))))
   else none
 else
  some (.done (.inl s4.1))
noncomputable def m_eponymref01_Decode (p_s : ByteArray) : Option ((List Int) × Int × Int) :=
 Option.bind (
  iter (m_eponymref01_Decode_L5 p_s) ([], (0 : Int)) : Option (Sum (List Int) ((List Int) × Int × Int))) fun z =>
 match z with
 | .inl s1 =>
  some (s1, (0 : Int), (0 : Int))
 | .inr (v10) =>
  some (v10.1, v10.2.1, v10.2.2)
noncomputable def m_eponymref19_in_L5 (p_l : (List Int)) (p_r : Int) (s4 : Int) : Option (Stp Int (Sum Unit Bool)) :=
 bif (decide (s4 < ((p_l.length : Nat) : Int))) then
  if 0 ≤ s4 ∧ s4 < ((p_l.length : Nat) : Int) then
   bif ((p_l.getD (s4.toNat) 0) == p_r) then
    some (.done (.inr true))
   else
    some (.next (IntKind.wrap .i64 (s4 + (1 : Int))))
  else none
 else
  some (.done (.inl ()))
noncomputable def m_eponymref19_in (p_l : (List Int)) (p_r : Int) : Option Bool :=
 Option.bind (
  iter (m_eponymref19_in_L5 p_l p_r) (0 : Int) : Option (Sum Unit Bool)) fun z =>
 match z with
 | .inl s1 =>
  some false
 | .inr (v9) =>
  some v9
noncomputable def m_eponymref19_Check_L28 (p_f : T_api_Family) (s9 : Int) (s21 : Int) (s27 : Int) : Option (Stp Int (Sum Unit (Int × Int))) :=
 bif (decide (s27 < (((p_f.f_Sets.getD (s9.toNat) []).length : Nat) : Int))) then
  if 0 ≤ s21 ∧ s21 < ((p_f.f_Sets.length : Nat) : Int) then
   if 0 ≤ s27 ∧ s27 < (((p_f.f_Sets.getD (s9.toNat) []).length : Nat) : Int) then
    Option.bind (m_eponymref19_in (p_f.f_Sets.getD (s21.toNat) []) ((p_f.f_Sets.getD (s9.toNat) []).getD (s27.toNat) 0)) fun y30 =>
    bif y30 then
     some (.done (.inr (s9, (7 : Int))))
    else
     some (.next (IntKind.wrap .i64 (s27 + (1 : Int))))
   else none
  else none
 else
  some (.done (.inl ()))
noncomputable def m_eponymref19_Check_L22 (p_f : T_api_Family) (s9 : Int) (s21 : Int) : Option (Stp Int (Sum Unit (Int × Int))) :=
 bif (decide (s21 < s9)) then
  Option.bind (
   iter (m_eponymref19_Check_L28 p_f s9 s21) (0 : Int) : Option (Sum Unit (Int × Int))) fun z =>
  match z with
  | .inl s24 =>
   some (.next (IntKind.wrap .i64 (s21 + (1 : Int))))
  | .inr (v33) =>
   some (.done (.inr (v33.1, v33.2)))
 else
  some (.done (.inl ()))
noncomputable def m_eponymref19_Check_K19 (p_f : T_api_Family) (s9 : Int) (s18 : Bool) : Option (Sum Unit (Int × Int)) :=
 bif s18 then
  some (.inr (s9, (6 : Int)))
 else
  Option.bind (iter (m_eponymref19_Check_L22 p_f s9) (0 : Int)) fun z =>
  match z with
  | .inl s34 =>
   some (.inl ())
  | .inr (v35) =>
   some (.inr (v35.1, v35.2))
noncomputable def m_eponymref19_Check_K17 (p_f : T_api_Family) (s9 : Int) (s16 : Unit) : Option (Sum Unit (Int × Int)) :=
 Option.bind (
  bif (decide (s9 > (0 : Int))) then
   if 0 ≤ (0 : Int) ∧ (0 : Int) < (((p_f.f_Sets.getD (s9.toNat) []).length : Nat) : Int) then
    if 0 ≤ (IntKind.wrap .i64 (s9 - (1 : Int))) ∧ (IntKind.wrap .i64 (s9 - (1 : Int))) < ((p_f.f_Sets.length : Nat) : Int) then
     if 0 ≤ (0 : Int) ∧ (0 : Int) < (((p_f.f_Sets.getD ((IntKind.wrap .i64 (s9 - (1 : Int))).toNat) []).length : Nat) : Int) then
      some (decide (((p_f.f_Sets.getD (s9.toNat) []).getD 0 0) ≤ ((p_f.f_Sets.getD ((IntKind.wrap .i64 (s9 - (1 : Int))).toNat) []).getD 0 0)))
     else none
    else none
   else none
  else
   some false : Option Bool) fun s18 =>
 m_eponymref19_Check_K19 p_f s9 s18
noncomputable def m_eponymref19_Check_L38 (p_f : T_api_Family) (s9 : Int) (s37 : Int) : Option (Stp Int (Sum Unit (Int × Int))) :=
 bif (decide (s37 < (((p_f.f_Sets.getD (s9.toNat) []).length : Nat) : Int))) then
  if 0 ≤ s37 ∧ s37 < (((p_f.f_Sets.getD (s9.toNat) []).length : Nat) : Int) then
   if 0 ≤ (IntKind.wrap .i64 (s37 - (1 : Int))) ∧ (IntKind.wrap .i64 (s37 - (1 : Int))) < (((p_f.f_Sets.getD (s9.toNat) []).length : Nat) : Int) then
    bif (decide (((p_f.f_Sets.getD (s9.toNat) []).getD (s37.toNat) 0) ≤ ((p_f.f_Sets.getD (s9.toNat) []).getD ((IntKind.wrap .i64 (s37 - (1 : Int))).toNat) 0))) then
     some (.done (.inr (s9, (6 : Int))))
    else
     some (.next (IntKind.wrap .i64 (s37 + (1 : Int))))
   else none
  else none
 else
  some (.done (.inl ()))
noncomputable def m_eponymref19_Check_K15 (p_f : T_api_Family) (s9 : Int) (s14 : Unit) : Option (Sum Unit (Int × Int)) :=
 Option.bind (
  iter (m_eponymref19_Check_L38 p_f s9) (1 : Int) : Option (Sum Unit (Int × Int))) fun z =>
 match z with
 | .inl s16 =>
  m_eponymref19_Check_K17 p_f s9 s16
 | .inr (v42) =>
  some (.inr (v42.1, v42.2))
noncomputable def m_eponymref19_Check_L45 (p_f : T_api_Family) (s9 : Int) (s44 : Int) : Option (Stp Int (Sum Unit (Int × Int))) :=
 bif (decide (s44 < (((p_f.f_Sets.getD (s9.toNat) []).length : Nat) : Int))) then
  if 0 ≤ s44 ∧ s44 < (((p_f.f_Sets.getD (s9.toNat) []).length : Nat) : Int) then
   Option.bind (m_eponymref01_Right ((p_f.f_Sets.getD (s9.toNat) []).getD (s44.toNat) 0)) fun y47 =>
   bif (!y47) then
    some (.done (.inr (s9, (4 : Int))))
   else
    some (.next (IntKind.wrap .i64 (s44 + (1 : Int))))
  else none
 else
  some (.done (.inl ()))
noncomputable def m_eponymref19_Check_L10 (p_f : T_api_Family) (s9 : Int) : Option (Stp Int (Sum Unit (Int × Int))) :=
 bif (decide (s9 < ((p_f.f_Sets.length : Nat) : Int))) then
  Option.bind (
   if 0 ≤ s9 ∧ s9 < ((p_f.f_Sets.length : Nat) : Int) then
    bif (decide ((((p_f.f_Sets.getD (s9.toNat) []).length : Nat) : Int) < (2 : Int))) then
     some (.inr (s9, (16 : Int)))
    else
     Option.bind (
      iter (m_eponymref19_Check_L45 p_f s9) (0 : Int) : Option (Sum Unit (Int × Int))) fun z =>
     match z with
     | .inl s14 =>
      m_eponymref19_Check_K15 p_f s9 s14
     | .inr (v50) =>
      some (.inr (v50.1, v50.2))
   else none : Option (Sum Unit (Int × Int))) fun z =>
  match z with
  | .inl s12 =>
   some (.next (IntKind.wrap .i64 (s9 + (1 : Int))))
  | .inr (v51) =>
   some (.done (.inr (v51.1, v51.2)))
 else
  some (.done (.inl ()))
noncomputable def m_eponymref19_Check_K5 (p_f : T_api_Family) (s4 : Int) : Option (Int × Int) :=
 bif (decide (s4 > (2000 : Int))) then
  some ((0 : Int), (18 : Int))
 else
  Option.bind (
   iter (m_eponymref19_Check_L10 p_f) (0 : Int) : Option (Sum Unit (Int × Int))) fun z =>
  match z with
  | .inl s6 =>
   some ((0 : Int), (0 : Int))
  | .inr (v54) =>
   some (v54.1, v54.2)
noncomputable def m_eponymref19_Check_L57 (p_f : T_api_Family) (s56 : Int × Int) : Option (Stp (Int × Int) Int) :=
 bif (decide (s56.2 < ((p_f.f_Sets.length : Nat) : Int))) then
  if 0 ≤ s56.2 ∧ s56.2 < ((p_f.f_Sets.length : Nat) : Int) then
   some (.next ((IntKind.wrap .i64 (s56.1 + (((p_f.f_Sets.getD (s56.2.toNat) []).length : Nat) : Int))), (IntKind.wrap .i64 (s56.2 + (1 : Int)))))
  else none
 else
  some (.done s56.1)
noncomputable def m_eponymref19_Check_K3 (p_f : T_api_Family) (s2 : Bool) : Option (Int × Int) :=
 bif s2 then
  some ((0 : Int), (5 : Int))
 else
  Option.bind (
   iter (m_eponymref19_Check_L57 p_f) ((0 : Int), (0 : Int)) : Option Int) fun s4 =>
  m_eponymref19_Check_K5 p_f s4
noncomputable def m_eponymref19_Check (p_f : T_api_Family) : Option (Int × Int) :=
 Option.bind (m_eponymref01_Decode p_f.f_Name) fun y1 =>
 Option.bind (
  bif (((p_f.f_Name.size : Nat) : Int) == (0 : Int)) then
   some true
  else
   bif (decide (((p_f.f_Name.size : Nat) : Int) > (63 : Int))) then
    some true
   else
    some (y1.2.2 != (0 : Int)) : Option Bool) fun s2 =>
 m_eponymref19_Check_K3 p_f s2
noncomputable def m_eponymlaw01_Named (p_code : Int) : Option Er :=
 bif (p_code == (1 : Int)) then
  some (Er.sent 5)
 else
  bif (p_code == (2 : Int)) then
   some (Er.sent 9)
  else
   bif (p_code == (3 : Int)) then
    some (Er.sent 4)
   else
    bif (p_code == (4 : Int)) then
     some (Er.sent 3)
    else
     bif (p_code == (5 : Int)) then
      some (Er.sent 0)
     else
      bif (p_code == (6 : Int)) then
       some (Er.sent 7)
      else
       bif (p_code == (7 : Int)) then
        some (Er.sent 2)
       else
        bif (p_code == (8 : Int)) then
         some (Er.sent 10)
        else
         bif (p_code == (9 : Int)) then
          some (Er.sent 11)
         else
          bif (p_code == (10 : Int)) then
           some (Er.sent 12)
          else
           bif (p_code == (11 : Int)) then
            some (Er.sent 13)
           else
            bif (p_code == (12 : Int)) then
             some (Er.sent 14)
            else
             bif (p_code == (13 : Int)) then
              some (Er.sent 15)
             else
              bif (p_code == (14 : Int)) then
               some (Er.sent 16)
              else
               bif (p_code == (15 : Int)) then
                some (Er.sent 17)
               else
                bif (p_code == (16 : Int)) then
                 some (Er.sent 6)
                else
                 bif (p_code == (17 : Int)) then
                  some (Er.sent 18)
                 else
                  bif (p_code == (18 : Int)) then
                   some (Er.sent 1)
                  else
                   some Er.nil
noncomputable def m_eponymlaw01_Is (p_e : Er) (p_at : Int) (p_code : Int) : Option Bool :=
 bif (p_code == (0 : Int)) then
  some p_e.isNil
 else
  bif (!p_e.isNil) then
   bif p_e.isNil then
    some false
   else
    Option.bind (m_errors_As p_e) fun y1 =>
    bif (y1.1 == p_at) then
     Option.bind (m_eponymlaw01_Named p_code) fun y2 =>
     Option.bind (m_errors_Is p_e y2) fun y3 =>
     some y3
    else
     some false
  else
   some false
noncomputable def m_eponymlaw19_VariantsChecks (p_f : T_api_Family) : Option Bool :=
 Option.bind (m_eponymlaw19_awake) fun y1 =>
 bif (!y1) then
  some false
 else
  Option.bind (m_eponymlaw19_Great p_f) fun y2 =>
  bif y2 then
   some true
  else
   Option.bind (m_eponymref19_Check p_f) fun y3 =>
   Option.bind (m_variants_Check p_f) fun y4 =>
   Option.bind (m_eponymlaw01_Is y4 y3.1 y3.2) fun y5 =>
   some y5
end Go.Proofs.YtclhniadffljdaaDoor
