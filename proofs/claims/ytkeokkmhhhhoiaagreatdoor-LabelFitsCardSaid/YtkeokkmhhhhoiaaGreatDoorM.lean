/- Models of functions, printed by a program of ours. No condition. -/
import Derived.Test.YtkeokkmhhhhoiaaGreatDoorL
namespace Go.Proofs.YtkeokkmhhhhoiaaGreatDoor
open Go Go.SE
set_option linter.unusedVariables false
set_option linter.unusedSimpArgs false
structure T_api_Row where
 f_From : Int
 f_To : (List Int)
def d_api_Row : T_api_Row := ⟨0, []⟩
structure T_api_Range where
 f_Lo : Int
 f_Hi : Int
 f_Value : Int
def d_api_Range : T_api_Range := ⟨0, 0, 0⟩
structure T_api_Norm where
 f_Rows : (List T_api_Row)
 f_Classes : (List T_api_Range)
 f_Excluded : (List Int)
def d_api_Norm : T_api_Norm := ⟨[], [], []⟩
structure T_api_Props where
 f_Exceptions : (List T_api_Range)
 f_Unassigned : (List T_api_Range)
 f_Joiners : (List T_api_Range)
 f_OldHangul : (List T_api_Range)
 f_Unstable : (List T_api_Range)
 f_Ignorable : (List T_api_Range)
 f_Letters : (List T_api_Range)
 f_Joining : (List T_api_Range)
 f_Scripts : (List T_api_Range)
 f_Directions : (List T_api_Range)
 f_Marks : (List T_api_Range)
def d_api_Props : T_api_Props := ⟨[], [], [], [], [], [], [], [], [], [], []⟩
structure T_api_Pair where
 f_From : Int
 f_To : Int
def d_api_Pair : T_api_Pair := ⟨0, 0⟩
structure T_api_Tables where
 f_Norm : T_api_Norm
 f_Props : T_api_Props
 f_Lower : (List T_api_Pair)
def d_api_Tables : T_api_Tables := ⟨d_api_Norm, d_api_Props, []⟩
structure T_classes_column where
 f_l : (List T_api_Range)
 f_most : Int
def d_classes_column : T_classes_column := ⟨[], 0⟩
def e_L_i32 (l : (List Int)) : AV := .sl none l.length fun i => (AV.int .i32 (l.getD i 0))
def e_api_Row (x : T_api_Row) : AV := .agg [(.int .i32 x.f_From), (e_L_i32 x.f_To)]
def e_L_api_Row (l : (List T_api_Row)) : AV := .sl none l.length fun i => (e_api_Row (l.getD i d_api_Row))
def e_api_Range (x : T_api_Range) : AV := .agg [(.int .i32 x.f_Lo), (.int .i32 x.f_Hi), (.int .i64 x.f_Value)]
def e_L_api_Range (l : (List T_api_Range)) : AV := .sl none l.length fun i => (e_api_Range (l.getD i d_api_Range))
def e_api_Norm (x : T_api_Norm) : AV := .agg [(e_L_api_Row x.f_Rows), (e_L_api_Range x.f_Classes), (e_L_i32 x.f_Excluded)]
def e_api_Props (x : T_api_Props) : AV := .agg [(e_L_api_Range x.f_Exceptions), (e_L_api_Range x.f_Unassigned), (e_L_api_Range x.f_Joiners), (e_L_api_Range x.f_OldHangul), (e_L_api_Range x.f_Unstable), (e_L_api_Range x.f_Ignorable), (e_L_api_Range x.f_Letters), (e_L_api_Range x.f_Joining), (e_L_api_Range x.f_Scripts), (e_L_api_Range x.f_Directions), (e_L_api_Range x.f_Marks)]
def e_api_Pair (x : T_api_Pair) : AV := .agg [(.int .i32 x.f_From), (.int .i32 x.f_To)]
def e_L_api_Pair (l : (List T_api_Pair)) : AV := .sl none l.length fun i => (e_api_Pair (l.getD i d_api_Pair))
def e_api_Tables (x : T_api_Tables) : AV := .agg [(e_L_api_Row x.f_Norm.f_Rows), (e_L_api_Range x.f_Norm.f_Classes), (e_L_i32 x.f_Norm.f_Excluded), (e_L_api_Range x.f_Props.f_Exceptions), (e_L_api_Range x.f_Props.f_Unassigned), (e_L_api_Range x.f_Props.f_Joiners), (e_L_api_Range x.f_Props.f_OldHangul), (e_L_api_Range x.f_Props.f_Unstable), (e_L_api_Range x.f_Props.f_Ignorable), (e_L_api_Range x.f_Props.f_Letters), (e_L_api_Range x.f_Props.f_Joining), (e_L_api_Range x.f_Props.f_Scripts), (e_L_api_Range x.f_Props.f_Directions), (e_L_api_Range x.f_Props.f_Marks), (e_L_api_Pair x.f_Lower)]
def e_L_i64 (l : (List Int)) : AV := .sl none l.length fun i => (AV.int .i64 (l.getD i 0))
def e_A11_L_api_Range (x : (List (List T_api_Range))) : AV := .agg [(e_L_api_Range (x.getD 0 [])), (e_L_api_Range (x.getD 1 [])), (e_L_api_Range (x.getD 2 [])), (e_L_api_Range (x.getD 3 [])), (e_L_api_Range (x.getD 4 [])), (e_L_api_Range (x.getD 5 [])), (e_L_api_Range (x.getD 6 [])), (e_L_api_Range (x.getD 7 [])), (e_L_api_Range (x.getD 8 [])), (e_L_api_Range (x.getD 9 [])), (e_L_api_Range (x.getD 10 []))]
def e_classes_column (x : T_classes_column) : AV := .agg [(e_L_api_Range x.f_l), (.int .i64 x.f_most)]
def e_L_classes_column (l : (List T_classes_column)) : AV := .sl none l.length fun i => (e_classes_column (l.getD i d_classes_column))
noncomputable def m_eponymlaw10_known  : Option T_api_Tables :=
 some ({ f_Norm := ({ f_Rows := [], f_Classes := [], f_Excluded := [] } : T_api_Norm), f_Props := ({ f_Exceptions := [], f_Unassigned := [], f_Joiners := [], f_OldHangul := [], f_Unstable := [], f_Ignorable := [], f_Letters := [({ f_Lo := (252 : Int), f_Hi := (252 : Int), f_Value := (0 : Int) } : T_api_Range)], f_Joining := [], f_Scripts := [], f_Directions := [], f_Marks := [] } : T_api_Props), f_Lower := [({ f_From := (220 : Int), f_To := (252 : Int) } : T_api_Pair)] } : T_api_Tables)
noncomputable def m_utf_fault (p_at : Int) (p_e : Er) : Option Er :=
 some (Er.box 70 p_at p_e)
noncomputable def m_utf_first_K2 (p_b : Int) (s1 : Int) : Option (Int × Int × Int × Int) :=
 bif (p_b == (224 : Int)) then
  if 0 ≤ s1 then
   some (s1, (IntKind.wrap .i32 (iand .u8 p_b (Int.fdiv (63 : Int) (2 ^ (min (s1).toNat (IntKind.bits .u8)))))), (160 : Int), (191 : Int))
  else none
 else
  bif (p_b == (237 : Int)) then
   if 0 ≤ s1 then
    some (s1, (IntKind.wrap .i32 (iand .u8 p_b (Int.fdiv (63 : Int) (2 ^ (min (s1).toNat (IntKind.bits .u8)))))), (128 : Int), (159 : Int))
   else none
  else
   bif (p_b == (240 : Int)) then
    if 0 ≤ s1 then
     some (s1, (IntKind.wrap .i32 (iand .u8 p_b (Int.fdiv (63 : Int) (2 ^ (min (s1).toNat (IntKind.bits .u8)))))), (144 : Int), (191 : Int))
    else none
   else
    bif (p_b == (244 : Int)) then
     if 0 ≤ s1 then
      some (s1, (IntKind.wrap .i32 (iand .u8 p_b (Int.fdiv (63 : Int) (2 ^ (min (s1).toNat (IntKind.bits .u8)))))), (128 : Int), (143 : Int))
     else none
    else
     if 0 ≤ s1 then
      some (s1, (IntKind.wrap .i32 (iand .u8 p_b (Int.fdiv (63 : Int) (2 ^ (min (s1).toNat (IntKind.bits .u8)))))), (128 : Int), (191 : Int))
     else none
noncomputable def m_utf_first (p_b : Int) : Option (Int × Int × Int × Int) :=
 Option.bind (
  bif (decide (p_b ≥ (245 : Int))) then
   some (.inr ((-1 : Int), (0 : Int), (128 : Int), (191 : Int)))
  else
   bif (decide (p_b ≥ (240 : Int))) then
    some (.inl (IntKind.wrap .i64 ((IntKind.wrap .i64 ((IntKind.wrap .i64 ((0 : Int) + (1 : Int))) + (1 : Int))) + (1 : Int))))
   else
    bif (decide (p_b ≥ (224 : Int))) then
     some (.inl (IntKind.wrap .i64 ((IntKind.wrap .i64 ((0 : Int) + (1 : Int))) + (1 : Int))))
    else
     bif (decide (p_b ≥ (194 : Int))) then
      some (.inl (IntKind.wrap .i64 ((0 : Int) + (1 : Int))))
     else
      bif (decide (p_b ≥ (128 : Int))) then
       some (.inr ((-1 : Int), (0 : Int), (128 : Int), (191 : Int)))
      else
       some (.inr ((0 : Int), (IntKind.wrap .i32 p_b), (128 : Int), (191 : Int))) : Option (Sum Int (Int × Int × Int × Int))) fun z =>
 match z with
 | .inl s1 =>
  m_utf_first_K2 p_b s1
 | .inr (v3) =>
  some (v3.1, v3.2.1, v3.2.2.1, v3.2.2.2)
noncomputable def m_utf_Next_K14 (p_s : ByteArray) (p_at : Int) (s9 : Int × Int × Int × Int) (s13 : Bool) : Option (Stp (Int × Int × Int × Int) (Sum Int (Int × Int × Er))) :=
 bif s13 then
  Option.bind (m_utf_fault p_at (Er.sent 7)) fun y15 =>
  some (.done (.inr ((0 : Int), (0 : Int), y15)))
 else
  some (.next ((ior .i32 (IntKind.wrap .i32 (s9.1 * 64)) (IntKind.wrap .i32 (iand .u8 (bt p_s (IntKind.wrap .i64 (p_at + s9.2.2.2))) (63 : Int)))), (128 : Int), (191 : Int), (IntKind.wrap .i64 (s9.2.2.2 + (1 : Int)))))
noncomputable def m_utf_Next_L10 (p_s : ByteArray) (p_at : Int) (y4 : Int × Int × Int × Int) (s9 : Int × Int × Int × Int) : Option (Stp (Int × Int × Int × Int) (Sum Int (Int × Int × Er))) :=
 bif (decide (s9.2.2.2 ≤ y4.1)) then
  bif (decide ((IntKind.wrap .i64 (p_at + s9.2.2.2)) ≥ ((p_s.size : Nat) : Int))) then
   Option.bind (m_utf_fault p_at (Er.sent 11)) fun y12 =>
   some (.done (.inr ((0 : Int), (0 : Int), y12)))
  else
   if 0 ≤ (IntKind.wrap .i64 (p_at + s9.2.2.2)) ∧ (IntKind.wrap .i64 (p_at + s9.2.2.2)) < ((p_s.size : Nat) : Int) then
    Option.bind (
     bif (decide ((bt p_s (IntKind.wrap .i64 (p_at + s9.2.2.2))) < s9.2.1)) then
      some true
     else
      some (decide ((bt p_s (IntKind.wrap .i64 (p_at + s9.2.2.2))) > s9.2.2.1)) : Option Bool) fun s13 =>
    m_utf_Next_K14 p_s p_at s9 s13
   else none
 else
  some (.done (.inl s9.1))
noncomputable def m_utf_Next_K2 (p_s : ByteArray) (p_at : Int) (s1 : Bool) : Option (Int × Int × Er) :=
 bif s1 then
  Option.bind (m_utf_fault p_at (Er.sent 12)) fun y3 =>
  some ((0 : Int), (0 : Int), y3)
 else
  if 0 ≤ p_at ∧ p_at < ((p_s.size : Nat) : Int) then
   Option.bind (m_utf_first (bt p_s p_at)) fun y4 =>
   bif (decide (y4.1 < (0 : Int))) then
    Option.bind (m_utf_fault p_at (Er.sent 7)) fun y5 =>
    some ((0 : Int), (0 : Int), y5)
   else
    Option.bind (
     iter (m_utf_Next_L10 p_s p_at y4) (y4.2.1, y4.2.2.1, y4.2.2.2, (1 : Int)) : Option (Sum Int (Int × Int × Er))) fun z =>
    match z with
    | .inl s6 =>
     some (s6, (IntKind.wrap .i64 (y4.1 + (1 : Int))), Er.nil)
    | .inr (v18) =>
     some (v18.1, v18.2.1, v18.2.2)
  else none
noncomputable def m_utf_Next (p_s : ByteArray) (p_at : Int) : Option (Int × Int × Er) :=
 Option.bind (
  bif (decide (p_at < (0 : Int))) then
   some true
  else
   some (decide (p_at ≥ ((p_s.size : Nat) : Int))) : Option Bool) fun s1 =>
 m_utf_Next_K2 p_s p_at s1
noncomputable def m_utf_Decode_L5 (p_s : ByteArray) (s4 : (List Int) × Int) : Option (Stp ((List Int) × Int) (Sum (List Int) ((List Int) × Er))) :=
 bif (decide (s4.2 < ((p_s.size : Nat) : Int))) then
  Option.bind (m_utf_Next p_s s4.2) fun y7 =>
  bif (!y7.2.2.isNil) then
   some (.done (.inr ([], y7.2.2)))
  else
   if (s4.1.length + 1) * 4 ≤ 140737488355328 then
    some (.next ((s4.1 ++ [y7.1]), (IntKind.wrap .i64 (s4.2 + y7.2.1))))
   else none
 else
  some (.done (.inl s4.1))
noncomputable def m_utf_Decode (p_s : ByteArray) : Option ((List Int) × Er) :=
 Option.bind (
  iter (m_utf_Decode_L5 p_s) ([], (0 : Int)) : Option (Sum (List Int) ((List Int) × Er))) fun z =>
 match z with
 | .inl s1 =>
  some (s1, Er.nil)
 | .inr (v10) =>
  some (v10.1, v10.2)
noncomputable def m_label_capital (p_r : Int) : Option Bool :=
 bif (decide (p_r ≥ (65 : Int))) then
  some (decide (p_r ≤ (90 : Int)))
 else
  some false
noncomputable def m_label_lower_1 (p_k : Int) (p_a1 : (List T_api_Pair)) (p_a2 : Int) : Option Bool :=
 if 0 ≤ p_k ∧ p_k < ((p_a1.length : Nat) : Int) then
  some (decide ((p_a1.getD (p_k.toNat) d_api_Pair).f_From ≥ p_a2))
 else none
noncomputable def m_sort_Search_label_lower_1_L5 (p_f : (List T_api_Pair)) (p_a2 : Int) (s4 : Int × Int) : Option (Stp (Int × Int) Int) :=
 bif (decide (s4.1 < s4.2)) then
  Option.bind (m_label_lower_1 (IntKind.wrap .i64 (Int.fdiv (IntKind.wrap .u64 (IntKind.wrap .i64 (s4.1 + s4.2))) 2)) p_f p_a2) fun y7 =>
  bif (!y7) then
   some (.next ((IntKind.wrap .i64 ((IntKind.wrap .i64 (Int.fdiv (IntKind.wrap .u64 (IntKind.wrap .i64 (s4.1 + s4.2))) 2)) + (1 : Int))), s4.2))
  else
   some (.next (s4.1, (IntKind.wrap .i64 (Int.fdiv (IntKind.wrap .u64 (IntKind.wrap .i64 (s4.1 + s4.2))) 2))))
 else
  some (.done s4.1)
noncomputable def m_sort_Search_label_lower_1 (p_n : Int) (p_f : (List T_api_Pair)) (p_a2 : Int) : Option Int :=
 Option.bind (
  iter (m_sort_Search_label_lower_1_L5 p_f p_a2) ((0 : Int), p_n) : Option Int) fun s1 =>
 some s1
noncomputable def m_label_lower_K3 (p_l : (List T_api_Pair)) (p_r : Int) (y1 : Int) (s2 : Bool) : Option (Int × Bool) :=
 bif s2 then
  some (p_r, false)
 else
  if 0 ≤ y1 ∧ y1 < ((p_l.length : Nat) : Int) then
   some ((p_l.getD (y1.toNat) d_api_Pair).f_To, true)
  else none
noncomputable def m_label_lower (p_l : (List T_api_Pair)) (p_r : Int) : Option (Int × Bool) :=
 Option.bind (m_sort_Search_label_lower_1 ((p_l.length : Nat) : Int) p_l p_r) fun y1 =>
 Option.bind (
  bif (y1 == ((p_l.length : Nat) : Int)) then
   some true
  else
   if 0 ≤ y1 ∧ y1 < ((p_l.length : Nat) : Int) then
    some ((p_l.getD (y1.toNat) d_api_Pair).f_From != p_r)
   else none : Option Bool) fun s2 =>
 m_label_lower_K3 p_l p_r y1 s2
noncomputable def m_decomp_hangul_K8  (s7 : Bool) : Option Int :=
 bif s7 then
  some (4 : Int)
 else
  some (0 : Int)
noncomputable def m_decomp_hangul_K6 (p_r : Int) (s5 : Bool) : Option Int :=
 bif s5 then
  some (3 : Int)
 else
  Option.bind (
   bif (decide (p_r ≥ (44032 : Int))) then
    some (decide (p_r < (55204 : Int)))
   else
    some false : Option Bool) fun s7 =>
  m_decomp_hangul_K8 s7
noncomputable def m_decomp_hangul_K4 (p_r : Int) (s3 : Bool) : Option Int :=
 bif s3 then
  some (2 : Int)
 else
  Option.bind (
   bif (decide (p_r > (4519 : Int))) then
    some (decide (p_r < (4547 : Int)))
   else
    some false : Option Bool) fun s5 =>
  m_decomp_hangul_K6 p_r s5
noncomputable def m_decomp_hangul_K2 (p_r : Int) (s1 : Bool) : Option Int :=
 bif s1 then
  some (1 : Int)
 else
  Option.bind (
   bif (decide (p_r ≥ (4449 : Int))) then
    some (decide (p_r < (4470 : Int)))
   else
    some false : Option Bool) fun s3 =>
  m_decomp_hangul_K4 p_r s3
noncomputable def m_decomp_hangul (p_r : Int) : Option Int :=
 Option.bind (
  bif (decide (p_r ≥ (4352 : Int))) then
   some (decide (p_r < (4371 : Int)))
  else
   some false : Option Bool) fun s1 =>
 m_decomp_hangul_K2 p_r s1
noncomputable def m_decomp_find_1 (p_k : Int) (p_a1 : T_api_Norm) (p_a2 : Int) : Option Bool :=
 if 0 ≤ p_k ∧ p_k < ((p_a1.f_Rows.length : Nat) : Int) then
  some (decide ((p_a1.f_Rows.getD (p_k.toNat) d_api_Row).f_From ≥ p_a2))
 else none
noncomputable def m_sort_Search_decomp_find_1_L5 (p_f : T_api_Norm) (p_a2 : Int) (s4 : Int × Int) : Option (Stp (Int × Int) Int) :=
 bif (decide (s4.1 < s4.2)) then
  Option.bind (m_decomp_find_1 (IntKind.wrap .i64 (Int.fdiv (IntKind.wrap .u64 (IntKind.wrap .i64 (s4.1 + s4.2))) 2)) p_f p_a2) fun y7 =>
  bif (!y7) then
   some (.next ((IntKind.wrap .i64 ((IntKind.wrap .i64 (Int.fdiv (IntKind.wrap .u64 (IntKind.wrap .i64 (s4.1 + s4.2))) 2)) + (1 : Int))), s4.2))
  else
   some (.next (s4.1, (IntKind.wrap .i64 (Int.fdiv (IntKind.wrap .u64 (IntKind.wrap .i64 (s4.1 + s4.2))) 2))))
 else
  some (.done s4.1)
noncomputable def m_sort_Search_decomp_find_1 (p_n : Int) (p_f : T_api_Norm) (p_a2 : Int) : Option Int :=
 Option.bind (
  iter (m_sort_Search_decomp_find_1_L5 p_f p_a2) ((0 : Int), p_n) : Option Int) fun s1 =>
 some s1
noncomputable def m_decomp_find_K3 (y1 : Int) (s2 : Bool) : Option Int :=
 bif s2 then
  some (-1 : Int)
 else
  some y1
noncomputable def m_decomp_find (p_t : T_api_Norm) (p_r : Int) : Option Int :=
 Option.bind (m_sort_Search_decomp_find_1 ((p_t.f_Rows.length : Nat) : Int) p_t p_r) fun y1 =>
 Option.bind (
  bif (y1 == ((p_t.f_Rows.length : Nat) : Int)) then
   some true
  else
   if 0 ≤ y1 ∧ y1 < ((p_t.f_Rows.length : Nat) : Int) then
    some ((p_t.f_Rows.getD (y1.toNat) d_api_Row).f_From != p_r)
   else none : Option Bool) fun s2 =>
 m_decomp_find_K3 y1 s2
noncomputable def m_slices_Reverse_rune_rune_own_L3  (s2 : (List Int) × Int × Int) : Option (Stp ((List Int) × Int × Int) (List Int)) :=
 bif (decide (s2.2.1 < s2.2.2)) then
  if 0 ≤ s2.2.2 ∧ s2.2.2 < ((s2.1.length : Nat) : Int) then
   if 0 ≤ s2.2.1 ∧ s2.2.1 < ((s2.1.length : Nat) : Int) then
    if 0 ≤ s2.2.1 ∧ s2.2.1 < ((s2.1.length : Nat) : Int) then
     if 0 ≤ s2.2.2 ∧ s2.2.2 < ((s2.1.length : Nat) : Int) then
      some (.next (((s2.1.set (s2.2.1.toNat) (s2.1.getD (s2.2.2.toNat) 0)).set (s2.2.2.toNat) (s2.1.getD (s2.2.1.toNat) 0)), (IntKind.wrap .i64 (s2.2.1 + (1 : Int))), (IntKind.wrap .i64 (s2.2.2 - (1 : Int)))))
     else none
    else none
   else none
  else none
 else
  some (.done s2.1)
noncomputable def m_slices_Reverse_rune_rune_own (p_s : (List Int)) : Option (List Int) :=
 Option.bind (iter (m_slices_Reverse_rune_rune_own_L3) (p_s, (0 : Int), (IntKind.wrap .i64 (((p_s.length : Nat) : Int) - (1 : Int))))) fun s5 =>
 some s5
noncomputable def m_decomp_One_K3  (s2 : Int × (List Int)) : Option (List Int) :=
 Option.bind (m_slices_Reverse_rune_rune_own s2.2) fun y4 =>
 if y4.length = s2.2.length then
  if (1 + s2.2.length) * 4 ≤ 140737488355328 then
   some ([s2.1] ++ y4)
  else none
 else none
noncomputable def m_decomp_One_K11 (p_t : T_api_Norm) (s6 : Int × (List Int) × Int) (y9 : Int) (s10 : Bool) : Option (Stp (Int × (List Int) × Int) (Int × (List Int))) :=
 bif s10 then
  some (.done (s6.1, s6.2.1))
 else
  if 0 ≤ y9 ∧ y9 < ((p_t.f_Rows.length : Nat) : Int) then
   bif ((((p_t.f_Rows.getD (y9.toNat) d_api_Row).f_To.length : Nat) : Int) == (2 : Int)) then
    if 0 ≤ (1 : Int) ∧ (1 : Int) < (((p_t.f_Rows.getD (y9.toNat) d_api_Row).f_To.length : Nat) : Int) then
     if (s6.2.1.length + 1) * 4 ≤ 140737488355328 then
      if 0 ≤ (0 : Int) ∧ (0 : Int) < (((p_t.f_Rows.getD (y9.toNat) d_api_Row).f_To.length : Nat) : Int) then
       some (.next (((p_t.f_Rows.getD (y9.toNat) d_api_Row).f_To.getD 0 0), (s6.2.1 ++ [((p_t.f_Rows.getD (y9.toNat) d_api_Row).f_To.getD 1 0)]), (IntKind.wrap .i64 (s6.2.2 + (1 : Int)))))
      else none
     else none
    else none
   else
    if 0 ≤ (0 : Int) ∧ (0 : Int) < (((p_t.f_Rows.getD (y9.toNat) d_api_Row).f_To.length : Nat) : Int) then
     some (.next (((p_t.f_Rows.getD (y9.toNat) d_api_Row).f_To.getD 0 0), s6.2.1, (IntKind.wrap .i64 (s6.2.2 + (1 : Int)))))
    else none
  else none
noncomputable def m_decomp_One_L7 (p_t : T_api_Norm) (s6 : Int × (List Int) × Int) : Option (Stp (Int × (List Int) × Int) (Int × (List Int))) :=
 bif (decide (s6.2.2 ≤ (8 : Int))) then
  Option.bind (m_decomp_find p_t s6.1) fun y9 =>
  Option.bind (
   bif (decide (y9 < (0 : Int))) then
    some true
   else
    if 0 ≤ y9 ∧ y9 < ((p_t.f_Rows.length : Nat) : Int) then
     some ((((p_t.f_Rows.getD (y9.toNat) d_api_Row).f_To.length : Nat) : Int) == (0 : Int))
    else none : Option Bool) fun s10 =>
  m_decomp_One_K11 p_t s6 y9 s10
 else
  some (.done (s6.1, s6.2.1))
noncomputable def m_decomp_One (p_t : T_api_Norm) (p_r : Int) : Option (List Int) :=
 Option.bind (m_decomp_hangul p_r) fun y1 =>
 bif (y1 == (4 : Int)) then
  bif (decide ((Int.tmod (IntKind.wrap .i64 ((IntKind.wrap .i64 p_r) - (44032 : Int))) (28 : Int)) > (0 : Int))) then
   some ([(IntKind.wrap .i32 (IntKind.wrap .i64 ((4352 : Int) + (IntKind.wrap .i64 (Int.tdiv (IntKind.wrap .i64 ((IntKind.wrap .i64 p_r) - (44032 : Int))) (588 : Int)))))), (IntKind.wrap .i32 (IntKind.wrap .i64 ((4449 : Int) + (Int.tmod (IntKind.wrap .i64 (Int.tdiv (IntKind.wrap .i64 ((IntKind.wrap .i64 p_r) - (44032 : Int))) (28 : Int))) (21 : Int)))))] ++ [(IntKind.wrap .i32 (IntKind.wrap .i64 ((4519 : Int) + (Int.tmod (IntKind.wrap .i64 ((IntKind.wrap .i64 p_r) - (44032 : Int))) (28 : Int)))))])
  else
   some [(IntKind.wrap .i32 (IntKind.wrap .i64 ((4352 : Int) + (IntKind.wrap .i64 (Int.tdiv (IntKind.wrap .i64 ((IntKind.wrap .i64 p_r) - (44032 : Int))) (588 : Int)))))), (IntKind.wrap .i32 (IntKind.wrap .i64 ((4449 : Int) + (Int.tmod (IntKind.wrap .i64 (Int.tdiv (IntKind.wrap .i64 ((IntKind.wrap .i64 p_r) - (44032 : Int))) (28 : Int))) (21 : Int)))))]
 else
  Option.bind (
   iter (m_decomp_One_L7 p_t) (p_r, [], (0 : Int)) : Option (Int × (List Int))) fun s2 =>
  m_decomp_One_K3 s2
noncomputable def m_slices_Clone_rune_rune_own_som (p_s : (List Int)) : Option (List Int) :=
 if (0 + p_s.length) * 4 ≤ 140737488355328 then
  some p_s
 else none
noncomputable def m_slices_Clone_rune_rune_own_nil  : Option (List Int) :=
 some []
noncomputable def m_slices_Clone_rune_rune_own (p_s : (List Int)) : Option (List Int) := m_slices_Clone_rune_rune_own_som p_s
noncomputable def m_ranges_Find_1 (p_k : Int) (p_a1 : (List T_api_Range)) (p_a2 : Int) : Option Bool :=
 if 0 ≤ p_k ∧ p_k < ((p_a1.length : Nat) : Int) then
  some (decide ((p_a1.getD (p_k.toNat) d_api_Range).f_Hi ≥ p_a2))
 else none
noncomputable def m_sort_Search_ranges_Find_1_L5 (p_f : (List T_api_Range)) (p_a2 : Int) (s4 : Int × Int) : Option (Stp (Int × Int) Int) :=
 bif (decide (s4.1 < s4.2)) then
  Option.bind (m_ranges_Find_1 (IntKind.wrap .i64 (Int.fdiv (IntKind.wrap .u64 (IntKind.wrap .i64 (s4.1 + s4.2))) 2)) p_f p_a2) fun y7 =>
  bif (!y7) then
   some (.next ((IntKind.wrap .i64 ((IntKind.wrap .i64 (Int.fdiv (IntKind.wrap .u64 (IntKind.wrap .i64 (s4.1 + s4.2))) 2)) + (1 : Int))), s4.2))
  else
   some (.next (s4.1, (IntKind.wrap .i64 (Int.fdiv (IntKind.wrap .u64 (IntKind.wrap .i64 (s4.1 + s4.2))) 2))))
 else
  some (.done s4.1)
noncomputable def m_sort_Search_ranges_Find_1 (p_n : Int) (p_f : (List T_api_Range)) (p_a2 : Int) : Option Int :=
 Option.bind (
  iter (m_sort_Search_ranges_Find_1_L5 p_f p_a2) ((0 : Int), p_n) : Option Int) fun s1 =>
 some s1
noncomputable def m_ranges_Find_K3 (p_l : (List T_api_Range)) (y1 : Int) (s2 : Bool) : Option (Int × Bool) :=
 bif s2 then
  some ((0 : Int), false)
 else
  if 0 ≤ y1 ∧ y1 < ((p_l.length : Nat) : Int) then
   some ((p_l.getD (y1.toNat) d_api_Range).f_Value, true)
  else none
noncomputable def m_ranges_Find (p_l : (List T_api_Range)) (p_r : Int) : Option (Int × Bool) :=
 Option.bind (m_sort_Search_ranges_Find_1 ((p_l.length : Nat) : Int) p_l p_r) fun y1 =>
 Option.bind (
  bif (y1 == ((p_l.length : Nat) : Int)) then
   some true
  else
   if 0 ≤ y1 ∧ y1 < ((p_l.length : Nat) : Int) then
    some (decide ((p_l.getD (y1.toNat) d_api_Range).f_Lo > p_r))
   else none : Option Bool) fun s2 =>
 m_ranges_Find_K3 p_l y1 s2
noncomputable def m_decomp_Class (p_t : T_api_Norm) (p_r : Int) : Option Int :=
 Option.bind (m_ranges_Find p_t.f_Classes p_r) fun y1 =>
 some y1.1
noncomputable def m_decomp_Order_1 (p_a : Int) (p_b : Int) (p_a2 : T_api_Norm) : Option Int :=
 Option.bind (m_decomp_Class p_a2 p_a) fun y1 =>
 Option.bind (m_decomp_Class p_a2 p_b) fun y2 =>
 some (IntKind.wrap .i64 (y1 - y2))
noncomputable def m_slices_insertionSortCmpFunc_rune_own_K12 (p_data_o : Nat) (p_data_n : Nat) (s8 : (List Int) × Int) (s11 : Bool) : Option (Stp ((List Int) × Int) (List Int)) :=
 bif s11 then
  if 0 ≤ (IntKind.wrap .i64 (s8.2 - (1 : Int))) ∧ (IntKind.wrap .i64 (s8.2 - (1 : Int))) < ((p_data_n : Nat) : Int) then
   if 0 ≤ s8.2 ∧ s8.2 < ((p_data_n : Nat) : Int) then
    if 0 ≤ s8.2 ∧ s8.2 < ((p_data_n : Nat) : Int) then
     if 0 ≤ (IntKind.wrap .i64 (s8.2 - (1 : Int))) ∧ (IntKind.wrap .i64 (s8.2 - (1 : Int))) < ((p_data_n : Nat) : Int) then
      some (.next (((s8.1.set (p_data_o + (s8.2.toNat)) (s8.1.getD (p_data_o + ((IntKind.wrap .i64 (s8.2 - (1 : Int))).toNat)) 0)).set (p_data_o + ((IntKind.wrap .i64 (s8.2 - (1 : Int))).toNat)) (s8.1.getD (p_data_o + (s8.2.toNat)) 0)), (IntKind.wrap .i64 (s8.2 - (1 : Int)))))
     else none
    else none
   else none
  else none
 else
  some (.done s8.1)
noncomputable def m_slices_insertionSortCmpFunc_rune_own_L9 (p_data_o : Nat) (p_data_n : Nat) (p_a : Int) (p_cmp_0 : T_api_Norm) (s8 : (List Int) × Int) : Option (Stp ((List Int) × Int) (List Int)) :=
 Option.bind (
  bif (decide (s8.2 > p_a)) then
   if 0 ≤ s8.2 ∧ s8.2 < ((p_data_n : Nat) : Int) then
    if 0 ≤ (IntKind.wrap .i64 (s8.2 - (1 : Int))) ∧ (IntKind.wrap .i64 (s8.2 - (1 : Int))) < ((p_data_n : Nat) : Int) then
     Option.bind (m_decomp_Order_1 (s8.1.getD (p_data_o + (s8.2.toNat)) 0) (s8.1.getD (p_data_o + ((IntKind.wrap .i64 (s8.2 - (1 : Int))).toNat)) 0) p_cmp_0) fun y13 =>
     some (decide (y13 < (0 : Int)))
    else none
   else none
  else
   some false : Option Bool) fun s11 =>
 m_slices_insertionSortCmpFunc_rune_own_K12 p_data_o p_data_n s8 s11
noncomputable def m_slices_insertionSortCmpFunc_rune_own_L3 (p_data_o : Nat) (p_data_n : Nat) (p_a : Int) (p_b : Int) (p_cmp_0 : T_api_Norm) (s2 : (List Int) × Int) : Option (Stp ((List Int) × Int) (List Int)) :=
 bif (decide (s2.2 < p_b)) then
  Option.bind (
   iter (m_slices_insertionSortCmpFunc_rune_own_L9 p_data_o p_data_n p_a p_cmp_0) (s2.1, s2.2) : Option (List Int)) fun s5 =>
  some (.next (s5, (IntKind.wrap .i64 (s2.2 + (1 : Int)))))
 else
  some (.done s2.1)
noncomputable def m_slices_insertionSortCmpFunc_rune_own (p_data : (List Int)) (p_data_o : Nat) (p_data_n : Nat) (p_a : Int) (p_b : Int) (p_cmp_0 : T_api_Norm) : Option (List Int) :=
 Option.bind (iter (m_slices_insertionSortCmpFunc_rune_own_L3 p_data_o p_data_n p_a p_b p_cmp_0) (p_data, (IntKind.wrap .i64 (p_a + (1 : Int))))) fun s15 =>
 some s15
noncomputable def m_slices_stableCmpFunc_rune_own_K9 (p_n : Int) (s5 : Int) (s8 : Unit) : Option (Stp Int Unit) :=
 bif (decide ((IntKind.wrap .i64 ((0 : Int) + s5)) < p_n)) then
  none
 else
  some (.next (IntKind.wrap .i64 (s5 * (2 : Int))))
noncomputable def m_slices_stableCmpFunc_rune_own_L11 (p_n : Int) (s5 : Int) (s10 : Unit) : Option (Stp Unit Unit) :=
 bif (decide ((IntKind.wrap .i64 ((2 : Int) * s5)) ≤ p_n)) then
  none
 else
  some (.done ())
noncomputable def m_slices_stableCmpFunc_rune_own_L6 (p_n : Int) (s5 : Int) : Option (Stp Int Unit) :=
 bif (decide (s5 < p_n)) then
  Option.bind (
   iter (m_slices_stableCmpFunc_rune_own_L11 p_n s5) () : Option Unit) fun s8 =>
  m_slices_stableCmpFunc_rune_own_K9 p_n s5 s8
 else
  some (.done ())
noncomputable def m_slices_stableCmpFunc_rune_own_K2 (p_data_o : Nat) (p_data_n : Nat) (p_n : Int) (p_cmp_0 : T_api_Norm) (s1 : (List Int) × Int) : Option (List Int) :=
 Option.bind (m_slices_insertionSortCmpFunc_rune_own s1.1 p_data_o p_data_n s1.2 p_n p_cmp_0) fun y3 =>
 if y3.length = s1.1.length then
  Option.bind (iter (m_slices_stableCmpFunc_rune_own_L6 p_n) (20 : Int)) fun s14 =>
  some y3
 else none
noncomputable def m_slices_stableCmpFunc_rune_own_L17 (p_data_o : Nat) (p_data_n : Nat) (p_n : Int) (p_cmp_0 : T_api_Norm) (s16 : (List Int) × Int × Int) : Option (Stp ((List Int) × Int × Int) ((List Int) × Int)) :=
 bif (decide (s16.2.2 ≤ p_n)) then
  Option.bind (m_slices_insertionSortCmpFunc_rune_own s16.1 p_data_o p_data_n s16.2.1 s16.2.2 p_cmp_0) fun y19 =>
  if y19.length = s16.1.length then
   some (.next (y19, s16.2.2, (IntKind.wrap .i64 (s16.2.2 + (20 : Int)))))
  else none
 else
  some (.done (s16.1, s16.2.1))
noncomputable def m_slices_stableCmpFunc_rune_own (p_data : (List Int)) (p_data_o : Nat) (p_data_n : Nat) (p_n : Int) (p_cmp_0 : T_api_Norm) : Option (List Int) :=
 Option.bind (
  iter (m_slices_stableCmpFunc_rune_own_L17 p_data_o p_data_n p_n p_cmp_0) (p_data, (0 : Int), (20 : Int)) : Option ((List Int) × Int)) fun s1 =>
 m_slices_stableCmpFunc_rune_own_K2 p_data_o p_data_n p_n p_cmp_0 s1
noncomputable def m_slices_SortStableFunc_rune_rune_own (p_x : (List Int)) (p_x_o : Nat) (p_x_n : Nat) (p_cmp_0 : T_api_Norm) : Option (List Int) :=
 Option.bind (m_slices_stableCmpFunc_rune_own p_x p_x_o p_x_n ((p_x_n : Nat) : Int) p_cmp_0) fun y1 =>
 if y1.length = p_x.length then
  some y1
 else none
noncomputable def m_decomp_Order_K9 (p_t : T_api_Norm) (s5 : (List Int) × Int) (s8 : Int) : Option (Stp ((List Int) × Int) (List Int)) :=
 if 0 ≤ s5.2 ∧ s5.2 ≤ s8 ∧ s8 ≤ ((s5.1.length : Nat) : Int) then
  Option.bind (m_slices_SortStableFunc_rune_rune_own s5.1 (s5.2.toNat) ((s8.toNat) - (s5.2.toNat)) p_t) fun y10 =>
  if y10.length = s5.1.length then
   some (.next (y10, (IntKind.wrap .i64 (s8 + (1 : Int)))))
  else none
 else none
noncomputable def m_decomp_Order_K16 (s12 : Int) (s15 : Bool) : Option (Stp Int Int) :=
 bif s15 then
  some (.next (IntKind.wrap .i64 (s12 + (1 : Int))))
 else
  some (.done s12)
noncomputable def m_decomp_Order_L13 (p_t : T_api_Norm) (s5 : (List Int) × Int) (s12 : Int) : Option (Stp Int Int) :=
 Option.bind (
  bif (decide (s12 < ((s5.1.length : Nat) : Int))) then
   if 0 ≤ s12 ∧ s12 < ((s5.1.length : Nat) : Int) then
    Option.bind (m_decomp_Class p_t (s5.1.getD (s12.toNat) 0)) fun y17 =>
    some (decide (y17 > (0 : Int)))
   else none
  else
   some false : Option Bool) fun s15 =>
 m_decomp_Order_K16 s12 s15
noncomputable def m_decomp_Order_L6 (p_t : T_api_Norm) (s5 : (List Int) × Int) : Option (Stp ((List Int) × Int) (List Int)) :=
 bif (decide (s5.2 < ((s5.1.length : Nat) : Int))) then
  Option.bind (
   iter (m_decomp_Order_L13 p_t s5) s5.2 : Option Int) fun s8 =>
  m_decomp_Order_K9 p_t s5 s8
 else
  some (.done s5.1)
noncomputable def m_decomp_Order (p_t : T_api_Norm) (p_l : (List Int)) : Option (List Int) :=
 Option.bind (m_slices_Clone_rune_rune_own p_l) fun y1 =>
 Option.bind (
  iter (m_decomp_Order_L6 p_t) (y1, (0 : Int)) : Option (List Int)) fun s2 =>
 some s2
noncomputable def m_decomp_All_K2 (p_t : T_api_Norm) (s1 : (List Int)) : Option (List Int) :=
 Option.bind (m_decomp_Order p_t s1) fun y3 =>
 some y3
noncomputable def m_decomp_All_L6 (p_t : T_api_Norm) (p_l : (List Int)) (s5 : (List Int) × Int) : Option (Stp ((List Int) × Int) (List Int)) :=
 bif (decide (s5.2 < ((p_l.length : Nat) : Int))) then
  if 0 ≤ s5.2 ∧ s5.2 < ((p_l.length : Nat) : Int) then
   Option.bind (m_decomp_One p_t (p_l.getD (s5.2.toNat) 0)) fun y8 =>
   if (s5.1.length + y8.length) * 4 ≤ 140737488355328 then
    some (.next ((s5.1 ++ y8), (IntKind.wrap .i64 (s5.2 + (1 : Int)))))
   else none
  else none
 else
  some (.done s5.1)
noncomputable def m_decomp_All (p_t : T_api_Norm) (p_l : (List Int)) : Option (List Int) :=
 Option.bind (
  iter (m_decomp_All_L6 p_t p_l) ([], (0 : Int)) : Option (List Int)) fun s1 =>
 m_decomp_All_K2 p_t s1
noncomputable def m_comp_within (p_r : Int) (p_from : Int) (p_many : Int) : Option Bool :=
 bif (decide (p_r ≥ p_from)) then
  some (decide ((IntKind.wrap .i64 (IntKind.wrap .i32 (p_r - p_from))) < p_many))
 else
  some false
noncomputable def m_comp_open (p_r : Int) : Option Bool :=
 Option.bind (m_comp_within p_r (44032 : Int) (11172 : Int)) fun y1 =>
 bif y1 then
  some ((Int.tmod (IntKind.wrap .i32 (p_r - (44032 : Int))) (28 : Int)) == (0 : Int))
 else
  some false
noncomputable def m_comp_hangul_K4 (p_a : Int) (p_b : Int) (s3 : Bool) : Option (Int × Bool) :=
 bif s3 then
  some ((IntKind.wrap .i32 ((IntKind.wrap .i32 (p_a + p_b)) - (4519 : Int))), true)
 else
  some ((0 : Int), false)
noncomputable def m_comp_hangul_K2 (p_a : Int) (p_b : Int) (s1 : Bool) : Option (Int × Bool) :=
 bif s1 then
  some ((IntKind.wrap .i32 ((44032 : Int) + (IntKind.wrap .i32 ((IntKind.wrap .i32 ((IntKind.wrap .i32 ((IntKind.wrap .i32 ((IntKind.wrap .i32 (p_a - (4352 : Int))) * (21 : Int))) + p_b)) - (4449 : Int))) * (28 : Int))))), true)
 else
  Option.bind (
   Option.bind (m_comp_open p_a) fun y5 =>
   bif y5 then
    Option.bind (m_comp_within p_b (4520 : Int) (27 : Int)) fun y6 =>
    some y6
   else
    some false : Option Bool) fun s3 =>
  m_comp_hangul_K4 p_a p_b s3
noncomputable def m_comp_hangul (p_a : Int) (p_b : Int) : Option (Int × Bool) :=
 Option.bind (
  Option.bind (m_comp_within p_a (4352 : Int) (19 : Int)) fun y7 =>
  bif y7 then
   Option.bind (m_comp_within p_b (4449 : Int) (21 : Int)) fun y8 =>
   some y8
  else
   some false : Option Bool) fun s1 =>
 m_comp_hangul_K2 p_a p_b s1
noncomputable def m_cmp_isNaN_rune (p_x : Int) : Option Bool :=
 some (p_x != p_x)
noncomputable def m_cmp_Less_rune (p_x : Int) (p_y : Int) : Option Bool :=
 Option.bind (m_cmp_isNaN_rune p_x) fun y1 =>
 bif y1 then
  Option.bind (m_cmp_isNaN_rune p_y) fun y2 =>
  bif (!y2) then
   some true
  else
   some (decide (p_x < p_y))
 else
  some (decide (p_x < p_y))
noncomputable def m_slices_isNaN_rune (p_x : Int) : Option Bool :=
 some (p_x != p_x)
noncomputable def m_slices_BinarySearch_rune_rune_K2 (p_x : (List Int)) (p_target : Int) (s1 : Int) : Option (Int × Bool) :=
 bif (decide (s1 < ((p_x.length : Nat) : Int))) then
  if 0 ≤ s1 ∧ s1 < ((p_x.length : Nat) : Int) then
   bif ((p_x.getD (s1.toNat) 0) == p_target) then
    some (s1, true)
   else
    if 0 ≤ s1 ∧ s1 < ((p_x.length : Nat) : Int) then
     Option.bind (m_slices_isNaN_rune (p_x.getD (s1.toNat) 0)) fun y3 =>
     bif y3 then
      Option.bind (m_slices_isNaN_rune p_target) fun y4 =>
      some (s1, y4)
     else
      some (s1, false)
    else none
  else none
 else
  some (s1, false)
noncomputable def m_slices_BinarySearch_rune_rune_L7 (p_x : (List Int)) (p_target : Int) (s6 : Int × Int) : Option (Stp (Int × Int) Int) :=
 bif (decide (s6.1 < s6.2)) then
  if 0 ≤ (IntKind.wrap .i64 (Int.fdiv (IntKind.wrap .u64 (IntKind.wrap .i64 (s6.1 + s6.2))) 2)) ∧ (IntKind.wrap .i64 (Int.fdiv (IntKind.wrap .u64 (IntKind.wrap .i64 (s6.1 + s6.2))) 2)) < ((p_x.length : Nat) : Int) then
   Option.bind (m_cmp_Less_rune (p_x.getD ((IntKind.wrap .i64 (Int.fdiv (IntKind.wrap .u64 (IntKind.wrap .i64 (s6.1 + s6.2))) 2)).toNat) 0) p_target) fun y9 =>
   bif y9 then
    some (.next ((IntKind.wrap .i64 ((IntKind.wrap .i64 (Int.fdiv (IntKind.wrap .u64 (IntKind.wrap .i64 (s6.1 + s6.2))) 2)) + (1 : Int))), s6.2))
   else
    some (.next (s6.1, (IntKind.wrap .i64 (Int.fdiv (IntKind.wrap .u64 (IntKind.wrap .i64 (s6.1 + s6.2))) 2))))
  else none
 else
  some (.done s6.1)
noncomputable def m_slices_BinarySearch_rune_rune (p_x : (List Int)) (p_target : Int) : Option (Int × Bool) :=
 Option.bind (
  iter (m_slices_BinarySearch_rune_rune_L7 p_x p_target) ((0 : Int), ((p_x.length : Nat) : Int)) : Option Int) fun s1 =>
 m_slices_BinarySearch_rune_rune_K2 p_x p_target s1
noncomputable def m_decomp_Composes_K2 (p_t : T_api_Norm) (p_row : Int) (s1 : Bool) : Option Bool :=
 bif s1 then
  some false
 else
  if 0 ≤ p_row ∧ p_row < ((p_t.f_Rows.length : Nat) : Int) then
   Option.bind (m_slices_BinarySearch_rune_rune p_t.f_Excluded ((p_t.f_Rows.getD (p_row.toNat) d_api_Row).f_From)) fun y3 =>
   bif (!y3.2) then
    Option.bind (m_decomp_Class p_t ((p_t.f_Rows.getD (p_row.toNat) d_api_Row).f_From)) fun y4 =>
    bif (y4 == (0 : Int)) then
     if 0 ≤ (0 : Int) ∧ (0 : Int) < (((p_t.f_Rows.getD (p_row.toNat) d_api_Row).f_To.length : Nat) : Int) then
      Option.bind (m_decomp_Class p_t ((p_t.f_Rows.getD (p_row.toNat) d_api_Row).f_To.getD 0 0)) fun y5 =>
      some (y5 == (0 : Int))
     else none
    else
     some false
   else
    some false
  else none
noncomputable def m_decomp_Composes (p_t : T_api_Norm) (p_row : Int) : Option Bool :=
 Option.bind (
  bif (decide (p_row < (0 : Int))) then
   some true
  else
   bif (decide (p_row ≥ ((p_t.f_Rows.length : Nat) : Int))) then
    some true
   else
    if 0 ≤ p_row ∧ p_row < ((p_t.f_Rows.length : Nat) : Int) then
     some ((((p_t.f_Rows.getD (p_row.toNat) d_api_Row).f_To.length : Nat) : Int) != (2 : Int))
    else none : Option Bool) fun s1 =>
 m_decomp_Composes_K2 p_t p_row s1
noncomputable def m_comp_Pair_K9 (p_t : T_api_Norm) (s5 : Int) (s8 : Bool) : Option (Stp Int (Sum Unit (Int × Bool))) :=
 bif s8 then
  some (.done (.inr ((p_t.f_Rows.getD (s5.toNat) d_api_Row).f_From, true)))
 else
  some (.next (IntKind.wrap .i64 (s5 + (1 : Int))))
noncomputable def m_comp_Pair_L6 (p_t : T_api_Norm) (p_a : Int) (p_b : Int) (s5 : Int) : Option (Stp Int (Sum Unit (Int × Bool))) :=
 bif (decide (s5 < ((p_t.f_Rows.length : Nat) : Int))) then
  if 0 ≤ s5 ∧ s5 < ((p_t.f_Rows.length : Nat) : Int) then
   Option.bind (
    bif ((((p_t.f_Rows.getD (s5.toNat) d_api_Row).f_To.length : Nat) : Int) == (2 : Int)) then
     if 0 ≤ (0 : Int) ∧ (0 : Int) < (((p_t.f_Rows.getD (s5.toNat) d_api_Row).f_To.length : Nat) : Int) then
      bif (((p_t.f_Rows.getD (s5.toNat) d_api_Row).f_To.getD 0 0) == p_a) then
       if 0 ≤ (1 : Int) ∧ (1 : Int) < (((p_t.f_Rows.getD (s5.toNat) d_api_Row).f_To.length : Nat) : Int) then
        bif (((p_t.f_Rows.getD (s5.toNat) d_api_Row).f_To.getD 1 0) == p_b) then
         Option.bind (m_decomp_Composes p_t s5) fun y10 =>
         some y10
        else
         some false
       else none
      else
       some false
     else none
    else
     some false : Option Bool) fun s8 =>
   m_comp_Pair_K9 p_t s5 s8
  else none
 else
  some (.done (.inl ()))
noncomputable def m_comp_Pair (p_t : T_api_Norm) (p_a : Int) (p_b : Int) : Option (Int × Bool) :=
 Option.bind (m_comp_hangul p_a p_b) fun y1 =>
 bif y1.2 then
  some (y1.1, true)
 else
  Option.bind (
   iter (m_comp_Pair_L6 p_t p_a p_b) (0 : Int) : Option (Sum Unit (Int × Bool))) fun z =>
  match z with
  | .inl s2 =>
   some ((0 : Int), false)
  | .inr (v13) =>
   some (v13.1, v13.2)
noncomputable def m_comp_row_add_own_K3 (p_w_0 : (List T_api_Row)) (p_w_1 : (List T_api_Range)) (p_w_2 : (List Int)) (p_w_3 : (List Int)) (p_w_4 : Int) (p_w_5 : Int) (p_r : Int) (y1 : Int) (s2 : Unit) : Option ((List T_api_Row) × (List T_api_Range) × (List Int) × (List Int) × Int × Int) :=
 if (p_w_3.length + 1) * 4 ≤ 140737488355328 then
  bif (y1 == (0 : Int)) then
   some (p_w_0, p_w_1, p_w_2, (p_w_3 ++ [p_r]), (IntKind.wrap .i64 ((((p_w_3.length + 1) : Nat) : Int) - (1 : Int))), (0 : Int))
  else
   some (p_w_0, p_w_1, p_w_2, (p_w_3 ++ [p_r]), p_w_4, (max p_w_5 y1))
 else none
noncomputable def m_comp_row_add_own_K5 (p_w_0 : (List T_api_Row)) (p_w_1 : (List T_api_Range)) (p_w_2 : (List Int)) (p_w_3 : (List Int)) (p_w_4 : Int) (p_w_5 : Int) (p_r : Int) (s4 : Bool) : Option (Sum Unit ((List T_api_Row) × (List T_api_Range) × (List Int) × (List Int) × Int × Int)) :=
 bif s4 then
  if 0 ≤ p_w_4 ∧ p_w_4 < ((p_w_3.length : Nat) : Int) then
   Option.bind (m_comp_Pair ({ f_Rows := p_w_0, f_Classes := p_w_1, f_Excluded := p_w_2 } : T_api_Norm) (p_w_3.getD (p_w_4.toNat) 0) p_r) fun y6 =>
   bif y6.2 then
    if 0 ≤ p_w_4 ∧ p_w_4 < ((p_w_3.length : Nat) : Int) then
     some (.inr (p_w_0, p_w_1, p_w_2, (p_w_3.set (p_w_4.toNat) y6.1), p_w_4, p_w_5))
    else none
   else
    some (.inl ())
  else none
 else
  some (.inl ())
noncomputable def m_comp_row_add_own (p_w_0 : (List T_api_Row)) (p_w_1 : (List T_api_Range)) (p_w_2 : (List Int)) (p_w_3 : (List Int)) (p_w_4 : Int) (p_w_5 : Int) (p_r : Int) : Option ((List T_api_Row) × (List T_api_Range) × (List Int) × (List Int) × Int × Int) :=
 Option.bind (m_decomp_Class ({ f_Rows := p_w_0, f_Classes := p_w_1, f_Excluded := p_w_2 } : T_api_Norm) p_r) fun y1 =>
 Option.bind (
  Option.bind (
   bif (decide (p_w_4 ≥ (0 : Int))) then
    bif (((p_w_3.length : Nat) : Int) == (IntKind.wrap .i64 (p_w_4 + (1 : Int)))) then
     some true
    else
     some (decide (p_w_5 < y1))
   else
    some false : Option Bool) fun s4 =>
  m_comp_row_add_own_K5 p_w_0 p_w_1 p_w_2 p_w_3 p_w_4 p_w_5 p_r s4 : Option (Sum Unit ((List T_api_Row) × (List T_api_Range) × (List Int) × (List Int) × Int × Int))) fun z =>
 match z with
 | .inl s2 =>
  m_comp_row_add_own_K3 p_w_0 p_w_1 p_w_2 p_w_3 p_w_4 p_w_5 p_r y1 s2
 | .inr (v7) =>
  some v7
noncomputable def m_comp_Put_L5 (p_l : (List Int)) (s4 : (List T_api_Row) × (List T_api_Range) × (List Int) × (List Int) × Int × Int × Int) : Option (Stp ((List T_api_Row) × (List T_api_Range) × (List Int) × (List Int) × Int × Int × Int) ((List T_api_Row) × (List T_api_Range) × (List Int) × (List Int) × Int × Int)) :=
 bif (decide (s4.2.2.2.2.2.2 < ((p_l.length : Nat) : Int))) then
  if 0 ≤ s4.2.2.2.2.2.2 ∧ s4.2.2.2.2.2.2 < ((p_l.length : Nat) : Int) then
   Option.bind (m_comp_row_add_own s4.1 s4.2.1 s4.2.2.1 s4.2.2.2.1 s4.2.2.2.2.1 s4.2.2.2.2.2.1 (p_l.getD (s4.2.2.2.2.2.2.toNat) 0)) fun y7 =>
   some (.next (y7.1, y7.2.1, y7.2.2.1, y7.2.2.2.1, y7.2.2.2.2.1, y7.2.2.2.2.2, (IntKind.wrap .i64 (s4.2.2.2.2.2.2 + (1 : Int)))))
  else none
 else
  some (.done (s4.1, s4.2.1, s4.2.2.1, s4.2.2.2.1, s4.2.2.2.2.1, s4.2.2.2.2.2.1))
noncomputable def m_comp_Put (p_t : T_api_Norm) (p_l : (List Int)) : Option (List Int) :=
 Option.bind (
  iter (m_comp_Put_L5 p_l) (p_t.f_Rows, p_t.f_Classes, p_t.f_Excluded, [], (-1 : Int), (0 : Int), (0 : Int)) : Option ((List T_api_Row) × (List T_api_Range) × (List Int) × (List Int) × Int × Int)) fun s1 =>
 some s1.2.2.2.1
noncomputable def m_comp_All (p_t : T_api_Norm) (p_l : (List Int)) : Option (List Int) :=
 Option.bind (m_decomp_All p_t p_l) fun y1 =>
 Option.bind (m_comp_Put p_t y1) fun y2 =>
 some y2
noncomputable def m_label_Small_K2 (p_t : T_api_Tables) (s1 : (List Int)) : Option (List Int) :=
 Option.bind (m_comp_All p_t.f_Norm s1) fun y3 =>
 some y3
noncomputable def m_label_Small_L6 (p_t : T_api_Tables) (p_l : (List Int)) (s5 : (List Int) × Int) : Option (Stp ((List Int) × Int) (List Int)) :=
 bif (decide (s5.2 < ((p_l.length : Nat) : Int))) then
  if 0 ≤ s5.2 ∧ s5.2 < ((p_l.length : Nat) : Int) then
   Option.bind (m_label_capital (p_l.getD (s5.2.toNat) 0)) fun y8 =>
   bif y8 then
    if 0 ≤ s5.2 ∧ s5.2 < ((s5.1.length : Nat) : Int) then
     some (.next ((s5.1.set (s5.2.toNat) (IntKind.wrap .i32 ((IntKind.wrap .i32 ((p_l.getD (s5.2.toNat) 0) + (97 : Int))) - (65 : Int)))), (IntKind.wrap .i64 (s5.2 + (1 : Int)))))
    else none
   else
    Option.bind (m_label_lower p_t.f_Lower (p_l.getD (s5.2.toNat) 0)) fun y9 =>
    if 0 ≤ s5.2 ∧ s5.2 < ((s5.1.length : Nat) : Int) then
     some (.next ((s5.1.set (s5.2.toNat) y9.1), (IntKind.wrap .i64 (s5.2 + (1 : Int)))))
    else none
  else none
 else
  some (.done s5.1)
noncomputable def m_label_Small (p_t : T_api_Tables) (p_l : (List Int)) : Option (List Int) :=
 if mkOk 4 ((p_l.length : Nat) : Int) then
  Option.bind (
   iter (m_label_Small_L6 p_t p_l) ((List.replicate p_l.length 0), (0 : Int)) : Option (List Int)) fun s1 =>
  m_label_Small_K2 p_t s1
 else none
noncomputable def m_utf_Right (p_r : Int) : Option Bool :=
 bif (decide (p_r ≥ (0 : Int))) then
  bif (decide (p_r ≤ (1114111 : Int))) then
   bif (decide (p_r < (55296 : Int))) then
    some true
   else
    some (decide (p_r > (57343 : Int)))
  else
   some false
 else
  some false
noncomputable def m_utf_Width (p_r : Int) : Option Int :=
 Option.bind (m_utf_Right p_r) fun y1 =>
 bif (!y1) then
  some (0 : Int)
 else
  bif (decide (p_r < (128 : Int))) then
   some (1 : Int)
  else
   bif (decide (p_r < (2048 : Int))) then
    some (2 : Int)
   else
    bif (decide (p_r < (65536 : Int))) then
     some (3 : Int)
    else
     some (4 : Int)
noncomputable def m_strings_Builder_copyCheck_own (p_b_0 : Bool) (p_b_1 : (List Int)) : Option Bool :=
 bif (!p_b_0) then
  some true
 else
  bif (!p_b_0) then
   none
  else
   some p_b_0
noncomputable def m_strings_Builder_WriteByte_own (p_b_0 : Bool) (p_b_1 : (List Int)) (p_c : Int) : Option (Bool × (List Int) × Er) :=
 Option.bind (m_strings_Builder_copyCheck_own p_b_0 p_b_1) fun y1 =>
 if (p_b_1.length + 1) * 1 ≤ 140737488355328 then
  some (y1, (p_b_1 ++ [p_c]), Er.nil)
 else none
noncomputable def m_utf_put_own_L9 (p_r : Int) (s8 : Bool × (List Int) × Int) : Option (Stp (Bool × (List Int) × Int) (Bool × (List Int))) :=
 bif (decide (s8.2.2 ≥ (0 : Int))) then
  if 0 ≤ (IntKind.wrap .i64 ((6 : Int) * s8.2.2)) then
   Option.bind (m_strings_Builder_WriteByte_own s8.1 s8.2.1 (ior .u8 (128 : Int) (iand .u8 (IntKind.wrap .u8 (Int.fdiv p_r (2 ^ (min ((IntKind.wrap .i64 ((6 : Int) * s8.2.2))).toNat (IntKind.bits .i32))))) (63 : Int)))) fun y11 =>
   some (.next (y11.1, y11.2.1, (IntKind.wrap .i64 (s8.2.2 - (1 : Int)))))
  else none
 else
  some (.done (s8.1, s8.2.1))
noncomputable def m_utf_put_own (p_b_0 : Bool) (p_b_1 : (List Int)) (p_r : Int) : Option (Bool × (List Int)) :=
 Option.bind (m_utf_Width p_r) fun y4 =>
 bif (y4 == (1 : Int)) then
  Option.bind (m_strings_Builder_WriteByte_own p_b_0 p_b_1 (IntKind.wrap .u8 p_r)) fun y5 =>
  some (y5.1, y5.2.1)
 else
  if 0 ≤ (IntKind.wrap .i64 ((4 : Int) - y4)) then
   if 0 ≤ (IntKind.wrap .i64 ((6 : Int) * (IntKind.wrap .i64 (y4 - (1 : Int))))) then
    Option.bind (m_strings_Builder_WriteByte_own p_b_0 p_b_1 (ior .u8 (IntKind.wrap .u8 ((240 : Int) * 2 ^ (min ((IntKind.wrap .i64 ((4 : Int) - y4))).toNat (IntKind.bits .u8)))) (IntKind.wrap .u8 (Int.fdiv p_r (2 ^ (min ((IntKind.wrap .i64 ((6 : Int) * (IntKind.wrap .i64 (y4 - (1 : Int)))))).toNat (IntKind.bits .i32))))))) fun y6 =>
    Option.bind (iter (m_utf_put_own_L9 p_r) (y6.1, y6.2.1, (IntKind.wrap .i64 (y4 - (2 : Int))))) fun s12 =>
    some (s12.1, s12.2)
   else none
  else none
noncomputable def m_strings_Builder_String_own (p_b_0 : Bool) (p_b_1 : (List Int)) : Option (Bool × (List Int) × ByteArray) :=
 if p_b_1.length ≤ 9223372036854775807 then
  some (p_b_0, p_b_1, (strOfNums (p_b_1.take p_b_1.length)))
 else none
noncomputable def m_utf_Encode_K2  (s1 : Bool × (List Int)) : Option (ByteArray × Er) :=
 Option.bind (m_strings_Builder_String_own s1.1 s1.2) fun y3 =>
 if y3.2.1.length = s1.2.length then
  some (y3.2.2, Er.nil)
 else none
noncomputable def m_utf_Encode_L6 (p_l : (List Int)) (s5 : Bool × (List Int) × Int) : Option (Stp (Bool × (List Int) × Int) (Sum (Bool × (List Int)) (ByteArray × Er))) :=
 bif (decide (s5.2.2 < ((p_l.length : Nat) : Int))) then
  if 0 ≤ s5.2.2 ∧ s5.2.2 < ((p_l.length : Nat) : Int) then
   Option.bind (m_utf_Right (p_l.getD (s5.2.2.toNat) 0)) fun y8 =>
   bif (!y8) then
    Option.bind (m_utf_fault s5.2.2 (Er.sent 12)) fun y9 =>
    some (.done (.inr ((ByteArray.mk #[]), y9)))
   else
    Option.bind (m_utf_put_own s5.1 s5.2.1 (p_l.getD (s5.2.2.toNat) 0)) fun y10 =>
    some (.next (y10.1, y10.2, (IntKind.wrap .i64 (s5.2.2 + (1 : Int)))))
  else none
 else
  some (.done (.inl (s5.1, s5.2.1)))
noncomputable def m_utf_Encode (p_l : (List Int)) : Option (ByteArray × Er) :=
 Option.bind (
  iter (m_utf_Encode_L6 p_l) (false, [], (0 : Int)) : Option (Sum (Bool × (List Int)) (ByteArray × Er))) fun z =>
 match z with
 | .inl s1 =>
  m_utf_Encode_K2 s1
 | .inr (v13) =>
  some (v13.1, v13.2)
noncomputable def m_internal_stringslite_HasPrefix (p_s : ByteArray) (p_prefix : ByteArray) : Option Bool :=
 bif (decide (((p_s.size : Nat) : Int) ≥ ((p_prefix.size : Nat) : Int))) then
  if 0 ≤ (0 : Int) ∧ (0 : Int) ≤ ((p_prefix.size : Nat) : Int) ∧ ((p_prefix.size : Nat) : Int) ≤ ((p_s.size : Nat) : Int) then
   some ((p_s.extract 0 p_prefix.size).toList == p_prefix.toList)
  else none
 else
  some false
noncomputable def m_strings_HasPrefix (p_s : ByteArray) (p_prefix : ByteArray) : Option Bool :=
 Option.bind (m_internal_stringslite_HasPrefix p_s p_prefix) fun y1 =>
 some y1
noncomputable def m_label_fault (p_at : Int) (p_e : Er) : Option Er :=
 some (Er.box 70 p_at p_e)
noncomputable def m_label_unlike_K4 (s1 : Int) (s3 : Bool) : Option Int :=
 bif s3 then
  some (-1 : Int)
 else
  some s1
noncomputable def m_label_unlike_K2 (p_a : (List Int)) (p_b : (List Int)) (s1 : Int) : Option Int :=
 Option.bind (
  bif (s1 == ((p_a.length : Nat) : Int)) then
   some (s1 == ((p_b.length : Nat) : Int))
  else
   some false : Option Bool) fun s3 =>
 m_label_unlike_K4 s1 s3
noncomputable def m_label_unlike_K10 (s6 : Int) (s9 : Bool) : Option (Stp Int Int) :=
 bif s9 then
  some (.next (IntKind.wrap .i64 (s6 + (1 : Int))))
 else
  some (.done s6)
noncomputable def m_label_unlike_L7 (p_a : (List Int)) (p_b : (List Int)) (s6 : Int) : Option (Stp Int Int) :=
 Option.bind (
  bif (decide (s6 < ((p_a.length : Nat) : Int))) then
   bif (decide (s6 < ((p_b.length : Nat) : Int))) then
    if 0 ≤ s6 ∧ s6 < ((p_a.length : Nat) : Int) then
     if 0 ≤ s6 ∧ s6 < ((p_b.length : Nat) : Int) then
      some ((p_a.getD (s6.toNat) 0) == (p_b.getD (s6.toNat) 0))
     else none
    else none
   else
    some false
  else
   some false : Option Bool) fun s9 =>
 m_label_unlike_K10 s6 s9
noncomputable def m_label_unlike (p_a : (List Int)) (p_b : (List Int)) : Option Int :=
 Option.bind (
  iter (m_label_unlike_L7 p_a p_b) (0 : Int) : Option Int) fun s1 =>
 m_label_unlike_K2 p_a p_b s1
noncomputable def m_label_Check_2 (p_a0 : (List Int)) (p_a1 : T_api_Tables) : Option Int :=
 Option.bind (m_comp_All p_a1.f_Norm p_a0) fun y1 =>
 Option.bind (m_label_unlike p_a0 y1) fun y2 =>
 some y2
noncomputable def m_label_hyphens_K2  (s1 : Bool) : Option Int :=
 bif s1 then
  some (2 : Int)
 else
  some (-1 : Int)
noncomputable def m_label_hyphens (p_l : (List Int)) : Option Int :=
 if 0 ≤ (0 : Int) ∧ (0 : Int) < ((p_l.length : Nat) : Int) then
  bif ((p_l.getD 0 0) == (45 : Int)) then
   some (0 : Int)
  else
   if 0 ≤ (IntKind.wrap .i64 (((p_l.length : Nat) : Int) - (1 : Int))) ∧ (IntKind.wrap .i64 (((p_l.length : Nat) : Int) - (1 : Int))) < ((p_l.length : Nat) : Int) then
    bif ((p_l.getD ((IntKind.wrap .i64 (((p_l.length : Nat) : Int) - (1 : Int))).toNat) 0) == (45 : Int)) then
     some (IntKind.wrap .i64 (((p_l.length : Nat) : Int) - (1 : Int)))
    else
     Option.bind (
      bif (decide (((p_l.length : Nat) : Int) > (3 : Int))) then
       if 0 ≤ (2 : Int) ∧ (2 : Int) < ((p_l.length : Nat) : Int) then
        bif ((p_l.getD 2 0) == (45 : Int)) then
         if 0 ≤ (3 : Int) ∧ (3 : Int) < ((p_l.length : Nat) : Int) then
          some ((p_l.getD 3 0) == (45 : Int))
         else none
        else
         some false
       else none
      else
       some false : Option Bool) fun s1 =>
     m_label_hyphens_K2 s1
   else none
 else none
noncomputable def m_label_Check_3 (p_a0 : (List Int)) : Option Int :=
 Option.bind (m_label_hyphens p_a0) fun y1 =>
 some y1
noncomputable def m_classes_in (p_l : (List T_api_Range)) (p_r : Int) : Option Bool :=
 Option.bind (m_ranges_Find p_l p_r) fun y1 =>
 some y1.2
noncomputable def m_classes_Mark (p_p : T_api_Props) (p_r : Int) : Option Bool :=
 Option.bind (m_classes_in p_p.f_Marks p_r) fun y1 =>
 some y1
noncomputable def m_classes_Why_1 (p_l : (List T_api_Range)) (p_a1 : Int) : Option Bool :=
 Option.bind (m_classes_in p_l p_a1) fun y1 =>
 some y1
noncomputable def m_classes_ldh (p_r : Int) : Option Bool :=
 bif (decide (p_r ≥ (97 : Int))) then
  bif (decide (p_r ≤ (122 : Int))) then
   some true
  else
   bif (decide (p_r ≥ (48 : Int))) then
    bif (decide (p_r ≤ (57 : Int))) then
     some true
    else
     some (p_r == (45 : Int))
   else
    some (p_r == (45 : Int))
 else
  bif (decide (p_r ≥ (48 : Int))) then
   bif (decide (p_r ≤ (57 : Int))) then
    some true
   else
    some (p_r == (45 : Int))
  else
   some (p_r == (45 : Int))
noncomputable def m_classes_Why (p_p : T_api_Props) (p_r : Int) : Option Int :=
 Option.bind (m_utf_Right p_r) fun y1 =>
 bif (!y1) then
  some (1 : Int)
 else
  Option.bind (m_classes_Why_1 p_p.f_Exceptions p_r) fun y2 =>
  bif y2 then
   some (2 : Int)
  else
   Option.bind (m_classes_Why_1 p_p.f_Unassigned p_r) fun y3 =>
   bif y3 then
    some (3 : Int)
   else
    Option.bind (m_classes_ldh p_r) fun y4 =>
    bif y4 then
     some (4 : Int)
    else
     Option.bind (m_classes_Why_1 p_p.f_Joiners p_r) fun y5 =>
     bif y5 then
      some (5 : Int)
     else
      Option.bind (m_classes_Why_1 p_p.f_OldHangul p_r) fun y6 =>
      bif y6 then
       some (6 : Int)
      else
       Option.bind (m_classes_Why_1 p_p.f_Unstable p_r) fun y7 =>
       bif y7 then
        some (7 : Int)
       else
        Option.bind (m_classes_Why_1 p_p.f_Ignorable p_r) fun y8 =>
        bif y8 then
         some (8 : Int)
        else
         Option.bind (m_classes_Why_1 p_p.f_Letters p_r) fun y9 =>
         bif y9 then
          some (9 : Int)
         else
          some (10 : Int)
noncomputable def m_classes_Of (p_p : T_api_Props) (p_r : Int) : Option Int :=
 Option.bind (m_classes_Why p_p p_r) fun y1 =>
 bif (y1 == (2 : Int)) then
  Option.bind (m_ranges_Find p_p.f_Exceptions p_r) fun y2 =>
  some y2.1
 else
  bif (y1 == (3 : Int)) then
   some (5 : Int)
  else
   bif (y1 == (4 : Int)) then
    some (1 : Int)
   else
    bif (y1 == (9 : Int)) then
     some (1 : Int)
    else
     bif (y1 == (5 : Int)) then
      some (2 : Int)
     else
      some (4 : Int)
noncomputable def m_label_plain (p_r : Int) : Option Bool :=
 bif (decide (p_r ≥ (0 : Int))) then
  some (decide (p_r < (128 : Int)))
 else
  some false
noncomputable def m_label_odd (p_r : Int) : Option Bool :=
 Option.bind (m_label_plain p_r) fun y1 =>
 bif y1 then
  bif (decide (p_r < (97 : Int))) then
   bif (decide (p_r < (48 : Int))) then
    some (p_r != (45 : Int))
   else
    bif (decide (p_r > (57 : Int))) then
     some (p_r != (45 : Int))
    else
     some false
  else
   bif (decide (p_r > (122 : Int))) then
    bif (decide (p_r < (48 : Int))) then
     some (p_r != (45 : Int))
    else
     bif (decide (p_r > (57 : Int))) then
      some (p_r != (45 : Int))
     else
      some false
   else
    some false
 else
  bif (p_r == (12290 : Int)) then
   some true
  else
   bif (p_r == (65294 : Int)) then
    some true
   else
    some (p_r == (65377 : Int))
noncomputable def m_label_bad_1 (p_r : Int) (p_a1 : T_api_Tables) : Option Bool :=
 Option.bind (m_label_lower p_a1.f_Lower p_r) fun y1 =>
 Option.bind (m_classes_Of p_a1.f_Props p_r) fun y2 =>
 Option.bind (m_label_odd p_r) fun y3 =>
 bif y3 then
  some true
 else
  bif y1.2 then
   some true
  else
   bif (y2 == (4 : Int)) then
    some true
   else
    some (y2 == (5 : Int))
noncomputable def m_slices_IndexFunc_rune_rune_label_bad_1_L5 (p_s : (List Int)) (p_f : T_api_Tables) (s4 : Int) : Option (Stp Int (Sum Unit Int)) :=
 bif (decide (s4 < ((p_s.length : Nat) : Int))) then
  if 0 ≤ s4 ∧ s4 < ((p_s.length : Nat) : Int) then
   Option.bind (m_label_bad_1 (p_s.getD (s4.toNat) 0) p_f) fun y7 =>
   bif y7 then
    some (.done (.inr s4))
   else
    some (.next (IntKind.wrap .i64 (s4 + (1 : Int))))
  else none
 else
  some (.done (.inl ()))
noncomputable def m_slices_IndexFunc_rune_rune_label_bad_1 (p_s : (List Int)) (p_f : T_api_Tables) : Option Int :=
 Option.bind (
  iter (m_slices_IndexFunc_rune_rune_label_bad_1_L5 p_s p_f) (0 : Int) : Option (Sum Unit Int)) fun z =>
 match z with
 | .inl s1 =>
  some (-1 : Int)
 | .inr (v10) =>
  some v10
noncomputable def m_label_bad (p_t : T_api_Tables) (p_l : (List Int)) : Option Int :=
 if 0 ≤ (0 : Int) ∧ (0 : Int) < ((p_l.length : Nat) : Int) then
  Option.bind (m_classes_Mark p_t.f_Props (p_l.getD 0 0)) fun y1 =>
  bif y1 then
   some (0 : Int)
  else
   Option.bind (m_slices_IndexFunc_rune_rune_label_bad_1 p_l p_t) fun y2 =>
   some y2
 else none
noncomputable def m_label_Check_4 (p_a0 : T_api_Tables) (p_a1 : (List Int)) : Option Int :=
 Option.bind (m_label_bad p_a0 p_a1) fun y1 =>
 some y1
noncomputable def m_contexts_Rule_K6  (s5 : Bool) : Option Int :=
 bif s5 then
  some (8 : Int)
 else
  some (0 : Int)
noncomputable def m_contexts_Rule_K4 (p_r : Int) (s3 : Bool) : Option Int :=
 bif s3 then
  some (7 : Int)
 else
  Option.bind (
   bif (decide (p_r ≥ (1776 : Int))) then
    some (decide (p_r ≤ (1785 : Int)))
   else
    some false : Option Bool) fun s5 =>
  m_contexts_Rule_K6 s5
noncomputable def m_contexts_Rule_K2 (p_r : Int) (s1 : Bool) : Option Int :=
 bif s1 then
  some (5 : Int)
 else
  bif (p_r == (12539 : Int)) then
   some (6 : Int)
  else
   Option.bind (
    bif (decide (p_r ≥ (1632 : Int))) then
     some (decide (p_r ≤ (1641 : Int)))
    else
     some false : Option Bool) fun s3 =>
   m_contexts_Rule_K4 p_r s3
noncomputable def m_contexts_Rule (p_r : Int) : Option Int :=
 bif (p_r == (8204 : Int)) then
  some (1 : Int)
 else
  bif (p_r == (8205 : Int)) then
   some (2 : Int)
  else
   bif (p_r == (183 : Int)) then
    some (3 : Int)
   else
    bif (p_r == (885 : Int)) then
     some (4 : Int)
    else
     Option.bind (
      bif (p_r == (1523 : Int)) then
       some (p_r == (1523 : Int))
      else
       some (p_r == (1524 : Int)) : Option Bool) fun s1 =>
     m_contexts_Rule_K2 p_r s1
noncomputable def m_classes_Joins (p_p : T_api_Props) (p_r : Int) : Option Int :=
 Option.bind (m_ranges_Find p_p.f_Joining p_r) fun y1 =>
 some y1.1
noncomputable def m_contexts_joined_1_K2 (p_at : Int) (p_a1 : (List Int)) (p_a2 : T_api_Tables) (s1 : Bool) : Option Int :=
 bif s1 then
  some (0 : Int)
 else
  if 0 ≤ p_at ∧ p_at < ((p_a1.length : Nat) : Int) then
   Option.bind (m_classes_Joins p_a2.f_Props (p_a1.getD (p_at.toNat) 0)) fun y3 =>
   some y3
  else none
noncomputable def m_contexts_joined_1 (p_at : Int) (p_a1 : (List Int)) (p_a2 : T_api_Tables) : Option Int :=
 Option.bind (
  bif (decide (p_at < (0 : Int))) then
   some true
  else
   some (decide (p_at ≥ ((p_a1.length : Nat) : Int))) : Option Bool) fun s1 =>
 m_contexts_joined_1_K2 p_at p_a1 p_a2 s1
noncomputable def m_contexts_joined_2_contexts_joined_1_K2 (p_a2 : (List Int)) (p_a3 : T_api_Tables) (s1 : Int) : Option Int :=
 Option.bind (m_contexts_joined_1 s1 p_a2 p_a3) fun y3 =>
 some y3
noncomputable def m_contexts_joined_2_contexts_joined_1_L6 (p_by : Int) (p_a2 : (List Int)) (p_a3 : T_api_Tables) (s5 : Int) : Option (Stp Int Int) :=
 Option.bind (m_contexts_joined_1 s5 p_a2 p_a3) fun y8 =>
 bif (y8 == (4 : Int)) then
  some (.next (IntKind.wrap .i64 (s5 + p_by)))
 else
  some (.done s5)
noncomputable def m_contexts_joined_2_contexts_joined_1 (p_at : Int) (p_by : Int) (p_a2 : (List Int)) (p_a3 : T_api_Tables) : Option Int :=
 Option.bind (
  iter (m_contexts_joined_2_contexts_joined_1_L6 p_by p_a2 p_a3) p_at : Option Int) fun s1 =>
 m_contexts_joined_2_contexts_joined_1_K2 p_a2 p_a3 s1
noncomputable def m_contexts_joined (p_t : T_api_Tables) (p_l : (List Int)) (p_i : Int) : Option Bool :=
 Option.bind (m_contexts_joined_2_contexts_joined_1 (IntKind.wrap .i64 (p_i - (1 : Int))) (-1 : Int) p_l p_t) fun y1 =>
 Option.bind (m_contexts_joined_2_contexts_joined_1 (IntKind.wrap .i64 (p_i + (1 : Int))) (1 : Int) p_l p_t) fun y2 =>
 bif (y1 == (1 : Int)) then
  bif (y2 == (2 : Int)) then
   some true
  else
   some (y2 == (3 : Int))
 else
  bif (y1 == (3 : Int)) then
   bif (y2 == (2 : Int)) then
    some true
   else
    some (y2 == (3 : Int))
  else
   some false
noncomputable def m_contexts_Holds_2 (p_r : Int) (p_a1 : T_api_Tables) : Option Bool :=
 Option.bind (m_decomp_Class p_a1.f_Norm p_r) fun y1 =>
 some (y1 == (9 : Int))
noncomputable def m_contexts_at_contexts_Holds_2 (p_l : (List Int)) (p_i : Int) (p_is : T_api_Tables) : Option Bool :=
 bif (decide (p_i ≥ (0 : Int))) then
  bif (decide (p_i < ((p_l.length : Nat) : Int))) then
   if 0 ≤ p_i ∧ p_i < ((p_l.length : Nat) : Int) then
    Option.bind (m_contexts_Holds_2 (p_l.getD (p_i.toNat) 0) p_is) fun y1 =>
    some y1
   else none
  else
   some false
 else
  some false
noncomputable def m_contexts_Holds_3 (p_r : Int) : Option Bool :=
 some (p_r == (108 : Int))
noncomputable def m_contexts_at_contexts_Holds_3 (p_l : (List Int)) (p_i : Int) : Option Bool :=
 bif (decide (p_i ≥ (0 : Int))) then
  bif (decide (p_i < ((p_l.length : Nat) : Int))) then
   if 0 ≤ p_i ∧ p_i < ((p_l.length : Nat) : Int) then
    Option.bind (m_contexts_Holds_3 (p_l.getD (p_i.toNat) 0)) fun y1 =>
    some y1
   else none
  else
   some false
 else
  some false
noncomputable def m_contexts_Holds_1 (p_want : (List Int)) (p_a1 : T_api_Tables) : Option ((List Int) × T_api_Tables) :=
 some (p_want, p_a1)
noncomputable def m_classes_Script (p_p : T_api_Props) (p_r : Int) : Option Int :=
 Option.bind (m_ranges_Find p_p.f_Scripts p_r) fun y1 =>
 some y1.1
noncomputable def m_contexts_Holds_1_1_L5 (p_r : Int) (p_a1 : (List Int)) (p_a2 : T_api_Tables) (s4 : Int) : Option (Stp Int (Sum Unit Bool)) :=
 bif (decide (s4 < ((p_a1.length : Nat) : Int))) then
  if 0 ≤ s4 ∧ s4 < ((p_a1.length : Nat) : Int) then
   Option.bind (m_classes_Script p_a2.f_Props p_r) fun y7 =>
   bif (y7 == (p_a1.getD (s4.toNat) 0)) then
    some (.done (.inr true))
   else
    some (.next (IntKind.wrap .i64 (s4 + (1 : Int))))
  else none
 else
  some (.done (.inl ()))
noncomputable def m_contexts_Holds_1_1 (p_r : Int) (p_a1 : (List Int)) (p_a2 : T_api_Tables) : Option Bool :=
 Option.bind (
  iter (m_contexts_Holds_1_1_L5 p_r p_a1 p_a2) (0 : Int) : Option (Sum Unit Bool)) fun z =>
 match z with
 | .inl s1 =>
  some false
 | .inr (v10) =>
  some v10
noncomputable def m_contexts_at_contexts_Holds_1_1 (p_l : (List Int)) (p_i : Int) (p_is : (List Int)) (p_a3 : T_api_Tables) : Option Bool :=
 bif (decide (p_i ≥ (0 : Int))) then
  bif (decide (p_i < ((p_l.length : Nat) : Int))) then
   if 0 ≤ p_i ∧ p_i < ((p_l.length : Nat) : Int) then
    Option.bind (m_contexts_Holds_1_1 (p_l.getD (p_i.toNat) 0) p_is p_a3) fun y1 =>
    some y1
   else none
  else
   some false
 else
  some false
noncomputable def m_contexts_some_contexts_Holds_1_1_L5 (p_l : (List Int)) (p_is : (List Int)) (p_a2 : T_api_Tables) (s4 : Int) : Option (Stp Int (Sum Unit Bool)) :=
 bif (decide (s4 < ((p_l.length : Nat) : Int))) then
  Option.bind (m_contexts_at_contexts_Holds_1_1 p_l s4 p_is p_a2) fun y7 =>
  bif y7 then
   some (.done (.inr true))
  else
   some (.next (IntKind.wrap .i64 (s4 + (1 : Int))))
 else
  some (.done (.inl ()))
noncomputable def m_contexts_some_contexts_Holds_1_1 (p_l : (List Int)) (p_is : (List Int)) (p_a2 : T_api_Tables) : Option Bool :=
 Option.bind (
  iter (m_contexts_some_contexts_Holds_1_1_L5 p_l p_is p_a2) (0 : Int) : Option (Sum Unit Bool)) fun z =>
 match z with
 | .inl s1 =>
  some false
 | .inr (v10) =>
  some v10
noncomputable def m_contexts_Holds_4 (p_r : Int) (p_a1 : Int) : Option Bool :=
 Option.bind (m_contexts_Rule p_r) fun y1 =>
 some (y1 == p_a1)
noncomputable def m_contexts_at_contexts_Holds_4 (p_l : (List Int)) (p_i : Int) (p_is : Int) : Option Bool :=
 bif (decide (p_i ≥ (0 : Int))) then
  bif (decide (p_i < ((p_l.length : Nat) : Int))) then
   if 0 ≤ p_i ∧ p_i < ((p_l.length : Nat) : Int) then
    Option.bind (m_contexts_Holds_4 (p_l.getD (p_i.toNat) 0) p_is) fun y1 =>
    some y1
   else none
  else
   some false
 else
  some false
noncomputable def m_contexts_some_contexts_Holds_4_L5 (p_l : (List Int)) (p_is : Int) (s4 : Int) : Option (Stp Int (Sum Unit Bool)) :=
 bif (decide (s4 < ((p_l.length : Nat) : Int))) then
  Option.bind (m_contexts_at_contexts_Holds_4 p_l s4 p_is) fun y7 =>
  bif y7 then
   some (.done (.inr true))
  else
   some (.next (IntKind.wrap .i64 (s4 + (1 : Int))))
 else
  some (.done (.inl ()))
noncomputable def m_contexts_some_contexts_Holds_4 (p_l : (List Int)) (p_is : Int) : Option Bool :=
 Option.bind (
  iter (m_contexts_some_contexts_Holds_4_L5 p_l p_is) (0 : Int) : Option (Sum Unit Bool)) fun z =>
 match z with
 | .inl s1 =>
  some false
 | .inr (v10) =>
  some v10
noncomputable def m_contexts_Holds_K16 (p_l : (List Int)) (y3 : Int) (s15 : Bool) : Option Bool :=
 bif s15 then
  Option.bind (m_contexts_some_contexts_Holds_4 p_l (IntKind.wrap .i64 ((15 : Int) - y3))) fun y17 =>
  some (!y17)
 else
  some false
noncomputable def m_contexts_Holds_K2 (p_t : T_api_Tables) (p_l : (List Int)) (p_i : Int) (s1 : Bool) : Option Bool :=
 bif s1 then
  some false
 else
  if 0 ≤ p_i ∧ p_i < ((p_l.length : Nat) : Int) then
   Option.bind (m_contexts_Rule (p_l.getD (p_i.toNat) 0)) fun y3 =>
   bif (y3 == (1 : Int)) then
    Option.bind (m_contexts_joined p_t p_l p_i) fun y4 =>
    bif y4 then
     some true
    else
     Option.bind (m_contexts_at_contexts_Holds_2 p_l (IntKind.wrap .i64 (p_i - (1 : Int))) p_t) fun y5 =>
     some y5
   else
    bif (y3 == (2 : Int)) then
     Option.bind (m_contexts_at_contexts_Holds_2 p_l (IntKind.wrap .i64 (p_i - (1 : Int))) p_t) fun y6 =>
     some y6
    else
     bif (y3 == (3 : Int)) then
      Option.bind (m_contexts_at_contexts_Holds_3 p_l (IntKind.wrap .i64 (p_i - (1 : Int)))) fun y7 =>
      bif y7 then
       Option.bind (m_contexts_at_contexts_Holds_3 p_l (IntKind.wrap .i64 (p_i + (1 : Int)))) fun y8 =>
       some y8
      else
       some false
     else
      bif (y3 == (4 : Int)) then
       Option.bind (m_contexts_Holds_1 [(1 : Int)] p_t) fun y9 =>
       Option.bind (m_contexts_at_contexts_Holds_1_1 p_l (IntKind.wrap .i64 (p_i + (1 : Int))) y9.1 y9.2) fun y10 =>
       some y10
      else
       bif (y3 == (5 : Int)) then
        Option.bind (m_contexts_Holds_1 [(2 : Int)] p_t) fun y11 =>
        Option.bind (m_contexts_at_contexts_Holds_1_1 p_l (IntKind.wrap .i64 (p_i - (1 : Int))) y11.1 y11.2) fun y12 =>
        some y12
       else
        bif (y3 == (6 : Int)) then
         Option.bind (m_contexts_Holds_1 [(3 : Int), (4 : Int), (5 : Int)] p_t) fun y13 =>
         Option.bind (m_contexts_some_contexts_Holds_1_1 p_l y13.1 y13.2) fun y14 =>
         some y14
        else
         Option.bind (
          bif (y3 == (7 : Int)) then
           some (y3 == (7 : Int))
          else
           some (y3 == (8 : Int)) : Option Bool) fun s15 =>
         m_contexts_Holds_K16 p_l y3 s15
  else none
noncomputable def m_contexts_Holds (p_t : T_api_Tables) (p_l : (List Int)) (p_i : Int) : Option Bool :=
 Option.bind (
  bif (decide (p_i < (0 : Int))) then
   some true
  else
   some (decide (p_i ≥ ((p_l.length : Nat) : Int))) : Option Bool) fun s1 =>
 m_contexts_Holds_K2 p_t p_l p_i s1
noncomputable def m_contexts_First_K9 (p_t : T_api_Tables) (p_l : (List Int)) (s4 : Int) (s8 : Bool) : Option (Stp Int (Sum Unit Int)) :=
 bif s8 then
  Option.bind (m_contexts_Holds p_t p_l s4) fun y10 =>
  bif (!y10) then
   some (.done (.inr s4))
  else
   some (.next (IntKind.wrap .i64 (s4 + (1 : Int))))
 else
  some (.next (IntKind.wrap .i64 (s4 + (1 : Int))))
noncomputable def m_contexts_First_L5 (p_t : T_api_Tables) (p_l : (List Int)) (s4 : Int) : Option (Stp Int (Sum Unit Int)) :=
 bif (decide (s4 < ((p_l.length : Nat) : Int))) then
  if 0 ≤ s4 ∧ s4 < ((p_l.length : Nat) : Int) then
   Option.bind (m_classes_Of p_t.f_Props (p_l.getD (s4.toNat) 0)) fun y7 =>
   Option.bind (
    bif (y7 == (2 : Int)) then
     some (y7 == (2 : Int))
    else
     some (y7 == (3 : Int)) : Option Bool) fun s8 =>
   m_contexts_First_K9 p_t p_l s4 s8
  else none
 else
  some (.done (.inl ()))
noncomputable def m_contexts_First (p_t : T_api_Tables) (p_l : (List Int)) : Option Int :=
 Option.bind (
  iter (m_contexts_First_L5 p_t p_l) (0 : Int) : Option (Sum Unit Int)) fun z =>
 match z with
 | .inl s1 =>
  some (-1 : Int)
 | .inr (v13) =>
  some v13
noncomputable def m_label_Check_5 (p_a0 : T_api_Tables) (p_a1 : (List Int)) : Option Int :=
 Option.bind (m_contexts_First p_a0 p_a1) fun y1 =>
 some y1
noncomputable def m_classes_Direction (p_p : T_api_Props) (p_r : Int) : Option Int :=
 Option.bind (m_ranges_Find p_p.f_Directions p_r) fun y1 =>
 bif (!y1.2) then
  some (1 : Int)
 else
  some y1.1
noncomputable def m_bidi_row_L5 (p_p : T_api_Props) (p_l : (List Int)) (s4 : (List Int) × Int) : Option (Stp ((List Int) × Int) (List Int)) :=
 bif (decide (s4.2 < ((p_l.length : Nat) : Int))) then
  if 0 ≤ s4.2 ∧ s4.2 < ((p_l.length : Nat) : Int) then
   Option.bind (m_classes_Direction p_p (p_l.getD (s4.2.toNat) 0)) fun y7 =>
   if 0 ≤ s4.2 ∧ s4.2 < ((s4.1.length : Nat) : Int) then
    some (.next ((s4.1.set (s4.2.toNat) (max (0 : Int) (min y7 (31 : Int)))), (IntKind.wrap .i64 (s4.2 + (1 : Int)))))
   else none
  else none
 else
  some (.done s4.1)
noncomputable def m_bidi_row (p_p : T_api_Props) (p_l : (List Int)) : Option (List Int) :=
 if mkOk 8 ((p_l.length : Nat) : Int) then
  Option.bind (
   iter (m_bidi_row_L5 p_p p_l) ((List.replicate p_l.length 0), (0 : Int)) : Option (List Int)) fun s1 =>
  some s1
 else none
noncomputable def m_bidi_last_K8 (s4 : Int) (s7 : Bool) : Option (Stp Int Int) :=
 bif s7 then
  some (.next (IntKind.wrap .i64 (s4 - (1 : Int))))
 else
  some (.done s4)
noncomputable def m_bidi_last_L5 (p_l : (List Int)) (s4 : Int) : Option (Stp Int Int) :=
 Option.bind (
  bif (decide (s4 ≥ (0 : Int))) then
   if 0 ≤ s4 ∧ s4 < ((p_l.length : Nat) : Int) then
    some ((p_l.getD (s4.toNat) 0) == (10 : Int))
   else none
  else
   some false : Option Bool) fun s7 =>
 m_bidi_last_K8 s4 s7
noncomputable def m_bidi_last (p_l : (List Int)) : Option Int :=
 Option.bind (
  iter (m_bidi_last_L5 p_l) (IntKind.wrap .i64 (((p_l.length : Nat) : Int) - (1 : Int))) : Option Int) fun s1 =>
 some s1
noncomputable def m_bidi_of_L5 (p_l : (List Int)) (s4 : Int × Int) : Option (Stp (Int × Int) Int) :=
 bif (decide (s4.2 < ((p_l.length : Nat) : Int))) then
  if 0 ≤ s4.2 ∧ s4.2 < ((p_l.length : Nat) : Int) then
   if 0 ≤ (p_l.getD (s4.2.toNat) 0) then
    some (.next ((ior .u64 s4.1 (IntKind.wrap .u64 ((1 : Int) * 2 ^ (min ((p_l.getD (s4.2.toNat) 0)).toNat (IntKind.bits .u64))))), (IntKind.wrap .i64 (s4.2 + (1 : Int)))))
   else none
  else none
 else
  some (.done s4.1)
noncomputable def m_bidi_of (p_l : (List Int)) : Option Int :=
 Option.bind (
  iter (m_bidi_of_L5 p_l) ((0 : Int), (0 : Int)) : Option Int) fun s1 =>
 some s1
noncomputable def m_bidi_neutral  : Option Int :=
 Option.bind (m_bidi_of [(6 : Int), (8 : Int), (7 : Int), (9 : Int), (11 : Int), (10 : Int)]) fun y1 =>
 some y1
noncomputable def m_bidi_set_has (p_s : Int) (p_d : Int) : Option Bool :=
 if 0 ≤ p_d then
  some ((iand .u64 (Int.fdiv p_s (2 ^ (min (p_d).toNat (IntKind.bits .u64)))) (1 : Int)) == (1 : Int))
 else none
noncomputable def m_bidi_first_L5 (p_l : (List Int)) (p_s : Int) (p_in : Bool) (s4 : Int) : Option (Stp Int (Sum Unit Int)) :=
 bif (decide (s4 < ((p_l.length : Nat) : Int))) then
  if 0 ≤ s4 ∧ s4 < ((p_l.length : Nat) : Int) then
   Option.bind (m_bidi_set_has p_s (p_l.getD (s4.toNat) 0)) fun y7 =>
   bif (y7 == p_in) then
    some (.done (.inr s4))
   else
    some (.next (IntKind.wrap .i64 (s4 + (1 : Int))))
  else none
 else
  some (.done (.inl ()))
noncomputable def m_bidi_first (p_l : (List Int)) (p_s : Int) (p_in : Bool) : Option Int :=
 Option.bind (
  iter (m_bidi_first_L5 p_l p_s p_in) (0 : Int) : Option (Sum Unit Int)) fun z =>
 match z with
 | .inl s1 =>
  some (-1 : Int)
 | .inr (v10) =>
  some v10
noncomputable def m_bidi_both_K9 (s4 : Int × Int) (y7 : Int) (s8 : Bool) : Option (Stp (Int × Int) (Sum Unit Int)) :=
 bif s8 then
  some (.done (.inr s4.2))
 else
  some (.next ((ior .u64 s4.1 y7), (IntKind.wrap .i64 (s4.2 + (1 : Int)))))
noncomputable def m_bidi_both_L5 (p_l : (List Int)) (s4 : Int × Int) : Option (Stp (Int × Int) (Sum Unit Int)) :=
 bif (decide (s4.2 < ((p_l.length : Nat) : Int))) then
  if 0 ≤ s4.2 ∧ s4.2 < ((p_l.length : Nat) : Int) then
   Option.bind (m_bidi_of [(p_l.getD (s4.2.toNat) 0)]) fun y7 =>
   Option.bind (
    Option.bind (m_bidi_set_has (ior .u64 s4.1 y7) (4 : Int)) fun y10 =>
    bif y10 then
     Option.bind (m_bidi_set_has (ior .u64 s4.1 y7) (5 : Int)) fun y11 =>
     some y11
    else
     some false : Option Bool) fun s8 =>
   m_bidi_both_K9 s4 y7 s8
  else none
 else
  some (.done (.inl ()))
noncomputable def m_bidi_both (p_l : (List Int)) : Option Int :=
 Option.bind (
  iter (m_bidi_both_L5 p_l) ((0 : Int), (0 : Int)) : Option (Sum Unit Int)) fun z =>
 match z with
 | .inl s1 =>
  some (-1 : Int)
 | .inr (v14) =>
  some v14
noncomputable def m_bidi_Broken_K4 (y1 : (List Int)) (y2 : Int) (s3 : Unit) : Option (Int × Int) :=
 Option.bind (m_bidi_neutral) fun y5 =>
 Option.bind (m_bidi_of [(2 : Int), (3 : Int), (5 : Int), (4 : Int)]) fun y6 =>
 Option.bind (m_bidi_first y1 (ior .u64 y5 y6) false) fun y7 =>
 bif (decide (y7 ≥ (0 : Int))) then
  some ((2 : Int), y7)
 else
  Option.bind (m_bidi_of [(2 : Int), (3 : Int), (4 : Int), (5 : Int)]) fun y8 =>
  if 0 ≤ y2 ∧ y2 < ((y1.length : Nat) : Int) then
   Option.bind (m_bidi_set_has y8 (y1.getD (y2.toNat) 0)) fun y9 =>
   bif (!y9) then
    some ((3 : Int), y2)
   else
    Option.bind (m_bidi_both y1) fun y10 =>
    bif (decide (y10 ≥ (0 : Int))) then
     some ((4 : Int), y10)
    else
     some ((0 : Int), (0 : Int))
  else none
noncomputable def m_bidi_Broken (p_p : T_api_Props) (p_l : (List Int)) : Option (Int × Int) :=
 Option.bind (m_bidi_row p_p p_l) fun y1 =>
 bif (((y1.length : Nat) : Int) == (0 : Int)) then
  some ((1 : Int), (0 : Int))
 else
  Option.bind (m_bidi_last y1) fun y2 =>
  if 0 ≤ (0 : Int) ∧ (0 : Int) < ((y1.length : Nat) : Int) then
   Option.bind (
    bif ((y1.getD 0 0) == (1 : Int)) then
     Option.bind (m_bidi_neutral) fun y11 =>
     Option.bind (m_bidi_of [(1 : Int), (4 : Int)]) fun y12 =>
     Option.bind (m_bidi_first y1 (ior .u64 y11 y12) false) fun y13 =>
     bif (decide (y13 ≥ (0 : Int))) then
      some (.inr (.inr (.inr ((5 : Int), y13))))
     else
      Option.bind (m_bidi_of [(1 : Int), (4 : Int)]) fun y14 =>
      if 0 ≤ y2 ∧ y2 < ((y1.length : Nat) : Int) then
       Option.bind (m_bidi_set_has y14 (y1.getD (y2.toNat) 0)) fun y15 =>
       bif (!y15) then
        some (.inr (.inr (.inr ((6 : Int), y2))))
       else
        some (.inr (.inl ()))
      else none
    else
     bif ((y1.getD 0 0) == (2 : Int)) then
      some (.inl ())
     else
      bif ((y1.getD 0 0) == (3 : Int)) then
       some (.inl ())
      else
       some (.inr (.inr (.inl ()))) : Option (Sum Unit (Sum Unit (Sum Unit (Int × Int))))) fun z =>
   match z with
   | .inl s3 =>
    m_bidi_Broken_K4 y1 y2 s3
   | .inr (.inl s16) =>
    some ((0 : Int), (0 : Int))
   | .inr (.inr (.inl s17)) =>
    some ((1 : Int), (0 : Int))
   | .inr (.inr (.inr (v18))) =>
    some (v18.1, v18.2)
  else none
noncomputable def m_bidi_Right (p_p : T_api_Props) (p_l : (List Int)) : Option Bool :=
 Option.bind (m_bidi_row p_p p_l) fun y1 =>
 Option.bind (m_bidi_of [(2 : Int), (3 : Int), (5 : Int)]) fun y2 =>
 Option.bind (m_bidi_first y1 y2 true) fun y3 =>
 some (decide (y3 ≥ (0 : Int)))
noncomputable def m_label_Check_1_K3 (y1 : Int × Int) (s2 : Bool) : Option Int :=
 bif s2 then
  some (-1 : Int)
 else
  some y1.2
noncomputable def m_label_Check_1 (p_a0 : T_api_Tables) (p_a1 : (List Int)) : Option Int :=
 Option.bind (m_bidi_Broken p_a0.f_Props p_a1) fun y1 =>
 Option.bind (
  bif (y1.1 == (0 : Int)) then
   some true
  else
   Option.bind (m_bidi_Right p_a0.f_Props p_a1) fun y4 =>
   some (!y4) : Option Bool) fun s2 =>
 m_label_Check_1_K3 y1 s2
noncomputable def m_label_form_1 (p_r : Int) : Option Bool :=
 Option.bind (m_label_plain p_r) fun y1 =>
 some (!y1)
noncomputable def m_slices_IndexFunc_rune_rune_label_form_1_L5 (p_s : (List Int)) (s4 : Int) : Option (Stp Int (Sum Unit Int)) :=
 bif (decide (s4 < ((p_s.length : Nat) : Int))) then
  if 0 ≤ s4 ∧ s4 < ((p_s.length : Nat) : Int) then
   Option.bind (m_label_form_1 (p_s.getD (s4.toNat) 0)) fun y7 =>
   bif y7 then
    some (.done (.inr s4))
   else
    some (.next (IntKind.wrap .i64 (s4 + (1 : Int))))
  else none
 else
  some (.done (.inl ()))
noncomputable def m_slices_IndexFunc_rune_rune_label_form_1 (p_s : (List Int)) : Option Int :=
 Option.bind (
  iter (m_slices_IndexFunc_rune_rune_label_form_1_L5 p_s) (0 : Int) : Option (Sum Unit Int)) fun z =>
 match z with
 | .inl s1 =>
  some (-1 : Int)
 | .inr (v10) =>
  some v10
noncomputable def m_slices_ContainsFunc_rune_rune_label_form_1 (p_s : (List Int)) : Option Bool :=
 Option.bind (m_slices_IndexFunc_rune_rune_label_form_1 p_s) fun y1 =>
 some (decide (y1 ≥ (0 : Int)))
noncomputable def m_puny_fault (p_at : Int) (p_e : Er) : Option Er :=
 some (Er.box 70 p_at p_e)
noncomputable def m_strings_Builder_copyCheck_own2 (p_b_0 : Int) (p_b_1 : Bool) (p_b_2 : Bool) (p_b_3 : (List Int)) (p_b_4 : Int) (p_b_5 : Int) (p_b_6 : Int) : Option (Int × Bool × Bool × Int × Int × Int) :=
 bif (!p_b_2) then
  some (p_b_0, p_b_1, true, p_b_4, p_b_5, p_b_6)
 else
  bif (!p_b_2) then
   none
  else
   some (p_b_0, p_b_1, p_b_2, p_b_4, p_b_5, p_b_6)
noncomputable def m_strings_Builder_WriteByte_own2 (p_b_0 : Int) (p_b_1 : Bool) (p_b_2 : Bool) (p_b_3 : (List Int)) (p_b_4 : Int) (p_b_5 : Int) (p_b_6 : Int) (p_c : Int) : Option (Int × Bool × Bool × (List Int) × Int × Int × Int × Er) :=
 Option.bind (m_strings_Builder_copyCheck_own2 p_b_0 p_b_1 p_b_2 p_b_3 p_b_4 p_b_5 p_b_6) fun y1 =>
 if (p_b_3.length + 1) * 1 ≤ 140737488355328 then
  some (y1.1, y1.2.1, y1.2.2.1, (p_b_3 ++ [p_c]), y1.2.2.2.1, y1.2.2.2.2.1, y1.2.2.2.2.2, Er.nil)
 else none
noncomputable def m_math_bits_Len64_K4  (s3 : Int × Int) : Option Int :=
 bif (decide (s3.1 ≥ (256 : Int))) then
  if 0 ≤ (IntKind.wrap .u8 (Int.fdiv s3.1 256)) ∧ (IntKind.wrap .u8 (Int.fdiv s3.1 256)) < (((ByteArray.mk #[0, 1, 2, 2, 3, 3, 3, 3, 4, 4, 4, 4, 4, 4, 4, 4, 5, 5, 5, 5, 5, 5, 5, 5, 5, 5, 5, 5, 5, 5, 5, 5, 6, 6, 6, 6, 6, 6, 6, 6, 6, 6, 6, 6, 6, 6, 6, 6, 6, 6, 6, 6, 6, 6, 6, 6, 6, 6, 6, 6, 6, 6, 6, 6, 7, 7, 7, 7, 7, 7, 7, 7, 7, 7, 7, 7, 7, 7, 7, 7, 7, 7, 7, 7, 7, 7, 7, 7, 7, 7, 7, 7, 7, 7, 7, 7, 7, 7, 7, 7, 7, 7, 7, 7, 7, 7, 7, 7, 7, 7, 7, 7, 7, 7, 7, 7, 7, 7, 7, 7, 7, 7, 7, 7, 7, 7, 7, 7, 8, 8, 8, 8, 8, 8, 8, 8, 8, 8, 8, 8, 8, 8, 8, 8, 8, 8, 8, 8, 8, 8, 8, 8, 8, 8, 8, 8, 8, 8, 8, 8, 8, 8, 8, 8, 8, 8, 8, 8, 8, 8, 8, 8, 8, 8, 8, 8, 8, 8, 8, 8, 8, 8, 8, 8, 8, 8, 8, 8, 8, 8, 8, 8, 8, 8, 8, 8, 8, 8, 8, 8, 8, 8, 8, 8, 8, 8, 8, 8, 8, 8, 8, 8, 8, 8, 8, 8, 8, 8, 8, 8, 8, 8, 8, 8, 8, 8, 8, 8, 8, 8, 8, 8, 8, 8, 8, 8, 8, 8, 8, 8, 8, 8, 8, 8, 8, 8, 8, 8, 8, 8, 8, 8, 8, 8, 8, 8]).size : Nat) : Int) then
   some (IntKind.wrap .i64 ((IntKind.wrap .i64 (s3.2 + (8 : Int))) + (IntKind.wrap .i64 (bt (ByteArray.mk #[0, 1, 2, 2, 3, 3, 3, 3, 4, 4, 4, 4, 4, 4, 4, 4, 5, 5, 5, 5, 5, 5, 5, 5, 5, 5, 5, 5, 5, 5, 5, 5, 6, 6, 6, 6, 6, 6, 6, 6, 6, 6, 6, 6, 6, 6, 6, 6, 6, 6, 6, 6, 6, 6, 6, 6, 6, 6, 6, 6, 6, 6, 6, 6, 7, 7, 7, 7, 7, 7, 7, 7, 7, 7, 7, 7, 7, 7, 7, 7, 7, 7, 7, 7, 7, 7, 7, 7, 7, 7, 7, 7, 7, 7, 7, 7, 7, 7, 7, 7, 7, 7, 7, 7, 7, 7, 7, 7, 7, 7, 7, 7, 7, 7, 7, 7, 7, 7, 7, 7, 7, 7, 7, 7, 7, 7, 7, 7, 8, 8, 8, 8, 8, 8, 8, 8, 8, 8, 8, 8, 8, 8, 8, 8, 8, 8, 8, 8, 8, 8, 8, 8, 8, 8, 8, 8, 8, 8, 8, 8, 8, 8, 8, 8, 8, 8, 8, 8, 8, 8, 8, 8, 8, 8, 8, 8, 8, 8, 8, 8, 8, 8, 8, 8, 8, 8, 8, 8, 8, 8, 8, 8, 8, 8, 8, 8, 8, 8, 8, 8, 8, 8, 8, 8, 8, 8, 8, 8, 8, 8, 8, 8, 8, 8, 8, 8, 8, 8, 8, 8, 8, 8, 8, 8, 8, 8, 8, 8, 8, 8, 8, 8, 8, 8, 8, 8, 8, 8, 8, 8, 8, 8, 8, 8, 8, 8, 8, 8, 8, 8, 8, 8, 8, 8, 8, 8]) (IntKind.wrap .u8 (Int.fdiv s3.1 256))))))
  else none
 else
  if 0 ≤ (IntKind.wrap .u8 s3.1) ∧ (IntKind.wrap .u8 s3.1) < (((ByteArray.mk #[0, 1, 2, 2, 3, 3, 3, 3, 4, 4, 4, 4, 4, 4, 4, 4, 5, 5, 5, 5, 5, 5, 5, 5, 5, 5, 5, 5, 5, 5, 5, 5, 6, 6, 6, 6, 6, 6, 6, 6, 6, 6, 6, 6, 6, 6, 6, 6, 6, 6, 6, 6, 6, 6, 6, 6, 6, 6, 6, 6, 6, 6, 6, 6, 7, 7, 7, 7, 7, 7, 7, 7, 7, 7, 7, 7, 7, 7, 7, 7, 7, 7, 7, 7, 7, 7, 7, 7, 7, 7, 7, 7, 7, 7, 7, 7, 7, 7, 7, 7, 7, 7, 7, 7, 7, 7, 7, 7, 7, 7, 7, 7, 7, 7, 7, 7, 7, 7, 7, 7, 7, 7, 7, 7, 7, 7, 7, 7, 8, 8, 8, 8, 8, 8, 8, 8, 8, 8, 8, 8, 8, 8, 8, 8, 8, 8, 8, 8, 8, 8, 8, 8, 8, 8, 8, 8, 8, 8, 8, 8, 8, 8, 8, 8, 8, 8, 8, 8, 8, 8, 8, 8, 8, 8, 8, 8, 8, 8, 8, 8, 8, 8, 8, 8, 8, 8, 8, 8, 8, 8, 8, 8, 8, 8, 8, 8, 8, 8, 8, 8, 8, 8, 8, 8, 8, 8, 8, 8, 8, 8, 8, 8, 8, 8, 8, 8, 8, 8, 8, 8, 8, 8, 8, 8, 8, 8, 8, 8, 8, 8, 8, 8, 8, 8, 8, 8, 8, 8, 8, 8, 8, 8, 8, 8, 8, 8, 8, 8, 8, 8, 8, 8, 8, 8, 8, 8]).size : Nat) : Int) then
   some (IntKind.wrap .i64 (s3.2 + (IntKind.wrap .i64 (bt (ByteArray.mk #[0, 1, 2, 2, 3, 3, 3, 3, 4, 4, 4, 4, 4, 4, 4, 4, 5, 5, 5, 5, 5, 5, 5, 5, 5, 5, 5, 5, 5, 5, 5, 5, 6, 6, 6, 6, 6, 6, 6, 6, 6, 6, 6, 6, 6, 6, 6, 6, 6, 6, 6, 6, 6, 6, 6, 6, 6, 6, 6, 6, 6, 6, 6, 6, 7, 7, 7, 7, 7, 7, 7, 7, 7, 7, 7, 7, 7, 7, 7, 7, 7, 7, 7, 7, 7, 7, 7, 7, 7, 7, 7, 7, 7, 7, 7, 7, 7, 7, 7, 7, 7, 7, 7, 7, 7, 7, 7, 7, 7, 7, 7, 7, 7, 7, 7, 7, 7, 7, 7, 7, 7, 7, 7, 7, 7, 7, 7, 7, 8, 8, 8, 8, 8, 8, 8, 8, 8, 8, 8, 8, 8, 8, 8, 8, 8, 8, 8, 8, 8, 8, 8, 8, 8, 8, 8, 8, 8, 8, 8, 8, 8, 8, 8, 8, 8, 8, 8, 8, 8, 8, 8, 8, 8, 8, 8, 8, 8, 8, 8, 8, 8, 8, 8, 8, 8, 8, 8, 8, 8, 8, 8, 8, 8, 8, 8, 8, 8, 8, 8, 8, 8, 8, 8, 8, 8, 8, 8, 8, 8, 8, 8, 8, 8, 8, 8, 8, 8, 8, 8, 8, 8, 8, 8, 8, 8, 8, 8, 8, 8, 8, 8, 8, 8, 8, 8, 8, 8, 8, 8, 8, 8, 8, 8, 8, 8, 8, 8, 8, 8, 8, 8, 8, 8, 8, 8, 8]) (IntKind.wrap .u8 s3.1)))))
  else none
noncomputable def m_math_bits_Len64_K2  (s1 : Int × Int) : Option Int :=
 Option.bind (
  bif (decide (s1.1 ≥ (65536 : Int))) then
   some ((Int.fdiv s1.1 65536), (IntKind.wrap .i64 (s1.2 + (16 : Int))))
  else
   some (s1.1, s1.2) : Option (Int × Int)) fun s3 =>
 m_math_bits_Len64_K4 s3
noncomputable def m_math_bits_Len64 (p_x : Int) : Option Int :=
 Option.bind (
  bif (decide (p_x ≥ (4294967296 : Int))) then
   some ((Int.fdiv p_x 4294967296), (32 : Int))
  else
   some (p_x, (0 : Int)) : Option (Int × Int)) fun s1 =>
 m_math_bits_Len64_K2 s1
noncomputable def m_math_bits_Len (p_x : Int) : Option Int :=
 Option.bind (m_math_bits_Len64 p_x) fun y1 =>
 some y1
noncomputable def m_slices_insertionSortOrdered_rune_own_K12 (s8 : (List Int) × Int) (s11 : Bool) : Option (Stp ((List Int) × Int) (List Int)) :=
 bif s11 then
  if 0 ≤ (IntKind.wrap .i64 (s8.2 - (1 : Int))) ∧ (IntKind.wrap .i64 (s8.2 - (1 : Int))) < ((s8.1.length : Nat) : Int) then
   if 0 ≤ s8.2 ∧ s8.2 < ((s8.1.length : Nat) : Int) then
    if 0 ≤ s8.2 ∧ s8.2 < ((s8.1.length : Nat) : Int) then
     if 0 ≤ (IntKind.wrap .i64 (s8.2 - (1 : Int))) ∧ (IntKind.wrap .i64 (s8.2 - (1 : Int))) < ((s8.1.length : Nat) : Int) then
      some (.next (((s8.1.set (s8.2.toNat) (s8.1.getD ((IntKind.wrap .i64 (s8.2 - (1 : Int))).toNat) 0)).set ((IntKind.wrap .i64 (s8.2 - (1 : Int))).toNat) (s8.1.getD (s8.2.toNat) 0)), (IntKind.wrap .i64 (s8.2 - (1 : Int)))))
     else none
    else none
   else none
  else none
 else
  some (.done s8.1)
noncomputable def m_slices_insertionSortOrdered_rune_own_L9 (p_a : Int) (s8 : (List Int) × Int) : Option (Stp ((List Int) × Int) (List Int)) :=
 Option.bind (
  bif (decide (s8.2 > p_a)) then
   if 0 ≤ s8.2 ∧ s8.2 < ((s8.1.length : Nat) : Int) then
    if 0 ≤ (IntKind.wrap .i64 (s8.2 - (1 : Int))) ∧ (IntKind.wrap .i64 (s8.2 - (1 : Int))) < ((s8.1.length : Nat) : Int) then
     Option.bind (m_cmp_Less_rune (s8.1.getD (s8.2.toNat) 0) (s8.1.getD ((IntKind.wrap .i64 (s8.2 - (1 : Int))).toNat) 0)) fun y13 =>
     some y13
    else none
   else none
  else
   some false : Option Bool) fun s11 =>
 m_slices_insertionSortOrdered_rune_own_K12 s8 s11
noncomputable def m_slices_insertionSortOrdered_rune_own_L3 (p_a : Int) (p_b : Int) (s2 : (List Int) × Int) : Option (Stp ((List Int) × Int) (List Int)) :=
 bif (decide (s2.2 < p_b)) then
  Option.bind (
   iter (m_slices_insertionSortOrdered_rune_own_L9 p_a) (s2.1, s2.2) : Option (List Int)) fun s5 =>
  some (.next (s5, (IntKind.wrap .i64 (s2.2 + (1 : Int)))))
 else
  some (.done s2.1)
noncomputable def m_slices_insertionSortOrdered_rune_own (p_data : (List Int)) (p_a : Int) (p_b : Int) : Option (List Int) :=
 Option.bind (iter (m_slices_insertionSortOrdered_rune_own_L3 p_a p_b) (p_data, (IntKind.wrap .i64 (p_a + (1 : Int))))) fun s15 =>
 some s15
noncomputable def m_slices_pdqsortOrdered_rune_own_L2 (p_data : (List Int)) (p_a : Int) (p_b : Int) (p_limit : Int) (s1 : Unit) : Option (Stp Unit (List Int)) :=
 bif (decide ((IntKind.wrap .i64 (p_b - p_a)) ≤ (12 : Int))) then
  Option.bind (m_slices_insertionSortOrdered_rune_own p_data p_a p_b) fun y4 =>
  if y4.length = p_data.length then
   some (.done y4)
  else none
 else
  bif (p_limit == (0 : Int)) then
   none
  else
   none
noncomputable def m_slices_pdqsortOrdered_rune_own (p_data : (List Int)) (p_a : Int) (p_b : Int) (p_limit : Int) : Option (List Int) :=
 Option.bind (iter (m_slices_pdqsortOrdered_rune_own_L2 p_data p_a p_b p_limit) ()) fun v5 =>
 some v5
noncomputable def m_slices_Sort_rune_rune_own (p_x : (List Int)) : Option (List Int) :=
 Option.bind (m_math_bits_Len (IntKind.wrap .u64 ((p_x.length : Nat) : Int))) fun y1 =>
 Option.bind (m_slices_pdqsortOrdered_rune_own p_x (0 : Int) ((p_x.length : Nat) : Int) y1) fun y2 =>
 if y2.length = p_x.length then
  some y2
 else none
noncomputable def m_slices_Compact_rune_rune_own_K10  (s9 : (List Int) × Int) : Option (Sum Unit ((List Int) × Nat)) :=
 if 0 ≤ s9.2 ∧ s9.2 ≤ ((s9.1.length : Nat) : Int) ∧ ((s9.1.length : Nat) : Int) ≤ ((s9.1.length : Nat) : Int) then
  if (s9.2.toNat) + (s9.1.length - (s9.2.toNat)) ≤ s9.1.length then
   if 0 ≤ s9.2 ∧ s9.2 ≤ ((s9.1.length : Nat) : Int) then
    some (.inr ((s9.1.take (s9.2.toNat) ++ (List.replicate (s9.1.length - (s9.2.toNat)) 0 ++ s9.1.drop ((s9.2.toNat) + (s9.1.length - (s9.2.toNat))))), (s9.2.toNat)))
   else none
  else none
 else none
noncomputable def m_slices_Compact_rune_rune_own_L13 (p_s : (List Int)) (s4 : Int) (s12 : (List Int) × Int × Int) : Option (Stp ((List Int) × Int × Int) ((List Int) × Int)) :=
 bif (decide (s12.2.2 < (((p_s.length - (s4.toNat)) : Nat) : Int))) then
  if 0 ≤ s12.2.2 ∧ s12.2.2 < (((p_s.length - (s4.toNat)) : Nat) : Int) then
   if 0 ≤ (IntKind.wrap .i64 (s12.2.2 - (1 : Int))) ∧ (IntKind.wrap .i64 (s12.2.2 - (1 : Int))) < (((p_s.length - (s4.toNat)) : Nat) : Int) then
    bif ((s12.1.getD ((s4.toNat) + (s12.2.2.toNat)) 0) != (s12.1.getD ((s4.toNat) + ((IntKind.wrap .i64 (s12.2.2 - (1 : Int))).toNat)) 0)) then
     if 0 ≤ s12.2.2 ∧ s12.2.2 < (((p_s.length - (s4.toNat)) : Nat) : Int) then
      if 0 ≤ s12.2.1 ∧ s12.2.1 < ((s12.1.length : Nat) : Int) then
       some (.next ((s12.1.set (s12.2.1.toNat) (s12.1.getD ((s4.toNat) + (s12.2.2.toNat)) 0)), (IntKind.wrap .i64 (s12.2.1 + (1 : Int))), (IntKind.wrap .i64 (s12.2.2 + (1 : Int)))))
      else none
     else none
    else
     some (.next (s12.1, s12.2.1, (IntKind.wrap .i64 (s12.2.2 + (1 : Int)))))
   else none
  else none
 else
  some (.done (s12.1, s12.2.1))
noncomputable def m_slices_Compact_rune_rune_own_L5 (p_s : (List Int)) (s4 : Int) : Option (Stp Int (Sum Unit ((List Int) × Nat))) :=
 bif (decide (s4 < ((p_s.length : Nat) : Int))) then
  Option.bind (
   if 0 ≤ s4 ∧ s4 < ((p_s.length : Nat) : Int) then
    if 0 ≤ (IntKind.wrap .i64 (s4 - (1 : Int))) ∧ (IntKind.wrap .i64 (s4 - (1 : Int))) < ((p_s.length : Nat) : Int) then
     bif ((p_s.getD (s4.toNat) 0) == (p_s.getD ((IntKind.wrap .i64 (s4 - (1 : Int))).toNat) 0)) then
      if 0 ≤ s4 ∧ s4 ≤ ((p_s.length : Nat) : Int) ∧ ((p_s.length : Nat) : Int) ≤ ((p_s.length : Nat) : Int) then
       Option.bind (
        iter (m_slices_Compact_rune_rune_own_L13 p_s s4) (p_s, s4, (1 : Int)) : Option ((List Int) × Int)) fun s9 =>
       m_slices_Compact_rune_rune_own_K10 s9
      else none
     else
      some (.inl ())
    else none
   else none : Option (Sum Unit ((List Int) × Nat))) fun z =>
  match z with
  | .inl s7 =>
   some (.next (IntKind.wrap .i64 (s4 + (1 : Int))))
  | .inr (v16) =>
   some (.done (.inr (v16.1, v16.2)))
 else
  some (.done (.inl ()))
noncomputable def m_slices_Compact_rune_rune_own (p_s : (List Int)) : Option ((List Int) × Nat) :=
 bif (decide (((p_s.length : Nat) : Int) < (2 : Int))) then
  some (p_s, p_s.length)
 else
  Option.bind (
   iter (m_slices_Compact_rune_rune_own_L5 p_s) (1 : Int) : Option (Sum Unit ((List Int) × Nat))) fun z =>
  match z with
  | .inl s1 =>
   some (p_s, p_s.length)
  | .inr (v19) =>
   some v19
noncomputable def m_puny_within (p_n : Int) (p_low : Int) (p_high : Int) : Option Int :=
 some (max p_low (min p_n p_high))
noncomputable def m_puny_bias_bound_own (p_b_0 : Int) (p_b_1 : Bool) (p_b_2 : Bool) (p_b_3 : (List Int)) (p_b_4 : Int) (p_b_5 : Int) (p_b_6 : Int) (p_k : Int) : Option (Int × Bool × Bool × Int × Int × Int × Int) :=
 Option.bind (m_puny_within (IntKind.wrap .i64 ((IntKind.wrap .i64 ((36 : Int) * (IntKind.wrap .i64 (p_k + (1 : Int))))) - p_b_0)) (1 : Int) (26 : Int)) fun y1 =>
 some (p_b_0, p_b_1, p_b_2, p_b_4, p_b_5, p_b_6, y1)
noncomputable def m_puny_sign (p_n : Int) : Option Int :=
 bif (decide (p_n < (26 : Int))) then
  some (IntKind.wrap .u8 (IntKind.wrap .i64 ((97 : Int) + p_n)))
 else
  some (IntKind.wrap .u8 (IntKind.wrap .i64 ((IntKind.wrap .i64 ((48 : Int) + p_n)) - (26 : Int))))
noncomputable def m_puny_bias_digits_own_L3 (p_b_3 : (List Int)) (s2 : Int × Bool × Bool × Int × Int × Int × Int × (List Int) × Int) : Option (Stp (Int × Bool × Bool × Int × Int × Int × Int × (List Int) × Int) (Int × Bool × Bool × Int × Int × Int × ByteArray)) :=
 Option.bind (m_puny_bias_bound_own s2.1 s2.2.1 s2.2.2.1 p_b_3 s2.2.2.2.1 s2.2.2.2.2.1 s2.2.2.2.2.2.1 s2.2.2.2.2.2.2.2.2) fun y5 =>
 bif (decide (s2.2.2.2.2.2.2.1 < y5.2.2.2.2.2.2)) then
  Option.bind (m_puny_sign s2.2.2.2.2.2.2.1) fun y6 =>
  if (s2.2.2.2.2.2.2.2.1.length + 1) * 1 ≤ 140737488355328 then
   some (.done (y5.1, y5.2.1, y5.2.2.1, y5.2.2.2.1, y5.2.2.2.2.1, y5.2.2.2.2.2.1, (strOfNums (s2.2.2.2.2.2.2.2.1 ++ [y6]))))
  else none
 else
  if (IntKind.wrap .i64 ((36 : Int) - y5.2.2.2.2.2.2)) ≠ 0 then
   Option.bind (m_puny_sign (IntKind.wrap .i64 (y5.2.2.2.2.2.2 + (Int.tmod (IntKind.wrap .i64 (s2.2.2.2.2.2.2.1 - y5.2.2.2.2.2.2)) (IntKind.wrap .i64 ((36 : Int) - y5.2.2.2.2.2.2)))))) fun y7 =>
   if (s2.2.2.2.2.2.2.2.1.length + 1) * 1 ≤ 140737488355328 then
    if (IntKind.wrap .i64 ((36 : Int) - y5.2.2.2.2.2.2)) ≠ 0 then
     some (.next (y5.1, y5.2.1, y5.2.2.1, y5.2.2.2.1, y5.2.2.2.2.1, y5.2.2.2.2.2.1, (IntKind.wrap .i64 (Int.tdiv (IntKind.wrap .i64 (s2.2.2.2.2.2.2.1 - y5.2.2.2.2.2.2)) (IntKind.wrap .i64 ((36 : Int) - y5.2.2.2.2.2.2)))), (s2.2.2.2.2.2.2.2.1 ++ [y7]), (IntKind.wrap .i64 (s2.2.2.2.2.2.2.2.2 + (1 : Int)))))
    else none
   else none
  else none
noncomputable def m_puny_bias_digits_own (p_b_0 : Int) (p_b_1 : Bool) (p_b_2 : Bool) (p_b_3 : (List Int)) (p_b_4 : Int) (p_b_5 : Int) (p_b_6 : Int) (p_d : Int) : Option (Int × Bool × Bool × Int × Int × Int × ByteArray) :=
 Option.bind (iter (m_puny_bias_digits_own_L3 p_b_3) (p_b_0, p_b_1, p_b_2, p_b_4, p_b_5, p_b_6, p_d, [], (0 : Int))) fun v8 =>
 some v8
noncomputable def m_strings_Builder_WriteString_own (p_b_0 : Int) (p_b_1 : Bool) (p_b_2 : Bool) (p_b_3 : (List Int)) (p_b_4 : Int) (p_b_5 : Int) (p_b_6 : Int) (p_s : ByteArray) : Option (Int × Bool × Bool × (List Int) × Int × Int × Int × Int) :=
 Option.bind (m_strings_Builder_copyCheck_own2 p_b_0 p_b_1 p_b_2 p_b_3 p_b_4 p_b_5 p_b_6) fun y1 =>
 if (p_b_3.length + p_s.size) ≤ 140737488355328 then
  some (y1.1, y1.2.1, y1.2.2.1, (p_b_3 ++ (numsOf p_s)), y1.2.2.2.1, y1.2.2.2.2.1, y1.2.2.2.2.2, ((p_s.size : Nat) : Int))
 else none
noncomputable def m_puny_Bias_K6  (s5 : Int × Int) : Option Int :=
 if (IntKind.wrap .i64 (s5.1 + (38 : Int))) ≠ 0 then
  some (IntKind.wrap .i64 (s5.2 + (IntKind.wrap .i64 (Int.tdiv (IntKind.wrap .i64 ((36 : Int) * s5.1)) (IntKind.wrap .i64 (s5.1 + (38 : Int)))))))
 else none
noncomputable def m_puny_Bias_L9  (s8 : Int × Int) : Option (Stp (Int × Int) (Int × Int)) :=
 bif (decide (s8.1 > (455 : Int))) then
  some (.next ((IntKind.wrap .i64 (Int.tdiv s8.1 (35 : Int))), (IntKind.wrap .i64 (s8.2 + (36 : Int)))))
 else
  some (.done (s8.1, s8.2))
noncomputable def m_puny_Bias_K4 (y2 : Int) (s3 : Int) : Option Int :=
 if y2 ≠ 0 then
  Option.bind (
   iter (m_puny_Bias_L9) ((IntKind.wrap .i64 (s3 + (IntKind.wrap .i64 (Int.tdiv s3 y2)))), (0 : Int)) : Option (Int × Int)) fun s5 =>
  m_puny_Bias_K6 s5
 else none
noncomputable def m_puny_Bias (p_d : Int) (p_many : Int) (p_first : Bool) : Option Int :=
 Option.bind (m_puny_within p_d (0 : Int) (2147483647 : Int)) fun y1 =>
 Option.bind (m_puny_within p_many (1 : Int) (2147483647 : Int)) fun y2 =>
 Option.bind (
  bif p_first then
   some (IntKind.wrap .i64 (Int.tdiv y1 (700 : Int)))
  else
   some (IntKind.wrap .i64 (Int.tdiv y1 (2 : Int))) : Option Int) fun s3 =>
 m_puny_Bias_K4 y2 s3
noncomputable def m_puny_bias_adapt_own (p_b_0 : Int) (p_b_1 : Bool) (p_b_2 : Bool) (p_b_3 : (List Int)) (p_b_4 : Int) (p_b_5 : Int) (p_b_6 : Int) (p_d : Int) (p_many : Int) : Option (Int × Bool × Bool × Int × Int × Int) :=
 Option.bind (m_puny_Bias p_d p_many (!p_b_1)) fun y1 =>
 some (y1, true, p_b_2, p_b_4, p_b_5, p_b_6)
noncomputable def m_puny_encoder_put_own (p_w_0 : Int) (p_w_1 : Bool) (p_w_2 : Bool) (p_w_3 : (List Int)) (p_w_4 : Int) (p_w_5 : Int) (p_w_6 : Int) (p_r : Int) (p_i : Int) : Option (Int × Bool × Bool × (List Int) × Int × Int × Int) :=
 Option.bind (m_puny_bias_digits_own p_w_0 p_w_1 p_w_2 p_w_3 p_w_4 p_w_5 p_w_6 (IntKind.wrap .i64 ((IntKind.wrap .i64 ((IntKind.wrap .i64 ((IntKind.wrap .i64 ((IntKind.wrap .i64 p_r) - (IntKind.wrap .i64 p_w_4))) * (IntKind.wrap .i64 (p_w_6 + (1 : Int))))) + p_i)) - p_w_5))) fun y1 =>
 Option.bind (m_strings_Builder_WriteString_own y1.1 y1.2.1 y1.2.2.1 p_w_3 y1.2.2.2.1 y1.2.2.2.2.1 y1.2.2.2.2.2.1 y1.2.2.2.2.2.2) fun y2 =>
 Option.bind (m_puny_bias_adapt_own y2.1 y2.2.1 y2.2.2.1 y2.2.2.2.1 y2.2.2.2.2.1 y2.2.2.2.2.2.1 (IntKind.wrap .i64 (y2.2.2.2.2.2.2.1 + (1 : Int))) (IntKind.wrap .i64 ((IntKind.wrap .i64 ((IntKind.wrap .i64 ((IntKind.wrap .i64 ((IntKind.wrap .i64 p_r) - (IntKind.wrap .i64 p_w_4))) * (IntKind.wrap .i64 (p_w_6 + (1 : Int))))) + p_i)) - p_w_5)) (IntKind.wrap .i64 (y2.2.2.2.2.2.2.1 + (1 : Int)))) fun y3 =>
 some (y3.1, y3.2.1, y3.2.2.1, y2.2.2.2.1, p_r, (IntKind.wrap .i64 (p_i + (1 : Int))), y3.2.2.2.2.2)
noncomputable def m_puny_encoder_all_own_K7 (p_l : (List Int)) (p_r : Int) (s3 : Int × Bool × Bool × (List Int) × Int × Int × Int × Int × Int) (s6 : Int × Bool × Bool × (List Int) × Int × Int × Int) : Option (Stp (Int × Bool × Bool × (List Int) × Int × Int × Int × Int × Int) (Int × Bool × Bool × (List Int) × Int × Int × Int)) :=
 bif (decide ((p_l.getD (s3.2.2.2.2.2.2.2.2.toNat) 0) ≤ p_r)) then
  some (.next (s6.1, s6.2.1, s6.2.2.1, s6.2.2.2.1, s6.2.2.2.2.1, s6.2.2.2.2.2.1, s6.2.2.2.2.2.2, (IntKind.wrap .i64 (s3.2.2.2.2.2.2.2.1 + (1 : Int))), (IntKind.wrap .i64 (s3.2.2.2.2.2.2.2.2 + (1 : Int)))))
 else
  some (.next (s6.1, s6.2.1, s6.2.2.1, s6.2.2.2.1, s6.2.2.2.2.1, s6.2.2.2.2.2.1, s6.2.2.2.2.2.2, s3.2.2.2.2.2.2.2.1, (IntKind.wrap .i64 (s3.2.2.2.2.2.2.2.2 + (1 : Int)))))
noncomputable def m_puny_encoder_all_own_L4 (p_l : (List Int)) (p_r : Int) (s3 : Int × Bool × Bool × (List Int) × Int × Int × Int × Int × Int) : Option (Stp (Int × Bool × Bool × (List Int) × Int × Int × Int × Int × Int) (Int × Bool × Bool × (List Int) × Int × Int × Int)) :=
 bif (decide (s3.2.2.2.2.2.2.2.2 < ((p_l.length : Nat) : Int))) then
  if 0 ≤ s3.2.2.2.2.2.2.2.2 ∧ s3.2.2.2.2.2.2.2.2 < ((p_l.length : Nat) : Int) then
   Option.bind (
    bif ((p_l.getD (s3.2.2.2.2.2.2.2.2.toNat) 0) == p_r) then
     Option.bind (m_puny_encoder_put_own s3.1 s3.2.1 s3.2.2.1 s3.2.2.2.1 s3.2.2.2.2.1 s3.2.2.2.2.2.1 s3.2.2.2.2.2.2.1 p_r s3.2.2.2.2.2.2.2.1) fun y8 =>
     some (y8.1, y8.2.1, y8.2.2.1, y8.2.2.2.1, y8.2.2.2.2.1, y8.2.2.2.2.2.1, y8.2.2.2.2.2.2)
    else
     some (s3.1, s3.2.1, s3.2.2.1, s3.2.2.2.1, s3.2.2.2.2.1, s3.2.2.2.2.2.1, s3.2.2.2.2.2.2.1) : Option (Int × Bool × Bool × (List Int) × Int × Int × Int)) fun s6 =>
   m_puny_encoder_all_own_K7 p_l p_r s3 s6
  else none
 else
  some (.done (s3.1, s3.2.1, s3.2.2.1, s3.2.2.2.1, s3.2.2.2.2.1, s3.2.2.2.2.2.1, s3.2.2.2.2.2.2.1))
noncomputable def m_puny_encoder_all_own (p_w_0 : Int) (p_w_1 : Bool) (p_w_2 : Bool) (p_w_3 : (List Int)) (p_w_4 : Int) (p_w_5 : Int) (p_w_6 : Int) (p_l : (List Int)) (p_r : Int) : Option (Int × Bool × Bool × (List Int) × Int × Int × Int) :=
 Option.bind (iter (m_puny_encoder_all_own_L4 p_l p_r) (p_w_0, p_w_1, p_w_2, p_w_3, p_w_4, p_w_5, p_w_6, (0 : Int), (0 : Int))) fun s9 =>
 some (s9.1, s9.2.1, s9.2.2.1, s9.2.2.2.1, s9.2.2.2.2.1, s9.2.2.2.2.2.1, s9.2.2.2.2.2.2)
noncomputable def m_strings_Builder_Len_own (p_b_0 : Int) (p_b_1 : Bool) (p_b_2 : Bool) (p_b_3 : (List Int)) (p_b_4 : Int) (p_b_5 : Int) (p_b_6 : Int) : Option (Int × Bool × Bool × Int × Int × Int × Int) :=
 some (p_b_0, p_b_1, p_b_2, p_b_4, p_b_5, p_b_6, ((p_b_3.length : Nat) : Int))
noncomputable def m_strings_Builder_String_own2 (p_b_0 : Int) (p_b_1 : Bool) (p_b_2 : Bool) (p_b_3 : (List Int)) (p_b_4 : Int) (p_b_5 : Int) (p_b_6 : Int) : Option (Int × Bool × Bool × (List Int) × Int × Int × Int × ByteArray) :=
 if p_b_3.length ≤ 9223372036854775807 then
  some (p_b_0, p_b_1, p_b_2, p_b_3, p_b_4, p_b_5, p_b_6, (strOfNums (p_b_3.take p_b_3.length)))
 else none
noncomputable def m_puny_Encode_K10  (s9 : Int × Bool × Bool × (List Int) × Int × Int × Int) : Option (ByteArray × Er) :=
 Option.bind (m_strings_Builder_Len_own s9.1 s9.2.1 s9.2.2.1 s9.2.2.2.1 s9.2.2.2.2.1 s9.2.2.2.2.2.1 s9.2.2.2.2.2.2) fun y11 =>
 bif (decide (y11.2.2.2.2.2.2 > (120 : Int))) then
  Option.bind (m_puny_fault (0 : Int) (Er.sent 6)) fun y12 =>
  some ((ByteArray.mk #[]), y12)
 else
  Option.bind (m_strings_Builder_String_own2 y11.1 y11.2.1 y11.2.2.1 s9.2.2.2.1 y11.2.2.2.1 y11.2.2.2.2.1 y11.2.2.2.2.2.1) fun y13 =>
  if y13.2.2.2.1.length = s9.2.2.2.1.length then
   some (y13.2.2.2.2.2.2.2, Er.nil)
  else none
noncomputable def m_puny_Encode_L17 (p_l : (List Int)) (y14 : (List Int) × Nat) (s16 : Int × Bool × Bool × (List Int) × Int × Int × Int × Int) : Option (Stp (Int × Bool × Bool × (List Int) × Int × Int × Int × Int) (Int × Bool × Bool × (List Int) × Int × Int × Int)) :=
 bif (decide (s16.2.2.2.2.2.2.2 < ((y14.2 : Nat) : Int))) then
  if 0 ≤ s16.2.2.2.2.2.2.2 ∧ s16.2.2.2.2.2.2.2 < ((y14.2 : Nat) : Int) then
   Option.bind (m_puny_encoder_all_own s16.1 s16.2.1 s16.2.2.1 s16.2.2.2.1 s16.2.2.2.2.1 s16.2.2.2.2.2.1 s16.2.2.2.2.2.2.1 p_l (y14.1.getD (s16.2.2.2.2.2.2.2.toNat) 0)) fun y19 =>
   some (.next (y19.1, y19.2.1, y19.2.2.1, y19.2.2.2.1, y19.2.2.2.2.1, y19.2.2.2.2.2.1, y19.2.2.2.2.2.2, (IntKind.wrap .i64 (s16.2.2.2.2.2.2.2 + (1 : Int)))))
  else none
 else
  some (.done (s16.1, s16.2.1, s16.2.2.1, s16.2.2.2.1, s16.2.2.2.2.1, s16.2.2.2.2.2.1, s16.2.2.2.2.2.2.1))
noncomputable def m_puny_Encode_K7 (p_l : (List Int)) (s4 : Int × Bool × Bool × (List Int) × Int × Int × Int × (List Int)) (s6 : Int × Bool × Bool × (List Int) × Int × Int × Int) : Option (ByteArray × Er) :=
 Option.bind (m_slices_Sort_rune_rune_own s4.2.2.2.2.2.2.2) fun y8 =>
 if y8.length = s4.2.2.2.2.2.2.2.length then
  Option.bind (
   Option.bind (m_slices_Compact_rune_rune_own y8) fun y14 =>
   if y14.1.length = y8.length then
    iter (m_puny_Encode_L17 p_l y14) (s6.1, s6.2.1, s6.2.2.1, s6.2.2.2.1, s6.2.2.2.2.1, s6.2.2.2.2.2.1, s6.2.2.2.2.2.2, (0 : Int))
   else none : Option (Int × Bool × Bool × (List Int) × Int × Int × Int)) fun s9 =>
  m_puny_Encode_K10 s9
 else none
noncomputable def m_puny_Encode_K5 (p_l : (List Int)) (s4 : Int × Bool × Bool × (List Int) × Int × Int × Int × (List Int)) : Option (ByteArray × Er) :=
 Option.bind (
  bif (decide (s4.2.2.2.2.2.2.1 > (0 : Int))) then
   Option.bind (m_strings_Builder_WriteByte_own2 s4.1 s4.2.1 s4.2.2.1 s4.2.2.2.1 s4.2.2.2.2.1 s4.2.2.2.2.2.1 s4.2.2.2.2.2.2.1 (45 : Int)) fun y21 =>
   some (y21.1, y21.2.1, y21.2.2.1, y21.2.2.2.1, y21.2.2.2.2.1, y21.2.2.2.2.2.1, y21.2.2.2.2.2.2.1)
  else
   some (s4.1, s4.2.1, s4.2.2.1, s4.2.2.2.1, s4.2.2.2.2.1, s4.2.2.2.2.2.1, s4.2.2.2.2.2.2.1) : Option (Int × Bool × Bool × (List Int) × Int × Int × Int)) fun s6 =>
 m_puny_Encode_K7 p_l s4 s6
noncomputable def m_puny_Encode_L24 (p_l : (List Int)) (s23 : Int × Bool × Bool × (List Int) × Int × Int × Int × (List Int) × Int) : Option (Stp (Int × Bool × Bool × (List Int) × Int × Int × Int × (List Int) × Int) (Int × Bool × Bool × (List Int) × Int × Int × Int × (List Int))) :=
 bif (decide (s23.2.2.2.2.2.2.2.2 < ((p_l.length : Nat) : Int))) then
  if 0 ≤ s23.2.2.2.2.2.2.2.2 ∧ s23.2.2.2.2.2.2.2.2 < ((p_l.length : Nat) : Int) then
   bif (decide ((p_l.getD (s23.2.2.2.2.2.2.2.2.toNat) 0) < (128 : Int))) then
    Option.bind (m_strings_Builder_WriteByte_own2 s23.1 s23.2.1 s23.2.2.1 s23.2.2.2.1 s23.2.2.2.2.1 s23.2.2.2.2.2.1 s23.2.2.2.2.2.2.1 (IntKind.wrap .u8 (p_l.getD (s23.2.2.2.2.2.2.2.2.toNat) 0))) fun y26 =>
    some (.next (y26.1, y26.2.1, y26.2.2.1, y26.2.2.2.1, y26.2.2.2.2.1, y26.2.2.2.2.2.1, (IntKind.wrap .i64 (y26.2.2.2.2.2.2.1 + (1 : Int))), s23.2.2.2.2.2.2.2.1, (IntKind.wrap .i64 (s23.2.2.2.2.2.2.2.2 + (1 : Int)))))
   else
    if (s23.2.2.2.2.2.2.2.1.length + 1) * 4 ≤ 140737488355328 then
     some (.next (s23.1, s23.2.1, s23.2.2.1, s23.2.2.2.1, s23.2.2.2.2.1, s23.2.2.2.2.2.1, s23.2.2.2.2.2.2.1, (s23.2.2.2.2.2.2.2.1 ++ [(p_l.getD (s23.2.2.2.2.2.2.2.2.toNat) 0)]), (IntKind.wrap .i64 (s23.2.2.2.2.2.2.2.2 + (1 : Int)))))
    else none
  else none
 else
  some (.done (s23.1, s23.2.1, s23.2.2.1, s23.2.2.2.1, s23.2.2.2.2.1, s23.2.2.2.2.2.1, s23.2.2.2.2.2.2.1, s23.2.2.2.2.2.2.2.1))
noncomputable def m_puny_Encode_K2 (p_l : (List Int)) (s1 : Unit) : Option (ByteArray × Er) :=
 bif (decide (((p_l.length : Nat) : Int) > (120 : Int))) then
  Option.bind (m_puny_fault (0 : Int) (Er.sent 6)) fun y3 =>
  some ((ByteArray.mk #[]), y3)
 else
  Option.bind (
   iter (m_puny_Encode_L24 p_l) ((72 : Int), false, false, [], (128 : Int), (0 : Int), (0 : Int), [], (0 : Int)) : Option (Int × Bool × Bool × (List Int) × Int × Int × Int × (List Int))) fun s4 =>
  m_puny_Encode_K5 p_l s4
noncomputable def m_puny_Encode_L30 (p_l : (List Int)) (s29 : Int) : Option (Stp Int (Sum Unit (ByteArray × Er))) :=
 bif (decide (s29 < ((p_l.length : Nat) : Int))) then
  if 0 ≤ s29 ∧ s29 < ((p_l.length : Nat) : Int) then
   Option.bind (m_utf_Right (p_l.getD (s29.toNat) 0)) fun y32 =>
   bif (!y32) then
    Option.bind (m_puny_fault s29 (Er.sent 12)) fun y33 =>
    some (.done (.inr ((ByteArray.mk #[]), y33)))
   else
    some (.next (IntKind.wrap .i64 (s29 + (1 : Int))))
  else none
 else
  some (.done (.inl ()))
noncomputable def m_puny_Encode (p_l : (List Int)) : Option (ByteArray × Er) :=
 Option.bind (
  iter (m_puny_Encode_L30 p_l) (0 : Int) : Option (Sum Unit (ByteArray × Er))) fun z =>
 match z with
 | .inl s1 =>
  m_puny_Encode_K2 p_l s1
 | .inr (v36) =>
  some (v36.1, v36.2)
noncomputable def m_label_form (p_l : (List Int)) : Option (ByteArray × Er) :=
 Option.bind (m_utf_Encode p_l) fun y1 =>
 Option.bind (m_slices_ContainsFunc_rune_rune_label_form_1 p_l) fun y2 =>
 bif (!y2) then
  some (y1.1, y1.2)
 else
  Option.bind (m_puny_Encode p_l) fun y3 =>
  bif (!y3.2.isNil) then
   some ((ByteArray.mk #[]), y3.2)
  else
   if (ByteArray.mk #[120, 110, 45, 45]).size + y3.1.size ≤ 9223372036854775807 then
    some (((ByteArray.mk #[120, 110, 45, 45]) ++ y3.1), Er.nil)
   else none
noncomputable def m_label_Check_K6  (s5 : Bool) : Option Er :=
 bif s5 then
  Option.bind (m_label_fault (0 : Int) (Er.sent 6)) fun y7 =>
  some y7
 else
  some Er.nil
noncomputable def m_label_Check_K3 (p_l : (List Int)) (s2 : Unit) : Option Er :=
 Option.bind (m_label_form p_l) fun y4 =>
 Option.bind (
  bif (decide (((y4.1.size : Nat) : Int) > (63 : Int))) then
   some true
  else
   Option.bind (m_errors_Is y4.2 (Er.sent 6)) fun y8 =>
   some y8 : Option Bool) fun s5 =>
 m_label_Check_K6 s5
noncomputable def m_label_Check (p_t : T_api_Tables) (p_l : (List Int)) : Option Er :=
 bif (((p_l.length : Nat) : Int) == (0 : Int)) then
  Option.bind (m_label_fault (0 : Int) (Er.sent 0)) fun y1 =>
  some y1
 else
  Option.bind (
   Option.bind (m_label_Check_2 p_l p_t) fun y9 =>
   bif (decide (y9 ≥ (0 : Int))) then
    Option.bind (m_label_fault y9 (Er.sent 1)) fun y10 =>
    some (.inr y10)
   else
    Option.bind (m_label_Check_3 p_l) fun y11 =>
    bif (decide (y11 ≥ (0 : Int))) then
     Option.bind (m_label_fault y11 (Er.sent 2)) fun y12 =>
     some (.inr y12)
    else
     Option.bind (m_label_Check_4 p_t p_l) fun y13 =>
     bif (decide (y13 ≥ (0 : Int))) then
      Option.bind (m_label_fault y13 (Er.sent 3)) fun y14 =>
      some (.inr y14)
     else
      Option.bind (m_label_Check_5 p_t p_l) fun y15 =>
      bif (decide (y15 ≥ (0 : Int))) then
       Option.bind (m_label_fault y15 (Er.sent 4)) fun y16 =>
       some (.inr y16)
      else
       Option.bind (m_label_Check_1 p_t p_l) fun y17 =>
       bif (decide (y17 ≥ (0 : Int))) then
        Option.bind (m_label_fault y17 (Er.sent 5)) fun y18 =>
        some (.inr y18)
       else
        some (.inl ()) : Option (Sum Unit Er)) fun z =>
  match z with
  | .inl s2 =>
   m_label_Check_K3 p_l s2
  | .inr (v19) =>
   some v19
noncomputable def m_label_Plain (p_t : T_api_Tables) (p_l : (List Int)) : Option (ByteArray × Er) :=
 Option.bind (m_label_Check p_t p_l) fun y1 =>
 bif (!y1.isNil) then
  some ((ByteArray.mk #[]), y1)
 else
  Option.bind (m_label_form p_l) fun y2 =>
  some (y2.1, y2.2)
noncomputable def m_label_Canon_K5 (p_t : T_api_Tables) (y2 : (List Int)) (s4 : Bool) : Option (ByteArray × Er) :=
 bif s4 then
  none
 else
  Option.bind (m_label_Plain p_t y2) fun y6 =>
  some (y6.1, y6.2)
noncomputable def m_label_Canon (p_t : T_api_Tables) (p_s : ByteArray) : Option (ByteArray × Er) :=
 Option.bind (m_utf_Decode p_s) fun y1 =>
 bif (!y1.2.isNil) then
  some ((ByteArray.mk #[]), y1.2)
 else
  Option.bind (m_label_Small p_t y1.1) fun y2 =>
  Option.bind (m_utf_Encode y2) fun y3 =>
  Option.bind (
   bif y3.2.isNil then
    Option.bind (m_strings_HasPrefix y3.1 (ByteArray.mk #[120, 110, 45, 45])) fun y7 =>
    bif y7 then
     some (((y3.1.size : Nat) : Int) == ((y2.length : Nat) : Int))
    else
     some false
   else
    some false : Option Bool) fun s4 =>
  m_label_Canon_K5 p_t y2 s4
noncomputable def m_eponymlaw01_Named (p_code : Int) : Option Er :=
 bif (p_code == (1 : Int)) then
  some (Er.sent 7)
 else
  bif (p_code == (2 : Int)) then
   some (Er.sent 11)
  else
   bif (p_code == (3 : Int)) then
    some (Er.sent 6)
   else
    bif (p_code == (4 : Int)) then
     some (Er.sent 12)
    else
     bif (p_code == (5 : Int)) then
      some (Er.sent 13)
     else
      bif (p_code == (6 : Int)) then
       some (Er.sent 14)
      else
       bif (p_code == (7 : Int)) then
        some (Er.sent 15)
       else
        bif (p_code == (8 : Int)) then
         some (Er.sent 16)
        else
         bif (p_code == (9 : Int)) then
          some (Er.sent 17)
         else
          bif (p_code == (10 : Int)) then
           some (Er.sent 3)
          else
           bif (p_code == (11 : Int)) then
            some (Er.sent 4)
           else
            bif (p_code == (12 : Int)) then
             some (Er.sent 5)
            else
             bif (p_code == (13 : Int)) then
              some (Er.sent 2)
             else
              bif (p_code == (14 : Int)) then
               some (Er.sent 1)
              else
               bif (p_code == (15 : Int)) then
                some (Er.sent 8)
               else
                bif (p_code == (16 : Int)) then
                 some (Er.sent 0)
                else
                 bif (p_code == (17 : Int)) then
                  some (Er.sent 9)
                 else
                  bif (p_code == (18 : Int)) then
                   some (Er.sent 18)
                  else
                   some Er.nil
noncomputable def m_eponymlaw01_Is (p_e : Er) (p_at : Int) (p_code : Int) : Option Bool :=
 bif (p_code == (0 : Int)) then
  some p_e.isNil
 else
  bif (!p_e.isNil) then
   bif p_e.isNil then
    some false
   else
    Option.bind (m_errors_As p_e) fun y1 =>
    bif (y1.1 == p_at) then
     Option.bind (m_eponymlaw01_Named p_code) fun y2 =>
     Option.bind (m_errors_Is p_e y2) fun y3 =>
     some y3
    else
     some false
  else
   some false
noncomputable def m_eponymlaw10_awake  : Option Bool :=
 Option.bind (m_eponymlaw10_known) fun y1 =>
 Option.bind (m_label_Canon y1 (ByteArray.mk #[66, 195, 156, 67, 72, 69, 82])) fun y2 =>
 Option.bind (m_eponymlaw10_known) fun y3 =>
 Option.bind (m_label_Canon y3 (ByteArray.mk #[97, 98, 45, 45, 99])) fun y4 =>
 bif y2.2.isNil then
  bif (y2.1.toList == (ByteArray.mk #[120, 110, 45, 45, 98, 99, 104, 101, 114, 45, 107, 118, 97]).toList) then
   Option.bind (m_eponymlaw01_Is y4.2 (2 : Int) (13 : Int)) fun y5 =>
   some y5
  else
   some false
 else
  some false
noncomputable def m_eponymlaw04_Great_L7 (p_t : T_api_Norm) (s6 : Int) : Option (Stp Int (Sum Unit Bool)) :=
 bif (decide (s6 < ((p_t.f_Rows.length : Nat) : Int))) then
  if 0 ≤ s6 ∧ s6 < ((p_t.f_Rows.length : Nat) : Int) then
   bif (decide ((((p_t.f_Rows.getD (s6.toNat) d_api_Row).f_To.length : Nat) : Int) > (4 : Int))) then
    some (.done (.inr true))
   else
    some (.next (IntKind.wrap .i64 (s6 + (1 : Int))))
  else none
 else
  some (.done (.inl ()))
noncomputable def m_eponymlaw04_Great_K2 (p_t : T_api_Norm) (s1 : Bool) : Option Bool :=
 bif s1 then
  some true
 else
  Option.bind (
   iter (m_eponymlaw04_Great_L7 p_t) (0 : Int) : Option (Sum Unit Bool)) fun z =>
  match z with
  | .inl s3 =>
   some false
  | .inr (v11) =>
   some v11
noncomputable def m_eponymlaw04_Great (p_t : T_api_Norm) : Option Bool :=
 Option.bind (
  bif (decide (((p_t.f_Rows.length : Nat) : Int) > (40 : Int))) then
   some true
  else
   bif (decide (((p_t.f_Classes.length : Nat) : Int) > (40 : Int))) then
    some true
   else
    some (decide (((p_t.f_Excluded.length : Nat) : Int) > (40 : Int))) : Option Bool) fun s1 =>
 m_eponymlaw04_Great_K2 p_t s1
noncomputable def m_eponymref07_Tables (p_p : T_api_Props) : Option (List (List T_api_Range)) :=
 some [p_p.f_Exceptions, p_p.f_Unassigned, p_p.f_Joiners, p_p.f_OldHangul, p_p.f_Unstable, p_p.f_Ignorable, p_p.f_Letters, p_p.f_Joining, p_p.f_Scripts, p_p.f_Directions, p_p.f_Marks]
noncomputable def m_eponymlaw07_Great_L6 (y1 : (List (List T_api_Range))) (s5 : Int) : Option (Stp Int (Sum Unit Bool)) :=
 bif (decide (s5 < (11 : Int))) then
  if 0 ≤ s5 ∧ s5 < (11 : Int) then
   bif (decide (((([(y1.getD 0 []), (y1.getD 1 []), (y1.getD 2 []), (y1.getD 3 []), (y1.getD 4 []), (y1.getD 5 []), (y1.getD 6 []), (y1.getD 7 []), (y1.getD 8 []), (y1.getD 9 []), (y1.getD 10 [])].getD (s5.toNat) []).length : Nat) : Int) > (40 : Int))) then
    some (.done (.inr true))
   else
    some (.next (IntKind.wrap .i64 (s5 + (1 : Int))))
  else none
 else
  some (.done (.inl ()))
noncomputable def m_eponymlaw07_Great (p_p : T_api_Props) : Option Bool :=
 Option.bind (m_eponymref07_Tables p_p) fun y1 =>
 Option.bind (
  iter (m_eponymlaw07_Great_L6 y1) (0 : Int) : Option (Sum Unit Bool)) fun z =>
 match z with
 | .inl s2 =>
  some false
 | .inr (v10) =>
  some v10
noncomputable def m_eponymlaw08_Great (p_t : T_api_Tables) : Option Bool :=
 Option.bind (m_eponymlaw04_Great p_t.f_Norm) fun y1 =>
 bif y1 then
  some true
 else
  Option.bind (m_eponymlaw07_Great p_t.f_Props) fun y2 =>
  some y2
noncomputable def m_eponymlaw10_Great (p_t : T_api_Tables) : Option Bool :=
 Option.bind (m_eponymlaw08_Great p_t) fun y1 =>
 bif y1 then
  some true
 else
  some (decide (((p_t.f_Lower.length : Nat) : Int) > (40 : Int)))
noncomputable def m_eponymref01_Right (p_r : Int) : Option Bool :=
 bif (decide (p_r ≥ (0 : Int))) then
  bif (decide (p_r ≤ (1114111 : Int))) then
   bif (decide (p_r ≥ (55296 : Int))) then
    some (!(decide (p_r ≤ (57343 : Int))))
   else
    some true
  else
   some false
 else
  some false
noncomputable def m_eponymref04_hangul (p_r : Int) : Option Bool :=
 bif (decide (p_r ≥ (44032 : Int))) then
  bif (decide (p_r ≤ (55203 : Int))) then
   some true
  else
   bif (decide (p_r ≥ (4352 : Int))) then
    bif (decide (p_r ≤ (4370 : Int))) then
     some true
    else
     bif (decide (p_r ≥ (4449 : Int))) then
      bif (decide (p_r ≤ (4469 : Int))) then
       some true
      else
       bif (decide (p_r ≥ (4520 : Int))) then
        some (decide (p_r ≤ (4546 : Int)))
       else
        some false
     else
      bif (decide (p_r ≥ (4520 : Int))) then
       some (decide (p_r ≤ (4546 : Int)))
      else
       some false
   else
    bif (decide (p_r ≥ (4449 : Int))) then
     bif (decide (p_r ≤ (4469 : Int))) then
      some true
     else
      bif (decide (p_r ≥ (4520 : Int))) then
       some (decide (p_r ≤ (4546 : Int)))
      else
       some false
    else
     bif (decide (p_r ≥ (4520 : Int))) then
      some (decide (p_r ≤ (4546 : Int)))
     else
      some false
 else
  bif (decide (p_r ≥ (4352 : Int))) then
   bif (decide (p_r ≤ (4370 : Int))) then
    some true
   else
    bif (decide (p_r ≥ (4449 : Int))) then
     bif (decide (p_r ≤ (4469 : Int))) then
      some true
     else
      bif (decide (p_r ≥ (4520 : Int))) then
       some (decide (p_r ≤ (4546 : Int)))
      else
       some false
    else
     bif (decide (p_r ≥ (4520 : Int))) then
      some (decide (p_r ≤ (4546 : Int)))
     else
      some false
  else
   bif (decide (p_r ≥ (4449 : Int))) then
    bif (decide (p_r ≤ (4469 : Int))) then
     some true
    else
     bif (decide (p_r ≥ (4520 : Int))) then
      some (decide (p_r ≤ (4546 : Int)))
     else
      some false
   else
    bif (decide (p_r ≥ (4520 : Int))) then
     some (decide (p_r ≤ (4546 : Int)))
    else
     some false
noncomputable def m_eponymref04_Row_L5 (p_t : T_api_Norm) (p_r : Int) (s4 : Int) : Option (Stp Int (Sum Unit Int)) :=
 bif (decide (s4 < ((p_t.f_Rows.length : Nat) : Int))) then
  if 0 ≤ s4 ∧ s4 < ((p_t.f_Rows.length : Nat) : Int) then
   bif ((p_t.f_Rows.getD (s4.toNat) d_api_Row).f_From == p_r) then
    some (.done (.inr s4))
   else
    some (.next (IntKind.wrap .i64 (s4 + (1 : Int))))
  else none
 else
  some (.done (.inl ()))
noncomputable def m_eponymref04_Row (p_t : T_api_Norm) (p_r : Int) : Option Int :=
 Option.bind (
  iter (m_eponymref04_Row_L5 p_t p_r) (0 : Int) : Option (Sum Unit Int)) fun z =>
 match z with
 | .inl s1 =>
  some (-1 : Int)
 | .inr (v9) =>
  some v9
noncomputable def m_eponymref04_ahead_L5 (p_t : T_api_Norm) (p_i : Int) (s4 : Int) : Option (Stp Int (Sum Unit Int)) :=
 bif (decide (s4 < p_i)) then
  if 0 ≤ s4 ∧ s4 < ((p_t.f_Rows.length : Nat) : Int) then
   if 0 ≤ p_i ∧ p_i < ((p_t.f_Rows.length : Nat) : Int) then
    if 0 ≤ (0 : Int) ∧ (0 : Int) < (((p_t.f_Rows.getD (p_i.toNat) d_api_Row).f_To.length : Nat) : Int) then
     bif ((p_t.f_Rows.getD (s4.toNat) d_api_Row).f_From == ((p_t.f_Rows.getD (p_i.toNat) d_api_Row).f_To.getD 0 0)) then
      some (.done (.inr s4))
     else
      some (.next (IntKind.wrap .i64 (s4 + (1 : Int))))
    else none
   else none
  else none
 else
  some (.done (.inl ()))
noncomputable def m_eponymref04_ahead (p_t : T_api_Norm) (p_i : Int) : Option Int :=
 Option.bind (
  iter (m_eponymref04_ahead_L5 p_t p_i) (0 : Int) : Option (Sum Unit Int)) fun z =>
 match z with
 | .inl s1 =>
  some (-1 : Int)
 | .inr (v9) =>
  some v9
noncomputable def m_eponymref04_row_L15 (p_t : T_api_Norm) (s14 : Int × Int) : Option (Stp (Int × Int) (Sum Unit Int)) :=
 bif (decide (s14.2 ≥ (0 : Int))) then
  bif (decide ((IntKind.wrap .i64 (s14.1 + (1 : Int))) > (8 : Int))) then
   some (.done (.inr (9 : Int)))
  else
   Option.bind (m_eponymref04_ahead p_t s14.2) fun y17 =>
   some (.next ((IntKind.wrap .i64 (s14.1 + (1 : Int))), y17))
 else
  some (.done (.inl ()))
noncomputable def m_eponymref04_row_K10 (p_t : T_api_Norm) (p_i : Int) (s9 : Bool) : Option Int :=
 bif s9 then
  some (9 : Int)
 else
  Option.bind (
   iter (m_eponymref04_row_L15 p_t) ((0 : Int), p_i) : Option (Sum Unit Int)) fun z =>
  match z with
  | .inl s11 =>
   some (0 : Int)
  | .inr (v20) =>
   some v20
noncomputable def m_eponymref04_row_K8 (p_t : T_api_Norm) (p_i : Int) (s7 : Unit) : Option Int :=
 Option.bind (
  bif ((((p_t.f_Rows.getD (p_i.toNat) d_api_Row).f_To.length : Nat) : Int) == (2 : Int)) then
   if 0 ≤ (1 : Int) ∧ (1 : Int) < (((p_t.f_Rows.getD (p_i.toNat) d_api_Row).f_To.length : Nat) : Int) then
    Option.bind (m_eponymref04_Row p_t ((p_t.f_Rows.getD (p_i.toNat) d_api_Row).f_To.getD 1 0)) fun y21 =>
    some (decide (y21 ≥ (0 : Int)))
   else none
  else
   some false : Option Bool) fun s9 =>
 m_eponymref04_row_K10 p_t p_i s9
noncomputable def m_eponymref04_row_K27 (s23 : Int) (s26 : Bool) : Option (Stp Int (Sum Unit Int)) :=
 bif s26 then
  some (.done (.inr (5 : Int)))
 else
  some (.next (IntKind.wrap .i64 (s23 + (1 : Int))))
noncomputable def m_eponymref04_row_L24 (p_t : T_api_Norm) (p_i : Int) (s23 : Int) : Option (Stp Int (Sum Unit Int)) :=
 bif (decide (s23 < (((p_t.f_Rows.getD (p_i.toNat) d_api_Row).f_To.length : Nat) : Int))) then
  Option.bind (
   if 0 ≤ s23 ∧ s23 < (((p_t.f_Rows.getD (p_i.toNat) d_api_Row).f_To.length : Nat) : Int) then
    Option.bind (m_eponymref01_Right ((p_t.f_Rows.getD (p_i.toNat) d_api_Row).f_To.getD (s23.toNat) 0)) fun y28 =>
    bif (!y28) then
     some true
    else
     if 0 ≤ s23 ∧ s23 < (((p_t.f_Rows.getD (p_i.toNat) d_api_Row).f_To.length : Nat) : Int) then
      Option.bind (m_eponymref04_hangul ((p_t.f_Rows.getD (p_i.toNat) d_api_Row).f_To.getD (s23.toNat) 0)) fun y29 =>
      some y29
     else none
   else none : Option Bool) fun s26 =>
  m_eponymref04_row_K27 s23 s26
 else
  some (.done (.inl ()))
noncomputable def m_eponymref04_row_K6 (p_t : T_api_Norm) (p_i : Int) (s5 : Bool) : Option Int :=
 bif s5 then
  some (5 : Int)
 else
  Option.bind (
   iter (m_eponymref04_row_L24 p_t p_i) (0 : Int) : Option (Sum Unit Int)) fun z =>
  match z with
  | .inl s7 =>
   m_eponymref04_row_K8 p_t p_i s7
  | .inr (v32) =>
   some v32
noncomputable def m_eponymref04_row_K4 (p_t : T_api_Norm) (p_i : Int) (s3 : Bool) : Option Int :=
 bif s3 then
  some (6 : Int)
 else
  Option.bind (
   bif ((((p_t.f_Rows.getD (p_i.toNat) d_api_Row).f_To.length : Nat) : Int) != (1 : Int)) then
    bif ((((p_t.f_Rows.getD (p_i.toNat) d_api_Row).f_To.length : Nat) : Int) != (2 : Int)) then
     some true
    else
     if 0 ≤ (0 : Int) ∧ (0 : Int) < (((p_t.f_Rows.getD (p_i.toNat) d_api_Row).f_To.length : Nat) : Int) then
      some (decide (((p_t.f_Rows.getD (p_i.toNat) d_api_Row).f_To.getD 0 0) ≥ (p_t.f_Rows.getD (p_i.toNat) d_api_Row).f_From))
     else none
   else
    if 0 ≤ (0 : Int) ∧ (0 : Int) < (((p_t.f_Rows.getD (p_i.toNat) d_api_Row).f_To.length : Nat) : Int) then
     some (decide (((p_t.f_Rows.getD (p_i.toNat) d_api_Row).f_To.getD 0 0) ≥ (p_t.f_Rows.getD (p_i.toNat) d_api_Row).f_From))
    else none : Option Bool) fun s5 =>
  m_eponymref04_row_K6 p_t p_i s5
noncomputable def m_eponymref04_row_K2 (p_t : T_api_Norm) (p_i : Int) (s1 : Bool) : Option Int :=
 bif s1 then
  some (4 : Int)
 else
  Option.bind (
   bif (decide (p_i > (0 : Int))) then
    if 0 ≤ (IntKind.wrap .i64 (p_i - (1 : Int))) ∧ (IntKind.wrap .i64 (p_i - (1 : Int))) < ((p_t.f_Rows.length : Nat) : Int) then
     some (decide ((p_t.f_Rows.getD (p_i.toNat) d_api_Row).f_From ≤ (p_t.f_Rows.getD ((IntKind.wrap .i64 (p_i - (1 : Int))).toNat) d_api_Row).f_From))
    else none
   else
    some false : Option Bool) fun s3 =>
  m_eponymref04_row_K4 p_t p_i s3
noncomputable def m_eponymref04_row (p_t : T_api_Norm) (p_i : Int) : Option Int :=
 if 0 ≤ p_i ∧ p_i < ((p_t.f_Rows.length : Nat) : Int) then
  Option.bind (
   Option.bind (m_eponymref01_Right ((p_t.f_Rows.getD (p_i.toNat) d_api_Row).f_From)) fun y33 =>
   bif (!y33) then
    some true
   else
    Option.bind (m_eponymref04_hangul ((p_t.f_Rows.getD (p_i.toNat) d_api_Row).f_From)) fun y34 =>
    some y34 : Option Bool) fun s1 =>
  m_eponymref04_row_K2 p_t p_i s1
 else none
noncomputable def m_eponymref03_May (p_x : T_api_Range) : Option Bool :=
 bif (decide (p_x.f_Lo ≥ (0 : Int))) then
  bif (decide (p_x.f_Lo ≤ p_x.f_Hi)) then
   bif (decide (p_x.f_Hi ≤ (1114111 : Int))) then
    bif (decide (p_x.f_Value ≥ (0 : Int))) then
     some (decide (p_x.f_Value ≤ (999999 : Int)))
    else
     some false
   else
    some false
  else
   some false
 else
  some false
noncomputable def m_eponymref03_Check_K9 (s4 : Int) (s8 : Bool) : Option (Stp Int (Sum Unit (Int × Int))) :=
 bif s8 then
  some (.done (.inr (s4, (6 : Int))))
 else
  some (.next (IntKind.wrap .i64 (s4 + (1 : Int))))
noncomputable def m_eponymref03_Check_L5 (p_l : (List T_api_Range)) (s4 : Int) : Option (Stp Int (Sum Unit (Int × Int))) :=
 bif (decide (s4 < ((p_l.length : Nat) : Int))) then
  if 0 ≤ s4 ∧ s4 < ((p_l.length : Nat) : Int) then
   Option.bind (m_eponymref03_May (p_l.getD (s4.toNat) d_api_Range)) fun y7 =>
   bif (!y7) then
    some (.done (.inr (s4, (4 : Int))))
   else
    Option.bind (
     bif (decide (s4 > (0 : Int))) then
      if 0 ≤ s4 ∧ s4 < ((p_l.length : Nat) : Int) then
       if 0 ≤ (IntKind.wrap .i64 (s4 - (1 : Int))) ∧ (IntKind.wrap .i64 (s4 - (1 : Int))) < ((p_l.length : Nat) : Int) then
        some (decide ((p_l.getD (s4.toNat) d_api_Range).f_Lo ≤ (p_l.getD ((IntKind.wrap .i64 (s4 - (1 : Int))).toNat) d_api_Range).f_Hi))
       else none
      else none
     else
      some false : Option Bool) fun s8 =>
    m_eponymref03_Check_K9 s4 s8
  else none
 else
  some (.done (.inl ()))
noncomputable def m_eponymref03_Check (p_l : (List T_api_Range)) : Option (Int × Int) :=
 bif (decide (((p_l.length : Nat) : Int) > (2000 : Int))) then
  some ((0 : Int), (18 : Int))
 else
  Option.bind (
   iter (m_eponymref03_Check_L5 p_l) (0 : Int) : Option (Sum Unit (Int × Int))) fun z =>
  match z with
  | .inl s1 =>
   some ((0 : Int), (0 : Int))
  | .inr (v12) =>
   some (v12.1, v12.2)
noncomputable def m_eponymref04_excluded_L5 (p_t : T_api_Norm) (p_r : Int) (s4 : Int) : Option (Stp Int (Sum Unit Bool)) :=
 bif (decide (s4 < ((p_t.f_Excluded.length : Nat) : Int))) then
  if 0 ≤ s4 ∧ s4 < ((p_t.f_Excluded.length : Nat) : Int) then
   bif ((p_t.f_Excluded.getD (s4.toNat) 0) == p_r) then
    some (.done (.inr true))
   else
    some (.next (IntKind.wrap .i64 (s4 + (1 : Int))))
  else none
 else
  some (.done (.inl ()))
noncomputable def m_eponymref04_excluded (p_t : T_api_Norm) (p_r : Int) : Option Bool :=
 Option.bind (
  iter (m_eponymref04_excluded_L5 p_t p_r) (0 : Int) : Option (Sum Unit Bool)) fun z =>
 match z with
 | .inl s1 =>
  some false
 | .inr (v9) =>
  some v9
noncomputable def m_eponymref03_Find_K8 (p_l : (List T_api_Range)) (s4 : Int) (s7 : Bool) : Option (Stp Int (Sum Unit (Int × Bool))) :=
 bif s7 then
  if 0 ≤ s4 ∧ s4 < ((p_l.length : Nat) : Int) then
   some (.done (.inr ((p_l.getD (s4.toNat) d_api_Range).f_Value, true)))
  else none
 else
  some (.next (IntKind.wrap .i64 (s4 + (1 : Int))))
noncomputable def m_eponymref03_Find_L5 (p_l : (List T_api_Range)) (p_r : Int) (s4 : Int) : Option (Stp Int (Sum Unit (Int × Bool))) :=
 bif (decide (s4 < ((p_l.length : Nat) : Int))) then
  Option.bind (
   if 0 ≤ s4 ∧ s4 < ((p_l.length : Nat) : Int) then
    bif (decide ((p_l.getD (s4.toNat) d_api_Range).f_Lo ≤ p_r)) then
     if 0 ≤ s4 ∧ s4 < ((p_l.length : Nat) : Int) then
      some (decide (p_r ≤ (p_l.getD (s4.toNat) d_api_Range).f_Hi))
     else none
    else
     some false
   else none : Option Bool) fun s7 =>
  m_eponymref03_Find_K8 p_l s4 s7
 else
  some (.done (.inl ()))
noncomputable def m_eponymref03_Find (p_l : (List T_api_Range)) (p_r : Int) : Option (Int × Bool) :=
 Option.bind (
  iter (m_eponymref03_Find_L5 p_l p_r) (0 : Int) : Option (Sum Unit (Int × Bool))) fun z =>
 match z with
 | .inl s1 =>
  some ((0 : Int), false)
 | .inr (v11) =>
  some (v11.1, v11.2)
noncomputable def m_eponymref04_Class (p_t : T_api_Norm) (p_r : Int) : Option Int :=
 Option.bind (m_eponymref03_Find p_t.f_Classes p_r) fun y1 =>
 some y1.1
noncomputable def m_eponymref04_Composes_K2 (p_t : T_api_Norm) (p_i : Int) (s1 : Bool) : Option Bool :=
 bif s1 then
  some false
 else
  if 0 ≤ p_i ∧ p_i < ((p_t.f_Rows.length : Nat) : Int) then
   Option.bind (m_eponymref04_excluded p_t ((p_t.f_Rows.getD (p_i.toNat) d_api_Row).f_From)) fun y3 =>
   bif (!y3) then
    if 0 ≤ p_i ∧ p_i < ((p_t.f_Rows.length : Nat) : Int) then
     Option.bind (m_eponymref04_Class p_t ((p_t.f_Rows.getD (p_i.toNat) d_api_Row).f_From)) fun y4 =>
     bif (y4 == (0 : Int)) then
      if 0 ≤ p_i ∧ p_i < ((p_t.f_Rows.length : Nat) : Int) then
       if 0 ≤ (0 : Int) ∧ (0 : Int) < (((p_t.f_Rows.getD (p_i.toNat) d_api_Row).f_To.length : Nat) : Int) then
        Option.bind (m_eponymref04_Class p_t ((p_t.f_Rows.getD (p_i.toNat) d_api_Row).f_To.getD 0 0)) fun y5 =>
        some (y5 == (0 : Int))
       else none
      else none
     else
      some false
    else none
   else
    some false
  else none
noncomputable def m_eponymref04_Composes (p_t : T_api_Norm) (p_i : Int) : Option Bool :=
 Option.bind (
  bif (decide (p_i < (0 : Int))) then
   some true
  else
   bif (decide (p_i ≥ ((p_t.f_Rows.length : Nat) : Int))) then
    some true
   else
    if 0 ≤ p_i ∧ p_i < ((p_t.f_Rows.length : Nat) : Int) then
     some ((((p_t.f_Rows.getD (p_i.toNat) d_api_Row).f_To.length : Nat) : Int) != (2 : Int))
    else none : Option Bool) fun s1 =>
 m_eponymref04_Composes_K2 p_t p_i s1
noncomputable def m_eponymref04_Check_K23 (s13 : Int) (s19 : Int) (s22 : Bool) : Option (Stp Int (Sum Unit (Int × Int))) :=
 bif s22 then
  some (.done (.inr (s13, (7 : Int))))
 else
  some (.next (IntKind.wrap .i64 (s19 + (1 : Int))))
noncomputable def m_eponymref04_Check_L20 (p_t : T_api_Norm) (s13 : Int) (s19 : Int) : Option (Stp Int (Sum Unit (Int × Int))) :=
 bif (decide (s19 < s13)) then
  Option.bind (
   Option.bind (m_eponymref04_Composes p_t s13) fun y24 =>
   bif y24 then
    Option.bind (m_eponymref04_Composes p_t s19) fun y25 =>
    bif y25 then
     if 0 ≤ s13 ∧ s13 < ((p_t.f_Rows.length : Nat) : Int) then
      if 0 ≤ (0 : Int) ∧ (0 : Int) < (((p_t.f_Rows.getD (s13.toNat) d_api_Row).f_To.length : Nat) : Int) then
       if 0 ≤ s19 ∧ s19 < ((p_t.f_Rows.length : Nat) : Int) then
        if 0 ≤ (0 : Int) ∧ (0 : Int) < (((p_t.f_Rows.getD (s19.toNat) d_api_Row).f_To.length : Nat) : Int) then
         bif (((p_t.f_Rows.getD (s13.toNat) d_api_Row).f_To.getD 0 0) == ((p_t.f_Rows.getD (s19.toNat) d_api_Row).f_To.getD 0 0)) then
          if 0 ≤ s13 ∧ s13 < ((p_t.f_Rows.length : Nat) : Int) then
           if 0 ≤ (1 : Int) ∧ (1 : Int) < (((p_t.f_Rows.getD (s13.toNat) d_api_Row).f_To.length : Nat) : Int) then
            if 0 ≤ s19 ∧ s19 < ((p_t.f_Rows.length : Nat) : Int) then
             if 0 ≤ (1 : Int) ∧ (1 : Int) < (((p_t.f_Rows.getD (s19.toNat) d_api_Row).f_To.length : Nat) : Int) then
              some (((p_t.f_Rows.getD (s13.toNat) d_api_Row).f_To.getD 1 0) == ((p_t.f_Rows.getD (s19.toNat) d_api_Row).f_To.getD 1 0))
             else none
            else none
           else none
          else none
         else
          some false
        else none
       else none
      else none
     else none
    else
     some false
   else
    some false : Option Bool) fun s22 =>
  m_eponymref04_Check_K23 s13 s19 s22
 else
  some (.done (.inl ()))
noncomputable def m_eponymref04_Check_L14 (p_t : T_api_Norm) (s13 : Int) : Option (Stp Int (Sum Unit (Int × Int))) :=
 bif (decide (s13 < ((p_t.f_Rows.length : Nat) : Int))) then
  Option.bind (
   iter (m_eponymref04_Check_L20 p_t s13) (0 : Int) : Option (Sum Unit (Int × Int))) fun z =>
  match z with
  | .inl s16 =>
   some (.next (IntKind.wrap .i64 (s13 + (1 : Int))))
  | .inr (v28) =>
   some (.done (.inr (v28.1, v28.2)))
 else
  some (.done (.inl ()))
noncomputable def m_eponymref04_Check_K9 (p_t : T_api_Norm) (s8 : Unit) : Option (Int × Int) :=
 Option.bind (
  iter (m_eponymref04_Check_L14 p_t) (0 : Int) : Option (Sum Unit (Int × Int))) fun z =>
 match z with
 | .inl s10 =>
  some ((0 : Int), (0 : Int))
 | .inr (v31) =>
  some (v31.1, v31.2)
noncomputable def m_eponymref04_Check_K38 (s33 : Int) (s37 : Bool) : Option (Stp Int (Sum Unit (Int × Int))) :=
 bif s37 then
  some (.done (.inr (s33, (6 : Int))))
 else
  some (.next (IntKind.wrap .i64 (s33 + (1 : Int))))
noncomputable def m_eponymref04_Check_L34 (p_t : T_api_Norm) (s33 : Int) : Option (Stp Int (Sum Unit (Int × Int))) :=
 bif (decide (s33 < ((p_t.f_Excluded.length : Nat) : Int))) then
  if 0 ≤ s33 ∧ s33 < ((p_t.f_Excluded.length : Nat) : Int) then
   Option.bind (m_eponymref01_Right (p_t.f_Excluded.getD (s33.toNat) 0)) fun y36 =>
   bif (!y36) then
    some (.done (.inr (s33, (4 : Int))))
   else
    Option.bind (
     bif (decide (s33 > (0 : Int))) then
      if 0 ≤ s33 ∧ s33 < ((p_t.f_Excluded.length : Nat) : Int) then
       if 0 ≤ (IntKind.wrap .i64 (s33 - (1 : Int))) ∧ (IntKind.wrap .i64 (s33 - (1 : Int))) < ((p_t.f_Excluded.length : Nat) : Int) then
        some (decide ((p_t.f_Excluded.getD (s33.toNat) 0) ≤ (p_t.f_Excluded.getD ((IntKind.wrap .i64 (s33 - (1 : Int))).toNat) 0)))
       else none
      else none
     else
      some false : Option Bool) fun s37 =>
    m_eponymref04_Check_K38 s33 s37
  else none
 else
  some (.done (.inl ()))
noncomputable def m_eponymref04_Check_K7 (p_t : T_api_Norm) (s6 : Unit) : Option (Int × Int) :=
 Option.bind (
  iter (m_eponymref04_Check_L34 p_t) (0 : Int) : Option (Sum Unit (Int × Int))) fun z =>
 match z with
 | .inl s8 =>
  m_eponymref04_Check_K9 p_t s8
 | .inr (v41) =>
  some (v41.1, v41.2)
noncomputable def m_eponymref04_Check_L52 (p_t : T_api_Norm) (s43 : Int) (s51 : Int) : Option (Stp Int (Sum Unit (Int × Int))) :=
 if 0 ≤ s43 ∧ s43 < ((p_t.f_Classes.length : Nat) : Int) then
  bif (decide (s51 ≤ (p_t.f_Classes.getD (s43.toNat) d_api_Range).f_Hi)) then
   Option.bind (m_eponymref04_hangul s51) fun y54 =>
   bif y54 then
    some (.done (.inr (s43, (17 : Int))))
   else
    some (.next (IntKind.wrap .i32 (s51 + (1 : Int))))
  else
   some (.done (.inl ()))
 else none
noncomputable def m_eponymref04_Check_K49 (p_t : T_api_Norm) (s43 : Int) (s48 : Bool) : Option (Sum Unit (Int × Int)) :=
 bif s48 then
  some (.inr (s43, (17 : Int)))
 else
  if 0 ≤ s43 ∧ s43 < ((p_t.f_Classes.length : Nat) : Int) then
   Option.bind (iter (m_eponymref04_Check_L52 p_t s43) ((p_t.f_Classes.getD (s43.toNat) d_api_Range).f_Lo)) fun z =>
   match z with
   | .inl s55 =>
    some (.inl ())
   | .inr (v56) =>
    some (.inr (v56.1, v56.2))
  else none
noncomputable def m_eponymref04_Check_L44 (p_t : T_api_Norm) (s43 : Int) : Option (Stp Int (Sum Unit (Int × Int))) :=
 bif (decide (s43 < ((p_t.f_Classes.length : Nat) : Int))) then
  Option.bind (
   Option.bind (
    if 0 ≤ s43 ∧ s43 < ((p_t.f_Classes.length : Nat) : Int) then
     bif (decide ((p_t.f_Classes.getD (s43.toNat) d_api_Range).f_Value < (1 : Int))) then
      some true
     else
      if 0 ≤ s43 ∧ s43 < ((p_t.f_Classes.length : Nat) : Int) then
       some (decide ((p_t.f_Classes.getD (s43.toNat) d_api_Range).f_Value > (254 : Int)))
      else none
    else none : Option Bool) fun s48 =>
   m_eponymref04_Check_K49 p_t s43 s48 : Option (Sum Unit (Int × Int))) fun z =>
  match z with
  | .inl s46 =>
   some (.next (IntKind.wrap .i64 (s43 + (1 : Int))))
  | .inr (v57) =>
   some (.done (.inr (v57.1, v57.2)))
 else
  some (.done (.inl ()))
noncomputable def m_eponymref04_Check_K4 (p_t : T_api_Norm) (s3 : Unit) : Option (Int × Int) :=
 Option.bind (m_eponymref03_Check p_t.f_Classes) fun y5 =>
 bif (y5.2 != (0 : Int)) then
  some (y5.1, y5.2)
 else
  Option.bind (
   iter (m_eponymref04_Check_L44 p_t) (0 : Int) : Option (Sum Unit (Int × Int))) fun z =>
  match z with
  | .inl s6 =>
   m_eponymref04_Check_K7 p_t s6
  | .inr (v60) =>
   some (v60.1, v60.2)
noncomputable def m_eponymref04_Check_L63 (p_t : T_api_Norm) (s62 : Int) : Option (Stp Int (Sum Unit (Int × Int))) :=
 bif (decide (s62 < ((p_t.f_Rows.length : Nat) : Int))) then
  Option.bind (m_eponymref04_row p_t s62) fun y65 =>
  bif (y65 != (0 : Int)) then
   some (.done (.inr (s62, y65)))
  else
   some (.next (IntKind.wrap .i64 (s62 + (1 : Int))))
 else
  some (.done (.inl ()))
noncomputable def m_eponymref04_Check_K2 (p_t : T_api_Norm) (s1 : Bool) : Option (Int × Int) :=
 bif s1 then
  some ((0 : Int), (18 : Int))
 else
  Option.bind (
   iter (m_eponymref04_Check_L63 p_t) (0 : Int) : Option (Sum Unit (Int × Int))) fun z =>
  match z with
  | .inl s3 =>
   m_eponymref04_Check_K4 p_t s3
  | .inr (v68) =>
   some (v68.1, v68.2)
noncomputable def m_eponymref04_Check (p_t : T_api_Norm) : Option (Int × Int) :=
 Option.bind (
  bif (decide (((p_t.f_Rows.length : Nat) : Int) > (2000 : Int))) then
   some true
  else
   some (decide (((p_t.f_Excluded.length : Nat) : Int) > (2000 : Int))) : Option Bool) fun s1 =>
 m_eponymref04_Check_K2 p_t s1
noncomputable def m_eponymref07_Check_K16 (s12 : Int) (s15 : Bool) : Option (Stp Int (Sum Unit (Int × Int))) :=
 bif s15 then
  some (.done (.inr (s12, (17 : Int))))
 else
  some (.next (IntKind.wrap .i64 (s12 + (1 : Int))))
noncomputable def m_eponymref07_Check_L13 (y1 : (List (List T_api_Range))) (s5 : Int) (s12 : Int) : Option (Stp Int (Sum Unit (Int × Int))) :=
 if 0 ≤ s5 ∧ s5 < (11 : Int) then
  bif (decide (s12 < ((([(y1.getD 0 []), (y1.getD 1 []), (y1.getD 2 []), (y1.getD 3 []), (y1.getD 4 []), (y1.getD 5 []), (y1.getD 6 []), (y1.getD 7 []), (y1.getD 8 []), (y1.getD 9 []), (y1.getD 10 [])].getD (s5.toNat) []).length : Nat) : Int))) then
   Option.bind (
    if 0 ≤ s5 ∧ s5 < (11 : Int) then
     bif (decide (([(5 : Int), (0 : Int), (0 : Int), (0 : Int), (0 : Int), (0 : Int), (0 : Int), (4 : Int), (5 : Int), (11 : Int), (0 : Int)].getD (s5.toNat) 0) > (0 : Int))) then
      if 0 ≤ s5 ∧ s5 < (11 : Int) then
       if 0 ≤ s12 ∧ s12 < ((([(y1.getD 0 []), (y1.getD 1 []), (y1.getD 2 []), (y1.getD 3 []), (y1.getD 4 []), (y1.getD 5 []), (y1.getD 6 []), (y1.getD 7 []), (y1.getD 8 []), (y1.getD 9 []), (y1.getD 10 [])].getD (s5.toNat) []).length : Nat) : Int) then
        bif (decide ((([(y1.getD 0 []), (y1.getD 1 []), (y1.getD 2 []), (y1.getD 3 []), (y1.getD 4 []), (y1.getD 5 []), (y1.getD 6 []), (y1.getD 7 []), (y1.getD 8 []), (y1.getD 9 []), (y1.getD 10 [])].getD (s5.toNat) []).getD (s12.toNat) d_api_Range).f_Value < (1 : Int))) then
         some true
        else
         if 0 ≤ s5 ∧ s5 < (11 : Int) then
          if 0 ≤ s12 ∧ s12 < ((([(y1.getD 0 []), (y1.getD 1 []), (y1.getD 2 []), (y1.getD 3 []), (y1.getD 4 []), (y1.getD 5 []), (y1.getD 6 []), (y1.getD 7 []), (y1.getD 8 []), (y1.getD 9 []), (y1.getD 10 [])].getD (s5.toNat) []).length : Nat) : Int) then
           if 0 ≤ s5 ∧ s5 < (11 : Int) then
            some (decide ((([(y1.getD 0 []), (y1.getD 1 []), (y1.getD 2 []), (y1.getD 3 []), (y1.getD 4 []), (y1.getD 5 []), (y1.getD 6 []), (y1.getD 7 []), (y1.getD 8 []), (y1.getD 9 []), (y1.getD 10 [])].getD (s5.toNat) []).getD (s12.toNat) d_api_Range).f_Value > ([(5 : Int), (0 : Int), (0 : Int), (0 : Int), (0 : Int), (0 : Int), (0 : Int), (4 : Int), (5 : Int), (11 : Int), (0 : Int)].getD (s5.toNat) 0)))
           else none
          else none
         else none
       else none
      else none
     else
      some false
    else none : Option Bool) fun s15 =>
   m_eponymref07_Check_K16 s12 s15
  else
   some (.done (.inl ()))
 else none
noncomputable def m_eponymref07_Check_L6 (y1 : (List (List T_api_Range))) (s5 : Int) : Option (Stp Int (Sum Unit (Int × Int))) :=
 bif (decide (s5 < (11 : Int))) then
  Option.bind (
   if 0 ≤ s5 ∧ s5 < (11 : Int) then
    Option.bind (m_eponymref03_Check ([(y1.getD 0 []), (y1.getD 1 []), (y1.getD 2 []), (y1.getD 3 []), (y1.getD 4 []), (y1.getD 5 []), (y1.getD 6 []), (y1.getD 7 []), (y1.getD 8 []), (y1.getD 9 []), (y1.getD 10 [])].getD (s5.toNat) [])) fun y10 =>
    bif (y10.2 != (0 : Int)) then
     some (.inr (y10.1, y10.2))
    else
     Option.bind (iter (m_eponymref07_Check_L13 y1 s5) (0 : Int)) fun z =>
     match z with
     | .inl s17 =>
      some (.inl ())
     | .inr (v18) =>
      some (.inr (v18.1, v18.2))
   else none : Option (Sum Unit (Int × Int))) fun z =>
  match z with
  | .inl s8 =>
   some (.next (IntKind.wrap .i64 (s5 + (1 : Int))))
  | .inr (v19) =>
   some (.done (.inr (v19.1, v19.2)))
 else
  some (.done (.inl ()))
noncomputable def m_eponymref07_Check (p_p : T_api_Props) : Option (Int × Int) :=
 Option.bind (m_eponymref07_Tables p_p) fun y1 =>
 Option.bind (
  iter (m_eponymref07_Check_L6 y1) (0 : Int) : Option (Sum Unit (Int × Int))) fun z =>
 match z with
 | .inl s2 =>
  some ((0 : Int), (0 : Int))
 | .inr (v22) =>
  some (v22.1, v22.2)
noncomputable def m_eponymref08_Check (p_t : T_api_Tables) : Option (Int × Int) :=
 Option.bind (m_eponymref04_Check p_t.f_Norm) fun y1 =>
 bif (y1.2 != (0 : Int)) then
  some (y1.1, y1.2)
 else
  Option.bind (m_eponymref07_Check p_t.f_Props) fun y2 =>
  some (y2.1, y2.2)
noncomputable def m_eponymref10_turned_L5 (p_t : T_api_Tables) (p_r : Int) (s4 : Int) : Option (Stp Int (Sum Unit Bool)) :=
 bif (decide (s4 < ((p_t.f_Lower.length : Nat) : Int))) then
  if 0 ≤ s4 ∧ s4 < ((p_t.f_Lower.length : Nat) : Int) then
   bif ((p_t.f_Lower.getD (s4.toNat) d_api_Pair).f_From == p_r) then
    some (.done (.inr true))
   else
    some (.next (IntKind.wrap .i64 (s4 + (1 : Int))))
  else none
 else
  some (.done (.inl ()))
noncomputable def m_eponymref10_turned (p_t : T_api_Tables) (p_r : Int) : Option Bool :=
 Option.bind (
  iter (m_eponymref10_turned_L5 p_t p_r) (0 : Int) : Option (Sum Unit Bool)) fun z =>
 match z with
 | .inl s1 =>
  some false
 | .inr (v9) =>
  some v9
noncomputable def m_eponymref10_Fit_L12 (p_t : T_api_Tables) (s11 : Int) : Option (Stp Int (Sum Unit (Int × Int))) :=
 bif (decide (s11 < ((p_t.f_Lower.length : Nat) : Int))) then
  if 0 ≤ s11 ∧ s11 < ((p_t.f_Lower.length : Nat) : Int) then
   Option.bind (m_eponymref10_turned p_t ((p_t.f_Lower.getD (s11.toNat) d_api_Pair).f_To)) fun y14 =>
   bif y14 then
    some (.done (.inr (s11, (7 : Int))))
   else
    some (.next (IntKind.wrap .i64 (s11 + (1 : Int))))
  else none
 else
  some (.done (.inl ()))
noncomputable def m_eponymref10_Fit_K7 (p_t : T_api_Tables) (s6 : Unit) : Option (Int × Int) :=
 Option.bind (
  iter (m_eponymref10_Fit_L12 p_t) (0 : Int) : Option (Sum Unit (Int × Int))) fun z =>
 match z with
 | .inl s8 =>
  some ((0 : Int), (0 : Int))
 | .inr (v17) =>
  some (v17.1, v17.2)
noncomputable def m_eponymref10_Fit_K25 (s19 : Int) (s24 : Bool) : Option (Stp Int (Sum Unit (Int × Int))) :=
 bif s24 then
  some (.done (.inr (s19, (6 : Int))))
 else
  some (.next (IntKind.wrap .i64 (s19 + (1 : Int))))
noncomputable def m_eponymref10_Fit_K23 (p_t : T_api_Tables) (s19 : Int) (s22 : Bool) : Option (Stp Int (Sum Unit (Int × Int))) :=
 bif s22 then
  some (.done (.inr (s19, (4 : Int))))
 else
  Option.bind (
   bif (decide (s19 > (0 : Int))) then
    if 0 ≤ (IntKind.wrap .i64 (s19 - (1 : Int))) ∧ (IntKind.wrap .i64 (s19 - (1 : Int))) < ((p_t.f_Lower.length : Nat) : Int) then
     some (decide ((p_t.f_Lower.getD (s19.toNat) d_api_Pair).f_From ≤ (p_t.f_Lower.getD ((IntKind.wrap .i64 (s19 - (1 : Int))).toNat) d_api_Pair).f_From))
    else none
   else
    some false : Option Bool) fun s24 =>
  m_eponymref10_Fit_K25 s19 s24
noncomputable def m_eponymref10_Fit_L20 (p_t : T_api_Tables) (s19 : Int) : Option (Stp Int (Sum Unit (Int × Int))) :=
 bif (decide (s19 < ((p_t.f_Lower.length : Nat) : Int))) then
  if 0 ≤ s19 ∧ s19 < ((p_t.f_Lower.length : Nat) : Int) then
   Option.bind (
    Option.bind (m_eponymref01_Right ((p_t.f_Lower.getD (s19.toNat) d_api_Pair).f_From)) fun y26 =>
    bif (!y26) then
     some true
    else
     bif (decide ((p_t.f_Lower.getD (s19.toNat) d_api_Pair).f_From < (128 : Int))) then
      some true
     else
      Option.bind (m_eponymref01_Right ((p_t.f_Lower.getD (s19.toNat) d_api_Pair).f_To)) fun y27 =>
      bif (!y27) then
       some true
      else
       bif (decide ((p_t.f_Lower.getD (s19.toNat) d_api_Pair).f_To ≥ (65 : Int))) then
        some (decide ((p_t.f_Lower.getD (s19.toNat) d_api_Pair).f_To ≤ (90 : Int)))
       else
        some false : Option Bool) fun s22 =>
   m_eponymref10_Fit_K23 p_t s19 s22
  else none
 else
  some (.done (.inl ()))
noncomputable def m_eponymref10_Fit_K5 (p_t : T_api_Tables) (s4 : Unit) : Option (Int × Int) :=
 bif (decide (((p_t.f_Lower.length : Nat) : Int) > (2000 : Int))) then
  some ((0 : Int), (18 : Int))
 else
  Option.bind (
   iter (m_eponymref10_Fit_L20 p_t) (0 : Int) : Option (Sum Unit (Int × Int))) fun z =>
  match z with
  | .inl s6 =>
   m_eponymref10_Fit_K7 p_t s6
  | .inr (v30) =>
   some (v30.1, v30.2)
noncomputable def m_eponymref10_Fit_L33 (p_t : T_api_Tables) (s32 : Int) : Option (Stp Int (Sum Unit (Int × Int))) :=
 bif (decide (s32 < ((p_t.f_Norm.f_Classes.length : Nat) : Int))) then
  if 0 ≤ s32 ∧ s32 < ((p_t.f_Norm.f_Classes.length : Nat) : Int) then
   bif (decide ((p_t.f_Norm.f_Classes.getD (s32.toNat) d_api_Range).f_Lo < (128 : Int))) then
    some (.done (.inr (s32, (17 : Int))))
   else
    some (.next (IntKind.wrap .i64 (s32 + (1 : Int))))
  else none
 else
  some (.done (.inl ()))
noncomputable def m_eponymref10_Fit_K3 (p_t : T_api_Tables) (s2 : Unit) : Option (Int × Int) :=
 Option.bind (
  iter (m_eponymref10_Fit_L33 p_t) (0 : Int) : Option (Sum Unit (Int × Int))) fun z =>
 match z with
 | .inl s4 =>
  m_eponymref10_Fit_K5 p_t s4
 | .inr (v37) =>
  some (v37.1, v37.2)
noncomputable def m_eponymref10_Fit_K43 (s39 : Int) (s42 : Bool) : Option (Stp Int (Sum Unit (Int × Int))) :=
 bif s42 then
  some (.done (.inr (s39, (17 : Int))))
 else
  some (.next (IntKind.wrap .i64 (s39 + (1 : Int))))
noncomputable def m_eponymref10_Fit_L40 (p_t : T_api_Tables) (s39 : Int) : Option (Stp Int (Sum Unit (Int × Int))) :=
 bif (decide (s39 < ((p_t.f_Norm.f_Rows.length : Nat) : Int))) then
  if 0 ≤ s39 ∧ s39 < ((p_t.f_Norm.f_Rows.length : Nat) : Int) then
   Option.bind (
    bif (decide ((p_t.f_Norm.f_Rows.getD (s39.toNat) d_api_Row).f_From < (128 : Int))) then
     some true
    else
     bif ((((p_t.f_Norm.f_Rows.getD (s39.toNat) d_api_Row).f_To.length : Nat) : Int) == (2 : Int)) then
      if 0 ≤ (1 : Int) ∧ (1 : Int) < (((p_t.f_Norm.f_Rows.getD (s39.toNat) d_api_Row).f_To.length : Nat) : Int) then
       some (decide (((p_t.f_Norm.f_Rows.getD (s39.toNat) d_api_Row).f_To.getD 1 0) < (128 : Int)))
      else none
     else
      some false : Option Bool) fun s42 =>
   m_eponymref10_Fit_K43 s39 s42
  else none
 else
  some (.done (.inl ()))
noncomputable def m_eponymref10_Fit (p_t : T_api_Tables) : Option (Int × Int) :=
 Option.bind (m_eponymref08_Check p_t) fun y1 =>
 bif (y1.2 != (0 : Int)) then
  some (y1.1, y1.2)
 else
  Option.bind (
   iter (m_eponymref10_Fit_L40 p_t) (0 : Int) : Option (Sum Unit (Int × Int))) fun z =>
  match z with
  | .inl s2 =>
   m_eponymref10_Fit_K3 p_t s2
  | .inr (v46) =>
   some (v46.1, v46.2)
noncomputable def m_decomp_fault (p_at : Int) (p_e : Er) : Option Er :=
 some (Er.box 70 p_at p_e)
noncomputable def m_decomp_rowError_K14 (s10 : Int) (s13 : Bool) : Option (Stp Int (Sum Unit Er)) :=
 bif s13 then
  some (.done (.inr (Er.sent 13)))
 else
  some (.next (IntKind.wrap .i64 (s10 + (1 : Int))))
noncomputable def m_decomp_rowError_L11 (p_t : T_api_Norm) (p_i : Int) (s10 : Int) : Option (Stp Int (Sum Unit Er)) :=
 bif (decide (s10 < (((p_t.f_Rows.getD (p_i.toNat) d_api_Row).f_To.length : Nat) : Int))) then
  if 0 ≤ s10 ∧ s10 < (((p_t.f_Rows.getD (p_i.toNat) d_api_Row).f_To.length : Nat) : Int) then
   Option.bind (
    Option.bind (m_utf_Right ((p_t.f_Rows.getD (p_i.toNat) d_api_Row).f_To.getD (s10.toNat) 0)) fun y15 =>
    bif (!y15) then
     some true
    else
     Option.bind (m_decomp_hangul ((p_t.f_Rows.getD (p_i.toNat) d_api_Row).f_To.getD (s10.toNat) 0)) fun y16 =>
     some (y16 != (0 : Int)) : Option Bool) fun s13 =>
   m_decomp_rowError_K14 s10 s13
  else none
 else
  some (.done (.inl ()))
noncomputable def m_decomp_rowError_K6 (p_t : T_api_Norm) (p_i : Int) (s5 : Bool) : Option Er :=
 bif s5 then
  some (Er.sent 13)
 else
  Option.bind (
   iter (m_decomp_rowError_L11 p_t p_i) (0 : Int) : Option (Sum Unit Er)) fun z =>
  match z with
  | .inl s7 =>
   some Er.nil
  | .inr (v19) =>
   some v19
noncomputable def m_decomp_rowError_K4 (p_t : T_api_Norm) (p_i : Int) (s3 : Bool) : Option Er :=
 bif s3 then
  some (Er.sent 14)
 else
  Option.bind (
   bif (decide ((((p_t.f_Rows.getD (p_i.toNat) d_api_Row).f_To.length : Nat) : Int) < (1 : Int))) then
    some true
   else
    bif (decide ((((p_t.f_Rows.getD (p_i.toNat) d_api_Row).f_To.length : Nat) : Int) > (2 : Int))) then
     some true
    else
     if 0 ≤ (0 : Int) ∧ (0 : Int) < (((p_t.f_Rows.getD (p_i.toNat) d_api_Row).f_To.length : Nat) : Int) then
      some (decide (((p_t.f_Rows.getD (p_i.toNat) d_api_Row).f_To.getD 0 0) ≥ (p_t.f_Rows.getD (p_i.toNat) d_api_Row).f_From))
     else none : Option Bool) fun s5 =>
  m_decomp_rowError_K6 p_t p_i s5
noncomputable def m_decomp_rowError_K2 (p_t : T_api_Norm) (p_i : Int) (s1 : Bool) : Option Er :=
 bif s1 then
  some (Er.sent 12)
 else
  Option.bind (
   bif (decide (p_i > (0 : Int))) then
    if 0 ≤ (IntKind.wrap .i64 (p_i - (1 : Int))) ∧ (IntKind.wrap .i64 (p_i - (1 : Int))) < ((p_t.f_Rows.length : Nat) : Int) then
     some (decide ((p_t.f_Rows.getD (p_i.toNat) d_api_Row).f_From ≤ (p_t.f_Rows.getD ((IntKind.wrap .i64 (p_i - (1 : Int))).toNat) d_api_Row).f_From))
    else none
   else
    some false : Option Bool) fun s3 =>
  m_decomp_rowError_K4 p_t p_i s3
noncomputable def m_decomp_rowError (p_t : T_api_Norm) (p_i : Int) : Option Er :=
 if 0 ≤ p_i ∧ p_i < ((p_t.f_Rows.length : Nat) : Int) then
  Option.bind (
   Option.bind (m_utf_Right ((p_t.f_Rows.getD (p_i.toNat) d_api_Row).f_From)) fun y20 =>
   bif (!y20) then
    some true
   else
    Option.bind (m_decomp_hangul ((p_t.f_Rows.getD (p_i.toNat) d_api_Row).f_From)) fun y21 =>
    some (y21 != (0 : Int)) : Option Bool) fun s1 =>
  m_decomp_rowError_K2 p_t p_i s1
 else none
noncomputable def m_decomp_rises_K8 (s4 : Int) (s7 : Bool) : Option (Stp Int Int) :=
 bif s7 then
  some (.next (IntKind.wrap .i64 (s4 + (1 : Int))))
 else
  some (.done s4)
noncomputable def m_decomp_rises_L5 (p_t : T_api_Norm) (s4 : Int) : Option (Stp Int Int) :=
 Option.bind (
  bif (decide (s4 < ((p_t.f_Rows.length : Nat) : Int))) then
   Option.bind (m_decomp_rowError p_t s4) fun y9 =>
   some y9.isNil
  else
   some false : Option Bool) fun s7 =>
 m_decomp_rises_K8 s4 s7
noncomputable def m_decomp_rises (p_t : T_api_Norm) : Option Int :=
 Option.bind (
  iter (m_decomp_rises_L5 p_t) (0 : Int) : Option Int) fun s1 =>
 some s1
noncomputable def m_decomp_has_1 (p_x : T_api_Row) (p_a1 : Int) : Option Bool :=
 some (p_x.f_From == p_a1)
noncomputable def m_slices_IndexFunc_api_Row_api_Row_decomp_has_1_L5 (p_s : (List T_api_Row)) (p_f : Int) (s4 : Int) : Option (Stp Int (Sum Unit Int)) :=
 bif (decide (s4 < ((p_s.length : Nat) : Int))) then
  if 0 ≤ s4 ∧ s4 < ((p_s.length : Nat) : Int) then
   Option.bind (m_decomp_has_1 (p_s.getD (s4.toNat) d_api_Row) p_f) fun y7 =>
   bif y7 then
    some (.done (.inr s4))
   else
    some (.next (IntKind.wrap .i64 (s4 + (1 : Int))))
  else none
 else
  some (.done (.inl ()))
noncomputable def m_slices_IndexFunc_api_Row_api_Row_decomp_has_1 (p_s : (List T_api_Row)) (p_f : Int) : Option Int :=
 Option.bind (
  iter (m_slices_IndexFunc_api_Row_api_Row_decomp_has_1_L5 p_s p_f) (0 : Int) : Option (Sum Unit Int)) fun z =>
 match z with
 | .inl s1 =>
  some (-1 : Int)
 | .inr (v10) =>
  some v10
noncomputable def m_slices_ContainsFunc_api_Row_api_Row_decomp_has_1 (p_s : (List T_api_Row)) (p_f : Int) : Option Bool :=
 Option.bind (m_slices_IndexFunc_api_Row_api_Row_decomp_has_1 p_s p_f) fun y1 =>
 some (decide (y1 ≥ (0 : Int)))
noncomputable def m_decomp_has (p_t : T_api_Norm) (p_r : Int) : Option Bool :=
 Option.bind (m_slices_ContainsFunc_api_Row_api_Row_decomp_has_1 p_t.f_Rows p_r) fun y1 =>
 some y1
noncomputable def m_decomp_chain_K8 (p_t : T_api_Norm) (s4 : Int × Int) (s7 : Bool) : Option (Stp (Int × Int) Int) :=
 bif s7 then
  if 0 ≤ s4.1 ∧ s4.1 < ((p_t.f_Rows.length : Nat) : Int) then
   bif ((((p_t.f_Rows.getD (s4.1.toNat) d_api_Row).f_To.length : Nat) : Int) == (0 : Int)) then
    some (.done (IntKind.wrap .i64 (s4.2 + (1 : Int))))
   else
    if 0 ≤ s4.1 ∧ s4.1 < ((p_t.f_Rows.length : Nat) : Int) then
     if 0 ≤ (0 : Int) ∧ (0 : Int) < (((p_t.f_Rows.getD (s4.1.toNat) d_api_Row).f_To.length : Nat) : Int) then
      Option.bind (m_decomp_find p_t ((p_t.f_Rows.getD (s4.1.toNat) d_api_Row).f_To.getD 0 0)) fun y9 =>
      some (.next (y9, (IntKind.wrap .i64 (s4.2 + (1 : Int)))))
     else none
    else none
  else none
 else
  some (.done s4.2)
noncomputable def m_decomp_chain_L5 (p_t : T_api_Norm) (s4 : Int × Int) : Option (Stp (Int × Int) Int) :=
 Option.bind (
  bif (decide (s4.1 ≥ (0 : Int))) then
   some (decide (s4.2 ≤ (8 : Int)))
  else
   some false : Option Bool) fun s7 =>
 m_decomp_chain_K8 p_t s4 s7
noncomputable def m_decomp_chain (p_t : T_api_Norm) (p_row : Int) : Option Int :=
 Option.bind (
  iter (m_decomp_chain_L5 p_t) (p_row, (0 : Int)) : Option Int) fun s1 =>
 some s1
noncomputable def m_ranges_may (p_x : T_api_Range) : Option Bool :=
 bif (decide (p_x.f_Lo ≥ (0 : Int))) then
  bif (decide (p_x.f_Lo ≤ p_x.f_Hi)) then
   bif (decide (p_x.f_Hi ≤ (1114111 : Int))) then
    bif (decide (p_x.f_Value ≥ (0 : Int))) then
     some (decide (p_x.f_Value ≤ (999999 : Int)))
    else
     some false
   else
    some false
  else
   some false
 else
  some false
/-- What is wrong with range k, if anything: the number of the named error. -/
def rangeFault (l : List T_api_Range) (k : Nat) : Option Nat :=
 if (decide (0 ≤ (l.getD k d_api_Range).f_Lo) && (decide ((l.getD k d_api_Range).f_Lo ≤ (l.getD k d_api_Range).f_Hi) && (decide ((l.getD k d_api_Range).f_Hi ≤ 1114111) && (decide (0 ≤ (l.getD k d_api_Range).f_Value) && decide ((l.getD k d_api_Range).f_Value ≤ 999999))))) = false then some 12
 else if (l.getD k d_api_Range).f_Lo ≤ (if k = 0 then -1 else (l.getD (k - 1) d_api_Range).f_Hi) then some 14 else none
def rangeFaults (l : List T_api_Range) (n : Nat) : List (Nat × Nat) := (List.range n).filterMap fun k => (rangeFault l k).map fun g => (k, g)
def m_ranges_Check (p_l : List T_api_Range) : Option Er :=
 if 2000 < p_l.length then some (.box 70 0 (.sent 18))
 else some (match rangeFaults p_l p_l.length with | (k, g) :: _ => .box 70 (k : Int) (.sent g) | [] => .nil)
/-- Has a range a rune of Hangul? -/
def koreanF (x : T_api_Range) : Bool := (decide (x.f_Lo ≤ 4370) && decide (4352 ≤ x.f_Hi)) || ((decide (x.f_Lo ≤ 4469) && decide (4449 ≤ x.f_Hi)) || ((decide (x.f_Lo ≤ 4546) && decide (4520 ≤ x.f_Hi)) || (decide (x.f_Lo ≤ 55203) && decide (44032 ≤ x.f_Hi))))
def m_decomp_korean (p_x : T_api_Range) : Option Bool := some (koreanF p_x)
/-- One round of looking for two rows that compose of the same: the keys that have come, the row's place. -/
noncomputable def m_decomp_twice_L (p_t : T_api_Norm) (s : List (Int × Int) × Nat) : Option (Stp (List (Int × Int) × Nat) Er) :=
 if s.2 < p_t.f_Rows.length then
  Option.bind (m_decomp_Composes p_t (s.2 : Int)) fun y =>
  if y = true then
   if (p_t.f_Rows.getD s.2 d_api_Row).f_To.length = 2 ∧ (-2147483648 ≤ (p_t.f_Rows.getD s.2 d_api_Row).f_To.getD 0 0 ∧ (p_t.f_Rows.getD s.2 d_api_Row).f_To.getD 0 0 ≤ 2147483647) ∧ (-2147483648 ≤ (p_t.f_Rows.getD s.2 d_api_Row).f_To.getD 1 0 ∧ (p_t.f_Rows.getD s.2 d_api_Row).f_To.getD 1 0 ≤ 2147483647) then
    if ((p_t.f_Rows.getD s.2 d_api_Row).f_To.getD 0 0, (p_t.f_Rows.getD s.2 d_api_Row).f_To.getD 1 0) ∈ s.1 then some (.done (.box 70 (s.2 : Int) (.sent 15)))
    else some (.next (s.1 ++ [((p_t.f_Rows.getD s.2 d_api_Row).f_To.getD 0 0, (p_t.f_Rows.getD s.2 d_api_Row).f_To.getD 1 0)], s.2 + 1))
   else none
  else some (.next (s.1, s.2 + 1))
 else some (.done .nil)
noncomputable def m_decomp_twice (p_t : T_api_Norm) : Option Er := if p_t.f_Rows.length ≤ 1000000 then iter (m_decomp_twice_L p_t) ([], 0) else none
noncomputable def m_decomp_Check_K13 (p_t : T_api_Norm) (s12 : Unit) : Option Er :=
 Option.bind (m_decomp_twice p_t) fun y14 =>
 some y14
noncomputable def m_decomp_Check_K22 (s16 : Int) (s21 : Bool) : Option (Stp Int (Sum Unit Er)) :=
 bif s21 then
  Option.bind (m_decomp_fault s16 (Er.sent 14)) fun y23 =>
  some (.done (.inr y23))
 else
  some (.next (IntKind.wrap .i64 (s16 + (1 : Int))))
noncomputable def m_decomp_Check_L17 (p_t : T_api_Norm) (s16 : Int) : Option (Stp Int (Sum Unit Er)) :=
 bif (decide (s16 < ((p_t.f_Excluded.length : Nat) : Int))) then
  if 0 ≤ s16 ∧ s16 < ((p_t.f_Excluded.length : Nat) : Int) then
   Option.bind (m_utf_Right (p_t.f_Excluded.getD (s16.toNat) 0)) fun y19 =>
   bif (!y19) then
    Option.bind (m_decomp_fault s16 (Er.sent 12)) fun y20 =>
    some (.done (.inr y20))
   else
    Option.bind (
     bif (decide (s16 > (0 : Int))) then
      if 0 ≤ (IntKind.wrap .i64 (s16 - (1 : Int))) ∧ (IntKind.wrap .i64 (s16 - (1 : Int))) < ((p_t.f_Excluded.length : Nat) : Int) then
       some (decide ((p_t.f_Excluded.getD (s16.toNat) 0) ≤ (p_t.f_Excluded.getD ((IntKind.wrap .i64 (s16 - (1 : Int))).toNat) 0)))
      else none
     else
      some false : Option Bool) fun s21 =>
    m_decomp_Check_K22 s16 s21
  else none
 else
  some (.done (.inl ()))
noncomputable def m_decomp_Check_K11 (p_t : T_api_Norm) (s10 : Unit) : Option Er :=
 Option.bind (
  iter (m_decomp_Check_L17 p_t) (0 : Int) : Option (Sum Unit Er)) fun z =>
 match z with
 | .inl s12 =>
  m_decomp_Check_K13 p_t s12
 | .inr (v26) =>
  some v26
noncomputable def m_decomp_Check_K32 (s28 : Int) (s31 : Bool) : Option (Stp Int (Sum Unit Er)) :=
 bif s31 then
  Option.bind (m_decomp_fault s28 (Er.sent 9)) fun y33 =>
  some (.done (.inr y33))
 else
  some (.next (IntKind.wrap .i64 (s28 + (1 : Int))))
noncomputable def m_decomp_Check_L29 (p_t : T_api_Norm) (s28 : Int) : Option (Stp Int (Sum Unit Er)) :=
 bif (decide (s28 < ((p_t.f_Classes.length : Nat) : Int))) then
  if 0 ≤ s28 ∧ s28 < ((p_t.f_Classes.length : Nat) : Int) then
   Option.bind (
    bif (decide ((p_t.f_Classes.getD (s28.toNat) d_api_Range).f_Value < (1 : Int))) then
     some true
    else
     bif (decide ((p_t.f_Classes.getD (s28.toNat) d_api_Range).f_Value > (254 : Int))) then
      some true
     else
      Option.bind (m_decomp_korean (p_t.f_Classes.getD (s28.toNat) d_api_Range)) fun y34 =>
      some y34 : Option Bool) fun s31 =>
   m_decomp_Check_K32 s28 s31
  else none
 else
  some (.done (.inl ()))
noncomputable def m_decomp_Check_K6 (p_t : T_api_Norm) (y4 : Int) (s5 : Unit) : Option Er :=
 bif (decide (y4 < ((p_t.f_Rows.length : Nat) : Int))) then
  Option.bind (m_decomp_rowError p_t y4) fun y7 =>
  Option.bind (m_decomp_fault y4 y7) fun y8 =>
  some y8
 else
  Option.bind (m_ranges_Check p_t.f_Classes) fun y9 =>
  bif (!y9.isNil) then
   some y9
  else
   Option.bind (
    iter (m_decomp_Check_L29 p_t) (0 : Int) : Option (Sum Unit Er)) fun z =>
   match z with
   | .inl s10 =>
    m_decomp_Check_K11 p_t s10
   | .inr (v37) =>
    some v37
noncomputable def m_decomp_Check_K43 (s39 : Int) (s42 : Bool) : Option (Stp Int (Sum Unit Er)) :=
 bif s42 then
  Option.bind (m_decomp_fault s39 (Er.sent 17)) fun y44 =>
  some (.done (.inr y44))
 else
  some (.next (IntKind.wrap .i64 (s39 + (1 : Int))))
noncomputable def m_decomp_Check_L40 (p_t : T_api_Norm) (y4 : Int) (s39 : Int) : Option (Stp Int (Sum Unit Er)) :=
 bif (decide (s39 < y4)) then
  if 0 ≤ s39 ∧ s39 < ((p_t.f_Rows.length : Nat) : Int) then
   Option.bind (
    bif ((((p_t.f_Rows.getD (s39.toNat) d_api_Row).f_To.length : Nat) : Int) == (2 : Int)) then
     if 0 ≤ (1 : Int) ∧ (1 : Int) < (((p_t.f_Rows.getD (s39.toNat) d_api_Row).f_To.length : Nat) : Int) then
      Option.bind (m_decomp_has p_t ((p_t.f_Rows.getD (s39.toNat) d_api_Row).f_To.getD 1 0)) fun y45 =>
      bif y45 then
       some true
      else
       Option.bind (m_decomp_chain ({ f_Rows := (p_t.f_Rows.take ((y4.toNat) - 0)), f_Classes := [], f_Excluded := [] } : T_api_Norm) s39) fun y46 =>
       some (decide (y46 > (8 : Int)))
     else none
    else
     Option.bind (m_decomp_chain ({ f_Rows := (p_t.f_Rows.take ((y4.toNat) - 0)), f_Classes := [], f_Excluded := [] } : T_api_Norm) s39) fun y47 =>
     some (decide (y47 > (8 : Int))) : Option Bool) fun s42 =>
   m_decomp_Check_K43 s39 s42
  else none
 else
  some (.done (.inl ()))
noncomputable def m_decomp_Check_K2 (p_t : T_api_Norm) (s1 : Bool) : Option Er :=
 bif s1 then
  Option.bind (m_decomp_fault (0 : Int) (Er.sent 18)) fun y3 =>
  some y3
 else
  Option.bind (m_decomp_rises p_t) fun y4 =>
  if 0 ≤ (0 : Int) ∧ (0 : Int) ≤ y4 ∧ y4 ≤ ((p_t.f_Rows.length : Nat) : Int) then
   Option.bind (
    iter (m_decomp_Check_L40 p_t y4) (0 : Int) : Option (Sum Unit Er)) fun z =>
   match z with
   | .inl s5 =>
    m_decomp_Check_K6 p_t y4 s5
   | .inr (v50) =>
    some v50
  else none
noncomputable def m_decomp_Check (p_t : T_api_Norm) : Option Er :=
 Option.bind (
  bif (decide (((p_t.f_Rows.length : Nat) : Int) > (2000 : Int))) then
   some true
  else
   some (decide (((p_t.f_Excluded.length : Nat) : Int) > (2000 : Int))) : Option Bool) fun s1 =>
 m_decomp_Check_K2 p_t s1
noncomputable def m_classes_columns (p_p : T_api_Props) : Option (List T_classes_column) :=
 some [({ f_l := p_p.f_Exceptions, f_most := (5 : Int) } : T_classes_column), ({ f_l := p_p.f_Unassigned, f_most := (0 : Int) } : T_classes_column), ({ f_l := p_p.f_Joiners, f_most := (0 : Int) } : T_classes_column), ({ f_l := p_p.f_OldHangul, f_most := (0 : Int) } : T_classes_column), ({ f_l := p_p.f_Unstable, f_most := (0 : Int) } : T_classes_column), ({ f_l := p_p.f_Ignorable, f_most := (0 : Int) } : T_classes_column), ({ f_l := p_p.f_Letters, f_most := (0 : Int) } : T_classes_column), ({ f_l := p_p.f_Joining, f_most := (4 : Int) } : T_classes_column), ({ f_l := p_p.f_Scripts, f_most := (5 : Int) } : T_classes_column), ({ f_l := p_p.f_Directions, f_most := (11 : Int) } : T_classes_column), ({ f_l := p_p.f_Marks, f_most := (0 : Int) } : T_classes_column)]
noncomputable def m_classes_Check_K16 (s12 : Int) (s15 : Bool) : Option (Stp Int (Sum Unit Er)) :=
 bif s15 then
  some (.done (.inr (Er.box 70 s12 (Er.sent 9))))
 else
  some (.next (IntKind.wrap .i64 (s12 + (1 : Int))))
noncomputable def m_classes_Check_L13 (y3 : (List T_classes_column)) (s5 : Int) (s12 : Int) : Option (Stp Int (Sum Unit Er)) :=
 bif (decide (s12 < (((y3.getD (s5.toNat) d_classes_column).f_l.length : Nat) : Int))) then
  if 0 ≤ s12 ∧ s12 < (((y3.getD (s5.toNat) d_classes_column).f_l.length : Nat) : Int) then
   Option.bind (
    bif (decide ((y3.getD (s5.toNat) d_classes_column).f_most > (0 : Int))) then
     bif (decide (((y3.getD (s5.toNat) d_classes_column).f_l.getD (s12.toNat) d_api_Range).f_Value < (1 : Int))) then
      some true
     else
      some (decide (((y3.getD (s5.toNat) d_classes_column).f_l.getD (s12.toNat) d_api_Range).f_Value > (y3.getD (s5.toNat) d_classes_column).f_most))
    else
     some false : Option Bool) fun s15 =>
   m_classes_Check_K16 s12 s15
  else none
 else
  some (.done (.inl ()))
noncomputable def m_classes_Check_L6 (y3 : (List T_classes_column)) (s5 : Int) : Option (Stp Int (Sum Unit Er)) :=
 bif (decide (s5 < ((y3.length : Nat) : Int))) then
  Option.bind (
   if 0 ≤ s5 ∧ s5 < ((y3.length : Nat) : Int) then
    Option.bind (m_ranges_Check ((y3.getD (s5.toNat) d_classes_column).f_l)) fun y10 =>
    bif (!y10.isNil) then
     some (.inr y10)
    else
     Option.bind (iter (m_classes_Check_L13 y3 s5) (0 : Int)) fun z =>
     match z with
     | .inl s17 =>
      some (.inl ())
     | .inr (v18) =>
      some (.inr v18)
   else none : Option (Sum Unit Er)) fun z =>
  match z with
  | .inl s8 =>
   some (.next (IntKind.wrap .i64 (s5 + (1 : Int))))
  | .inr (v19) =>
   some (.done (.inr v19))
 else
  some (.done (.inl ()))
noncomputable def m_classes_Check (p_p : T_api_Props) : Option Er :=
 Option.bind (
  Option.bind (m_classes_columns p_p) fun y3 =>
  iter (m_classes_Check_L6 y3) (0 : Int) : Option (Sum Unit Er)) fun z =>
 match z with
 | .inl s1 =>
  some Er.nil
 | .inr (v22) =>
  some v22
noncomputable def m_contexts_Check (p_t : T_api_Tables) : Option Er :=
 Option.bind (m_decomp_Check p_t.f_Norm) fun y1 =>
 bif (!y1.isNil) then
  some y1
 else
  Option.bind (m_classes_Check p_t.f_Props) fun y2 =>
  some y2
noncomputable def m_label_fitLower_L8 (p_l : (List T_api_Pair)) (s7 : Int) : Option (Stp Int (Sum Unit Er)) :=
 bif (decide (s7 < ((p_l.length : Nat) : Int))) then
  if 0 ≤ s7 ∧ s7 < ((p_l.length : Nat) : Int) then
   Option.bind (m_label_lower p_l ((p_l.getD (s7.toNat) d_api_Pair).f_To)) fun y10 =>
   bif y10.2 then
    Option.bind (m_label_fault s7 (Er.sent 15)) fun y11 =>
    some (.done (.inr y11))
   else
    some (.next (IntKind.wrap .i64 (s7 + (1 : Int))))
  else none
 else
  some (.done (.inl ()))
noncomputable def m_label_fitLower_K3 (p_l : (List T_api_Pair)) (s2 : Unit) : Option Er :=
 Option.bind (
  iter (m_label_fitLower_L8 p_l) (0 : Int) : Option (Sum Unit Er)) fun z =>
 match z with
 | .inl s4 =>
  some Er.nil
 | .inr (v14) =>
  some v14
noncomputable def m_label_fitLower_K23 (s16 : Int) (s22 : Bool) : Option (Stp Int (Sum Unit Er)) :=
 bif s22 then
  Option.bind (m_label_fault s16 (Er.sent 14)) fun y24 =>
  some (.done (.inr y24))
 else
  some (.next (IntKind.wrap .i64 (s16 + (1 : Int))))
noncomputable def m_label_fitLower_K20 (p_l : (List T_api_Pair)) (s16 : Int) (s19 : Bool) : Option (Stp Int (Sum Unit Er)) :=
 bif s19 then
  Option.bind (m_label_fault s16 (Er.sent 12)) fun y21 =>
  some (.done (.inr y21))
 else
  Option.bind (
   bif (decide (s16 > (0 : Int))) then
    if 0 ≤ (IntKind.wrap .i64 (s16 - (1 : Int))) ∧ (IntKind.wrap .i64 (s16 - (1 : Int))) < ((p_l.length : Nat) : Int) then
     some (decide ((p_l.getD (s16.toNat) d_api_Pair).f_From ≤ (p_l.getD ((IntKind.wrap .i64 (s16 - (1 : Int))).toNat) d_api_Pair).f_From))
    else none
   else
    some false : Option Bool) fun s22 =>
  m_label_fitLower_K23 s16 s22
noncomputable def m_label_fitLower_L17 (p_l : (List T_api_Pair)) (s16 : Int) : Option (Stp Int (Sum Unit Er)) :=
 bif (decide (s16 < ((p_l.length : Nat) : Int))) then
  if 0 ≤ s16 ∧ s16 < ((p_l.length : Nat) : Int) then
   Option.bind (
    Option.bind (m_utf_Right ((p_l.getD (s16.toNat) d_api_Pair).f_From)) fun y25 =>
    bif (!y25) then
     some (!y25)
    else
     Option.bind (m_label_plain ((p_l.getD (s16.toNat) d_api_Pair).f_From)) fun y26 =>
     bif y26 then
      some y26
     else
      Option.bind (m_utf_Right ((p_l.getD (s16.toNat) d_api_Pair).f_To)) fun y27 =>
      bif (!y27) then
       some (!y27)
      else
       Option.bind (m_label_capital ((p_l.getD (s16.toNat) d_api_Pair).f_To)) fun y28 =>
       some y28 : Option Bool) fun s19 =>
   m_label_fitLower_K20 p_l s16 s19
  else none
 else
  some (.done (.inl ()))
noncomputable def m_label_fitLower (p_l : (List T_api_Pair)) : Option Er :=
 bif (decide (((p_l.length : Nat) : Int) > (2000 : Int))) then
  Option.bind (m_label_fault (0 : Int) (Er.sent 18)) fun y1 =>
  some y1
 else
  Option.bind (
   iter (m_label_fitLower_L17 p_l) (0 : Int) : Option (Sum Unit Er)) fun z =>
  match z with
  | .inl s2 =>
   m_label_fitLower_K3 p_l s2
  | .inr (v31) =>
   some v31
noncomputable def m_label_Fit_K5 (p_t : T_api_Tables) (s4 : Unit) : Option Er :=
 Option.bind (m_label_fitLower p_t.f_Lower) fun y6 =>
 some y6
noncomputable def m_label_Fit_L9 (p_t : T_api_Tables) (s8 : Int) : Option (Stp Int (Sum Unit Er)) :=
 bif (decide (s8 < ((p_t.f_Norm.f_Classes.length : Nat) : Int))) then
  if 0 ≤ s8 ∧ s8 < ((p_t.f_Norm.f_Classes.length : Nat) : Int) then
   Option.bind (m_label_plain ((p_t.f_Norm.f_Classes.getD (s8.toNat) d_api_Range).f_Lo)) fun y11 =>
   bif y11 then
    Option.bind (m_label_fault s8 (Er.sent 9)) fun y12 =>
    some (.done (.inr y12))
   else
    some (.next (IntKind.wrap .i64 (s8 + (1 : Int))))
  else none
 else
  some (.done (.inl ()))
noncomputable def m_label_Fit_K3 (p_t : T_api_Tables) (s2 : Unit) : Option Er :=
 Option.bind (
  iter (m_label_Fit_L9 p_t) (0 : Int) : Option (Sum Unit Er)) fun z =>
 match z with
 | .inl s4 =>
  m_label_Fit_K5 p_t s4
 | .inr (v15) =>
  some v15
noncomputable def m_label_Fit_K21 (s17 : Int) (s20 : Bool) : Option (Stp Int (Sum Unit Er)) :=
 bif s20 then
  Option.bind (m_label_fault s17 (Er.sent 9)) fun y22 =>
  some (.done (.inr y22))
 else
  some (.next (IntKind.wrap .i64 (s17 + (1 : Int))))
noncomputable def m_label_Fit_L18 (p_t : T_api_Tables) (s17 : Int) : Option (Stp Int (Sum Unit Er)) :=
 bif (decide (s17 < ((p_t.f_Norm.f_Rows.length : Nat) : Int))) then
  if 0 ≤ s17 ∧ s17 < ((p_t.f_Norm.f_Rows.length : Nat) : Int) then
   Option.bind (
    Option.bind (m_label_plain ((p_t.f_Norm.f_Rows.getD (s17.toNat) d_api_Row).f_From)) fun y23 =>
    bif y23 then
     some true
    else
     bif ((((p_t.f_Norm.f_Rows.getD (s17.toNat) d_api_Row).f_To.length : Nat) : Int) == (2 : Int)) then
      if 0 ≤ (1 : Int) ∧ (1 : Int) < (((p_t.f_Norm.f_Rows.getD (s17.toNat) d_api_Row).f_To.length : Nat) : Int) then
       Option.bind (m_label_plain ((p_t.f_Norm.f_Rows.getD (s17.toNat) d_api_Row).f_To.getD 1 0)) fun y24 =>
       some y24
      else none
     else
      some false : Option Bool) fun s20 =>
   m_label_Fit_K21 s17 s20
  else none
 else
  some (.done (.inl ()))
noncomputable def m_label_Fit (p_t : T_api_Tables) : Option Er :=
 Option.bind (m_contexts_Check p_t) fun y1 =>
 bif (!y1.isNil) then
  some y1
 else
  Option.bind (
   iter (m_label_Fit_L18 p_t) (0 : Int) : Option (Sum Unit Er)) fun z =>
  match z with
  | .inl s2 =>
   m_label_Fit_K3 p_t s2
  | .inr (v27) =>
   some v27
noncomputable def m_eponymlaw10_LabelFits (p_t : T_api_Tables) : Option Bool :=
 Option.bind (m_eponymlaw10_awake) fun y1 =>
 bif (!y1) then
  some false
 else
  Option.bind (m_eponymlaw10_Great p_t) fun y2 =>
  bif y2 then
   some true
  else
   Option.bind (m_eponymref10_Fit p_t) fun y3 =>
   Option.bind (m_label_Fit p_t) fun y4 =>
   Option.bind (m_eponymlaw01_Is y4 y3.1 y3.2) fun y5 =>
   some y5
end Go.Proofs.YtkeokkmhhhhoiaaGreatDoor
