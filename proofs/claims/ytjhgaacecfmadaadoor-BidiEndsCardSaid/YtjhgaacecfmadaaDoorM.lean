/- Models of functions, printed by a program of ours. No condition. -/
import Derived.Test.YtjhgaacecfmadaaDoorL
namespace Go.Proofs.YtjhgaacecfmadaaDoor
open Go Go.SE
set_option linter.unusedVariables false
set_option linter.unusedSimpArgs false
structure T_api_Range where
  f_Lo : Int
  f_Hi : Int
  f_Value : Int
def d_api_Range : T_api_Range := ⟨0, 0, 0⟩
structure T_api_Props where
  f_Exceptions : (List T_api_Range)
  f_Unassigned : (List T_api_Range)
  f_Joiners : (List T_api_Range)
  f_OldHangul : (List T_api_Range)
  f_Unstable : (List T_api_Range)
  f_Ignorable : (List T_api_Range)
  f_Letters : (List T_api_Range)
  f_Joining : (List T_api_Range)
  f_Scripts : (List T_api_Range)
  f_Directions : (List T_api_Range)
  f_Marks : (List T_api_Range)
def d_api_Props : T_api_Props := ⟨[], [], [], [], [], [], [], [], [], [], []⟩
structure T_classes_column where
  f_l : (List T_api_Range)
  f_most : Int
def d_classes_column : T_classes_column := ⟨[], 0⟩
def e_api_Range (x : T_api_Range) : AV := .agg [(.int .i32 x.f_Lo), (.int .i32 x.f_Hi), (.int .i64 x.f_Value)]
def e_L_api_Range (l : (List T_api_Range)) : AV := .sl none l.length fun i => (e_api_Range (l.getD i d_api_Range))
def e_api_Props (x : T_api_Props) : AV := .agg [(e_L_api_Range x.f_Exceptions), (e_L_api_Range x.f_Unassigned), (e_L_api_Range x.f_Joiners), (e_L_api_Range x.f_OldHangul), (e_L_api_Range x.f_Unstable), (e_L_api_Range x.f_Ignorable), (e_L_api_Range x.f_Letters), (e_L_api_Range x.f_Joining), (e_L_api_Range x.f_Scripts), (e_L_api_Range x.f_Directions), (e_L_api_Range x.f_Marks)]
def e_L_i32 (l : (List Int)) : AV := .sl none l.length fun i => (AV.int .i32 (l.getD i 0))
def e_A11_L_api_Range (x : (List (List T_api_Range))) : AV := .agg [(e_L_api_Range (x.getD 0 [])), (e_L_api_Range (x.getD 1 [])), (e_L_api_Range (x.getD 2 [])), (e_L_api_Range (x.getD 3 [])), (e_L_api_Range (x.getD 4 [])), (e_L_api_Range (x.getD 5 [])), (e_L_api_Range (x.getD 6 [])), (e_L_api_Range (x.getD 7 [])), (e_L_api_Range (x.getD 8 [])), (e_L_api_Range (x.getD 9 [])), (e_L_api_Range (x.getD 10 []))]
def e_classes_column (x : T_classes_column) : AV := .agg [(e_L_api_Range x.f_l), (.int .i64 x.f_most)]
def e_L_classes_column (l : (List T_classes_column)) : AV := .sl none l.length fun i => (e_classes_column (l.getD i d_classes_column))
def e_L_i64 (l : (List Int)) : AV := .sl none l.length fun i => (AV.int .i64 (l.getD i 0))
noncomputable def m_ranges_Find_1 (p_k : Int) (p_a1 : (List T_api_Range)) (p_a2 : Int) : Option Bool :=
  if 0 ≤ p_k ∧ p_k < ((p_a1.length : Nat) : Int) then
    some (decide ((p_a1.getD (p_k.toNat) d_api_Range).f_Hi ≥ p_a2))
  else none
noncomputable def m_sort_Search_ranges_Find_1_L5 (p_f : (List T_api_Range)) (p_a2 : Int) (s4 : Int × Int) : Option (Stp (Int × Int) Int) :=
  bif (decide (s4.1 < s4.2)) then
    Option.bind (m_ranges_Find_1 (IntKind.wrap .i64 (Int.fdiv (IntKind.wrap .u64 (IntKind.wrap .i64 (s4.1 + s4.2))) 2)) p_f p_a2) fun y7 =>
    bif (!y7) then
      some (.next ((IntKind.wrap .i64 ((IntKind.wrap .i64 (Int.fdiv (IntKind.wrap .u64 (IntKind.wrap .i64 (s4.1 + s4.2))) 2)) + (1 : Int))), s4.2))
    else
      some (.next (s4.1, (IntKind.wrap .i64 (Int.fdiv (IntKind.wrap .u64 (IntKind.wrap .i64 (s4.1 + s4.2))) 2))))
  else
    some (.done s4.1)
noncomputable def m_sort_Search_ranges_Find_1 (p_n : Int) (p_f : (List T_api_Range)) (p_a2 : Int) : Option Int :=
  Option.bind (
    iter (m_sort_Search_ranges_Find_1_L5 p_f p_a2) ((0 : Int), p_n) : Option Int) fun s1 =>
  some s1
noncomputable def m_ranges_Find_K3 (p_l : (List T_api_Range)) (y1 : Int) (s2 : Bool) : Option (Int × Bool) :=
  bif s2 then
    some ((0 : Int), false)
  else
    if 0 ≤ y1 ∧ y1 < ((p_l.length : Nat) : Int) then
      some ((p_l.getD (y1.toNat) d_api_Range).f_Value, true)
    else none
noncomputable def m_ranges_Find (p_l : (List T_api_Range)) (p_r : Int) : Option (Int × Bool) :=
  Option.bind (m_sort_Search_ranges_Find_1 ((p_l.length : Nat) : Int) p_l p_r) fun y1 =>
  Option.bind (
    bif (y1 == ((p_l.length : Nat) : Int)) then
      some true
    else
      if 0 ≤ y1 ∧ y1 < ((p_l.length : Nat) : Int) then
        some (decide ((p_l.getD (y1.toNat) d_api_Range).f_Lo > p_r))
      else none : Option Bool) fun s2 =>
  m_ranges_Find_K3 p_l y1 s2
noncomputable def m_classes_Direction (p_p : T_api_Props) (p_r : Int) : Option Int :=
  Option.bind (m_ranges_Find p_p.f_Directions p_r) fun y1 =>
  bif (!y1.2) then
    some (1 : Int)
  else
    some y1.1
noncomputable def m_bidi_row_L5 (p_p : T_api_Props) (p_l : (List Int)) (s4 : (List Int) × Int) : Option (Stp ((List Int) × Int) (List Int)) :=
  bif (decide (s4.2 < ((p_l.length : Nat) : Int))) then
    if 0 ≤ s4.2 ∧ s4.2 < ((p_l.length : Nat) : Int) then
      Option.bind (m_classes_Direction p_p (p_l.getD (s4.2.toNat) 0)) fun y7 =>
      if 0 ≤ s4.2 ∧ s4.2 < ((s4.1.length : Nat) : Int) then
        some (.next ((s4.1.set (s4.2.toNat) (max (0 : Int) (min y7 (31 : Int)))), (IntKind.wrap .i64 (s4.2 + (1 : Int)))))
      else none
    else none
  else
    some (.done s4.1)
noncomputable def m_bidi_row (p_p : T_api_Props) (p_l : (List Int)) : Option (List Int) :=
  if mkOk 8 ((p_l.length : Nat) : Int) then
    Option.bind (
      iter (m_bidi_row_L5 p_p p_l) ((List.replicate p_l.length 0), (0 : Int)) : Option (List Int)) fun s1 =>
    some s1
  else none
noncomputable def m_bidi_last_K8 (s4 : Int) (s7 : Bool) : Option (Stp Int Int) :=
  bif s7 then
    some (.next (IntKind.wrap .i64 (s4 - (1 : Int))))
  else
    some (.done s4)
noncomputable def m_bidi_last_L5 (p_l : (List Int)) (s4 : Int) : Option (Stp Int Int) :=
  Option.bind (
    bif (decide (s4 ≥ (0 : Int))) then
      if 0 ≤ s4 ∧ s4 < ((p_l.length : Nat) : Int) then
        some ((p_l.getD (s4.toNat) 0) == (10 : Int))
      else none
    else
      some false : Option Bool) fun s7 =>
  m_bidi_last_K8 s4 s7
noncomputable def m_bidi_last (p_l : (List Int)) : Option Int :=
  Option.bind (
    iter (m_bidi_last_L5 p_l) (IntKind.wrap .i64 (((p_l.length : Nat) : Int) - (1 : Int))) : Option Int) fun s1 =>
  some s1
noncomputable def m_bidi_of_L5 (p_l : (List Int)) (s4 : Int × Int) : Option (Stp (Int × Int) Int) :=
  bif (decide (s4.2 < ((p_l.length : Nat) : Int))) then
    if 0 ≤ s4.2 ∧ s4.2 < ((p_l.length : Nat) : Int) then
      if 0 ≤ (p_l.getD (s4.2.toNat) 0) then
        some (.next ((ior .u64 s4.1 (IntKind.wrap .u64 ((1 : Int) * 2 ^ (min ((p_l.getD (s4.2.toNat) 0)).toNat (IntKind.bits .u64))))), (IntKind.wrap .i64 (s4.2 + (1 : Int)))))
      else none
    else none
  else
    some (.done s4.1)
noncomputable def m_bidi_of (p_l : (List Int)) : Option Int :=
  Option.bind (
    iter (m_bidi_of_L5 p_l) ((0 : Int), (0 : Int)) : Option Int) fun s1 =>
  some s1
noncomputable def m_bidi_neutral  : Option Int :=
  Option.bind (m_bidi_of [(6 : Int), (8 : Int), (7 : Int), (9 : Int), (11 : Int), (10 : Int)]) fun y1 =>
  some y1
noncomputable def m_bidi_set_has (p_s : Int) (p_d : Int) : Option Bool :=
  if 0 ≤ p_d then
    some ((iand .u64 (Int.fdiv p_s (2 ^ (min (p_d).toNat (IntKind.bits .u64)))) (1 : Int)) == (1 : Int))
  else none
noncomputable def m_bidi_first_L5 (p_l : (List Int)) (p_s : Int) (p_in : Bool) (s4 : Int) : Option (Stp Int (Sum Unit Int)) :=
  bif (decide (s4 < ((p_l.length : Nat) : Int))) then
    if 0 ≤ s4 ∧ s4 < ((p_l.length : Nat) : Int) then
      Option.bind (m_bidi_set_has p_s (p_l.getD (s4.toNat) 0)) fun y7 =>
      bif (y7 == p_in) then
        some (.done (.inr s4))
      else
        some (.next (IntKind.wrap .i64 (s4 + (1 : Int))))
    else none
  else
    some (.done (.inl ()))
noncomputable def m_bidi_first (p_l : (List Int)) (p_s : Int) (p_in : Bool) : Option Int :=
  Option.bind (
    iter (m_bidi_first_L5 p_l p_s p_in) (0 : Int) : Option (Sum Unit Int)) fun z =>
  match z with
  | .inl s1 =>
    some (-1 : Int)
  | .inr (v10) =>
    some v10
noncomputable def m_bidi_both_K9 (s4 : Int × Int) (y7 : Int) (s8 : Bool) : Option (Stp (Int × Int) (Sum Unit Int)) :=
  bif s8 then
    some (.done (.inr s4.2))
  else
    some (.next ((ior .u64 s4.1 y7), (IntKind.wrap .i64 (s4.2 + (1 : Int)))))
noncomputable def m_bidi_both_L5 (p_l : (List Int)) (s4 : Int × Int) : Option (Stp (Int × Int) (Sum Unit Int)) :=
  bif (decide (s4.2 < ((p_l.length : Nat) : Int))) then
    if 0 ≤ s4.2 ∧ s4.2 < ((p_l.length : Nat) : Int) then
      Option.bind (m_bidi_of [(p_l.getD (s4.2.toNat) 0)]) fun y7 =>
      Option.bind (
        Option.bind (m_bidi_set_has (ior .u64 s4.1 y7) (4 : Int)) fun y10 =>
        bif y10 then
          Option.bind (m_bidi_set_has (ior .u64 s4.1 y7) (5 : Int)) fun y11 =>
          some y11
        else
          some false : Option Bool) fun s8 =>
      m_bidi_both_K9 s4 y7 s8
    else none
  else
    some (.done (.inl ()))
noncomputable def m_bidi_both (p_l : (List Int)) : Option Int :=
  Option.bind (
    iter (m_bidi_both_L5 p_l) ((0 : Int), (0 : Int)) : Option (Sum Unit Int)) fun z =>
  match z with
  | .inl s1 =>
    some (-1 : Int)
  | .inr (v14) =>
    some v14
noncomputable def m_bidi_Broken_K4 (y1 : (List Int)) (y2 : Int) (s3 : Unit) : Option (Int × Int) :=
  Option.bind (m_bidi_neutral) fun y5 =>
  Option.bind (m_bidi_of [(2 : Int), (3 : Int), (5 : Int), (4 : Int)]) fun y6 =>
  Option.bind (m_bidi_first y1 (ior .u64 y5 y6) false) fun y7 =>
  bif (decide (y7 ≥ (0 : Int))) then
    some ((2 : Int), y7)
  else
    Option.bind (m_bidi_of [(2 : Int), (3 : Int), (4 : Int), (5 : Int)]) fun y8 =>
    if 0 ≤ y2 ∧ y2 < ((y1.length : Nat) : Int) then
      Option.bind (m_bidi_set_has y8 (y1.getD (y2.toNat) 0)) fun y9 =>
      bif (!y9) then
        some ((3 : Int), y2)
      else
        Option.bind (m_bidi_both y1) fun y10 =>
        bif (decide (y10 ≥ (0 : Int))) then
          some ((4 : Int), y10)
        else
          some ((0 : Int), (0 : Int))
    else none
noncomputable def m_bidi_Broken (p_p : T_api_Props) (p_l : (List Int)) : Option (Int × Int) :=
  Option.bind (m_bidi_row p_p p_l) fun y1 =>
  bif (((y1.length : Nat) : Int) == (0 : Int)) then
    some ((1 : Int), (0 : Int))
  else
    Option.bind (m_bidi_last y1) fun y2 =>
    if 0 ≤ (0 : Int) ∧ (0 : Int) < ((y1.length : Nat) : Int) then
      Option.bind (
        bif ((y1.getD 0 0) == (1 : Int)) then
          Option.bind (m_bidi_neutral) fun y11 =>
          Option.bind (m_bidi_of [(1 : Int), (4 : Int)]) fun y12 =>
          Option.bind (m_bidi_first y1 (ior .u64 y11 y12) false) fun y13 =>
          bif (decide (y13 ≥ (0 : Int))) then
            some (.inr (.inr (.inr ((5 : Int), y13))))
          else
            Option.bind (m_bidi_of [(1 : Int), (4 : Int)]) fun y14 =>
            if 0 ≤ y2 ∧ y2 < ((y1.length : Nat) : Int) then
              Option.bind (m_bidi_set_has y14 (y1.getD (y2.toNat) 0)) fun y15 =>
              bif (!y15) then
                some (.inr (.inr (.inr ((6 : Int), y2))))
              else
                some (.inr (.inl ()))
            else none
        else
          bif ((y1.getD 0 0) == (2 : Int)) then
            some (.inl ())
          else
            bif ((y1.getD 0 0) == (3 : Int)) then
              some (.inl ())
            else
              some (.inr (.inr (.inl ()))) : Option (Sum Unit (Sum Unit (Sum Unit (Int × Int))))) fun z =>
      match z with
      | .inl s3 =>
        m_bidi_Broken_K4 y1 y2 s3
      | .inr (.inl s16) =>
        some ((0 : Int), (0 : Int))
      | .inr (.inr (.inl s17)) =>
        some ((1 : Int), (0 : Int))
      | .inr (.inr (.inr (v18))) =>
        some (v18.1, v18.2)
    else none
noncomputable def m_eponymlaw09_awake  : Option Bool :=
  Option.bind (m_bidi_Broken ({ f_Exceptions := [], f_Unassigned := [], f_Joiners := [], f_OldHangul := [], f_Unstable := [], f_Ignorable := [], f_Letters := [], f_Joining := [], f_Scripts := [], f_Directions := [({ f_Lo := (48 : Int), f_Hi := (57 : Int), f_Value := (4 : Int) } : T_api_Range), ({ f_Lo := (1488 : Int), f_Hi := (1514 : Int), f_Value := (2 : Int) } : T_api_Range)], f_Marks := [] } : T_api_Props) [(1488 : Int), (48 : Int)]) fun y1 =>
  Option.bind (m_bidi_Broken ({ f_Exceptions := [], f_Unassigned := [], f_Joiners := [], f_OldHangul := [], f_Unstable := [], f_Ignorable := [], f_Letters := [], f_Joining := [], f_Scripts := [], f_Directions := [({ f_Lo := (48 : Int), f_Hi := (57 : Int), f_Value := (4 : Int) } : T_api_Range), ({ f_Lo := (1488 : Int), f_Hi := (1514 : Int), f_Value := (2 : Int) } : T_api_Range)], f_Marks := [] } : T_api_Props) [(48 : Int), (1488 : Int)]) fun y2 =>
  Option.bind (m_bidi_Broken ({ f_Exceptions := [], f_Unassigned := [], f_Joiners := [], f_OldHangul := [], f_Unstable := [], f_Ignorable := [], f_Letters := [], f_Joining := [], f_Scripts := [], f_Directions := [({ f_Lo := (48 : Int), f_Hi := (57 : Int), f_Value := (4 : Int) } : T_api_Range), ({ f_Lo := (1488 : Int), f_Hi := (1514 : Int), f_Value := (2 : Int) } : T_api_Range)], f_Marks := [] } : T_api_Props) [(1488 : Int), (97 : Int)]) fun y3 =>
  bif (y1.1 == (0 : Int)) then
    bif (y2.1 == (1 : Int)) then
      bif (y3.1 == (2 : Int)) then
        some (y3.2 == (1 : Int))
      else
        some false
    else
      some false
  else
    some false
noncomputable def m_eponymref07_Tables (p_p : T_api_Props) : Option (List (List T_api_Range)) :=
  some [p_p.f_Exceptions, p_p.f_Unassigned, p_p.f_Joiners, p_p.f_OldHangul, p_p.f_Unstable, p_p.f_Ignorable, p_p.f_Letters, p_p.f_Joining, p_p.f_Scripts, p_p.f_Directions, p_p.f_Marks]
noncomputable def m_eponymlaw07_Great_L6 (y1 : (List (List T_api_Range))) (s5 : Int) : Option (Stp Int (Sum Unit Bool)) :=
  bif (decide (s5 < (11 : Int))) then
    if 0 ≤ s5 ∧ s5 < (11 : Int) then
      bif (decide (((([(y1.getD 0 []), (y1.getD 1 []), (y1.getD 2 []), (y1.getD 3 []), (y1.getD 4 []), (y1.getD 5 []), (y1.getD 6 []), (y1.getD 7 []), (y1.getD 8 []), (y1.getD 9 []), (y1.getD 10 [])].getD (s5.toNat) []).length : Nat) : Int) > (40 : Int))) then
        some (.done (.inr true))
      else
        some (.next (IntKind.wrap .i64 (s5 + (1 : Int))))
    else none
  else
    some (.done (.inl ()))
noncomputable def m_eponymlaw07_Great (p_p : T_api_Props) : Option Bool :=
  Option.bind (m_eponymref07_Tables p_p) fun y1 =>
  Option.bind (
    iter (m_eponymlaw07_Great_L6 y1) (0 : Int) : Option (Sum Unit Bool)) fun z =>
  match z with
  | .inl s2 =>
    some false
  | .inr (v10) =>
    some v10
noncomputable def m_classes_columns (p_p : T_api_Props) : Option (List T_classes_column) :=
  some [({ f_l := p_p.f_Exceptions, f_most := (5 : Int) } : T_classes_column), ({ f_l := p_p.f_Unassigned, f_most := (0 : Int) } : T_classes_column), ({ f_l := p_p.f_Joiners, f_most := (0 : Int) } : T_classes_column), ({ f_l := p_p.f_OldHangul, f_most := (0 : Int) } : T_classes_column), ({ f_l := p_p.f_Unstable, f_most := (0 : Int) } : T_classes_column), ({ f_l := p_p.f_Ignorable, f_most := (0 : Int) } : T_classes_column), ({ f_l := p_p.f_Letters, f_most := (0 : Int) } : T_classes_column), ({ f_l := p_p.f_Joining, f_most := (4 : Int) } : T_classes_column), ({ f_l := p_p.f_Scripts, f_most := (5 : Int) } : T_classes_column), ({ f_l := p_p.f_Directions, f_most := (11 : Int) } : T_classes_column), ({ f_l := p_p.f_Marks, f_most := (0 : Int) } : T_classes_column)]
noncomputable def m_ranges_may (p_x : T_api_Range) : Option Bool :=
  bif (decide (p_x.f_Lo ≥ (0 : Int))) then
    bif (decide (p_x.f_Lo ≤ p_x.f_Hi)) then
      bif (decide (p_x.f_Hi ≤ (1114111 : Int))) then
        bif (decide (p_x.f_Value ≥ (0 : Int))) then
          some (decide (p_x.f_Value ≤ (999999 : Int)))
        else
          some false
      else
        some false
    else
      some false
  else
    some false
noncomputable def m_ranges_fault (p_at : Int) (p_e : Er) : Option Er :=
  some (Er.box 89 p_at p_e)
/-- What is wrong with range k, if anything: the number of the named error. -/
def rangeFault (l : List T_api_Range) (k : Nat) : Option Nat :=
  if (decide (0 ≤ (l.getD k d_api_Range).f_Lo) && (decide ((l.getD k d_api_Range).f_Lo ≤ (l.getD k d_api_Range).f_Hi) && (decide ((l.getD k d_api_Range).f_Hi ≤ 1114111) && (decide (0 ≤ (l.getD k d_api_Range).f_Value) && decide ((l.getD k d_api_Range).f_Value ≤ 999999))))) = false then some 6
  else if (l.getD k d_api_Range).f_Lo ≤ (if k = 0 then -1 else (l.getD (k - 1) d_api_Range).f_Hi) then some 7 else none
def rangeFaults (l : List T_api_Range) (n : Nat) : List (Nat × Nat) := (List.range n).filterMap fun k => (rangeFault l k).map fun g => (k, g)
def m_ranges_Check (p_l : List T_api_Range) : Option Er :=
  if 2000 < p_l.length then some (.box 89 0 (.sent 3))
  else some (match rangeFaults p_l p_l.length with | (k, g) :: _ => .box 89 (k : Int) (.sent g) | [] => .nil)
noncomputable def m_classes_Check_K16 (s12 : Int) (s15 : Bool) : Option (Stp Int (Sum Unit Er)) :=
  bif s15 then
    some (.done (.inr (Er.box 89 s12 (Er.sent 0))))
  else
    some (.next (IntKind.wrap .i64 (s12 + (1 : Int))))
noncomputable def m_classes_Check_L13 (y3 : (List T_classes_column)) (s5 : Int) (s12 : Int) : Option (Stp Int (Sum Unit Er)) :=
  bif (decide (s12 < (((y3.getD (s5.toNat) d_classes_column).f_l.length : Nat) : Int))) then
    if 0 ≤ s12 ∧ s12 < (((y3.getD (s5.toNat) d_classes_column).f_l.length : Nat) : Int) then
      Option.bind (
        bif (decide ((y3.getD (s5.toNat) d_classes_column).f_most > (0 : Int))) then
          bif (decide (((y3.getD (s5.toNat) d_classes_column).f_l.getD (s12.toNat) d_api_Range).f_Value < (1 : Int))) then
            some true
          else
            some (decide (((y3.getD (s5.toNat) d_classes_column).f_l.getD (s12.toNat) d_api_Range).f_Value > (y3.getD (s5.toNat) d_classes_column).f_most))
        else
          some false : Option Bool) fun s15 =>
      m_classes_Check_K16 s12 s15
    else none
  else
    some (.done (.inl ()))
noncomputable def m_classes_Check_L6 (y3 : (List T_classes_column)) (s5 : Int) : Option (Stp Int (Sum Unit Er)) :=
  bif (decide (s5 < ((y3.length : Nat) : Int))) then
    Option.bind (
      if 0 ≤ s5 ∧ s5 < ((y3.length : Nat) : Int) then
        Option.bind (m_ranges_Check ((y3.getD (s5.toNat) d_classes_column).f_l)) fun y10 =>
        bif (!y10.isNil) then
          some (.inr y10)
        else
          Option.bind (iter (m_classes_Check_L13 y3 s5) (0 : Int)) fun z =>
          match z with
          | .inl s17 =>
            some (.inl ())
          | .inr (v18) =>
            some (.inr v18)
      else none : Option (Sum Unit Er)) fun z =>
    match z with
    | .inl s8 =>
      some (.next (IntKind.wrap .i64 (s5 + (1 : Int))))
    | .inr (v19) =>
      some (.done (.inr v19))
  else
    some (.done (.inl ()))
noncomputable def m_classes_Check (p_p : T_api_Props) : Option Er :=
  Option.bind (
    Option.bind (m_classes_columns p_p) fun y3 =>
    iter (m_classes_Check_L6 y3) (0 : Int) : Option (Sum Unit Er)) fun z =>
  match z with
  | .inl s1 =>
    some Er.nil
  | .inr (v22) =>
    some v22
noncomputable def m_bidi_Label (p_p : T_api_Props) (p_l : (List Int)) : Option Er :=
  Option.bind (m_bidi_Broken p_p p_l) fun y1 =>
  bif (y1.1 != (0 : Int)) then
    some (Er.box 89 y1.2 (Er.sent 1))
  else
    some Er.nil
noncomputable def m_bidi_Right (p_p : T_api_Props) (p_l : (List Int)) : Option Bool :=
  Option.bind (m_bidi_row p_p p_l) fun y1 =>
  Option.bind (m_bidi_of [(2 : Int), (3 : Int), (5 : Int)]) fun y2 =>
  Option.bind (m_bidi_first y1 y2 true) fun y3 =>
  some (decide (y3 ≥ (0 : Int)))
noncomputable def m_eponymlaw09_BidiEnds_K13 (p_p : T_api_Props) (p_l : (List Int)) (s12 : (List Int)) : Option Bool :=
  Option.bind (m_bidi_Broken p_p s12) fun y14 =>
  bif (y14.1 == (0 : Int)) then
    Option.bind (m_bidi_Right p_p s12) fun y15 =>
    Option.bind (m_bidi_Right p_p p_l) fun y16 =>
    some (y15 == y16)
  else
    some false
noncomputable def m_eponymlaw09_BidiEnds_L19 (p_p : T_api_Props) (p_more : (List Int)) (s18 : (List Int) × Int) : Option (Stp ((List Int) × Int) (Sum (List Int) Bool)) :=
  bif (decide (s18.2 < ((p_more.length : Nat) : Int))) then
    if 0 ≤ s18.2 ∧ s18.2 < ((p_more.length : Nat) : Int) then
      Option.bind (m_classes_Direction p_p (p_more.getD (s18.2.toNat) 0)) fun y21 =>
      bif (y21 != (10 : Int)) then
        some (.done (.inr true))
      else
        if 0 ≤ s18.2 ∧ s18.2 < ((p_more.length : Nat) : Int) then
          if (s18.1.length + 1) * 4 ≤ 140737488355328 then
            some (.next ((s18.1 ++ [(p_more.getD (s18.2.toNat) 0)]), (IntKind.wrap .i64 (s18.2 + (1 : Int)))))
          else none
        else none
    else none
  else
    some (.done (.inl s18.1))
noncomputable def m_eponymlaw09_BidiEnds_K11 (p_p : T_api_Props) (p_l : (List Int)) (p_more : (List Int)) (s10 : Bool) : Option Bool :=
  bif s10 then
    some false
  else
    if (0 + p_l.length) * 4 ≤ 140737488355328 then
      Option.bind (
        iter (m_eponymlaw09_BidiEnds_L19 p_p p_more) (p_l, (0 : Int)) : Option (Sum (List Int) Bool)) fun z =>
      match z with
      | .inl s12 =>
        m_eponymlaw09_BidiEnds_K13 p_p p_l s12
      | .inr (v24) =>
        some v24
    else none
noncomputable def m_eponymlaw09_BidiEnds_K7 (p_p : T_api_Props) (p_l : (List Int)) (p_more : (List Int)) (s6 : Int) : Option Bool :=
  if 0 ≤ s6 ∧ s6 < ((p_l.length : Nat) : Int) then
    Option.bind (m_classes_Direction p_p (p_l.getD (s6.toNat) 0)) fun y8 =>
    if 0 ≤ (0 : Int) ∧ (0 : Int) < ((p_l.length : Nat) : Int) then
      Option.bind (m_classes_Direction p_p (p_l.getD 0 0)) fun y9 =>
      Option.bind (
        bif (y9 == (1 : Int)) then
          bif (y8 != (1 : Int)) then
            bif (y8 != (4 : Int)) then
              some true
            else
              bif (!(y9 == (1 : Int))) then
                bif (y8 != (2 : Int)) then
                  bif (y8 != (3 : Int)) then
                    bif (y8 != (4 : Int)) then
                      some (y8 != (5 : Int))
                    else
                      some false
                  else
                    some false
                else
                  some false
              else
                some false
          else
            bif (!(y9 == (1 : Int))) then
              bif (y8 != (2 : Int)) then
                bif (y8 != (3 : Int)) then
                  bif (y8 != (4 : Int)) then
                    some (y8 != (5 : Int))
                  else
                    some false
                else
                  some false
              else
                some false
            else
              some false
        else
          bif (!(y9 == (1 : Int))) then
            bif (y8 != (2 : Int)) then
              bif (y8 != (3 : Int)) then
                bif (y8 != (4 : Int)) then
                  some (y8 != (5 : Int))
                else
                  some false
              else
                some false
            else
              some false
          else
            some false : Option Bool) fun s10 =>
      m_eponymlaw09_BidiEnds_K11 p_p p_l p_more s10
    else none
  else none
noncomputable def m_eponymlaw09_BidiEnds_K30 (s26 : Int) (s29 : Bool) : Option (Stp Int Int) :=
  bif s29 then
    some (.next (IntKind.wrap .i64 (s26 - (1 : Int))))
  else
    some (.done s26)
noncomputable def m_eponymlaw09_BidiEnds_L27 (p_p : T_api_Props) (p_l : (List Int)) (s26 : Int) : Option (Stp Int Int) :=
  Option.bind (
    bif (decide (s26 > (0 : Int))) then
      if 0 ≤ s26 ∧ s26 < ((p_l.length : Nat) : Int) then
        Option.bind (m_classes_Direction p_p (p_l.getD (s26.toNat) 0)) fun y31 =>
        some (y31 == (10 : Int))
      else none
    else
      some false : Option Bool) fun s29 =>
  m_eponymlaw09_BidiEnds_K30 s26 s29
noncomputable def m_eponymlaw09_BidiEnds_K3 (p_p : T_api_Props) (p_l : (List Int)) (p_more : (List Int)) (s2 : Bool) : Option Bool :=
  bif s2 then
    some true
  else
    Option.bind (m_bidi_Broken p_p p_l) fun y4 =>
    bif (y4.1 != (0 : Int)) then
      Option.bind (m_bidi_Label p_p p_l) fun y5 =>
      some (!y5.isNil)
    else
      bif (((p_l.length : Nat) : Int) == (0 : Int)) then
        some false
      else
        Option.bind (
          iter (m_eponymlaw09_BidiEnds_L27 p_p p_l) (IntKind.wrap .i64 (((p_l.length : Nat) : Int) - (1 : Int))) : Option Int) fun s6 =>
        m_eponymlaw09_BidiEnds_K7 p_p p_l p_more s6
noncomputable def m_eponymlaw09_BidiEnds (p_p : T_api_Props) (p_l : (List Int)) (p_more : (List Int)) : Option Bool :=
  Option.bind (m_eponymlaw09_awake) fun y1 =>
  bif (!y1) then
    some false
  else
    Option.bind (
      Option.bind (m_eponymlaw07_Great p_p) fun y33 =>
      bif y33 then
        some true
      else
        bif (decide (((p_l.length : Nat) : Int) > (20 : Int))) then
          some true
        else
          bif (decide (((p_more.length : Nat) : Int) > (5 : Int))) then
            some true
          else
            Option.bind (m_classes_Check p_p) fun y34 =>
            some (!y34.isNil) : Option Bool) fun s2 =>
    m_eponymlaw09_BidiEnds_K3 p_p p_l p_more s2
noncomputable def m_eponymref03_Find_K8 (p_l : (List T_api_Range)) (s4 : Int) (s7 : Bool) : Option (Stp Int (Sum Unit (Int × Bool))) :=
  bif s7 then
    if 0 ≤ s4 ∧ s4 < ((p_l.length : Nat) : Int) then
      some (.done (.inr ((p_l.getD (s4.toNat) d_api_Range).f_Value, true)))
    else none
  else
    some (.next (IntKind.wrap .i64 (s4 + (1 : Int))))
noncomputable def m_eponymref03_Find_L5 (p_l : (List T_api_Range)) (p_r : Int) (s4 : Int) : Option (Stp Int (Sum Unit (Int × Bool))) :=
  bif (decide (s4 < ((p_l.length : Nat) : Int))) then
    Option.bind (
      if 0 ≤ s4 ∧ s4 < ((p_l.length : Nat) : Int) then
        bif (decide ((p_l.getD (s4.toNat) d_api_Range).f_Lo ≤ p_r)) then
          if 0 ≤ s4 ∧ s4 < ((p_l.length : Nat) : Int) then
            some (decide (p_r ≤ (p_l.getD (s4.toNat) d_api_Range).f_Hi))
          else none
        else
          some false
      else none : Option Bool) fun s7 =>
    m_eponymref03_Find_K8 p_l s4 s7
  else
    some (.done (.inl ()))
noncomputable def m_eponymref03_Find (p_l : (List T_api_Range)) (p_r : Int) : Option (Int × Bool) :=
  Option.bind (
    iter (m_eponymref03_Find_L5 p_l p_r) (0 : Int) : Option (Sum Unit (Int × Bool))) fun z =>
  match z with
  | .inl s1 =>
    some ((0 : Int), false)
  | .inr (v11) =>
    some (v11.1, v11.2)
noncomputable def m_eponymref07_Direction (p_p : T_api_Props) (p_r : Int) : Option Int :=
  Option.bind (m_eponymref03_Find p_p.f_Directions p_r) fun y1 =>
  bif y1.2 then
    some y1.1
  else
    some (1 : Int)
noncomputable def m_eponymref09_dir (p_p : T_api_Props) (p_r : Int) : Option Int :=
  Option.bind (m_eponymref07_Direction p_p p_r) fun y1 =>
  some y1
noncomputable def m_eponymref09_end_L6 (p_p : T_api_Props) (p_l : (List Int)) (s5 : Int × Int) : Option (Stp (Int × Int) Int) :=
  bif (decide (s5.2 < ((p_l.length : Nat) : Int))) then
    if 0 ≤ s5.2 ∧ s5.2 < ((p_l.length : Nat) : Int) then
      Option.bind (m_eponymref09_dir p_p (p_l.getD (s5.2.toNat) 0)) fun y8 =>
      bif (y8 != (10 : Int)) then
        some (.next (s5.2, (IntKind.wrap .i64 (s5.2 + (1 : Int)))))
      else
        some (.next (s5.1, (IntKind.wrap .i64 (s5.2 + (1 : Int)))))
    else none
  else
    some (.done s5.1)
noncomputable def m_eponymref09_end (p_p : T_api_Props) (p_l : (List Int)) : Option Int :=
  Option.bind (
    iter (m_eponymref09_end_L6 p_p p_l) ((0 : Int), (0 : Int)) : Option Int) fun s1 =>
  some s1
noncomputable def m_eponymref09_Broken_K9 (y2 : Int) (s8 : Bool) : Option (Int × Int) :=
  bif s8 then
    some ((6 : Int), y2)
  else
    some ((0 : Int), (0 : Int))
noncomputable def m_eponymref09_Broken_K7 (y2 : Int) (y3 : Int) (s6 : Unit) : Option (Int × Int) :=
  Option.bind (
    bif (y3 != (1 : Int)) then
      some (y3 != (4 : Int))
    else
      some false : Option Bool) fun s8 =>
  m_eponymref09_Broken_K9 y2 s8
noncomputable def m_eponymref09_Broken_K16 (s11 : Int) (s15 : Bool) : Option (Stp Int (Sum Unit (Int × Int))) :=
  bif s15 then
    some (.done (.inr ((5 : Int), s11)))
  else
    some (.next (IntKind.wrap .i64 (s11 + (1 : Int))))
noncomputable def m_eponymref09_Broken_L12 (p_p : T_api_Props) (p_l : (List Int)) (s11 : Int) : Option (Stp Int (Sum Unit (Int × Int))) :=
  bif (decide (s11 < ((p_l.length : Nat) : Int))) then
    if 0 ≤ s11 ∧ s11 < ((p_l.length : Nat) : Int) then
      Option.bind (m_eponymref09_dir p_p (p_l.getD (s11.toNat) 0)) fun y14 =>
      Option.bind (
        bif (y14 == (2 : Int)) then
          some true
        else
          bif (y14 == (3 : Int)) then
            some true
          else
            some (y14 == (5 : Int)) : Option Bool) fun s15 =>
      m_eponymref09_Broken_K16 s11 s15
    else none
  else
    some (.done (.inl ()))
noncomputable def m_eponymref09_Broken_K5 (p_p : T_api_Props) (p_l : (List Int)) (y2 : Int) (y3 : Int) (s4 : Unit) : Option (Int × Int) :=
  Option.bind (
    iter (m_eponymref09_Broken_L12 p_p p_l) (0 : Int) : Option (Sum Unit (Int × Int))) fun z =>
  match z with
  | .inl s6 =>
    m_eponymref09_Broken_K7 y2 y3 s6
  | .inr (v19) =>
    some (v19.1, v19.2)
noncomputable def m_eponymref09_Broken_K34 (s26 : Bool × Bool × Int) (s29 : Bool) (s31 : Bool) (s33 : Bool) : Option (Stp (Bool × Bool × Int) (Sum Unit (Int × Int))) :=
  bif s33 then
    some (.done (.inr ((4 : Int), s26.2.2)))
  else
    some (.next (s29, s31, (IntKind.wrap .i64 (s26.2.2 + (1 : Int)))))
noncomputable def m_eponymref09_Broken_K32 (s26 : Bool × Bool × Int) (s29 : Bool) (s31 : Bool) : Option (Stp (Bool × Bool × Int) (Sum Unit (Int × Int))) :=
  Option.bind (
    bif s29 then
      some s31
    else
      some false : Option Bool) fun s33 =>
  m_eponymref09_Broken_K34 s26 s29 s31 s33
noncomputable def m_eponymref09_Broken_K30 (p_p : T_api_Props) (p_l : (List Int)) (s26 : Bool × Bool × Int) (s29 : Bool) : Option (Stp (Bool × Bool × Int) (Sum Unit (Int × Int))) :=
  Option.bind (
    bif s26.2.1 then
      some true
    else
      if 0 ≤ s26.2.2 ∧ s26.2.2 < ((p_l.length : Nat) : Int) then
        Option.bind (m_eponymref09_dir p_p (p_l.getD (s26.2.2.toNat) 0)) fun y35 =>
        some (y35 == (5 : Int))
      else none : Option Bool) fun s31 =>
  m_eponymref09_Broken_K32 s26 s29 s31
noncomputable def m_eponymref09_Broken_L27 (p_p : T_api_Props) (p_l : (List Int)) (s26 : Bool × Bool × Int) : Option (Stp (Bool × Bool × Int) (Sum Unit (Int × Int))) :=
  bif (decide (s26.2.2 < ((p_l.length : Nat) : Int))) then
    Option.bind (
      bif s26.1 then
        some true
      else
        if 0 ≤ s26.2.2 ∧ s26.2.2 < ((p_l.length : Nat) : Int) then
          Option.bind (m_eponymref09_dir p_p (p_l.getD (s26.2.2.toNat) 0)) fun y36 =>
          some (y36 == (4 : Int))
        else none : Option Bool) fun s29 =>
    m_eponymref09_Broken_K30 p_p p_l s26 s29
  else
    some (.done (.inl ()))
noncomputable def m_eponymref09_Broken_K21 (p_p : T_api_Props) (p_l : (List Int)) (y2 : Int) (y3 : Int) (s20 : Unit) : Option (Sum Unit (Int × Int)) :=
  bif (decide (y3 > (5 : Int))) then
    some (.inr ((3 : Int), y2))
  else
    Option.bind (
      iter (m_eponymref09_Broken_L27 p_p p_l) (false, false, (0 : Int)) : Option (Sum Unit (Int × Int))) fun z =>
    match z with
    | .inl s22 =>
      some (.inr ((0 : Int), (0 : Int)))
    | .inr (v39) =>
      some (.inr (v39.1, v39.2))
noncomputable def m_eponymref09_Broken_L42 (p_p : T_api_Props) (p_l : (List Int)) (s41 : Int) : Option (Stp Int (Sum Unit (Int × Int))) :=
  bif (decide (s41 < ((p_l.length : Nat) : Int))) then
    if 0 ≤ s41 ∧ s41 < ((p_l.length : Nat) : Int) then
      Option.bind (m_eponymref09_dir p_p (p_l.getD (s41.toNat) 0)) fun y44 =>
      bif (y44 == (1 : Int)) then
        some (.done (.inr ((2 : Int), s41)))
      else
        some (.next (IntKind.wrap .i64 (s41 + (1 : Int))))
    else none
  else
    some (.done (.inl ()))
noncomputable def m_eponymref09_Broken (p_p : T_api_Props) (p_l : (List Int)) : Option (Int × Int) :=
  bif (((p_l.length : Nat) : Int) == (0 : Int)) then
    some ((1 : Int), (0 : Int))
  else
    if 0 ≤ (0 : Int) ∧ (0 : Int) < ((p_l.length : Nat) : Int) then
      Option.bind (m_eponymref09_dir p_p (p_l.getD 0 0)) fun y1 =>
      bif (decide (y1 > (3 : Int))) then
        some ((1 : Int), (0 : Int))
      else
        Option.bind (m_eponymref09_end p_p p_l) fun y2 =>
        if 0 ≤ y2 ∧ y2 < ((p_l.length : Nat) : Int) then
          Option.bind (m_eponymref09_dir p_p (p_l.getD (y2.toNat) 0)) fun y3 =>
          Option.bind (
            bif (decide (y1 > (1 : Int))) then
              Option.bind (
                iter (m_eponymref09_Broken_L42 p_p p_l) (0 : Int) : Option (Sum Unit (Int × Int))) fun z =>
              match z with
              | .inl s20 =>
                m_eponymref09_Broken_K21 p_p p_l y2 y3 s20
              | .inr (v47) =>
                some (.inr (v47.1, v47.2))
            else
              some (.inl ()) : Option (Sum Unit (Int × Int))) fun z =>
          match z with
          | .inl s4 =>
            m_eponymref09_Broken_K5 p_p p_l y2 y3 s4
          | .inr (v48) =>
            some (v48.1, v48.2)
        else none
    else none
noncomputable def m_eponymref09_Right_K9 (s4 : Int) (s8 : Bool) : Option (Stp Int (Sum Unit Bool)) :=
  bif s8 then
    some (.done (.inr true))
  else
    some (.next (IntKind.wrap .i64 (s4 + (1 : Int))))
noncomputable def m_eponymref09_Right_L5 (p_p : T_api_Props) (p_l : (List Int)) (s4 : Int) : Option (Stp Int (Sum Unit Bool)) :=
  bif (decide (s4 < ((p_l.length : Nat) : Int))) then
    if 0 ≤ s4 ∧ s4 < ((p_l.length : Nat) : Int) then
      Option.bind (m_eponymref09_dir p_p (p_l.getD (s4.toNat) 0)) fun y7 =>
      Option.bind (
        bif (y7 == (2 : Int)) then
          some true
        else
          bif (y7 == (3 : Int)) then
            some true
          else
            some (y7 == (5 : Int)) : Option Bool) fun s8 =>
      m_eponymref09_Right_K9 s4 s8
    else none
  else
    some (.done (.inl ()))
noncomputable def m_eponymref09_Right (p_p : T_api_Props) (p_l : (List Int)) : Option Bool :=
  Option.bind (
    iter (m_eponymref09_Right_L5 p_p p_l) (0 : Int) : Option (Sum Unit Bool)) fun z =>
  match z with
  | .inl s1 =>
    some false
  | .inr (v12) =>
    some v12
noncomputable def m_eponymref03_May (p_x : T_api_Range) : Option Bool :=
  bif (decide (p_x.f_Lo ≥ (0 : Int))) then
    bif (decide (p_x.f_Lo ≤ p_x.f_Hi)) then
      bif (decide (p_x.f_Hi ≤ (1114111 : Int))) then
        bif (decide (p_x.f_Value ≥ (0 : Int))) then
          some (decide (p_x.f_Value ≤ (999999 : Int)))
        else
          some false
      else
        some false
    else
      some false
  else
    some false
noncomputable def m_eponymref03_Check_K9 (s4 : Int) (s8 : Bool) : Option (Stp Int (Sum Unit (Int × Int))) :=
  bif s8 then
    some (.done (.inr (s4, (6 : Int))))
  else
    some (.next (IntKind.wrap .i64 (s4 + (1 : Int))))
noncomputable def m_eponymref03_Check_L5 (p_l : (List T_api_Range)) (s4 : Int) : Option (Stp Int (Sum Unit (Int × Int))) :=
  bif (decide (s4 < ((p_l.length : Nat) : Int))) then
    if 0 ≤ s4 ∧ s4 < ((p_l.length : Nat) : Int) then
      Option.bind (m_eponymref03_May (p_l.getD (s4.toNat) d_api_Range)) fun y7 =>
      bif (!y7) then
        some (.done (.inr (s4, (4 : Int))))
      else
        Option.bind (
          bif (decide (s4 > (0 : Int))) then
            if 0 ≤ s4 ∧ s4 < ((p_l.length : Nat) : Int) then
              if 0 ≤ (IntKind.wrap .i64 (s4 - (1 : Int))) ∧ (IntKind.wrap .i64 (s4 - (1 : Int))) < ((p_l.length : Nat) : Int) then
                some (decide ((p_l.getD (s4.toNat) d_api_Range).f_Lo ≤ (p_l.getD ((IntKind.wrap .i64 (s4 - (1 : Int))).toNat) d_api_Range).f_Hi))
              else none
            else none
          else
            some false : Option Bool) fun s8 =>
        m_eponymref03_Check_K9 s4 s8
    else none
  else
    some (.done (.inl ()))
noncomputable def m_eponymref03_Check (p_l : (List T_api_Range)) : Option (Int × Int) :=
  bif (decide (((p_l.length : Nat) : Int) > (2000 : Int))) then
    some ((0 : Int), (18 : Int))
  else
    Option.bind (
      iter (m_eponymref03_Check_L5 p_l) (0 : Int) : Option (Sum Unit (Int × Int))) fun z =>
    match z with
    | .inl s1 =>
      some ((0 : Int), (0 : Int))
    | .inr (v12) =>
      some (v12.1, v12.2)
noncomputable def m_eponymref07_Check_K16 (s12 : Int) (s15 : Bool) : Option (Stp Int (Sum Unit (Int × Int))) :=
  bif s15 then
    some (.done (.inr (s12, (17 : Int))))
  else
    some (.next (IntKind.wrap .i64 (s12 + (1 : Int))))
noncomputable def m_eponymref07_Check_L13 (y1 : (List (List T_api_Range))) (s5 : Int) (s12 : Int) : Option (Stp Int (Sum Unit (Int × Int))) :=
  if 0 ≤ s5 ∧ s5 < (11 : Int) then
    bif (decide (s12 < ((([(y1.getD 0 []), (y1.getD 1 []), (y1.getD 2 []), (y1.getD 3 []), (y1.getD 4 []), (y1.getD 5 []), (y1.getD 6 []), (y1.getD 7 []), (y1.getD 8 []), (y1.getD 9 []), (y1.getD 10 [])].getD (s5.toNat) []).length : Nat) : Int))) then
      Option.bind (
        if 0 ≤ s5 ∧ s5 < (11 : Int) then
          bif (decide (([(5 : Int), (0 : Int), (0 : Int), (0 : Int), (0 : Int), (0 : Int), (0 : Int), (4 : Int), (5 : Int), (11 : Int), (0 : Int)].getD (s5.toNat) 0) > (0 : Int))) then
            if 0 ≤ s5 ∧ s5 < (11 : Int) then
              if 0 ≤ s12 ∧ s12 < ((([(y1.getD 0 []), (y1.getD 1 []), (y1.getD 2 []), (y1.getD 3 []), (y1.getD 4 []), (y1.getD 5 []), (y1.getD 6 []), (y1.getD 7 []), (y1.getD 8 []), (y1.getD 9 []), (y1.getD 10 [])].getD (s5.toNat) []).length : Nat) : Int) then
                bif (decide ((([(y1.getD 0 []), (y1.getD 1 []), (y1.getD 2 []), (y1.getD 3 []), (y1.getD 4 []), (y1.getD 5 []), (y1.getD 6 []), (y1.getD 7 []), (y1.getD 8 []), (y1.getD 9 []), (y1.getD 10 [])].getD (s5.toNat) []).getD (s12.toNat) d_api_Range).f_Value < (1 : Int))) then
                  some true
                else
                  if 0 ≤ s5 ∧ s5 < (11 : Int) then
                    if 0 ≤ s12 ∧ s12 < ((([(y1.getD 0 []), (y1.getD 1 []), (y1.getD 2 []), (y1.getD 3 []), (y1.getD 4 []), (y1.getD 5 []), (y1.getD 6 []), (y1.getD 7 []), (y1.getD 8 []), (y1.getD 9 []), (y1.getD 10 [])].getD (s5.toNat) []).length : Nat) : Int) then
                      if 0 ≤ s5 ∧ s5 < (11 : Int) then
                        some (decide ((([(y1.getD 0 []), (y1.getD 1 []), (y1.getD 2 []), (y1.getD 3 []), (y1.getD 4 []), (y1.getD 5 []), (y1.getD 6 []), (y1.getD 7 []), (y1.getD 8 []), (y1.getD 9 []), (y1.getD 10 [])].getD (s5.toNat) []).getD (s12.toNat) d_api_Range).f_Value > ([(5 : Int), (0 : Int), (0 : Int), (0 : Int), (0 : Int), (0 : Int), (0 : Int), (4 : Int), (5 : Int), (11 : Int), (0 : Int)].getD (s5.toNat) 0)))
                      else none
                    else none
                  else none
              else none
            else none
          else
            some false
        else none : Option Bool) fun s15 =>
      m_eponymref07_Check_K16 s12 s15
    else
      some (.done (.inl ()))
  else none
noncomputable def m_eponymref07_Check_L6 (y1 : (List (List T_api_Range))) (s5 : Int) : Option (Stp Int (Sum Unit (Int × Int))) :=
  bif (decide (s5 < (11 : Int))) then
    Option.bind (
      if 0 ≤ s5 ∧ s5 < (11 : Int) then
        Option.bind (m_eponymref03_Check ([(y1.getD 0 []), (y1.getD 1 []), (y1.getD 2 []), (y1.getD 3 []), (y1.getD 4 []), (y1.getD 5 []), (y1.getD 6 []), (y1.getD 7 []), (y1.getD 8 []), (y1.getD 9 []), (y1.getD 10 [])].getD (s5.toNat) [])) fun y10 =>
        bif (y10.2 != (0 : Int)) then
          some (.inr (y10.1, y10.2))
        else
          Option.bind (iter (m_eponymref07_Check_L13 y1 s5) (0 : Int)) fun z =>
          match z with
          | .inl s17 =>
            some (.inl ())
          | .inr (v18) =>
            some (.inr (v18.1, v18.2))
      else none : Option (Sum Unit (Int × Int))) fun z =>
    match z with
    | .inl s8 =>
      some (.next (IntKind.wrap .i64 (s5 + (1 : Int))))
    | .inr (v19) =>
      some (.done (.inr (v19.1, v19.2)))
  else
    some (.done (.inl ()))
noncomputable def m_eponymref07_Check (p_p : T_api_Props) : Option (Int × Int) :=
  Option.bind (m_eponymref07_Tables p_p) fun y1 =>
  Option.bind (
    iter (m_eponymref07_Check_L6 y1) (0 : Int) : Option (Sum Unit (Int × Int))) fun z =>
  match z with
  | .inl s2 =>
    some ((0 : Int), (0 : Int))
  | .inr (v22) =>
    some (v22.1, v22.2)
end Go.Proofs.YtjhgaacecfmadaaDoor
