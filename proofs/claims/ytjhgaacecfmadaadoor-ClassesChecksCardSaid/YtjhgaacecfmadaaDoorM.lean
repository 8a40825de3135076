/- Models of functions, printed by a program of ours. No condition. -/
import Derived.Test.YtjhgaacecfmadaaDoorL
namespace Go.Proofs.YtjhgaacecfmadaaDoor
open Go Go.SE
set_option linter.unusedVariables false
set_option linter.unusedSimpArgs false
structure T_api_Range where
  f_Lo : Int
  f_Hi : Int
  f_Value : Int
def d_api_Range : T_api_Range := ⟨0, 0, 0⟩
structure T_api_Props where
  f_Exceptions : (List T_api_Range)
  f_Unassigned : (List T_api_Range)
  f_Joiners : (List T_api_Range)
  f_OldHangul : (List T_api_Range)
  f_Unstable : (List T_api_Range)
  f_Ignorable : (List T_api_Range)
  f_Letters : (List T_api_Range)
  f_Joining : (List T_api_Range)
  f_Scripts : (List T_api_Range)
  f_Directions : (List T_api_Range)
  f_Marks : (List T_api_Range)
def d_api_Props : T_api_Props := ⟨[], [], [], [], [], [], [], [], [], [], []⟩
structure T_classes_column where
  f_l : (List T_api_Range)
  f_most : Int
def d_classes_column : T_classes_column := ⟨[], 0⟩
def e_api_Range (x : T_api_Range) : AV := .agg [(.int .i32 x.f_Lo), (.int .i32 x.f_Hi), (.int .i64 x.f_Value)]
def e_L_api_Range (l : (List T_api_Range)) : AV := .sl none l.length fun i => (e_api_Range (l.getD i d_api_Range))
def e_api_Props (x : T_api_Props) : AV := .agg [(e_L_api_Range x.f_Exceptions), (e_L_api_Range x.f_Unassigned), (e_L_api_Range x.f_Joiners), (e_L_api_Range x.f_OldHangul), (e_L_api_Range x.f_Unstable), (e_L_api_Range x.f_Ignorable), (e_L_api_Range x.f_Letters), (e_L_api_Range x.f_Joining), (e_L_api_Range x.f_Scripts), (e_L_api_Range x.f_Directions), (e_L_api_Range x.f_Marks)]
def e_A11_L_api_Range (x : (List (List T_api_Range))) : AV := .agg [(e_L_api_Range (x.getD 0 [])), (e_L_api_Range (x.getD 1 [])), (e_L_api_Range (x.getD 2 [])), (e_L_api_Range (x.getD 3 [])), (e_L_api_Range (x.getD 4 [])), (e_L_api_Range (x.getD 5 [])), (e_L_api_Range (x.getD 6 [])), (e_L_api_Range (x.getD 7 [])), (e_L_api_Range (x.getD 8 [])), (e_L_api_Range (x.getD 9 [])), (e_L_api_Range (x.getD 10 []))]
def e_classes_column (x : T_classes_column) : AV := .agg [(e_L_api_Range x.f_l), (.int .i64 x.f_most)]
def e_L_classes_column (l : (List T_classes_column)) : AV := .sl none l.length fun i => (e_classes_column (l.getD i d_classes_column))
noncomputable def m_utf_Right (p_r : Int) : Option Bool :=
  bif (decide (p_r ≥ (0 : Int))) then
    bif (decide (p_r ≤ (1114111 : Int))) then
      bif (decide (p_r < (55296 : Int))) then
        some true
      else
        some (decide (p_r > (57343 : Int)))
    else
      some false
  else
    some false
noncomputable def m_ranges_Find_1 (p_k : Int) (p_a1 : (List T_api_Range)) (p_a2 : Int) : Option Bool :=
  if 0 ≤ p_k ∧ p_k < ((p_a1.length : Nat) : Int) then
    some (decide ((p_a1.getD (p_k.toNat) d_api_Range).f_Hi ≥ p_a2))
  else none
noncomputable def m_sort_Search_ranges_Find_1_L5 (p_f : (List T_api_Range)) (p_a2 : Int) (s4 : Int × Int) : Option (Stp (Int × Int) Int) :=
  bif (decide (s4.1 < s4.2)) then
    Option.bind (m_ranges_Find_1 (IntKind.wrap .i64 (Int.fdiv (IntKind.wrap .u64 (IntKind.wrap .i64 (s4.1 + s4.2))) 2)) p_f p_a2) fun y7 =>
    bif (!y7) then
      some (.next ((IntKind.wrap .i64 ((IntKind.wrap .i64 (Int.fdiv (IntKind.wrap .u64 (IntKind.wrap .i64 (s4.1 + s4.2))) 2)) + (1 : Int))), s4.2))
    else
      some (.next (s4.1, (IntKind.wrap .i64 (Int.fdiv (IntKind.wrap .u64 (IntKind.wrap .i64 (s4.1 + s4.2))) 2))))
  else
    some (.done s4.1)
noncomputable def m_sort_Search_ranges_Find_1 (p_n : Int) (p_f : (List T_api_Range)) (p_a2 : Int) : Option Int :=
  Option.bind (
    iter (m_sort_Search_ranges_Find_1_L5 p_f p_a2) ((0 : Int), p_n) : Option Int) fun s1 =>
  some s1
noncomputable def m_ranges_Find_K3 (p_l : (List T_api_Range)) (y1 : Int) (s2 : Bool) : Option (Int × Bool) :=
  bif s2 then
    some ((0 : Int), false)
  else
    if 0 ≤ y1 ∧ y1 < ((p_l.length : Nat) : Int) then
      some ((p_l.getD (y1.toNat) d_api_Range).f_Value, true)
    else none
noncomputable def m_ranges_Find (p_l : (List T_api_Range)) (p_r : Int) : Option (Int × Bool) :=
  Option.bind (m_sort_Search_ranges_Find_1 ((p_l.length : Nat) : Int) p_l p_r) fun y1 =>
  Option.bind (
    bif (y1 == ((p_l.length : Nat) : Int)) then
      some true
    else
      if 0 ≤ y1 ∧ y1 < ((p_l.length : Nat) : Int) then
        some (decide ((p_l.getD (y1.toNat) d_api_Range).f_Lo > p_r))
      else none : Option Bool) fun s2 =>
  m_ranges_Find_K3 p_l y1 s2
noncomputable def m_classes_in (p_l : (List T_api_Range)) (p_r : Int) : Option Bool :=
  Option.bind (m_ranges_Find p_l p_r) fun y1 =>
  some y1.2
noncomputable def m_classes_Why_1 (p_l : (List T_api_Range)) (p_a1 : Int) : Option Bool :=
  Option.bind (m_classes_in p_l p_a1) fun y1 =>
  some y1
noncomputable def m_classes_ldh (p_r : Int) : Option Bool :=
  bif (decide (p_r ≥ (97 : Int))) then
    bif (decide (p_r ≤ (122 : Int))) then
      some true
    else
      bif (decide (p_r ≥ (48 : Int))) then
        bif (decide (p_r ≤ (57 : Int))) then
          some true
        else
          some (p_r == (45 : Int))
      else
        some (p_r == (45 : Int))
  else
    bif (decide (p_r ≥ (48 : Int))) then
      bif (decide (p_r ≤ (57 : Int))) then
        some true
      else
        some (p_r == (45 : Int))
    else
      some (p_r == (45 : Int))
noncomputable def m_classes_Why (p_p : T_api_Props) (p_r : Int) : Option Int :=
  Option.bind (m_utf_Right p_r) fun y1 =>
  bif (!y1) then
    some (1 : Int)
  else
    Option.bind (m_classes_Why_1 p_p.f_Exceptions p_r) fun y2 =>
    bif y2 then
      some (2 : Int)
    else
      Option.bind (m_classes_Why_1 p_p.f_Unassigned p_r) fun y3 =>
      bif y3 then
        some (3 : Int)
      else
        Option.bind (m_classes_ldh p_r) fun y4 =>
        bif y4 then
          some (4 : Int)
        else
          Option.bind (m_classes_Why_1 p_p.f_Joiners p_r) fun y5 =>
          bif y5 then
            some (5 : Int)
          else
            Option.bind (m_classes_Why_1 p_p.f_OldHangul p_r) fun y6 =>
            bif y6 then
              some (6 : Int)
            else
              Option.bind (m_classes_Why_1 p_p.f_Unstable p_r) fun y7 =>
              bif y7 then
                some (7 : Int)
              else
                Option.bind (m_classes_Why_1 p_p.f_Ignorable p_r) fun y8 =>
                bif y8 then
                  some (8 : Int)
                else
                  Option.bind (m_classes_Why_1 p_p.f_Letters p_r) fun y9 =>
                  bif y9 then
                    some (9 : Int)
                  else
                    some (10 : Int)
noncomputable def m_classes_Of (p_p : T_api_Props) (p_r : Int) : Option Int :=
  Option.bind (m_classes_Why p_p p_r) fun y1 =>
  bif (y1 == (2 : Int)) then
    Option.bind (m_ranges_Find p_p.f_Exceptions p_r) fun y2 =>
    some y2.1
  else
    bif (y1 == (3 : Int)) then
      some (5 : Int)
    else
      bif (y1 == (4 : Int)) then
        some (1 : Int)
      else
        bif (y1 == (9 : Int)) then
          some (1 : Int)
        else
          bif (y1 == (5 : Int)) then
            some (2 : Int)
          else
            some (4 : Int)
noncomputable def m_eponymlaw07_awake  : Option Bool :=
  Option.bind (m_classes_Of ({ f_Exceptions := [], f_Unassigned := [], f_Joiners := [], f_OldHangul := [], f_Unstable := [({ f_Lo := (201 : Int), f_Hi := (201 : Int), f_Value := (0 : Int) } : T_api_Range)], f_Ignorable := [], f_Letters := [({ f_Lo := (233 : Int), f_Hi := (233 : Int), f_Value := (0 : Int) } : T_api_Range)], f_Joining := [], f_Scripts := [], f_Directions := [], f_Marks := [] } : T_api_Props) (233 : Int)) fun y1 =>
  bif (y1 == (1 : Int)) then
    Option.bind (m_classes_Of ({ f_Exceptions := [], f_Unassigned := [], f_Joiners := [], f_OldHangul := [], f_Unstable := [({ f_Lo := (201 : Int), f_Hi := (201 : Int), f_Value := (0 : Int) } : T_api_Range)], f_Ignorable := [], f_Letters := [({ f_Lo := (233 : Int), f_Hi := (233 : Int), f_Value := (0 : Int) } : T_api_Range)], f_Joining := [], f_Scripts := [], f_Directions := [], f_Marks := [] } : T_api_Props) (201 : Int)) fun y2 =>
    bif (y2 == (4 : Int)) then
      Option.bind (m_classes_Of ({ f_Exceptions := [], f_Unassigned := [], f_Joiners := [], f_OldHangul := [], f_Unstable := [({ f_Lo := (201 : Int), f_Hi := (201 : Int), f_Value := (0 : Int) } : T_api_Range)], f_Ignorable := [], f_Letters := [({ f_Lo := (233 : Int), f_Hi := (233 : Int), f_Value := (0 : Int) } : T_api_Range)], f_Joining := [], f_Scripts := [], f_Directions := [], f_Marks := [] } : T_api_Props) (97 : Int)) fun y3 =>
      bif (y3 == (1 : Int)) then
        Option.bind (m_classes_Of ({ f_Exceptions := [], f_Unassigned := [], f_Joiners := [], f_OldHangul := [], f_Unstable := [({ f_Lo := (201 : Int), f_Hi := (201 : Int), f_Value := (0 : Int) } : T_api_Range)], f_Ignorable := [], f_Letters := [({ f_Lo := (233 : Int), f_Hi := (233 : Int), f_Value := (0 : Int) } : T_api_Range)], f_Joining := [], f_Scripts := [], f_Directions := [], f_Marks := [] } : T_api_Props) (65 : Int)) fun y4 =>
        some (y4 == (4 : Int))
      else
        some false
    else
      some false
  else
    some false
noncomputable def m_eponymref07_Tables (p_p : T_api_Props) : Option (List (List T_api_Range)) :=
  some [p_p.f_Exceptions, p_p.f_Unassigned, p_p.f_Joiners, p_p.f_OldHangul, p_p.f_Unstable, p_p.f_Ignorable, p_p.f_Letters, p_p.f_Joining, p_p.f_Scripts, p_p.f_Directions, p_p.f_Marks]
noncomputable def m_eponymlaw07_Great_L6 (y1 : (List (List T_api_Range))) (s5 : Int) : Option (Stp Int (Sum Unit Bool)) :=
  bif (decide (s5 < (11 : Int))) then
    if 0 ≤ s5 ∧ s5 < (11 : Int) then
      bif (decide (((([(y1.getD 0 []), (y1.getD 1 []), (y1.getD 2 []), (y1.getD 3 []), (y1.getD 4 []), (y1.getD 5 []), (y1.getD 6 []), (y1.getD 7 []), (y1.getD 8 []), (y1.getD 9 []), (y1.getD 10 [])].getD (s5.toNat) []).length : Nat) : Int) > (40 : Int))) then
        some (.done (.inr true))
      else
        some (.next (IntKind.wrap .i64 (s5 + (1 : Int))))
    else none
  else
    some (.done (.inl ()))
noncomputable def m_eponymlaw07_Great (p_p : T_api_Props) : Option Bool :=
  Option.bind (m_eponymref07_Tables p_p) fun y1 =>
  Option.bind (
    iter (m_eponymlaw07_Great_L6 y1) (0 : Int) : Option (Sum Unit Bool)) fun z =>
  match z with
  | .inl s2 =>
    some false
  | .inr (v10) =>
    some v10
noncomputable def m_eponymref03_May (p_x : T_api_Range) : Option Bool :=
  bif (decide (p_x.f_Lo ≥ (0 : Int))) then
    bif (decide (p_x.f_Lo ≤ p_x.f_Hi)) then
      bif (decide (p_x.f_Hi ≤ (1114111 : Int))) then
        bif (decide (p_x.f_Value ≥ (0 : Int))) then
          some (decide (p_x.f_Value ≤ (999999 : Int)))
        else
          some false
      else
        some false
    else
      some false
  else
    some false
noncomputable def m_eponymref03_Check_K9 (s4 : Int) (s8 : Bool) : Option (Stp Int (Sum Unit (Int × Int))) :=
  bif s8 then
    some (.done (.inr (s4, (6 : Int))))
  else
    some (.next (IntKind.wrap .i64 (s4 + (1 : Int))))
noncomputable def m_eponymref03_Check_L5 (p_l : (List T_api_Range)) (s4 : Int) : Option (Stp Int (Sum Unit (Int × Int))) :=
  bif (decide (s4 < ((p_l.length : Nat) : Int))) then
    if 0 ≤ s4 ∧ s4 < ((p_l.length : Nat) : Int) then
      Option.bind (m_eponymref03_May (p_l.getD (s4.toNat) d_api_Range)) fun y7 =>
      bif (!y7) then
        some (.done (.inr (s4, (4 : Int))))
      else
        Option.bind (
          bif (decide (s4 > (0 : Int))) then
            if 0 ≤ s4 ∧ s4 < ((p_l.length : Nat) : Int) then
              if 0 ≤ (IntKind.wrap .i64 (s4 - (1 : Int))) ∧ (IntKind.wrap .i64 (s4 - (1 : Int))) < ((p_l.length : Nat) : Int) then
                some (decide ((p_l.getD (s4.toNat) d_api_Range).f_Lo ≤ (p_l.getD ((IntKind.wrap .i64 (s4 - (1 : Int))).toNat) d_api_Range).f_Hi))
              else none
            else none
          else
            some false : Option Bool) fun s8 =>
        m_eponymref03_Check_K9 s4 s8
    else none
  else
    some (.done (.inl ()))
noncomputable def m_eponymref03_Check (p_l : (List T_api_Range)) : Option (Int × Int) :=
  bif (decide (((p_l.length : Nat) : Int) > (2000 : Int))) then
    some ((0 : Int), (18 : Int))
  else
    Option.bind (
      iter (m_eponymref03_Check_L5 p_l) (0 : Int) : Option (Sum Unit (Int × Int))) fun z =>
    match z with
    | .inl s1 =>
      some ((0 : Int), (0 : Int))
    | .inr (v12) =>
      some (v12.1, v12.2)
noncomputable def m_eponymref07_Check_K16 (s12 : Int) (s15 : Bool) : Option (Stp Int (Sum Unit (Int × Int))) :=
  bif s15 then
    some (.done (.inr (s12, (17 : Int))))
  else
    some (.next (IntKind.wrap .i64 (s12 + (1 : Int))))
noncomputable def m_eponymref07_Check_L13 (y1 : (List (List T_api_Range))) (s5 : Int) (s12 : Int) : Option (Stp Int (Sum Unit (Int × Int))) :=
  if 0 ≤ s5 ∧ s5 < (11 : Int) then
    bif (decide (s12 < ((([(y1.getD 0 []), (y1.getD 1 []), (y1.getD 2 []), (y1.getD 3 []), (y1.getD 4 []), (y1.getD 5 []), (y1.getD 6 []), (y1.getD 7 []), (y1.getD 8 []), (y1.getD 9 []), (y1.getD 10 [])].getD (s5.toNat) []).length : Nat) : Int))) then
      Option.bind (
        if 0 ≤ s5 ∧ s5 < (11 : Int) then
          bif (decide (([(5 : Int), (0 : Int), (0 : Int), (0 : Int), (0 : Int), (0 : Int), (0 : Int), (4 : Int), (5 : Int), (11 : Int), (0 : Int)].getD (s5.toNat) 0) > (0 : Int))) then
            if 0 ≤ s5 ∧ s5 < (11 : Int) then
              if 0 ≤ s12 ∧ s12 < ((([(y1.getD 0 []), (y1.getD 1 []), (y1.getD 2 []), (y1.getD 3 []), (y1.getD 4 []), (y1.getD 5 []), (y1.getD 6 []), (y1.getD 7 []), (y1.getD 8 []), (y1.getD 9 []), (y1.getD 10 [])].getD (s5.toNat) []).length : Nat) : Int) then
                bif (decide ((([(y1.getD 0 []), (y1.getD 1 []), (y1.getD 2 []), (y1.getD 3 []), (y1.getD 4 []), (y1.getD 5 []), (y1.getD 6 []), (y1.getD 7 []), (y1.getD 8 []), (y1.getD 9 []), (y1.getD 10 [])].getD (s5.toNat) []).getD (s12.toNat) d_api_Range).f_Value < (1 : Int))) then
                  some true
                else
                  if 0 ≤ s5 ∧ s5 < (11 : Int) then
                    if 0 ≤ s12 ∧ s12 < ((([(y1.getD 0 []), (y1.getD 1 []), (y1.getD 2 []), (y1.getD 3 []), (y1.getD 4 []), (y1.getD 5 []), (y1.getD 6 []), (y1.getD 7 []), (y1.getD 8 []), (y1.getD 9 []), (y1.getD 10 [])].getD (s5.toNat) []).length : Nat) : Int) then
                      if 0 ≤ s5 ∧ s5 < (11 : Int) then
                        some (decide ((([(y1.getD 0 []), (y1.getD 1 []), (y1.getD 2 []), (y1.getD 3 []), (y1.getD 4 []), (y1.getD 5 []), (y1.getD 6 []), (y1.getD 7 []), (y1.getD 8 []), (y1.getD 9 []), (y1.getD 10 [])].getD (s5.toNat) []).getD (s12.toNat) d_api_Range).f_Value > ([(5 : Int), (0 : Int), (0 : Int), (0 : Int), (0 : Int), (0 : Int), (0 : Int), (4 : Int), (5 : Int), (11 : Int), (0 : Int)].getD (s5.toNat) 0)))
                      else none
                    else none
                  else none
              else none
            else none
          else
            some false
        else none : Option Bool) fun s15 =>
      m_eponymref07_Check_K16 s12 s15
    else
      some (.done (.inl ()))
  else none
noncomputable def m_eponymref07_Check_L6 (y1 : (List (List T_api_Range))) (s5 : Int) : Option (Stp Int (Sum Unit (Int × Int))) :=
  bif (decide (s5 < (11 : Int))) then
    Option.bind (
      if 0 ≤ s5 ∧ s5 < (11 : Int) then
        Option.bind (m_eponymref03_Check ([(y1.getD 0 []), (y1.getD 1 []), (y1.getD 2 []), (y1.getD 3 []), (y1.getD 4 []), (y1.getD 5 []), (y1.getD 6 []), (y1.getD 7 []), (y1.getD 8 []), (y1.getD 9 []), (y1.getD 10 [])].getD (s5.toNat) [])) fun y10 =>
        bif (y10.2 != (0 : Int)) then
          some (.inr (y10.1, y10.2))
        else
          Option.bind (iter (m_eponymref07_Check_L13 y1 s5) (0 : Int)) fun z =>
          match z with
          | .inl s17 =>
            some (.inl ())
          | .inr (v18) =>
            some (.inr (v18.1, v18.2))
      else none : Option (Sum Unit (Int × Int))) fun z =>
    match z with
    | .inl s8 =>
      some (.next (IntKind.wrap .i64 (s5 + (1 : Int))))
    | .inr (v19) =>
      some (.done (.inr (v19.1, v19.2)))
  else
    some (.done (.inl ()))
noncomputable def m_eponymref07_Check (p_p : T_api_Props) : Option (Int × Int) :=
  Option.bind (m_eponymref07_Tables p_p) fun y1 =>
  Option.bind (
    iter (m_eponymref07_Check_L6 y1) (0 : Int) : Option (Sum Unit (Int × Int))) fun z =>
  match z with
  | .inl s2 =>
    some ((0 : Int), (0 : Int))
  | .inr (v22) =>
    some (v22.1, v22.2)
noncomputable def m_classes_columns (p_p : T_api_Props) : Option (List T_classes_column) :=
  some [({ f_l := p_p.f_Exceptions, f_most := (5 : Int) } : T_classes_column), ({ f_l := p_p.f_Unassigned, f_most := (0 : Int) } : T_classes_column), ({ f_l := p_p.f_Joiners, f_most := (0 : Int) } : T_classes_column), ({ f_l := p_p.f_OldHangul, f_most := (0 : Int) } : T_classes_column), ({ f_l := p_p.f_Unstable, f_most := (0 : Int) } : T_classes_column), ({ f_l := p_p.f_Ignorable, f_most := (0 : Int) } : T_classes_column), ({ f_l := p_p.f_Letters, f_most := (0 : Int) } : T_classes_column), ({ f_l := p_p.f_Joining, f_most := (4 : Int) } : T_classes_column), ({ f_l := p_p.f_Scripts, f_most := (5 : Int) } : T_classes_column), ({ f_l := p_p.f_Directions, f_most := (11 : Int) } : T_classes_column), ({ f_l := p_p.f_Marks, f_most := (0 : Int) } : T_classes_column)]
noncomputable def m_ranges_may (p_x : T_api_Range) : Option Bool :=
  bif (decide (p_x.f_Lo ≥ (0 : Int))) then
    bif (decide (p_x.f_Lo ≤ p_x.f_Hi)) then
      bif (decide (p_x.f_Hi ≤ (1114111 : Int))) then
        bif (decide (p_x.f_Value ≥ (0 : Int))) then
          some (decide (p_x.f_Value ≤ (999999 : Int)))
        else
          some false
      else
        some false
    else
      some false
  else
    some false
noncomputable def m_ranges_fault (p_at : Int) (p_e : Er) : Option Er :=
  some (Er.box 89 p_at p_e)
/-- What is wrong with range k, if anything: the number of the named error. -/
def rangeFault (l : List T_api_Range) (k : Nat) : Option Nat :=
  if (decide (0 ≤ (l.getD k d_api_Range).f_Lo) && (decide ((l.getD k d_api_Range).f_Lo ≤ (l.getD k d_api_Range).f_Hi) && (decide ((l.getD k d_api_Range).f_Hi ≤ 1114111) && (decide (0 ≤ (l.getD k d_api_Range).f_Value) && decide ((l.getD k d_api_Range).f_Value ≤ 999999))))) = false then some 6
  else if (l.getD k d_api_Range).f_Lo ≤ (if k = 0 then -1 else (l.getD (k - 1) d_api_Range).f_Hi) then some 7 else none
def rangeFaults (l : List T_api_Range) (n : Nat) : List (Nat × Nat) := (List.range n).filterMap fun k => (rangeFault l k).map fun g => (k, g)
def m_ranges_Check (p_l : List T_api_Range) : Option Er :=
  if 2000 < p_l.length then some (.box 89 0 (.sent 3))
  else some (match rangeFaults p_l p_l.length with | (k, g) :: _ => .box 89 (k : Int) (.sent g) | [] => .nil)
noncomputable def m_classes_Check_K16 (s12 : Int) (s15 : Bool) : Option (Stp Int (Sum Unit Er)) :=
  bif s15 then
    some (.done (.inr (Er.box 89 s12 (Er.sent 0))))
  else
    some (.next (IntKind.wrap .i64 (s12 + (1 : Int))))
noncomputable def m_classes_Check_L13 (y3 : (List T_classes_column)) (s5 : Int) (s12 : Int) : Option (Stp Int (Sum Unit Er)) :=
  bif (decide (s12 < (((y3.getD (s5.toNat) d_classes_column).f_l.length : Nat) : Int))) then
    if 0 ≤ s12 ∧ s12 < (((y3.getD (s5.toNat) d_classes_column).f_l.length : Nat) : Int) then
      Option.bind (
        bif (decide ((y3.getD (s5.toNat) d_classes_column).f_most > (0 : Int))) then
          bif (decide (((y3.getD (s5.toNat) d_classes_column).f_l.getD (s12.toNat) d_api_Range).f_Value < (1 : Int))) then
            some true
          else
            some (decide (((y3.getD (s5.toNat) d_classes_column).f_l.getD (s12.toNat) d_api_Range).f_Value > (y3.getD (s5.toNat) d_classes_column).f_most))
        else
          some false : Option Bool) fun s15 =>
      m_classes_Check_K16 s12 s15
    else none
  else
    some (.done (.inl ()))
noncomputable def m_classes_Check_L6 (y3 : (List T_classes_column)) (s5 : Int) : Option (Stp Int (Sum Unit Er)) :=
  bif (decide (s5 < ((y3.length : Nat) : Int))) then
    Option.bind (
      if 0 ≤ s5 ∧ s5 < ((y3.length : Nat) : Int) then
        Option.bind (m_ranges_Check ((y3.getD (s5.toNat) d_classes_column).f_l)) fun y10 =>
        bif (!y10.isNil) then
          some (.inr y10)
        else
          Option.bind (iter (m_classes_Check_L13 y3 s5) (0 : Int)) fun z =>
          match z with
          | .inl s17 =>
            some (.inl ())
          | .inr (v18) =>
            some (.inr v18)
      else none : Option (Sum Unit Er)) fun z =>
    match z with
    | .inl s8 =>
      some (.next (IntKind.wrap .i64 (s5 + (1 : Int))))
    | .inr (v19) =>
      some (.done (.inr v19))
  else
    some (.done (.inl ()))
noncomputable def m_classes_Check (p_p : T_api_Props) : Option Er :=
  Option.bind (
    Option.bind (m_classes_columns p_p) fun y3 =>
    iter (m_classes_Check_L6 y3) (0 : Int) : Option (Sum Unit Er)) fun z =>
  match z with
  | .inl s1 =>
    some Er.nil
  | .inr (v22) =>
    some v22
noncomputable def m_eponymlaw01_Named (p_code : Int) : Option Er :=
  bif (p_code == (1 : Int)) then
    some (Er.sent 9)
  else
    bif (p_code == (2 : Int)) then
      some (Er.sent 10)
    else
      bif (p_code == (3 : Int)) then
        some (Er.sent 11)
      else
        bif (p_code == (4 : Int)) then
          some (Er.sent 6)
        else
          bif (p_code == (5 : Int)) then
            some (Er.sent 2)
          else
            bif (p_code == (6 : Int)) then
              some (Er.sent 7)
            else
              bif (p_code == (7 : Int)) then
                some (Er.sent 4)
              else
                bif (p_code == (8 : Int)) then
                  some (Er.sent 12)
                else
                  bif (p_code == (9 : Int)) then
                    some (Er.sent 5)
                  else
                    bif (p_code == (10 : Int)) then
                      some (Er.sent 13)
                    else
                      bif (p_code == (11 : Int)) then
                        some (Er.sent 14)
                      else
                        bif (p_code == (12 : Int)) then
                          some (Er.sent 1)
                        else
                          bif (p_code == (13 : Int)) then
                            some (Er.sent 15)
                          else
                            bif (p_code == (14 : Int)) then
                              some (Er.sent 16)
                            else
                              bif (p_code == (15 : Int)) then
                                some (Er.sent 17)
                              else
                                bif (p_code == (16 : Int)) then
                                  some (Er.sent 18)
                                else
                                  bif (p_code == (17 : Int)) then
                                    some (Er.sent 0)
                                  else
                                    bif (p_code == (18 : Int)) then
                                      some (Er.sent 3)
                                    else
                                      some Er.nil
noncomputable def m_eponymlaw01_Is (p_e : Er) (p_at : Int) (p_code : Int) : Option Bool :=
  bif (p_code == (0 : Int)) then
    some p_e.isNil
  else
    bif (!p_e.isNil) then
      Option.bind (m_errors_As p_e) fun y1 =>
      bif (y1.1 == p_at) then
        Option.bind (m_eponymlaw01_Named p_code) fun y2 =>
        Option.bind (m_errors_Is p_e y2) fun y3 =>
        some y3
      else
        some false
    else
      some false
noncomputable def m_eponymlaw07_ClassesChecks (p_p : T_api_Props) : Option Bool :=
  Option.bind (m_eponymlaw07_awake) fun y1 =>
  bif (!y1) then
    some false
  else
    Option.bind (m_eponymlaw07_Great p_p) fun y2 =>
    bif y2 then
      some true
    else
      Option.bind (m_eponymref07_Check p_p) fun y3 =>
      Option.bind (m_classes_Check p_p) fun y4 =>
      Option.bind (m_eponymlaw01_Is y4 y3.1 y3.2) fun y5 =>
      some y5
noncomputable def m_eponymref03_Find_K8 (p_l : (List T_api_Range)) (s4 : Int) (s7 : Bool) : Option (Stp Int (Sum Unit (Int × Bool))) :=
  bif s7 then
    if 0 ≤ s4 ∧ s4 < ((p_l.length : Nat) : Int) then
      some (.done (.inr ((p_l.getD (s4.toNat) d_api_Range).f_Value, true)))
    else none
  else
    some (.next (IntKind.wrap .i64 (s4 + (1 : Int))))
noncomputable def m_eponymref03_Find_L5 (p_l : (List T_api_Range)) (p_r : Int) (s4 : Int) : Option (Stp Int (Sum Unit (Int × Bool))) :=
  bif (decide (s4 < ((p_l.length : Nat) : Int))) then
    Option.bind (
      if 0 ≤ s4 ∧ s4 < ((p_l.length : Nat) : Int) then
        bif (decide ((p_l.getD (s4.toNat) d_api_Range).f_Lo ≤ p_r)) then
          if 0 ≤ s4 ∧ s4 < ((p_l.length : Nat) : Int) then
            some (decide (p_r ≤ (p_l.getD (s4.toNat) d_api_Range).f_Hi))
          else none
        else
          some false
      else none : Option Bool) fun s7 =>
    m_eponymref03_Find_K8 p_l s4 s7
  else
    some (.done (.inl ()))
noncomputable def m_eponymref03_Find (p_l : (List T_api_Range)) (p_r : Int) : Option (Int × Bool) :=
  Option.bind (
    iter (m_eponymref03_Find_L5 p_l p_r) (0 : Int) : Option (Sum Unit (Int × Bool))) fun z =>
  match z with
  | .inl s1 =>
    some ((0 : Int), false)
  | .inr (v11) =>
    some (v11.1, v11.2)
end Go.Proofs.YtjhgaacecfmadaaDoor
