/- Towards the statement: a part of its frame. No condition. -/
import Derived.Test.YtkeokkmhhhhoiaaGreatDoorRows
import Derived.Test.YtkeokkmhhhhoiaaGreatDoorTie
import Derived.Test.YtkeokkmhhhhoiaaGreatDoorCards
import Derived.Test.YtkeokkmhhhhoiaaGreatDoorSe24
import Derived.Test.YtkeokkmhhhhoiaaGreatDoorM
import Derived.Test.YtkeokkmhhhhoiaaGreatDoorSe22
import Derived.OpenShut
import Derived.WalkKit
import Derived.ProofKit
import Derived.ChangeOld
import Derived.Below
import Derived.LaidMore
import Derived.LaidHandle
import Derived.SevenTiedAt
import Derived.ChangeMaps5
namespace Go.Proofs.YtkeokkmhhhhoiaaGreatDoor
open Go Go.ChangeShapes Go.WideShapes Go.ChangeAt Go.RowKit Go.SE
set_option linter.unusedVariables false
theorem cT31 : Tryz.prog.cellsOf 31 = 15 := by kernel_rfl
theorem cT26 : Tryz.prog.cellsOf 26 = 3 := by kernel_rfl
theorem cT22 : Tryz.prog.cellsOf 22 = 1 := by kernel_rfl
theorem cT96 : Tryz.prog.cellsOf 96 = 2 := by kernel_rfl
theorem cT21 : Tryz.prog.cellsOf 21 = 1 := by kernel_rfl
theorem o21 : Opens Tryz.prog 21 (fun n : Int => AV.int .i32 n) (fun n : Int => (Lit.int .i32 n).wf = true) := opens_int Tryz.underlying21 cT21
theorem cT24 : Tryz.prog.cellsOf 24 = 1 := by kernel_rfl
def ok_L_i32 (l : (List Int)) : Prop := l.length ≤ maxLen ∧ ∀ j, j < l.length → (fun n : Int => (Lit.int .i32 n).wf = true) (l.getD j 0)
theorem o24 : Opens Tryz.prog 24 e_L_i32 ok_L_i32 := opens_list Tryz.underlying24 cT24 (by rw [cT21]; decide) o21 0
def ok_api_Row (x : T_api_Row) : Prop := (fun n : Int => (Lit.int .i32 n).wf = true) x.f_From ∧ ok_L_i32 x.f_To
theorem o96 : Opens Tryz.prog 96 e_api_Row ok_api_Row := by
  intro H enc w base sp held fuel cs y h
  obtain ⟨n, hl, hf⟩ := struct_fields Tryz.underlying96 h
  obtain ⟨a0, k0, s0⟩ := o21.seg (hf 0 _ rfl)
  obtain ⟨a1, k1, s1⟩ := o24.seg (hf 1 _ rfl)
  exact ⟨⟨a0, a1⟩, ⟨k0, k1⟩, rfl, (hl.trans cT96).symm, hl, Seg.zero (s0.app s1 rfl)⟩
def ok_L_api_Row (l : (List T_api_Row)) : Prop := l.length ≤ maxLen ∧ ∀ j, j < l.length → ok_api_Row (l.getD j d_api_Row)
theorem o22 : Opens Tryz.prog 22 e_L_api_Row ok_L_api_Row := opens_list Tryz.underlying22 cT22 (by rw [cT96]; decide) o96 d_api_Row
theorem cT23 : Tryz.prog.cellsOf 23 = 1 := by kernel_rfl
theorem cT98 : Tryz.prog.cellsOf 98 = 3 := by kernel_rfl
theorem cT3 : Tryz.prog.cellsOf 3 = 1 := by kernel_rfl
theorem o3 : Opens Tryz.prog 3 (fun n : Int => AV.int .i64 n) (fun n : Int => (Lit.int .i64 n).wf = true) := opens_int Tryz.underlying3 cT3
def ok_api_Range (x : T_api_Range) : Prop := (fun n : Int => (Lit.int .i32 n).wf = true) x.f_Lo ∧ (fun n : Int => (Lit.int .i32 n).wf = true) x.f_Hi ∧ (fun n : Int => (Lit.int .i64 n).wf = true) x.f_Value
theorem o98 : Opens Tryz.prog 98 e_api_Range ok_api_Range := by
  intro H enc w base sp held fuel cs y h
  obtain ⟨n, hl, hf⟩ := struct_fields Tryz.underlying98 h
  obtain ⟨a0, k0, s0⟩ := o21.seg (hf 0 _ rfl)
  obtain ⟨a1, k1, s1⟩ := o21.seg (hf 1 _ rfl)
  obtain ⟨a2, k2, s2⟩ := o3.seg (hf 2 _ rfl)
  exact ⟨⟨a0, a1, a2⟩, ⟨k0, k1, k2⟩, rfl, (hl.trans cT98).symm, hl, Seg.zero (s0.app (s1.app s2 rfl) rfl)⟩
def ok_L_api_Range (l : (List T_api_Range)) : Prop := l.length ≤ maxLen ∧ ∀ j, j < l.length → ok_api_Range (l.getD j d_api_Range)
theorem o23 : Opens Tryz.prog 23 e_L_api_Range ok_L_api_Range := opens_list Tryz.underlying23 cT23 (by rw [cT98]; decide) o98 d_api_Range
def ok_api_Norm (x : T_api_Norm) : Prop := ok_L_api_Row x.f_Rows ∧ ok_L_api_Range x.f_Classes ∧ ok_L_i32 x.f_Excluded
theorem o26 : Opens Tryz.prog 26 e_api_Norm ok_api_Norm := by
  intro H enc w base sp held fuel cs y h
  obtain ⟨n, hl, hf⟩ := struct_fields Tryz.underlying26 h
  obtain ⟨a0, k0, s0⟩ := o22.seg (hf 0 _ rfl)
  obtain ⟨a1, k1, s1⟩ := o23.seg (hf 1 _ rfl)
  obtain ⟨a2, k2, s2⟩ := o24.seg (hf 2 _ rfl)
  exact ⟨⟨a0, a1, a2⟩, ⟨k0, k1, k2⟩, rfl, (hl.trans cT26).symm, hl, Seg.zero (s0.app (s1.app s2 rfl) rfl)⟩
theorem cT28 : Tryz.prog.cellsOf 28 = 11 := by kernel_rfl
def ok_api_Props (x : T_api_Props) : Prop := ok_L_api_Range x.f_Exceptions ∧ ok_L_api_Range x.f_Unassigned ∧ ok_L_api_Range x.f_Joiners ∧ ok_L_api_Range x.f_OldHangul ∧ ok_L_api_Range x.f_Unstable ∧ ok_L_api_Range x.f_Ignorable ∧ ok_L_api_Range x.f_Letters ∧ ok_L_api_Range x.f_Joining ∧ ok_L_api_Range x.f_Scripts ∧ ok_L_api_Range x.f_Directions ∧ ok_L_api_Range x.f_Marks
theorem o28 : Opens Tryz.prog 28 e_api_Props ok_api_Props := by
  intro H enc w base sp held fuel cs y h
  obtain ⟨n, hl, hf⟩ := struct_fields Tryz.underlying28 h
  obtain ⟨a0, k0, s0⟩ := o23.seg (hf 0 _ rfl)
  obtain ⟨a1, k1, s1⟩ := o23.seg (hf 1 _ rfl)
  obtain ⟨a2, k2, s2⟩ := o23.seg (hf 2 _ rfl)
  obtain ⟨a3, k3, s3⟩ := o23.seg (hf 3 _ rfl)
  obtain ⟨a4, k4, s4⟩ := o23.seg (hf 4 _ rfl)
  obtain ⟨a5, k5, s5⟩ := o23.seg (hf 5 _ rfl)
  obtain ⟨a6, k6, s6⟩ := o23.seg (hf 6 _ rfl)
  obtain ⟨a7, k7, s7⟩ := o23.seg (hf 7 _ rfl)
  obtain ⟨a8, k8, s8⟩ := o23.seg (hf 8 _ rfl)
  obtain ⟨a9, k9, s9⟩ := o23.seg (hf 9 _ rfl)
  obtain ⟨a10, k10, s10⟩ := o23.seg (hf 10 _ rfl)
  exact ⟨⟨a0, a1, a2, a3, a4, a5, a6, a7, a8, a9, a10⟩, ⟨k0, k1, k2, k3, k4, k5, k6, k7, k8, k9, k10⟩, rfl, (hl.trans cT28).symm, hl, Seg.zero (s0.app (s1.app (s2.app (s3.app (s4.app (s5.app (s6.app (s7.app (s8.app (s9.app s10 rfl) rfl) rfl) rfl) rfl) rfl) rfl) rfl) rfl) rfl)⟩
theorem cT29 : Tryz.prog.cellsOf 29 = 1 := by kernel_rfl
theorem cT88 : Tryz.prog.cellsOf 88 = 2 := by kernel_rfl
def ok_api_Pair (x : T_api_Pair) : Prop := (fun n : Int => (Lit.int .i32 n).wf = true) x.f_From ∧ (fun n : Int => (Lit.int .i32 n).wf = true) x.f_To
theorem o88 : Opens Tryz.prog 88 e_api_Pair ok_api_Pair := by
  intro H enc w base sp held fuel cs y h
  obtain ⟨n, hl, hf⟩ := struct_fields Tryz.underlying88 h
  obtain ⟨a0, k0, s0⟩ := o21.seg (hf 0 _ rfl)
  obtain ⟨a1, k1, s1⟩ := o21.seg (hf 1 _ rfl)
  exact ⟨⟨a0, a1⟩, ⟨k0, k1⟩, rfl, (hl.trans cT88).symm, hl, Seg.zero (s0.app s1 rfl)⟩
def ok_L_api_Pair (l : (List T_api_Pair)) : Prop := l.length ≤ maxLen ∧ ∀ j, j < l.length → ok_api_Pair (l.getD j d_api_Pair)
theorem o29 : Opens Tryz.prog 29 e_L_api_Pair ok_L_api_Pair := opens_list Tryz.underlying29 cT29 (by rw [cT88]; decide) o88 d_api_Pair
def ok_api_Tables (x : T_api_Tables) : Prop := ok_api_Norm x.f_Norm ∧ ok_api_Props x.f_Props ∧ ok_L_api_Pair x.f_Lower
theorem o31 : Opens Tryz.prog 31 e_api_Tables ok_api_Tables := by
  intro H enc w base sp held fuel cs y h
  obtain ⟨n, hl, hf⟩ := struct_fields Tryz.underlying31 h
  obtain ⟨a0, k0, s0⟩ := o26.seg (hf 0 _ rfl)
  obtain ⟨a1, k1, s1⟩ := o28.seg (hf 1 _ rfl)
  obtain ⟨a2, k2, s2⟩ := o29.seg (hf 2 _ rfl)
  exact ⟨⟨a0, a1, a2⟩, ⟨k0, k1, k2⟩, rfl, (hl.trans cT31).symm, hl, Seg.zero (s0.app (s1.app s2 rfl) rfl)⟩
end Go.Proofs.YtkeokkmhhhhoiaaGreatDoor
