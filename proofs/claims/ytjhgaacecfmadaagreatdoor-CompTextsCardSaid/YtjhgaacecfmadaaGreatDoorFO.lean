/- Towards the statement: a part of its frame. No condition. -/
import Derived.Test.YtjhgaacecfmadaaGreatDoorRows
import Derived.Test.YtjhgaacecfmadaaGreatDoorTie
import Derived.Test.YtjhgaacecfmadaaGreatDoorCards
import Derived.Test.YtjhgaacecfmadaaGreatDoorSe24
import Derived.Test.YtjhgaacecfmadaaGreatDoorM
import Derived.Test.YtjhgaacecfmadaaGreatDoorSe22
import Derived.OpenShut
import Derived.WalkKit
import Derived.ProofKit
import Derived.ChangeOld
import Derived.Below
import Derived.LaidMore
import Derived.LaidHandle
import Derived.SevenTiedAt
namespace Go.Proofs.YtjhgaacecfmadaaGreatDoor
open Go Go.ChangeShapes Go.WideShapes Go.ChangeAt Go.RowKit Go.SE
set_option linter.unusedVariables false
theorem cT26 : Tryz.prog.cellsOf 26 = 3 := by kernel_rfl
theorem cT22 : Tryz.prog.cellsOf 22 = 1 := by kernel_rfl
theorem cT38 : Tryz.prog.cellsOf 38 = 2 := by kernel_rfl
theorem cT21 : Tryz.prog.cellsOf 21 = 1 := by kernel_rfl
theorem o21 : Opens Tryz.prog 21 (fun n : Int => AV.int .i32 n) (fun n : Int => (Lit.int .i32 n).wf = true) := opens_int Tryz.underlying21 cT21
theorem cT24 : Tryz.prog.cellsOf 24 = 1 := by kernel_rfl
def ok_L_i32 (l : (List Int)) : Prop := l.length ≤ maxLen ∧ ∀ j, j < l.length → (fun n : Int => (Lit.int .i32 n).wf = true) (l.getD j 0)
theorem o24 : Opens Tryz.prog 24 e_L_i32 ok_L_i32 := opens_list Tryz.underlying24 cT24 (by rw [cT21]; decide) o21 0
def ok_api_Row (x : T_api_Row) : Prop := (fun n : Int => (Lit.int .i32 n).wf = true) x.f_From ∧ ok_L_i32 x.f_To
theorem o38 : Opens Tryz.prog 38 e_api_Row ok_api_Row := by
  intro H enc w base sp held fuel cs y h
  obtain ⟨n, hl, hf⟩ := struct_fields Tryz.underlying38 h
  obtain ⟨a0, k0, s0⟩ := o21.seg (hf 0 _ rfl)
  obtain ⟨a1, k1, s1⟩ := o24.seg (hf 1 _ rfl)
  exact ⟨⟨a0, a1⟩, ⟨k0, k1⟩, rfl, (hl.trans cT38).symm, hl, Seg.zero (s0.app s1 rfl)⟩
def ok_L_api_Row (l : (List T_api_Row)) : Prop := l.length ≤ maxLen ∧ ∀ j, j < l.length → ok_api_Row (l.getD j d_api_Row)
theorem o22 : Opens Tryz.prog 22 e_L_api_Row ok_L_api_Row := opens_list Tryz.underlying22 cT22 (by rw [cT38]; decide) o38 d_api_Row
theorem cT23 : Tryz.prog.cellsOf 23 = 1 := by kernel_rfl
theorem cT40 : Tryz.prog.cellsOf 40 = 3 := by kernel_rfl
theorem cT3 : Tryz.prog.cellsOf 3 = 1 := by kernel_rfl
theorem o3 : Opens Tryz.prog 3 (fun n : Int => AV.int .i64 n) (fun n : Int => (Lit.int .i64 n).wf = true) := opens_int Tryz.underlying3 cT3
def ok_api_Range (x : T_api_Range) : Prop := (fun n : Int => (Lit.int .i32 n).wf = true) x.f_Lo ∧ (fun n : Int => (Lit.int .i32 n).wf = true) x.f_Hi ∧ (fun n : Int => (Lit.int .i64 n).wf = true) x.f_Value
theorem o40 : Opens Tryz.prog 40 e_api_Range ok_api_Range := by
  intro H enc w base sp held fuel cs y h
  obtain ⟨n, hl, hf⟩ := struct_fields Tryz.underlying40 h
  obtain ⟨a0, k0, s0⟩ := o21.seg (hf 0 _ rfl)
  obtain ⟨a1, k1, s1⟩ := o21.seg (hf 1 _ rfl)
  obtain ⟨a2, k2, s2⟩ := o3.seg (hf 2 _ rfl)
  exact ⟨⟨a0, a1, a2⟩, ⟨k0, k1, k2⟩, rfl, (hl.trans cT40).symm, hl, Seg.zero (s0.app (s1.app s2 rfl) rfl)⟩
def ok_L_api_Range (l : (List T_api_Range)) : Prop := l.length ≤ maxLen ∧ ∀ j, j < l.length → ok_api_Range (l.getD j d_api_Range)
theorem o23 : Opens Tryz.prog 23 e_L_api_Range ok_L_api_Range := opens_list Tryz.underlying23 cT23 (by rw [cT40]; decide) o40 d_api_Range
def ok_api_Norm (x : T_api_Norm) : Prop := ok_L_api_Row x.f_Rows ∧ ok_L_api_Range x.f_Classes ∧ ok_L_i32 x.f_Excluded
theorem o26 : Opens Tryz.prog 26 e_api_Norm ok_api_Norm := by
  intro H enc w base sp held fuel cs y h
  obtain ⟨n, hl, hf⟩ := struct_fields Tryz.underlying26 h
  obtain ⟨a0, k0, s0⟩ := o22.seg (hf 0 _ rfl)
  obtain ⟨a1, k1, s1⟩ := o23.seg (hf 1 _ rfl)
  obtain ⟨a2, k2, s2⟩ := o24.seg (hf 2 _ rfl)
  exact ⟨⟨a0, a1, a2⟩, ⟨k0, k1, k2⟩, rfl, (hl.trans cT26).symm, hl, Seg.zero (s0.app (s1.app s2 rfl) rfl)⟩
theorem cT9 : Tryz.prog.cellsOf 9 = 1 := by kernel_rfl
theorem o9 : Opens Tryz.prog 9 (fun s : ByteArray => AV.str s) (fun s : ByteArray => s.size ≤ maxLen) := opens_string Tryz.underlying9 cT9
end Go.Proofs.YtjhgaacecfmadaaGreatDoor
