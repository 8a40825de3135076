/- Towards the statement: a part of its frame. No condition. -/
import Derived.Test.YtjhgaacecfmadaaDoorRows
import Derived.Test.YtjhgaacecfmadaaDoorTie
import Derived.Test.YtjhgaacecfmadaaDoorCards
import Derived.Test.YtjhgaacecfmadaaDoorSe24
import Derived.Test.YtjhgaacecfmadaaDoorM
import Derived.Test.YtjhgaacecfmadaaDoorSe22
import Derived.OpenShut
import Derived.WalkKit
import Derived.ProofKit
import Derived.ChangeOld
import Derived.Below
import Derived.LaidMore
import Derived.LaidHandle
import Derived.SevenTiedAt
namespace Go.Proofs.YtjhgaacecfmadaaDoor
open Go Go.ChangeShapes Go.WideShapes Go.ChangeAt Go.RowKit Go.SE
set_option linter.unusedVariables false
theorem cT40 : Tryd.prog.cellsOf 40 = 3 := by kernel_rfl
theorem cT38 : Tryd.prog.cellsOf 38 = 1 := by kernel_rfl
theorem cT103 : Tryd.prog.cellsOf 103 = 2 := by kernel_rfl
theorem cT21 : Tryd.prog.cellsOf 21 = 1 := by kernel_rfl
theorem o21 : Opens Tryd.prog 21 (fun n : Int => AV.int .i32 n) (fun n : Int => (Lit.int .i32 n).wf = true) := opens_int Tryd.underlying21 cT21
theorem cT32 : Tryd.prog.cellsOf 32 = 1 := by kernel_rfl
def ok_L_i32 (l : (List Int)) : Prop := l.length ≤ maxLen ∧ ∀ j, j < l.length → (fun n : Int => (Lit.int .i32 n).wf = true) (l.getD j 0)
theorem o32 : Opens Tryd.prog 32 e_L_i32 ok_L_i32 := opens_list Tryd.underlying32 cT32 (by rw [cT21]; decide) o21 0
def ok_api_Row (x : T_api_Row) : Prop := (fun n : Int => (Lit.int .i32 n).wf = true) x.f_From ∧ ok_L_i32 x.f_To
theorem o103 : Opens Tryd.prog 103 e_api_Row ok_api_Row := by
  intro H enc w base sp held fuel cs y h
  obtain ⟨n, hl, hf⟩ := struct_fields Tryd.underlying103 h
  obtain ⟨a0, k0, s0⟩ := o21.seg (hf 0 _ rfl)
  obtain ⟨a1, k1, s1⟩ := o32.seg (hf 1 _ rfl)
  exact ⟨⟨a0, a1⟩, ⟨k0, k1⟩, rfl, (hl.trans cT103).symm, hl, Seg.zero (s0.app s1 rfl)⟩
def ok_L_api_Row (l : (List T_api_Row)) : Prop := l.length ≤ maxLen ∧ ∀ j, j < l.length → ok_api_Row (l.getD j d_api_Row)
theorem o38 : Opens Tryd.prog 38 e_L_api_Row ok_L_api_Row := opens_list Tryd.underlying38 cT38 (by rw [cT103]; decide) o103 d_api_Row
theorem cT22 : Tryd.prog.cellsOf 22 = 1 := by kernel_rfl
theorem cT81 : Tryd.prog.cellsOf 81 = 3 := by kernel_rfl
theorem cT3 : Tryd.prog.cellsOf 3 = 1 := by kernel_rfl
theorem o3 : Opens Tryd.prog 3 (fun n : Int => AV.int .i64 n) (fun n : Int => (Lit.int .i64 n).wf = true) := opens_int Tryd.underlying3 cT3
def ok_api_Range (x : T_api_Range) : Prop := (fun n : Int => (Lit.int .i32 n).wf = true) x.f_Lo ∧ (fun n : Int => (Lit.int .i32 n).wf = true) x.f_Hi ∧ (fun n : Int => (Lit.int .i64 n).wf = true) x.f_Value
theorem o81 : Opens Tryd.prog 81 e_api_Range ok_api_Range := by
  intro H enc w base sp held fuel cs y h
  obtain ⟨n, hl, hf⟩ := struct_fields Tryd.underlying81 h
  obtain ⟨a0, k0, s0⟩ := o21.seg (hf 0 _ rfl)
  obtain ⟨a1, k1, s1⟩ := o21.seg (hf 1 _ rfl)
  obtain ⟨a2, k2, s2⟩ := o3.seg (hf 2 _ rfl)
  exact ⟨⟨a0, a1, a2⟩, ⟨k0, k1, k2⟩, rfl, (hl.trans cT81).symm, hl, Seg.zero (s0.app (s1.app s2 rfl) rfl)⟩
def ok_L_api_Range (l : (List T_api_Range)) : Prop := l.length ≤ maxLen ∧ ∀ j, j < l.length → ok_api_Range (l.getD j d_api_Range)
theorem o22 : Opens Tryd.prog 22 e_L_api_Range ok_L_api_Range := opens_list Tryd.underlying22 cT22 (by rw [cT81]; decide) o81 d_api_Range
def ok_api_Norm (x : T_api_Norm) : Prop := ok_L_api_Row x.f_Rows ∧ ok_L_api_Range x.f_Classes ∧ ok_L_i32 x.f_Excluded
theorem o40 : Opens Tryd.prog 40 e_api_Norm ok_api_Norm := by
  intro H enc w base sp held fuel cs y h
  obtain ⟨n, hl, hf⟩ := struct_fields Tryd.underlying40 h
  obtain ⟨a0, k0, s0⟩ := o38.seg (hf 0 _ rfl)
  obtain ⟨a1, k1, s1⟩ := o22.seg (hf 1 _ rfl)
  obtain ⟨a2, k2, s2⟩ := o32.seg (hf 2 _ rfl)
  exact ⟨⟨a0, a1, a2⟩, ⟨k0, k1, k2⟩, rfl, (hl.trans cT40).symm, hl, Seg.zero (s0.app (s1.app s2 rfl) rfl)⟩
end Go.Proofs.YtjhgaacecfmadaaDoor
