/- Towards the statement: a part of its frame. No condition. -/
import Derived.Test.YtclhniadffljdaaDoorRows
import Derived.Test.YtclhniadffljdaaDoorTie
import Derived.Test.YtclhniadffljdaaDoorCards
import Derived.Test.YtclhniadffljdaaDoorSe24
import Derived.Test.YtclhniadffljdaaDoorM
import Derived.Test.YtclhniadffljdaaDoorSe22
import Derived.OpenShut
import Derived.WalkKit
import Derived.ProofKit
import Derived.ChangeOld
import Derived.Below
import Derived.LaidMore
import Derived.LaidHandle
import Derived.SevenTiedAt
import Derived.ChangeMaps5
namespace Go.Proofs.YtclhniadffljdaaDoor
open Go Go.ChangeShapes Go.WideShapes Go.ChangeAt Go.RowKit Go.SE
set_option linter.unusedVariables false
theorem cT24 : Tryd.prog.cellsOf 24 = 2 := by kernel_rfl
theorem cT9 : Tryd.prog.cellsOf 9 = 1 := by kernel_rfl
theorem o9 : Opens Tryd.prog 9 (fun s : ByteArray => AV.str s) (fun s : ByteArray => s.size ≤ maxLen) := opens_string Tryd.underlying9 cT9
theorem cT22 : Tryd.prog.cellsOf 22 = 1 := by kernel_rfl
theorem cT25 : Tryd.prog.cellsOf 25 = 1 := by kernel_rfl
theorem cT21 : Tryd.prog.cellsOf 21 = 1 := by kernel_rfl
theorem o21 : Opens Tryd.prog 21 (fun n : Int => AV.int .i32 n) (fun n : Int => (Lit.int .i32 n).wf = true) := opens_int Tryd.underlying21 cT21
def ok_L_i32 (l : (List Int)) : Prop := l.length ≤ maxLen ∧ ∀ j, j < l.length → (fun n : Int => (Lit.int .i32 n).wf = true) (l.getD j 0)
theorem o25 : Opens Tryd.prog 25 e_L_i32 ok_L_i32 := opens_list Tryd.underlying25 cT25 (by rw [cT21]; decide) o21 0
def ok_L_L_i32 (l : (List (List Int))) : Prop := l.length ≤ maxLen ∧ ∀ j, j < l.length → ok_L_i32 (l.getD j [])
theorem o22 : Opens Tryd.prog 22 e_L_L_i32 ok_L_L_i32 := opens_list Tryd.underlying22 cT22 (by rw [cT25]; decide) o25 []
def ok_api_Family (x : T_api_Family) : Prop := (fun s : ByteArray => s.size ≤ maxLen) x.f_Name ∧ ok_L_L_i32 x.f_Sets
theorem o24 : Opens Tryd.prog 24 e_api_Family ok_api_Family := by
  intro H enc w base sp held fuel cs y h
  obtain ⟨n, hl, hf⟩ := struct_fields Tryd.underlying24 h
  obtain ⟨a0, k0, s0⟩ := o9.seg (hf 0 _ rfl)
  obtain ⟨a1, k1, s1⟩ := o22.seg (hf 1 _ rfl)
  exact ⟨⟨a0, a1⟩, ⟨k0, k1⟩, rfl, (hl.trans cT24).symm, hl, Seg.zero (s0.app s1 rfl)⟩
end Go.Proofs.YtclhniadffljdaaDoor
