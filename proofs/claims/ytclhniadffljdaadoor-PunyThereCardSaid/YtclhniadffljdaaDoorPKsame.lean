/- Two lists that are one are told the same. No condition. -/
import Derived.Test.YtclhniadffljdaaDoorP0
namespace Go.Proofs.YtclhniadffljdaaDoor
open Go Go.SE
set_option linter.unusedVariables false
set_option linter.unusedSimpArgs false
theorem same_self6 (a : List Int) (ha : a.length < 4611686018427387904) : m_eponymlaw01_Same a a = some true := by
  unfold m_eponymlaw01_Same
  rw [show (((a.length : Nat) : Int) != ((a.length : Nat) : Int)) = false by simp, cond_false]
  rw [iter_scan a.length (fun _ => none) (fun i hi _ => by
    unfold m_eponymlaw01_Same_L5
    rw [show decide ((i : Int) < ((a.length : Nat) : Int)) = true by simp; omega, cond_true, if_pos (by omega), if_pos (by omega), show (a.getD (i : Int).toNat 0 != a.getD (i : Int).toNat 0) = false by simp, cond_false, up (by omega)]) (fun _ => by
    unfold m_eponymlaw01_Same_L5
    simp)]
  rw [firstSome_none.2 (fun _ _ _ => rfl)]
  rfl
end Go.Proofs.YtclhniadffljdaaDoor
