/- What ranges.Check answers: the reference's word as an error. No condition. -/
import Derived.Test.YtjhgaacecfmadaaPChecks
namespace Go.Proofs.Ytjhgaacecfmadaa
open Go Go.SE
set_option linter.unusedVariables false
set_option linter.unusedSimpArgs false
theorem firstSome_map {V W : Type} (f : Nat → Option V) (h : V → W) : ∀ (k i : Nat), firstSome (fun j => (f j).map h) k i = (firstSome f k i).map h
  | 0, i => rfl
  | k + 1, i => by
    rw [firstSome, firstSome, firstSome_map f h k (i + 1)]
    cases f i <;> rfl
theorem filterMap_first {V : Type} (f : Nat → Option V) : ∀ (k i : Nat), ((List.range' i k).filterMap f).head? = firstSome f k i
  | 0, i => rfl
  | k + 1, i => by
    rw [List.range'_succ, firstSome, List.filterMap_cons]
    cases h : f i with
    | none => exact filterMap_first f k (i + 1)
    | some v => rfl
end Go.Proofs.Ytjhgaacecfmadaa
