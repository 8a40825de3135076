/-
  No cell of these rows narrows 'for every input' (looked for: loops, veiled, ifaces, maps, wideKeys, modest, calm, conditions, laid).
  DERIVED. THE GIVEN ROWS OF THIS SEAT. 2 by the template 'for every input the law returns true; each argument reads behind the call as it read before'; 0 by the template 'total and deterministic' (their statements: YtclhniadffljdaaTotals.lean).
  GIVEN WITH THE SEED: the statements are not yours to turn. If you find one false, say at which input.
  Laid BY PROGRAM, IN A SANDBOX (cutbox-rows.mjs): the forced cells as the released guide's own fill.sh prints them over the translation 883e3d2166b25741… (all of the seat's roots in one cut). By AI agents, Wed Nov 11 2026. No macro, syntax, notation, axiom, sorry.
-/
import Derived.Test.YtclhniadffljdaaChecked
import GoSem.Claim
import GoSem.ClaimJoined
import GoSem.ClaimMapViews
import Derived.JoinedTies
import Derived.KernelRfl
namespace Go.Proofs.Ytclhniadffljdaa
/- THE CELL 'sum', in the pinned program and in every row, IS THE sha256 OF THE DUMP (.gsa) THAT YtclhniadffljdaaProg.lean LOADS. Nothing in Lean hashes anything: it is a label: what it is worth is what the hold of that sum in a sandbox is worth. -/
noncomputable def Try.pinned : Pinned := { name := "ytclhniadffljdaa", sum := "883e3d2166b257418191f0f0e687bfd997a9ef28483a3363d3410cf97e043d4e", checked := Try.checked }
namespace Rows
def none {H : Type} : Left H := { results := [], args := [] }

/-- 'eponymlaw19.VariantsAll': WHATEVER THE INPUT: true; the input reads as it did. -/
def variantsAllSpec : ChangeSpec := { name := "variantsAll", fn := fun _ => fun
  | [d1, d2, d3] => { results := [.lit (.bool true)], args := [d1, d2, d3] }
  | _ => none }
def variantsAllRow : OpenClaim := { program := "ytclhniadffljdaa", sum := "883e3d2166b257418191f0f0e687bfd997a9ef28483a3363d3410cf97e043d4e", func := "eponym/eponymlaw19.VariantsAll", spec := "variantsAll", unfollowed := true, recurses := true, apart := false }
def VariantsAllSaid : Prop := variantsAllRow.holds Try.pinned (OpenSpec.ofChange variantsAllSpec)

/-- ITS FALSE NEIGHBOUR: 'it returns false'. Refute it at one input. -/
def variantsAllWrong : ChangeSpec := { name := "variantsAll", fn := fun _ => fun
  | [d1, d2, d3] => { results := [.lit (.bool false)], args := [d1, d2, d3] }
  | _ => none }
def VariantsAllWrongFalsely : Prop := variantsAllRow.holds Try.pinned (OpenSpec.ofChange variantsAllWrong)

/-- 'eponymlaw19.VariantsKeys': WHATEVER THE INPUT: true; the input reads as it did. -/
def variantsKeysSpec : ChangeSpec := { name := "variantsKeys", fn := fun _ => fun
  | [d1, d2, d3] => { results := [.lit (.bool true)], args := [d1, d2, d3] }
  | _ => none }
def variantsKeysRow : OpenClaim := { program := "ytclhniadffljdaa", sum := "883e3d2166b257418191f0f0e687bfd997a9ef28483a3363d3410cf97e043d4e", func := "eponym/eponymlaw19.VariantsKeys", spec := "variantsKeys", unfollowed := true, recurses := true, apart := false }
def VariantsKeysSaid : Prop := variantsKeysRow.holds Try.pinned (OpenSpec.ofChange variantsKeysSpec)

/-- ITS FALSE NEIGHBOUR: 'it returns false'. Refute it at one input. -/
def variantsKeysWrong : ChangeSpec := { name := "variantsKeys", fn := fun _ => fun
  | [d1, d2, d3] => { results := [.lit (.bool false)], args := [d1, d2, d3] }
  | _ => none }
def VariantsKeysWrongFalsely : Prop := variantsKeysRow.holds Try.pinned (OpenSpec.ofChange variantsKeysWrong)

/- THE SECOND FORM. 'bulk': how many values and letters a reading holds, each counted each time it is reached (what is shared counts as often as it is met; a slice's spare places count too). A statement '..UptoSaid' is the law's where the arguments, and the package variables that the reading takes, are together of bulk at most 1048576: NARROWER than '..Said'. Prove '..Said' where nothing that the law and all that it calls make is longer than what came in: it says more and counts as full. Else prove '..UptoSaid'. A law counts once. -/
mutual
def uptoBulk {H : Type} : DataW H → Nat
  | .lit (.string bytes) => bytes.length + 1
  | .lit _ => 1
  | .nil => 1
  | .ptr d => uptoBulk d + 1
  | .slice elems spare => uptoBulkAll elems + uptoBulkAll spare + 1
  | .agg parts => uptoBulkAll parts + 1
  | .iface _ d => uptoBulk d + 1
  | .map entries => uptoBulkEntries entries + 1
  | .held _ => 1
def uptoBulkAll {H : Type} : List (DataW H) → Nat
  | [] => 0
  | d :: r => uptoBulk d + uptoBulkAll r
def uptoBulkEntries {H : Type} : List (Lit × DataW H) → Nat
  | [] => 0
  | x :: r => uptoBulkEntry x + uptoBulkEntries r
def uptoBulkEntry {H : Type} : Lit × DataW H → Nat
  | (.string bytes, d) => bytes.length + uptoBulk d + 1
  | (_, d) => uptoBulk d + 1
 end
def uptoSmall : (H : Type) → List (DataW H) → Bool := fun _ ds => decide (uptoBulkAll ds ≤ 1048576)
def OpenSpec.upto (s : _root_.Go.ChangeSpec) : _root_.Go.OpenSpec := { _root_.Go.OpenSpec.ofChange s with cond := some uptoSmall }

/-- 'eponymlaw19.VariantsAll', WHERE WHAT IT READS IS OF BULK AT MOST 1048576: true; the input reads as it did. -/
def variantsAllUptoRow : OpenClaim := { program := "ytclhniadffljdaa", sum := "883e3d2166b257418191f0f0e687bfd997a9ef28483a3363d3410cf97e043d4e", func := "eponym/eponymlaw19.VariantsAll", spec := "variantsAll", unfollowed := true, recurses := true, apart := false, narrowed := true }
def VariantsAllUptoSaid : Prop := variantsAllUptoRow.holds Try.pinned (OpenSpec.upto variantsAllSpec)

/-- 'eponymlaw19.VariantsKeys', WHERE WHAT IT READS IS OF BULK AT MOST 1048576: true; the input reads as it did. -/
def variantsKeysUptoRow : OpenClaim := { program := "ytclhniadffljdaa", sum := "883e3d2166b257418191f0f0e687bfd997a9ef28483a3363d3410cf97e043d4e", func := "eponym/eponymlaw19.VariantsKeys", spec := "variantsKeys", unfollowed := true, recurses := true, apart := false, narrowed := true }
def VariantsKeysUptoSaid : Prop := variantsKeysUptoRow.holds Try.pinned (OpenSpec.upto variantsKeysSpec)

end Rows
end Go.Proofs.Ytclhniadffljdaa
