/-
  NARROWER THAN 'FOR EVERY INPUT', by the rows' own cells (each row's printed sentence says how): CompTexts: laid.
  DERIVED. THE GIVEN ROWS OF THIS SEAT. 1 by the template 'for every input the law returns true; each argument reads behind the call as it read before'; 0 by the template 'total and deterministic' (their statements: YtjhgaacecfmadaaGreatDoorTotals.lean).
  GIVEN WITH THE SEED: the statements are not yours to turn. If you find one false, say at which input.
  Laid BY PROGRAM, IN A SANDBOX (cutbox-rows.mjs): the forced cells as the released guide's own fill.sh prints them over the translation b93da57239fe1865… (all of the seat's roots in one cut). By AI agents, Wed Nov 11 2026. No macro, syntax, notation, axiom, sorry.
-/
import Derived.Test.YtjhgaacecfmadaaGreatDoorChecked
import GoSem.Claim
import GoSem.ClaimJoined
import GoSem.ClaimMapViews
import Derived.JoinedTies
import Derived.KernelRfl
namespace Go.Proofs.YtjhgaacecfmadaaGreatDoor
/- THE CELL 'sum', in the pinned program and in every row, IS THE sha256 OF THE DUMP (.gsa) THAT YtjhgaacecfmadaaGreatDoorProg.lean LOADS. Nothing in Lean hashes anything: it is a label: what it is worth is what the hold of that sum in a sandbox is worth. -/
noncomputable def Tryz.pinned : Pinned := { name := "ytjhgaacecfmadaagreatdoor", sum := "b93da57239fe18652abdbe282116b83b5e842ac3795db59d838ec58b962e9c50", checked := Tryz.checked }
namespace Rows
def none {H : Type} : Left H := { results := [], args := [] }

/- WHAT THE LISTED PACKAGE-LEVEL VARIABLES READ AS WHEN THE CALL BEGINS. Each datum BY PROGRAM (the guide's laid-datum.mjs) off the statement by which the dump's own 'gosem.cut.vars' lays the variable. In a bare row this is a premise. The card (YtjhgaacecfmadaaGreatDoorCards.lean) ties it to the program's text. -/
def laid_errors_errorType {H : Type} : DataW H := .iface "internal/reflectlite.rtype" (.agg [.ptr (.lit (.string [101, 114, 114, 111, 114]))])
def laid_eponym_api_ErrByte {H : Type} : DataW H := .iface "*errors.errorString" (.ptr (.agg [.lit (.string [97, 32, 98, 121, 116, 101, 44, 32, 111, 114, 32, 97, 32, 114, 117, 110, 101, 44, 32, 116, 104, 97, 116, 32, 99, 97, 110, 39, 116, 32, 115, 116, 97, 110, 100, 32, 116, 104, 101, 114, 101])]))
def laid_eponym_api_ErrEnd {H : Type} : DataW H := .iface "*errors.errorString" (.ptr (.agg [.lit (.string [105, 116, 32, 101, 110, 100, 115, 32, 116, 111, 111, 32, 101, 97, 114, 108, 121])]))
def laid_eponym_api_ErrLong {H : Type} : DataW H := .iface "*errors.errorString" (.ptr (.agg [.lit (.string [105, 116, 32, 105, 115, 32, 116, 111, 111, 32, 108, 111, 110, 103])]))
def laid_eponym_api_ErrRange {H : Type} : DataW H := .iface "*errors.errorString" (.ptr (.agg [.lit (.string [97, 32, 110, 117, 109, 98, 101, 114, 32, 105, 115, 32, 111, 117, 116, 115, 105, 100, 101, 32, 105, 116, 115, 32, 98, 111, 117, 110, 100, 115])]))
def laid_eponym_api_ErrForm {H : Type} : DataW H := .iface "*errors.errorString" (.ptr (.agg [.lit (.string [105, 116, 32, 105, 115, 110, 39, 116, 32, 111, 102, 32, 116, 104, 101, 32, 102, 111, 114, 109])]))
def laid_eponym_api_ErrOrder {H : Type} : DataW H := .iface "*errors.errorString" (.ptr (.agg [.lit (.string [105, 116, 32, 105, 115, 110, 39, 116, 32, 105, 110, 32, 111, 114, 100, 101, 114])]))
def laid_eponym_api_ErrThere {H : Type} : DataW H := .iface "*errors.errorString" (.ptr (.agg [.lit (.string [105, 116, 32, 105, 115, 32, 116, 104, 101, 114, 101, 32, 97, 108, 114, 101, 97, 100, 121])]))
def laid_eponym_api_ErrNone {H : Type} : DataW H := .iface "*errors.errorString" (.ptr (.agg [.lit (.string [116, 104, 101, 114, 101, 32, 105, 115, 32, 110, 111, 110, 101])]))
def laid_eponym_api_ErrDeep {H : Type} : DataW H := .iface "*errors.errorString" (.ptr (.agg [.lit (.string [105, 116, 32, 105, 115, 32, 116, 111, 111, 32, 100, 101, 101, 112])]))
def laid_eponym_api_ErrClass {H : Type} : DataW H := .iface "*errors.errorString" (.ptr (.agg [.lit (.string [97, 32, 114, 117, 110, 101, 32, 116, 104, 97, 116, 32, 110, 97, 109, 101, 115, 32, 100, 111, 110, 39, 116, 32, 104, 97, 118, 101])]))
def laid_eponym_api_ErrContext {H : Type} : DataW H := .iface "*errors.errorString" (.ptr (.agg [.lit (.string [97, 32, 114, 117, 110, 101, 32, 116, 104, 97, 116, 32, 100, 111, 101, 115, 110, 39, 116, 32, 103, 111, 32, 119, 105, 116, 104, 32, 105, 116, 115, 32, 110, 101, 105, 103, 104, 98, 111, 117, 114, 115])]))
def laid_eponym_api_ErrBidi {H : Type} : DataW H := .iface "*errors.errorString" (.ptr (.agg [.lit (.string [105, 116, 32, 99, 97, 110, 39, 116, 32, 98, 101, 32, 114, 101, 97, 100, 32, 102, 114, 111, 109, 32, 111, 110, 101, 32, 115, 105, 100, 101])]))
def laid_eponym_api_ErrHyphen {H : Type} : DataW H := .iface "*errors.errorString" (.ptr (.agg [.lit (.string [97, 32, 104, 121, 112, 104, 101, 110, 32, 116, 104, 97, 116, 32, 99, 97, 110, 39, 116, 32, 115, 116, 97, 110, 100, 32, 116, 104, 101, 114, 101])]))
def laid_eponym_api_ErrNorm {H : Type} : DataW H := .iface "*errors.errorString" (.ptr (.agg [.lit (.string [105, 116, 32, 105, 115, 110, 39, 116, 32, 99, 111, 109, 112, 111, 115, 101, 100])]))
def laid_eponym_api_ErrPuny {H : Type} : DataW H := .iface "*errors.errorString" (.ptr (.agg [.lit (.string [105, 116, 32, 105, 115, 110, 39, 116, 32, 97, 110, 32, 101, 110, 99, 111, 100, 101, 100, 32, 108, 97, 98, 101, 108])]))
def laid_eponym_api_ErrEmpty {H : Type} : DataW H := .iface "*errors.errorString" (.ptr (.agg [.lit (.string [105, 116, 32, 105, 115, 32, 101, 109, 112, 116, 121])]))
def laid_eponym_api_ErrKind {H : Type} : DataW H := .iface "*errors.errorString" (.ptr (.agg [.lit (.string [116, 104, 101, 114, 101, 32, 105, 115, 32, 110, 111, 32, 115, 117, 99, 104, 32, 107, 105, 110, 100])]))
def laid_eponym_api_ErrFull {H : Type} : DataW H := .iface "*errors.errorString" (.ptr (.agg [.lit (.string [116, 104, 101, 114, 101, 32, 97, 114, 101, 32, 116, 111, 111, 32, 109, 97, 110, 121])]))

/-- 'eponymlaw05.CompTexts': WHATEVER THE INPUT: true; the input reads as it did. -/
def compTextsSpec : ChangeSpec := { name := "compTexts", fn := fun _ => fun
  | [d1, d2] => { results := [.lit (.bool true)], args := [d1, d2] }
  | _ => none }
def compTextsRow : OpenClaim := { program := "ytjhgaacecfmadaagreatdoor", sum := "b93da57239fe18652abdbe282116b83b5e842ac3795db59d838ec58b962e9c50", func := "eponym/eponymlaw05.CompTexts", spec := "compTexts", inPlace := ["internal/abi.NoEscape", "internal/reflectlite.ValueOf", "(internal/reflectlite.Value).Type", "(internal/reflectlite.Value).IsNil", "internal/reflectlite.TypeOf", "(internal/reflectlite.Value).Elem", "(internal/reflectlite.Value).Set"], unfollowed := true, recurses := true, named := ["eponym/api.ErrRange", "eponym/api.ErrByte", "eponym/api.ErrEnd", "errors.errorType", "eponym/api.ErrLong", "eponym/api.ErrForm", "eponym/api.ErrOrder", "eponym/api.ErrThere", "eponym/api.ErrNone", "eponym/api.ErrDeep", "eponym/api.ErrClass", "eponym/api.ErrContext", "eponym/api.ErrBidi", "eponym/api.ErrHyphen", "eponym/api.ErrNorm", "eponym/api.ErrPuny", "eponym/api.ErrEmpty", "eponym/api.ErrKind", "eponym/api.ErrFull"], apart := false, laid := [("errors.errorType", laid_errors_errorType), ("eponym/api.ErrByte", laid_eponym_api_ErrByte), ("eponym/api.ErrEnd", laid_eponym_api_ErrEnd), ("eponym/api.ErrLong", laid_eponym_api_ErrLong), ("eponym/api.ErrRange", laid_eponym_api_ErrRange), ("eponym/api.ErrForm", laid_eponym_api_ErrForm), ("eponym/api.ErrOrder", laid_eponym_api_ErrOrder), ("eponym/api.ErrThere", laid_eponym_api_ErrThere), ("eponym/api.ErrNone", laid_eponym_api_ErrNone), ("eponym/api.ErrDeep", laid_eponym_api_ErrDeep), ("eponym/api.ErrClass", laid_eponym_api_ErrClass), ("eponym/api.ErrContext", laid_eponym_api_ErrContext), ("eponym/api.ErrBidi", laid_eponym_api_ErrBidi), ("eponym/api.ErrHyphen", laid_eponym_api_ErrHyphen), ("eponym/api.ErrNorm", laid_eponym_api_ErrNorm), ("eponym/api.ErrPuny", laid_eponym_api_ErrPuny), ("eponym/api.ErrEmpty", laid_eponym_api_ErrEmpty), ("eponym/api.ErrKind", laid_eponym_api_ErrKind), ("eponym/api.ErrFull", laid_eponym_api_ErrFull)] }
def CompTextsSaid : Prop := compTextsRow.holds Tryz.pinned (OpenSpec.ofChange compTextsSpec)

/-- ITS FALSE NEIGHBOUR: 'it returns false'. Refute it at one input. -/
def compTextsWrong : ChangeSpec := { name := "compTexts", fn := fun _ => fun
  | [d1, d2] => { results := [.lit (.bool false)], args := [d1, d2] }
  | _ => none }
def CompTextsWrongFalsely : Prop := compTextsRow.holds Tryz.pinned (OpenSpec.ofChange compTextsWrong)

/- THE SECOND FORM. 'bulk': how many values and letters a reading holds, each counted each time it is reached (what is shared counts as often as it is met; a slice's spare places count too). A statement '..UptoSaid' is the law's where the arguments, and the package variables that the reading takes, are together of bulk at most 1048576: NARROWER than '..Said'. Prove '..Said' where nothing that the law and all that it calls make is longer than what came in: it says more and counts as full. Else prove '..UptoSaid'. A law counts once. -/
mutual
def uptoBulk {H : Type} : DataW H → Nat
  | .lit (.string bytes) => bytes.length + 1
  | .lit _ => 1
  | .nil => 1
  | .ptr d => uptoBulk d + 1
  | .slice elems spare => uptoBulkAll elems + uptoBulkAll spare + 1
  | .agg parts => uptoBulkAll parts + 1
  | .iface _ d => uptoBulk d + 1
  | .map entries => uptoBulkEntries entries + 1
  | .held _ => 1
def uptoBulkAll {H : Type} : List (DataW H) → Nat
  | [] => 0
  | d :: r => uptoBulk d + uptoBulkAll r
def uptoBulkEntries {H : Type} : List (Lit × DataW H) → Nat
  | [] => 0
  | x :: r => uptoBulkEntry x + uptoBulkEntries r
def uptoBulkEntry {H : Type} : Lit × DataW H → Nat
  | (.string bytes, d) => bytes.length + uptoBulk d + 1
  | (_, d) => uptoBulk d + 1
 end
def uptoSmall : (H : Type) → List (DataW H) → Bool := fun _ ds => decide (uptoBulkAll ds ≤ 1048576)
def OpenSpec.upto (s : _root_.Go.ChangeSpec) : _root_.Go.OpenSpec := { _root_.Go.OpenSpec.ofChange s with cond := some uptoSmall }

/-- 'eponymlaw05.CompTexts', WHERE WHAT IT READS IS OF BULK AT MOST 1048576: true; the input reads as it did. -/
def compTextsUptoRow : OpenClaim := { program := "ytjhgaacecfmadaagreatdoor", sum := "b93da57239fe18652abdbe282116b83b5e842ac3795db59d838ec58b962e9c50", func := "eponym/eponymlaw05.CompTexts", spec := "compTexts", inPlace := ["internal/abi.NoEscape", "internal/reflectlite.ValueOf", "(internal/reflectlite.Value).Type", "(internal/reflectlite.Value).IsNil", "internal/reflectlite.TypeOf", "(internal/reflectlite.Value).Elem", "(internal/reflectlite.Value).Set"], unfollowed := true, recurses := true, named := ["eponym/api.ErrRange", "eponym/api.ErrByte", "eponym/api.ErrEnd", "errors.errorType", "eponym/api.ErrLong", "eponym/api.ErrForm", "eponym/api.ErrOrder", "eponym/api.ErrThere", "eponym/api.ErrNone", "eponym/api.ErrDeep", "eponym/api.ErrClass", "eponym/api.ErrContext", "eponym/api.ErrBidi", "eponym/api.ErrHyphen", "eponym/api.ErrNorm", "eponym/api.ErrPuny", "eponym/api.ErrEmpty", "eponym/api.ErrKind", "eponym/api.ErrFull"], apart := false, laid := [("errors.errorType", laid_errors_errorType), ("eponym/api.ErrByte", laid_eponym_api_ErrByte), ("eponym/api.ErrEnd", laid_eponym_api_ErrEnd), ("eponym/api.ErrLong", laid_eponym_api_ErrLong), ("eponym/api.ErrRange", laid_eponym_api_ErrRange), ("eponym/api.ErrForm", laid_eponym_api_ErrForm), ("eponym/api.ErrOrder", laid_eponym_api_ErrOrder), ("eponym/api.ErrThere", laid_eponym_api_ErrThere), ("eponym/api.ErrNone", laid_eponym_api_ErrNone), ("eponym/api.ErrDeep", laid_eponym_api_ErrDeep), ("eponym/api.ErrClass", laid_eponym_api_ErrClass), ("eponym/api.ErrContext", laid_eponym_api_ErrContext), ("eponym/api.ErrBidi", laid_eponym_api_ErrBidi), ("eponym/api.ErrHyphen", laid_eponym_api_ErrHyphen), ("eponym/api.ErrNorm", laid_eponym_api_ErrNorm), ("eponym/api.ErrPuny", laid_eponym_api_ErrPuny), ("eponym/api.ErrEmpty", laid_eponym_api_ErrEmpty), ("eponym/api.ErrKind", laid_eponym_api_ErrKind), ("eponym/api.ErrFull", laid_eponym_api_ErrFull)], narrowed := true }
def CompTextsUptoSaid : Prop := compTextsUptoRow.holds Tryz.pinned (OpenSpec.upto compTextsSpec)

end Rows
end Go.Proofs.YtjhgaacecfmadaaGreatDoor
