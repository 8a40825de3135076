/-
  NARROWER THAN 'FOR EVERY INPUT', by the rows' own cells (each row's printed sentence says how): ClassesLetters: laid · BidiEnds: laid · DecompOnes: laid · DecompSyllables: laid · BidiBreaks: laid · ClassesChecks: laid · BidiNames: laid · ContextsDigits: laid · ContextsBehind: laid · VariantsAlike: laid · VariantsChecks: laid · DecompAlls: laid · DecompStays: laid · DecompChecks: laid · CompStays: laid · CompSame: laid · ContextsChecks: laid.
  DERIVED. THE GIVEN ROWS OF THIS SEAT. 17 by the template 'for every input the law returns true; each argument reads behind the call as it read before'; 0 by the template 'total and deterministic' (their statements: YtjhgaacecfmadaaDoorTotals.lean).
  GIVEN WITH THE SEED: the statements are not yours to turn. If you find one false, say at which input.
  Laid BY PROGRAM, IN A SANDBOX (cutbox-rows.mjs): the forced cells as the released guide's own fill.sh prints them over the translation 0b9ffd8cd52d3342… (all of the seat's roots in one cut). By AI agents, Wed Nov 11 2026. No macro, syntax, notation, axiom, sorry.
-/
import Derived.Test.YtjhgaacecfmadaaDoorChecked
import GoSem.Claim
import GoSem.ClaimJoined
import GoSem.ClaimMapViews
import Derived.JoinedTies
import Derived.KernelRfl
namespace Go.Proofs.YtjhgaacecfmadaaDoor
/- THE CELL 'sum', in the pinned program and in every row, IS THE sha256 OF THE DUMP (.gsa) THAT YtjhgaacecfmadaaDoorProg.lean LOADS. Nothing in Lean hashes anything: it is a label: what it is worth is what the hold of that sum in a sandbox is worth. -/
noncomputable def Tryd.pinned : Pinned := { name := "ytjhgaacecfmadaadoor", sum := "0b9ffd8cd52d3342ecb4c2cd9e120e6d1a82be819a2c54af1f0ecedc5b388319", checked := Tryd.checked }
namespace Rows
def none {H : Type} : Left H := { results := [], args := [] }

/- WHAT THE LISTED PACKAGE-LEVEL VARIABLES READ AS WHEN THE CALL BEGINS. Each datum BY PROGRAM (the guide's laid-datum.mjs) off the statement by which the dump's own 'gosem.cut.vars' lays the variable. In a bare row this is a premise. The card (YtjhgaacecfmadaaDoorCards.lean) ties it to the program's text. -/
def laid_eponym_api_ErrRange {H : Type} : DataW H := .iface "*errors.errorString" (.ptr (.agg [.lit (.string [97, 32, 110, 117, 109, 98, 101, 114, 32, 105, 115, 32, 111, 117, 116, 115, 105, 100, 101, 32, 105, 116, 115, 32, 98, 111, 117, 110, 100, 115])]))
def laid_eponym_api_ErrOrder {H : Type} : DataW H := .iface "*errors.errorString" (.ptr (.agg [.lit (.string [105, 116, 32, 105, 115, 110, 39, 116, 32, 105, 110, 32, 111, 114, 100, 101, 114])]))
def laid_eponym_api_ErrKind {H : Type} : DataW H := .iface "*errors.errorString" (.ptr (.agg [.lit (.string [116, 104, 101, 114, 101, 32, 105, 115, 32, 110, 111, 32, 115, 117, 99, 104, 32, 107, 105, 110, 100])]))
def laid_eponym_api_ErrFull {H : Type} : DataW H := .iface "*errors.errorString" (.ptr (.agg [.lit (.string [116, 104, 101, 114, 101, 32, 97, 114, 101, 32, 116, 111, 111, 32, 109, 97, 110, 121])]))
def laid_eponym_api_ErrBidi {H : Type} : DataW H := .iface "*errors.errorString" (.ptr (.agg [.lit (.string [105, 116, 32, 99, 97, 110, 39, 116, 32, 98, 101, 32, 114, 101, 97, 100, 32, 102, 114, 111, 109, 32, 111, 110, 101, 32, 115, 105, 100, 101])]))
def laid_eponym_api_ErrForm {H : Type} : DataW H := .iface "*errors.errorString" (.ptr (.agg [.lit (.string [105, 116, 32, 105, 115, 110, 39, 116, 32, 111, 102, 32, 116, 104, 101, 32, 102, 111, 114, 109])]))
def laid_eponym_api_ErrThere {H : Type} : DataW H := .iface "*errors.errorString" (.ptr (.agg [.lit (.string [105, 116, 32, 105, 115, 32, 116, 104, 101, 114, 101, 32, 97, 108, 114, 101, 97, 100, 121])]))
def laid_eponym_api_ErrDeep {H : Type} : DataW H := .iface "*errors.errorString" (.ptr (.agg [.lit (.string [105, 116, 32, 105, 115, 32, 116, 111, 111, 32, 100, 101, 101, 112])]))
def laid_errors_errorType {H : Type} : DataW H := .iface "internal/reflectlite.rtype" (.agg [.ptr (.lit (.string [101, 114, 114, 111, 114]))])
def laid_eponym_api_ErrByte {H : Type} : DataW H := .iface "*errors.errorString" (.ptr (.agg [.lit (.string [97, 32, 98, 121, 116, 101, 44, 32, 111, 114, 32, 97, 32, 114, 117, 110, 101, 44, 32, 116, 104, 97, 116, 32, 99, 97, 110, 39, 116, 32, 115, 116, 97, 110, 100, 32, 116, 104, 101, 114, 101])]))
def laid_eponym_api_ErrEnd {H : Type} : DataW H := .iface "*errors.errorString" (.ptr (.agg [.lit (.string [105, 116, 32, 101, 110, 100, 115, 32, 116, 111, 111, 32, 101, 97, 114, 108, 121])]))
def laid_eponym_api_ErrLong {H : Type} : DataW H := .iface "*errors.errorString" (.ptr (.agg [.lit (.string [105, 116, 32, 105, 115, 32, 116, 111, 111, 32, 108, 111, 110, 103])]))
def laid_eponym_api_ErrNone {H : Type} : DataW H := .iface "*errors.errorString" (.ptr (.agg [.lit (.string [116, 104, 101, 114, 101, 32, 105, 115, 32, 110, 111, 110, 101])]))
def laid_eponym_api_ErrClass {H : Type} : DataW H := .iface "*errors.errorString" (.ptr (.agg [.lit (.string [97, 32, 114, 117, 110, 101, 32, 116, 104, 97, 116, 32, 110, 97, 109, 101, 115, 32, 100, 111, 110, 39, 116, 32, 104, 97, 118, 101])]))
def laid_eponym_api_ErrContext {H : Type} : DataW H := .iface "*errors.errorString" (.ptr (.agg [.lit (.string [97, 32, 114, 117, 110, 101, 32, 116, 104, 97, 116, 32, 100, 111, 101, 115, 110, 39, 116, 32, 103, 111, 32, 119, 105, 116, 104, 32, 105, 116, 115, 32, 110, 101, 105, 103, 104, 98, 111, 117, 114, 115])]))
def laid_eponym_api_ErrHyphen {H : Type} : DataW H := .iface "*errors.errorString" (.ptr (.agg [.lit (.string [97, 32, 104, 121, 112, 104, 101, 110, 32, 116, 104, 97, 116, 32, 99, 97, 110, 39, 116, 32, 115, 116, 97, 110, 100, 32, 116, 104, 101, 114, 101])]))
def laid_eponym_api_ErrNorm {H : Type} : DataW H := .iface "*errors.errorString" (.ptr (.agg [.lit (.string [105, 116, 32, 105, 115, 110, 39, 116, 32, 99, 111, 109, 112, 111, 115, 101, 100])]))
def laid_eponym_api_ErrPuny {H : Type} : DataW H := .iface "*errors.errorString" (.ptr (.agg [.lit (.string [105, 116, 32, 105, 115, 110, 39, 116, 32, 97, 110, 32, 101, 110, 99, 111, 100, 101, 100, 32, 108, 97, 98, 101, 108])]))
def laid_eponym_api_ErrEmpty {H : Type} : DataW H := .iface "*errors.errorString" (.ptr (.agg [.lit (.string [105, 116, 32, 105, 115, 32, 101, 109, 112, 116, 121])]))

/-- 'eponymlaw07.ClassesLetters': WHATEVER THE INPUT: true; the input reads as it did. -/
def classesLettersSpec : ChangeSpec := { name := "classesLetters", fn := fun _ => fun
  | [d1, d2] => { results := [.lit (.bool true)], args := [d1, d2] }
  | _ => none }
def classesLettersRow : OpenClaim := { program := "ytjhgaacecfmadaadoor", sum := "0b9ffd8cd52d3342ecb4c2cd9e120e6d1a82be819a2c54af1f0ecedc5b388319", func := "eponym/eponymlaw07.ClassesLetters", spec := "classesLetters", unfollowed := true, recurses := true, named := ["eponym/api.ErrKind", "eponym/api.ErrFull", "eponym/api.ErrRange", "eponym/api.ErrOrder"], plainKeys := false, apart := false, laid := [("eponym/api.ErrRange", laid_eponym_api_ErrRange), ("eponym/api.ErrOrder", laid_eponym_api_ErrOrder), ("eponym/api.ErrKind", laid_eponym_api_ErrKind), ("eponym/api.ErrFull", laid_eponym_api_ErrFull)] }
def ClassesLettersSaid : Prop := classesLettersRow.holds Tryd.pinned (OpenSpec.ofChange classesLettersSpec)

/-- ITS FALSE NEIGHBOUR: 'it returns false'. Refute it at one input. -/
def classesLettersWrong : ChangeSpec := { name := "classesLetters", fn := fun _ => fun
  | [d1, d2] => { results := [.lit (.bool false)], args := [d1, d2] }
  | _ => none }
def ClassesLettersWrongFalsely : Prop := classesLettersRow.holds Tryd.pinned (OpenSpec.ofChange classesLettersWrong)

/-- 'eponymlaw09.BidiEnds': WHATEVER THE INPUT: true; the input reads as it did. -/
def bidiEndsSpec : ChangeSpec := { name := "bidiEnds", fn := fun _ => fun
  | [d1, d2, d3] => { results := [.lit (.bool true)], args := [d1, d2, d3] }
  | _ => none }
def bidiEndsRow : OpenClaim := { program := "ytjhgaacecfmadaadoor", sum := "0b9ffd8cd52d3342ecb4c2cd9e120e6d1a82be819a2c54af1f0ecedc5b388319", func := "eponym/eponymlaw09.BidiEnds", spec := "bidiEnds", unfollowed := true, recurses := true, named := ["eponym/api.ErrKind", "eponym/api.ErrFull", "eponym/api.ErrRange", "eponym/api.ErrOrder", "eponym/api.ErrBidi"], plainKeys := false, apart := false, laid := [("eponym/api.ErrRange", laid_eponym_api_ErrRange), ("eponym/api.ErrOrder", laid_eponym_api_ErrOrder), ("eponym/api.ErrBidi", laid_eponym_api_ErrBidi), ("eponym/api.ErrKind", laid_eponym_api_ErrKind), ("eponym/api.ErrFull", laid_eponym_api_ErrFull)] }
def BidiEndsSaid : Prop := bidiEndsRow.holds Tryd.pinned (OpenSpec.ofChange bidiEndsSpec)

/-- ITS FALSE NEIGHBOUR: 'it returns false'. Refute it at one input. -/
def bidiEndsWrong : ChangeSpec := { name := "bidiEnds", fn := fun _ => fun
  | [d1, d2, d3] => { results := [.lit (.bool false)], args := [d1, d2, d3] }
  | _ => none }
def BidiEndsWrongFalsely : Prop := bidiEndsRow.holds Tryd.pinned (OpenSpec.ofChange bidiEndsWrong)

/-- 'eponymlaw04.DecompOnes': WHATEVER THE INPUT: true; the input reads as it did. -/
def decompOnesSpec : ChangeSpec := { name := "decompOnes", fn := fun _ => fun
  | [d1, d2, d3] => { results := [.lit (.bool true)], args := [d1, d2, d3] }
  | _ => none }
def decompOnesRow : OpenClaim := { program := "ytjhgaacecfmadaadoor", sum := "0b9ffd8cd52d3342ecb4c2cd9e120e6d1a82be819a2c54af1f0ecedc5b388319", func := "eponym/eponymlaw04.DecompOnes", spec := "decompOnes", unfollowed := true, recurses := true, named := ["eponym/api.ErrFull", "eponym/api.ErrDeep", "eponym/api.ErrKind", "eponym/api.ErrRange", "eponym/api.ErrOrder", "eponym/api.ErrForm", "eponym/api.ErrThere"], plainKeys := false, apart := false, laid := [("eponym/api.ErrRange", laid_eponym_api_ErrRange), ("eponym/api.ErrForm", laid_eponym_api_ErrForm), ("eponym/api.ErrOrder", laid_eponym_api_ErrOrder), ("eponym/api.ErrThere", laid_eponym_api_ErrThere), ("eponym/api.ErrDeep", laid_eponym_api_ErrDeep), ("eponym/api.ErrKind", laid_eponym_api_ErrKind), ("eponym/api.ErrFull", laid_eponym_api_ErrFull)] }
def DecompOnesSaid : Prop := decompOnesRow.holds Tryd.pinned (OpenSpec.ofChange decompOnesSpec)

/-- ITS FALSE NEIGHBOUR: 'it returns false'. Refute it at one input. -/
def decompOnesWrong : ChangeSpec := { name := "decompOnes", fn := fun _ => fun
  | [d1, d2, d3] => { results := [.lit (.bool false)], args := [d1, d2, d3] }
  | _ => none }
def DecompOnesWrongFalsely : Prop := decompOnesRow.holds Tryd.pinned (OpenSpec.ofChange decompOnesWrong)

/-- 'eponymlaw04.DecompSyllables': WHATEVER THE INPUT: true; the input reads as it did. -/
def decompSyllablesSpec : ChangeSpec := { name := "decompSyllables", fn := fun _ => fun
  | [d] => { results := [.lit (.bool true)], args := [d] }
  | _ => none }
def decompSyllablesRow : OpenClaim := { program := "ytjhgaacecfmadaadoor", sum := "0b9ffd8cd52d3342ecb4c2cd9e120e6d1a82be819a2c54af1f0ecedc5b388319", func := "eponym/eponymlaw04.DecompSyllables", spec := "decompSyllables", unfollowed := true, recurses := true, named := ["eponym/api.ErrFull", "eponym/api.ErrDeep", "eponym/api.ErrKind", "eponym/api.ErrRange", "eponym/api.ErrOrder", "eponym/api.ErrForm", "eponym/api.ErrThere"], plainKeys := false, apart := false, laid := [("eponym/api.ErrRange", laid_eponym_api_ErrRange), ("eponym/api.ErrForm", laid_eponym_api_ErrForm), ("eponym/api.ErrOrder", laid_eponym_api_ErrOrder), ("eponym/api.ErrThere", laid_eponym_api_ErrThere), ("eponym/api.ErrDeep", laid_eponym_api_ErrDeep), ("eponym/api.ErrKind", laid_eponym_api_ErrKind), ("eponym/api.ErrFull", laid_eponym_api_ErrFull)] }
def DecompSyllablesSaid : Prop := decompSyllablesRow.holds Tryd.pinned (OpenSpec.ofChange decompSyllablesSpec)

/-- ITS FALSE NEIGHBOUR: 'it returns false'. Refute it at one input. -/
def decompSyllablesWrong : ChangeSpec := { name := "decompSyllables", fn := fun _ => fun
  | [d] => { results := [.lit (.bool false)], args := [d] }
  | _ => none }
def DecompSyllablesWrongFalsely : Prop := decompSyllablesRow.holds Tryd.pinned (OpenSpec.ofChange decompSyllablesWrong)

/-- 'eponymlaw09.BidiBreaks': WHATEVER THE INPUT: true; the input reads as it did. -/
def bidiBreaksSpec : ChangeSpec := { name := "bidiBreaks", fn := fun _ => fun
  | [d1, d2] => { results := [.lit (.bool true)], args := [d1, d2] }
  | _ => none }
def bidiBreaksRow : OpenClaim := { program := "ytjhgaacecfmadaadoor", sum := "0b9ffd8cd52d3342ecb4c2cd9e120e6d1a82be819a2c54af1f0ecedc5b388319", func := "eponym/eponymlaw09.BidiBreaks", spec := "bidiBreaks", inPlace := ["internal/reflectlite.ValueOf", "(internal/reflectlite.Value).Type", "(internal/reflectlite.Value).IsNil", "internal/reflectlite.TypeOf", "(internal/reflectlite.Value).Elem", "(internal/reflectlite.Value).Set"], unfollowed := true, recurses := true, named := ["eponym/api.ErrBidi", "errors.errorType", "eponym/api.ErrByte", "eponym/api.ErrEnd", "eponym/api.ErrLong", "eponym/api.ErrRange", "eponym/api.ErrForm", "eponym/api.ErrOrder", "eponym/api.ErrThere", "eponym/api.ErrNone", "eponym/api.ErrDeep", "eponym/api.ErrClass", "eponym/api.ErrContext", "eponym/api.ErrHyphen", "eponym/api.ErrNorm", "eponym/api.ErrPuny", "eponym/api.ErrEmpty", "eponym/api.ErrKind", "eponym/api.ErrFull"], plainKeys := false, apart := false, laid := [("errors.errorType", laid_errors_errorType), ("eponym/api.ErrByte", laid_eponym_api_ErrByte), ("eponym/api.ErrEnd", laid_eponym_api_ErrEnd), ("eponym/api.ErrLong", laid_eponym_api_ErrLong), ("eponym/api.ErrRange", laid_eponym_api_ErrRange), ("eponym/api.ErrForm", laid_eponym_api_ErrForm), ("eponym/api.ErrOrder", laid_eponym_api_ErrOrder), ("eponym/api.ErrThere", laid_eponym_api_ErrThere), ("eponym/api.ErrNone", laid_eponym_api_ErrNone), ("eponym/api.ErrDeep", laid_eponym_api_ErrDeep), ("eponym/api.ErrClass", laid_eponym_api_ErrClass), ("eponym/api.ErrContext", laid_eponym_api_ErrContext), ("eponym/api.ErrBidi", laid_eponym_api_ErrBidi), ("eponym/api.ErrHyphen", laid_eponym_api_ErrHyphen), ("eponym/api.ErrNorm", laid_eponym_api_ErrNorm), ("eponym/api.ErrPuny", laid_eponym_api_ErrPuny), ("eponym/api.ErrEmpty", laid_eponym_api_ErrEmpty), ("eponym/api.ErrKind", laid_eponym_api_ErrKind), ("eponym/api.ErrFull", laid_eponym_api_ErrFull)] }
def BidiBreaksSaid : Prop := bidiBreaksRow.holds Tryd.pinned (OpenSpec.ofChange bidiBreaksSpec)

/-- ITS FALSE NEIGHBOUR: 'it returns false'. Refute it at one input. -/
def bidiBreaksWrong : ChangeSpec := { name := "bidiBreaks", fn := fun _ => fun
  | [d1, d2] => { results := [.lit (.bool false)], args := [d1, d2] }
  | _ => none }
def BidiBreaksWrongFalsely : Prop := bidiBreaksRow.holds Tryd.pinned (OpenSpec.ofChange bidiBreaksWrong)

/-- 'eponymlaw07.ClassesChecks': WHATEVER THE INPUT: true; the input reads as it did. -/
def classesChecksSpec : ChangeSpec := { name := "classesChecks", fn := fun _ => fun
  | [d] => { results := [.lit (.bool true)], args := [d] }
  | _ => none }
def classesChecksRow : OpenClaim := { program := "ytjhgaacecfmadaadoor", sum := "0b9ffd8cd52d3342ecb4c2cd9e120e6d1a82be819a2c54af1f0ecedc5b388319", func := "eponym/eponymlaw07.ClassesChecks", spec := "classesChecks", inPlace := ["internal/reflectlite.ValueOf", "(internal/reflectlite.Value).Type", "(internal/reflectlite.Value).IsNil", "internal/reflectlite.TypeOf", "(internal/reflectlite.Value).Elem", "(internal/reflectlite.Value).Set"], unfollowed := true, recurses := true, named := ["eponym/api.ErrKind", "eponym/api.ErrFull", "eponym/api.ErrRange", "eponym/api.ErrOrder", "errors.errorType", "eponym/api.ErrByte", "eponym/api.ErrEnd", "eponym/api.ErrLong", "eponym/api.ErrForm", "eponym/api.ErrThere", "eponym/api.ErrNone", "eponym/api.ErrDeep", "eponym/api.ErrClass", "eponym/api.ErrContext", "eponym/api.ErrBidi", "eponym/api.ErrHyphen", "eponym/api.ErrNorm", "eponym/api.ErrPuny", "eponym/api.ErrEmpty"], plainKeys := false, apart := false, laid := [("errors.errorType", laid_errors_errorType), ("eponym/api.ErrByte", laid_eponym_api_ErrByte), ("eponym/api.ErrEnd", laid_eponym_api_ErrEnd), ("eponym/api.ErrLong", laid_eponym_api_ErrLong), ("eponym/api.ErrRange", laid_eponym_api_ErrRange), ("eponym/api.ErrForm", laid_eponym_api_ErrForm), ("eponym/api.ErrOrder", laid_eponym_api_ErrOrder), ("eponym/api.ErrThere", laid_eponym_api_ErrThere), ("eponym/api.ErrNone", laid_eponym_api_ErrNone), ("eponym/api.ErrDeep", laid_eponym_api_ErrDeep), ("eponym/api.ErrClass", laid_eponym_api_ErrClass), ("eponym/api.ErrContext", laid_eponym_api_ErrContext), ("eponym/api.ErrBidi", laid_eponym_api_ErrBidi), ("eponym/api.ErrHyphen", laid_eponym_api_ErrHyphen), ("eponym/api.ErrNorm", laid_eponym_api_ErrNorm), ("eponym/api.ErrPuny", laid_eponym_api_ErrPuny), ("eponym/api.ErrEmpty", laid_eponym_api_ErrEmpty), ("eponym/api.ErrKind", laid_eponym_api_ErrKind), ("eponym/api.ErrFull", laid_eponym_api_ErrFull)] }
def ClassesChecksSaid : Prop := classesChecksRow.holds Tryd.pinned (OpenSpec.ofChange classesChecksSpec)

/-- ITS FALSE NEIGHBOUR: 'it returns false'. Refute it at one input. -/
def classesChecksWrong : ChangeSpec := { name := "classesChecks", fn := fun _ => fun
  | [d] => { results := [.lit (.bool false)], args := [d] }
  | _ => none }
def ClassesChecksWrongFalsely : Prop := classesChecksRow.holds Tryd.pinned (OpenSpec.ofChange classesChecksWrong)

/-- 'eponymlaw09.BidiNames': WHATEVER THE INPUT: true; the input reads as it did. -/
def bidiNamesSpec : ChangeSpec := { name := "bidiNames", fn := fun _ => fun
  | [d1, d2] => { results := [.lit (.bool true)], args := [d1, d2] }
  | _ => none }
def bidiNamesRow : OpenClaim := { program := "ytjhgaacecfmadaadoor", sum := "0b9ffd8cd52d3342ecb4c2cd9e120e6d1a82be819a2c54af1f0ecedc5b388319", func := "eponym/eponymlaw09.BidiNames", spec := "bidiNames", inPlace := ["internal/reflectlite.ValueOf", "(internal/reflectlite.Value).Type", "(internal/reflectlite.Value).IsNil", "internal/reflectlite.TypeOf", "(internal/reflectlite.Value).Elem", "(internal/reflectlite.Value).Set"], unfollowed := true, recurses := true, named := ["eponym/api.ErrBidi", "errors.errorType", "eponym/api.ErrByte", "eponym/api.ErrEnd", "eponym/api.ErrLong", "eponym/api.ErrRange", "eponym/api.ErrForm", "eponym/api.ErrOrder", "eponym/api.ErrThere", "eponym/api.ErrNone", "eponym/api.ErrDeep", "eponym/api.ErrClass", "eponym/api.ErrContext", "eponym/api.ErrHyphen", "eponym/api.ErrNorm", "eponym/api.ErrPuny", "eponym/api.ErrEmpty", "eponym/api.ErrKind", "eponym/api.ErrFull"], plainKeys := false, apart := false, laid := [("errors.errorType", laid_errors_errorType), ("eponym/api.ErrByte", laid_eponym_api_ErrByte), ("eponym/api.ErrEnd", laid_eponym_api_ErrEnd), ("eponym/api.ErrLong", laid_eponym_api_ErrLong), ("eponym/api.ErrRange", laid_eponym_api_ErrRange), ("eponym/api.ErrForm", laid_eponym_api_ErrForm), ("eponym/api.ErrOrder", laid_eponym_api_ErrOrder), ("eponym/api.ErrThere", laid_eponym_api_ErrThere), ("eponym/api.ErrNone", laid_eponym_api_ErrNone), ("eponym/api.ErrDeep", laid_eponym_api_ErrDeep), ("eponym/api.ErrClass", laid_eponym_api_ErrClass), ("eponym/api.ErrContext", laid_eponym_api_ErrContext), ("eponym/api.ErrBidi", laid_eponym_api_ErrBidi), ("eponym/api.ErrHyphen", laid_eponym_api_ErrHyphen), ("eponym/api.ErrNorm", laid_eponym_api_ErrNorm), ("eponym/api.ErrPuny", laid_eponym_api_ErrPuny), ("eponym/api.ErrEmpty", laid_eponym_api_ErrEmpty), ("eponym/api.ErrKind", laid_eponym_api_ErrKind), ("eponym/api.ErrFull", laid_eponym_api_ErrFull)] }
def BidiNamesSaid : Prop := bidiNamesRow.holds Tryd.pinned (OpenSpec.ofChange bidiNamesSpec)

/-- ITS FALSE NEIGHBOUR: 'it returns false'. Refute it at one input. -/
def bidiNamesWrong : ChangeSpec := { name := "bidiNames", fn := fun _ => fun
  | [d1, d2] => { results := [.lit (.bool false)], args := [d1, d2] }
  | _ => none }
def BidiNamesWrongFalsely : Prop := bidiNamesRow.holds Tryd.pinned (OpenSpec.ofChange bidiNamesWrong)

/-- 'eponymlaw08.ContextsDigits': WHATEVER THE INPUT: true; the input reads as it did. -/
def contextsDigitsSpec : ChangeSpec := { name := "contextsDigits", fn := fun _ => fun
  | [d1, d2] => { results := [.lit (.bool true)], args := [d1, d2] }
  | _ => none }
def contextsDigitsRow : OpenClaim := { program := "ytjhgaacecfmadaadoor", sum := "0b9ffd8cd52d3342ecb4c2cd9e120e6d1a82be819a2c54af1f0ecedc5b388319", func := "eponym/eponymlaw08.ContextsDigits", spec := "contextsDigits", unfollowed := true, recurses := true, named := ["eponym/api.ErrFull", "eponym/api.ErrDeep", "eponym/api.ErrKind", "eponym/api.ErrRange", "eponym/api.ErrOrder", "eponym/api.ErrForm", "eponym/api.ErrThere"], plainKeys := false, apart := false, laid := [("eponym/api.ErrRange", laid_eponym_api_ErrRange), ("eponym/api.ErrForm", laid_eponym_api_ErrForm), ("eponym/api.ErrOrder", laid_eponym_api_ErrOrder), ("eponym/api.ErrThere", laid_eponym_api_ErrThere), ("eponym/api.ErrDeep", laid_eponym_api_ErrDeep), ("eponym/api.ErrKind", laid_eponym_api_ErrKind), ("eponym/api.ErrFull", laid_eponym_api_ErrFull)] }
def ContextsDigitsSaid : Prop := contextsDigitsRow.holds Tryd.pinned (OpenSpec.ofChange contextsDigitsSpec)

/-- ITS FALSE NEIGHBOUR: 'it returns false'. Refute it at one input. -/
def contextsDigitsWrong : ChangeSpec := { name := "contextsDigits", fn := fun _ => fun
  | [d1, d2] => { results := [.lit (.bool false)], args := [d1, d2] }
  | _ => none }
def ContextsDigitsWrongFalsely : Prop := contextsDigitsRow.holds Tryd.pinned (OpenSpec.ofChange contextsDigitsWrong)

/-- 'eponymlaw08.ContextsBehind': WHATEVER THE INPUT: true; the input reads as it did. -/
def contextsBehindSpec : ChangeSpec := { name := "contextsBehind", fn := fun _ => fun
  | [d1, d2, d3] => { results := [.lit (.bool true)], args := [d1, d2, d3] }
  | _ => none }
def contextsBehindRow : OpenClaim := { program := "ytjhgaacecfmadaadoor", sum := "0b9ffd8cd52d3342ecb4c2cd9e120e6d1a82be819a2c54af1f0ecedc5b388319", func := "eponym/eponymlaw08.ContextsBehind", spec := "contextsBehind", unfollowed := true, recurses := true, named := ["eponym/api.ErrFull", "eponym/api.ErrDeep", "eponym/api.ErrKind", "eponym/api.ErrRange", "eponym/api.ErrOrder", "eponym/api.ErrForm", "eponym/api.ErrThere"], plainKeys := false, apart := false, laid := [("eponym/api.ErrRange", laid_eponym_api_ErrRange), ("eponym/api.ErrForm", laid_eponym_api_ErrForm), ("eponym/api.ErrOrder", laid_eponym_api_ErrOrder), ("eponym/api.ErrThere", laid_eponym_api_ErrThere), ("eponym/api.ErrDeep", laid_eponym_api_ErrDeep), ("eponym/api.ErrKind", laid_eponym_api_ErrKind), ("eponym/api.ErrFull", laid_eponym_api_ErrFull)] }
def ContextsBehindSaid : Prop := contextsBehindRow.holds Tryd.pinned (OpenSpec.ofChange contextsBehindSpec)

/-- ITS FALSE NEIGHBOUR: 'it returns false'. Refute it at one input. -/
def contextsBehindWrong : ChangeSpec := { name := "contextsBehind", fn := fun _ => fun
  | [d1, d2, d3] => { results := [.lit (.bool false)], args := [d1, d2, d3] }
  | _ => none }
def ContextsBehindWrongFalsely : Prop := contextsBehindRow.holds Tryd.pinned (OpenSpec.ofChange contextsBehindWrong)

/-- 'eponymlaw19.VariantsAlike': WHATEVER THE INPUT: true; the input reads as it did. -/
def variantsAlikeSpec : ChangeSpec := { name := "variantsAlike", fn := fun _ => fun
  | [d1, d2, d3] => { results := [.lit (.bool true)], args := [d1, d2, d3] }
  | _ => none }
def variantsAlikeRow : OpenClaim := { program := "ytjhgaacecfmadaadoor", sum := "0b9ffd8cd52d3342ecb4c2cd9e120e6d1a82be819a2c54af1f0ecedc5b388319", func := "eponym/eponymlaw19.VariantsAlike", spec := "variantsAlike", inPlace := ["internal/reflectlite.ValueOf", "(internal/reflectlite.Value).Type", "(internal/reflectlite.Value).IsNil", "internal/reflectlite.TypeOf", "(internal/reflectlite.Value).Elem", "(internal/reflectlite.Value).Set"], unfollowed := true, recurses := true, named := ["eponym/api.ErrForm", "eponym/api.ErrFull", "eponym/api.ErrThere", "eponym/api.ErrRange", "eponym/api.ErrByte", "eponym/api.ErrEnd", "errors.errorType", "eponym/api.ErrEmpty", "eponym/api.ErrOrder"], plainKeys := false, apart := false, laid := [("errors.errorType", laid_errors_errorType), ("eponym/api.ErrByte", laid_eponym_api_ErrByte), ("eponym/api.ErrEnd", laid_eponym_api_ErrEnd), ("eponym/api.ErrRange", laid_eponym_api_ErrRange), ("eponym/api.ErrForm", laid_eponym_api_ErrForm), ("eponym/api.ErrOrder", laid_eponym_api_ErrOrder), ("eponym/api.ErrThere", laid_eponym_api_ErrThere), ("eponym/api.ErrEmpty", laid_eponym_api_ErrEmpty), ("eponym/api.ErrFull", laid_eponym_api_ErrFull)] }
def VariantsAlikeSaid : Prop := variantsAlikeRow.holds Tryd.pinned (OpenSpec.ofChange variantsAlikeSpec)

/-- ITS FALSE NEIGHBOUR: 'it returns false'. Refute it at one input. -/
def variantsAlikeWrong : ChangeSpec := { name := "variantsAlike", fn := fun _ => fun
  | [d1, d2, d3] => { results := [.lit (.bool false)], args := [d1, d2, d3] }
  | _ => none }
def VariantsAlikeWrongFalsely : Prop := variantsAlikeRow.holds Tryd.pinned (OpenSpec.ofChange variantsAlikeWrong)

/-- 'eponymlaw19.VariantsChecks': WHATEVER THE INPUT: true; the input reads as it did. -/
def variantsChecksSpec : ChangeSpec := { name := "variantsChecks", fn := fun _ => fun
  | [d] => { results := [.lit (.bool true)], args := [d] }
  | _ => none }
def variantsChecksRow : OpenClaim := { program := "ytjhgaacecfmadaadoor", sum := "0b9ffd8cd52d3342ecb4c2cd9e120e6d1a82be819a2c54af1f0ecedc5b388319", func := "eponym/eponymlaw19.VariantsChecks", spec := "variantsChecks", inPlace := ["internal/reflectlite.ValueOf", "(internal/reflectlite.Value).Type", "(internal/reflectlite.Value).IsNil", "internal/reflectlite.TypeOf", "(internal/reflectlite.Value).Elem", "(internal/reflectlite.Value).Set"], unfollowed := true, recurses := true, named := ["eponym/api.ErrForm", "eponym/api.ErrFull", "eponym/api.ErrThere", "eponym/api.ErrRange", "eponym/api.ErrByte", "eponym/api.ErrEnd", "errors.errorType", "eponym/api.ErrEmpty", "eponym/api.ErrOrder", "eponym/api.ErrLong", "eponym/api.ErrNone", "eponym/api.ErrDeep", "eponym/api.ErrClass", "eponym/api.ErrContext", "eponym/api.ErrBidi", "eponym/api.ErrHyphen", "eponym/api.ErrNorm", "eponym/api.ErrPuny", "eponym/api.ErrKind"], plainKeys := false, apart := false, laid := [("errors.errorType", laid_errors_errorType), ("eponym/api.ErrByte", laid_eponym_api_ErrByte), ("eponym/api.ErrEnd", laid_eponym_api_ErrEnd), ("eponym/api.ErrLong", laid_eponym_api_ErrLong), ("eponym/api.ErrRange", laid_eponym_api_ErrRange), ("eponym/api.ErrForm", laid_eponym_api_ErrForm), ("eponym/api.ErrOrder", laid_eponym_api_ErrOrder), ("eponym/api.ErrThere", laid_eponym_api_ErrThere), ("eponym/api.ErrNone", laid_eponym_api_ErrNone), ("eponym/api.ErrDeep", laid_eponym_api_ErrDeep), ("eponym/api.ErrClass", laid_eponym_api_ErrClass), ("eponym/api.ErrContext", laid_eponym_api_ErrContext), ("eponym/api.ErrBidi", laid_eponym_api_ErrBidi), ("eponym/api.ErrHyphen", laid_eponym_api_ErrHyphen), ("eponym/api.ErrNorm", laid_eponym_api_ErrNorm), ("eponym/api.ErrPuny", laid_eponym_api_ErrPuny), ("eponym/api.ErrEmpty", laid_eponym_api_ErrEmpty), ("eponym/api.ErrKind", laid_eponym_api_ErrKind), ("eponym/api.ErrFull", laid_eponym_api_ErrFull)] }
def VariantsChecksSaid : Prop := variantsChecksRow.holds Tryd.pinned (OpenSpec.ofChange variantsChecksSpec)

/-- ITS FALSE NEIGHBOUR: 'it returns false'. Refute it at one input. -/
def variantsChecksWrong : ChangeSpec := { name := "variantsChecks", fn := fun _ => fun
  | [d] => { results := [.lit (.bool false)], args := [d] }
  | _ => none }
def VariantsChecksWrongFalsely : Prop := variantsChecksRow.holds Tryd.pinned (OpenSpec.ofChange variantsChecksWrong)

/-- 'eponymlaw04.DecompAlls': WHATEVER THE INPUT: true; the input reads as it did. -/
def decompAllsSpec : ChangeSpec := { name := "decompAlls", fn := fun _ => fun
  | [d1, d2] => { results := [.lit (.bool true)], args := [d1, d2] }
  | _ => none }
def decompAllsRow : OpenClaim := { program := "ytjhgaacecfmadaadoor", sum := "0b9ffd8cd52d3342ecb4c2cd9e120e6d1a82be819a2c54af1f0ecedc5b388319", func := "eponym/eponymlaw04.DecompAlls", spec := "decompAlls", unfollowed := true, recurses := true, named := ["eponym/api.ErrFull", "eponym/api.ErrDeep", "eponym/api.ErrKind", "eponym/api.ErrRange", "eponym/api.ErrOrder", "eponym/api.ErrForm", "eponym/api.ErrThere"], plainKeys := false, apart := false, laid := [("eponym/api.ErrRange", laid_eponym_api_ErrRange), ("eponym/api.ErrForm", laid_eponym_api_ErrForm), ("eponym/api.ErrOrder", laid_eponym_api_ErrOrder), ("eponym/api.ErrThere", laid_eponym_api_ErrThere), ("eponym/api.ErrDeep", laid_eponym_api_ErrDeep), ("eponym/api.ErrKind", laid_eponym_api_ErrKind), ("eponym/api.ErrFull", laid_eponym_api_ErrFull)] }
def DecompAllsSaid : Prop := decompAllsRow.holds Tryd.pinned (OpenSpec.ofChange decompAllsSpec)

/-- ITS FALSE NEIGHBOUR: 'it returns false'. Refute it at one input. -/
def decompAllsWrong : ChangeSpec := { name := "decompAlls", fn := fun _ => fun
  | [d1, d2] => { results := [.lit (.bool false)], args := [d1, d2] }
  | _ => none }
def DecompAllsWrongFalsely : Prop := decompAllsRow.holds Tryd.pinned (OpenSpec.ofChange decompAllsWrong)

/-- 'eponymlaw04.DecompStays': WHATEVER THE INPUT: true; the input reads as it did. -/
def decompStaysSpec : ChangeSpec := { name := "decompStays", fn := fun _ => fun
  | [d1, d2, d3] => { results := [.lit (.bool true)], args := [d1, d2, d3] }
  | _ => none }
def decompStaysRow : OpenClaim := { program := "ytjhgaacecfmadaadoor", sum := "0b9ffd8cd52d3342ecb4c2cd9e120e6d1a82be819a2c54af1f0ecedc5b388319", func := "eponym/eponymlaw04.DecompStays", spec := "decompStays", unfollowed := true, recurses := true, named := ["eponym/api.ErrFull", "eponym/api.ErrDeep", "eponym/api.ErrKind", "eponym/api.ErrRange", "eponym/api.ErrOrder", "eponym/api.ErrForm", "eponym/api.ErrThere"], plainKeys := false, apart := false, laid := [("eponym/api.ErrRange", laid_eponym_api_ErrRange), ("eponym/api.ErrForm", laid_eponym_api_ErrForm), ("eponym/api.ErrOrder", laid_eponym_api_ErrOrder), ("eponym/api.ErrThere", laid_eponym_api_ErrThere), ("eponym/api.ErrDeep", laid_eponym_api_ErrDeep), ("eponym/api.ErrKind", laid_eponym_api_ErrKind), ("eponym/api.ErrFull", laid_eponym_api_ErrFull)] }
def DecompStaysSaid : Prop := decompStaysRow.holds Tryd.pinned (OpenSpec.ofChange decompStaysSpec)

/-- ITS FALSE NEIGHBOUR: 'it returns false'. Refute it at one input. -/
def decompStaysWrong : ChangeSpec := { name := "decompStays", fn := fun _ => fun
  | [d1, d2, d3] => { results := [.lit (.bool false)], args := [d1, d2, d3] }
  | _ => none }
def DecompStaysWrongFalsely : Prop := decompStaysRow.holds Tryd.pinned (OpenSpec.ofChange decompStaysWrong)

/-- 'eponymlaw04.DecompChecks': WHATEVER THE INPUT: true; the input reads as it did. -/
def decompChecksSpec : ChangeSpec := { name := "decompChecks", fn := fun _ => fun
  | [d] => { results := [.lit (.bool true)], args := [d] }
  | _ => none }
def decompChecksRow : OpenClaim := { program := "ytjhgaacecfmadaadoor", sum := "0b9ffd8cd52d3342ecb4c2cd9e120e6d1a82be819a2c54af1f0ecedc5b388319", func := "eponym/eponymlaw04.DecompChecks", spec := "decompChecks", inPlace := ["internal/reflectlite.ValueOf", "(internal/reflectlite.Value).Type", "(internal/reflectlite.Value).IsNil", "internal/reflectlite.TypeOf", "(internal/reflectlite.Value).Elem", "(internal/reflectlite.Value).Set"], unfollowed := true, recurses := true, named := ["eponym/api.ErrFull", "eponym/api.ErrDeep", "eponym/api.ErrKind", "eponym/api.ErrRange", "eponym/api.ErrOrder", "eponym/api.ErrForm", "eponym/api.ErrThere", "errors.errorType", "eponym/api.ErrByte", "eponym/api.ErrEnd", "eponym/api.ErrLong", "eponym/api.ErrNone", "eponym/api.ErrClass", "eponym/api.ErrContext", "eponym/api.ErrBidi", "eponym/api.ErrHyphen", "eponym/api.ErrNorm", "eponym/api.ErrPuny", "eponym/api.ErrEmpty"], plainKeys := false, apart := false, laid := [("errors.errorType", laid_errors_errorType), ("eponym/api.ErrByte", laid_eponym_api_ErrByte), ("eponym/api.ErrEnd", laid_eponym_api_ErrEnd), ("eponym/api.ErrLong", laid_eponym_api_ErrLong), ("eponym/api.ErrRange", laid_eponym_api_ErrRange), ("eponym/api.ErrForm", laid_eponym_api_ErrForm), ("eponym/api.ErrOrder", laid_eponym_api_ErrOrder), ("eponym/api.ErrThere", laid_eponym_api_ErrThere), ("eponym/api.ErrNone", laid_eponym_api_ErrNone), ("eponym/api.ErrDeep", laid_eponym_api_ErrDeep), ("eponym/api.ErrClass", laid_eponym_api_ErrClass), ("eponym/api.ErrContext", laid_eponym_api_ErrContext), ("eponym/api.ErrBidi", laid_eponym_api_ErrBidi), ("eponym/api.ErrHyphen", laid_eponym_api_ErrHyphen), ("eponym/api.ErrNorm", laid_eponym_api_ErrNorm), ("eponym/api.ErrPuny", laid_eponym_api_ErrPuny), ("eponym/api.ErrEmpty", laid_eponym_api_ErrEmpty), ("eponym/api.ErrKind", laid_eponym_api_ErrKind), ("eponym/api.ErrFull", laid_eponym_api_ErrFull)] }
def DecompChecksSaid : Prop := decompChecksRow.holds Tryd.pinned (OpenSpec.ofChange decompChecksSpec)

/-- ITS FALSE NEIGHBOUR: 'it returns false'. Refute it at one input. -/
def decompChecksWrong : ChangeSpec := { name := "decompChecks", fn := fun _ => fun
  | [d] => { results := [.lit (.bool false)], args := [d] }
  | _ => none }
def DecompChecksWrongFalsely : Prop := decompChecksRow.holds Tryd.pinned (OpenSpec.ofChange decompChecksWrong)

/-- 'eponymlaw05.CompStays': WHATEVER THE INPUT: true; the input reads as it did. -/
def compStaysSpec : ChangeSpec := { name := "compStays", fn := fun _ => fun
  | [d1, d2] => { results := [.lit (.bool true)], args := [d1, d2] }
  | _ => none }
def compStaysRow : OpenClaim := { program := "ytjhgaacecfmadaadoor", sum := "0b9ffd8cd52d3342ecb4c2cd9e120e6d1a82be819a2c54af1f0ecedc5b388319", func := "eponym/eponymlaw05.CompStays", spec := "compStays", unfollowed := true, recurses := true, named := ["eponym/api.ErrFull", "eponym/api.ErrDeep", "eponym/api.ErrKind", "eponym/api.ErrRange", "eponym/api.ErrOrder", "eponym/api.ErrForm", "eponym/api.ErrThere"], plainKeys := false, apart := false, laid := [("eponym/api.ErrRange", laid_eponym_api_ErrRange), ("eponym/api.ErrForm", laid_eponym_api_ErrForm), ("eponym/api.ErrOrder", laid_eponym_api_ErrOrder), ("eponym/api.ErrThere", laid_eponym_api_ErrThere), ("eponym/api.ErrDeep", laid_eponym_api_ErrDeep), ("eponym/api.ErrKind", laid_eponym_api_ErrKind), ("eponym/api.ErrFull", laid_eponym_api_ErrFull)] }
def CompStaysSaid : Prop := compStaysRow.holds Tryd.pinned (OpenSpec.ofChange compStaysSpec)

/-- ITS FALSE NEIGHBOUR: 'it returns false'. Refute it at one input. -/
def compStaysWrong : ChangeSpec := { name := "compStays", fn := fun _ => fun
  | [d1, d2] => { results := [.lit (.bool false)], args := [d1, d2] }
  | _ => none }
def CompStaysWrongFalsely : Prop := compStaysRow.holds Tryd.pinned (OpenSpec.ofChange compStaysWrong)

/-- 'eponymlaw05.CompSame': WHATEVER THE INPUT: true; the input reads as it did. -/
def compSameSpec : ChangeSpec := { name := "compSame", fn := fun _ => fun
  | [d1, d2, d3] => { results := [.lit (.bool true)], args := [d1, d2, d3] }
  | _ => none }
def compSameRow : OpenClaim := { program := "ytjhgaacecfmadaadoor", sum := "0b9ffd8cd52d3342ecb4c2cd9e120e6d1a82be819a2c54af1f0ecedc5b388319", func := "eponym/eponymlaw05.CompSame", spec := "compSame", unfollowed := true, recurses := true, named := ["eponym/api.ErrFull", "eponym/api.ErrDeep", "eponym/api.ErrKind", "eponym/api.ErrRange", "eponym/api.ErrOrder", "eponym/api.ErrForm", "eponym/api.ErrThere"], plainKeys := false, apart := false, laid := [("eponym/api.ErrRange", laid_eponym_api_ErrRange), ("eponym/api.ErrForm", laid_eponym_api_ErrForm), ("eponym/api.ErrOrder", laid_eponym_api_ErrOrder), ("eponym/api.ErrThere", laid_eponym_api_ErrThere), ("eponym/api.ErrDeep", laid_eponym_api_ErrDeep), ("eponym/api.ErrKind", laid_eponym_api_ErrKind), ("eponym/api.ErrFull", laid_eponym_api_ErrFull)] }
def CompSameSaid : Prop := compSameRow.holds Tryd.pinned (OpenSpec.ofChange compSameSpec)

/-- ITS FALSE NEIGHBOUR: 'it returns false'. Refute it at one input. -/
def compSameWrong : ChangeSpec := { name := "compSame", fn := fun _ => fun
  | [d1, d2, d3] => { results := [.lit (.bool false)], args := [d1, d2, d3] }
  | _ => none }
def CompSameWrongFalsely : Prop := compSameRow.holds Tryd.pinned (OpenSpec.ofChange compSameWrong)

/-- 'eponymlaw08.ContextsChecks': WHATEVER THE INPUT: true; the input reads as it did. -/
def contextsChecksSpec : ChangeSpec := { name := "contextsChecks", fn := fun _ => fun
  | [d1, d2] => { results := [.lit (.bool true)], args := [d1, d2] }
  | _ => none }
def contextsChecksRow : OpenClaim := { program := "ytjhgaacecfmadaadoor", sum := "0b9ffd8cd52d3342ecb4c2cd9e120e6d1a82be819a2c54af1f0ecedc5b388319", func := "eponym/eponymlaw08.ContextsChecks", spec := "contextsChecks", inPlace := ["internal/reflectlite.ValueOf", "(internal/reflectlite.Value).Type", "(internal/reflectlite.Value).IsNil", "internal/reflectlite.TypeOf", "(internal/reflectlite.Value).Elem", "(internal/reflectlite.Value).Set"], unfollowed := true, recurses := true, named := ["eponym/api.ErrFull", "eponym/api.ErrDeep", "eponym/api.ErrKind", "eponym/api.ErrRange", "eponym/api.ErrOrder", "eponym/api.ErrForm", "eponym/api.ErrThere", "errors.errorType", "eponym/api.ErrByte", "eponym/api.ErrEnd", "eponym/api.ErrLong", "eponym/api.ErrNone", "eponym/api.ErrClass", "eponym/api.ErrContext", "eponym/api.ErrBidi", "eponym/api.ErrHyphen", "eponym/api.ErrNorm", "eponym/api.ErrPuny", "eponym/api.ErrEmpty"], plainKeys := false, apart := false, laid := [("errors.errorType", laid_errors_errorType), ("eponym/api.ErrByte", laid_eponym_api_ErrByte), ("eponym/api.ErrEnd", laid_eponym_api_ErrEnd), ("eponym/api.ErrLong", laid_eponym_api_ErrLong), ("eponym/api.ErrRange", laid_eponym_api_ErrRange), ("eponym/api.ErrForm", laid_eponym_api_ErrForm), ("eponym/api.ErrOrder", laid_eponym_api_ErrOrder), ("eponym/api.ErrThere", laid_eponym_api_ErrThere), ("eponym/api.ErrNone", laid_eponym_api_ErrNone), ("eponym/api.ErrDeep", laid_eponym_api_ErrDeep), ("eponym/api.ErrClass", laid_eponym_api_ErrClass), ("eponym/api.ErrContext", laid_eponym_api_ErrContext), ("eponym/api.ErrBidi", laid_eponym_api_ErrBidi), ("eponym/api.ErrHyphen", laid_eponym_api_ErrHyphen), ("eponym/api.ErrNorm", laid_eponym_api_ErrNorm), ("eponym/api.ErrPuny", laid_eponym_api_ErrPuny), ("eponym/api.ErrEmpty", laid_eponym_api_ErrEmpty), ("eponym/api.ErrKind", laid_eponym_api_ErrKind), ("eponym/api.ErrFull", laid_eponym_api_ErrFull)] }
def ContextsChecksSaid : Prop := contextsChecksRow.holds Tryd.pinned (OpenSpec.ofChange contextsChecksSpec)

/-- ITS FALSE NEIGHBOUR: 'it returns false'. Refute it at one input. -/
def contextsChecksWrong : ChangeSpec := { name := "contextsChecks", fn := fun _ => fun
  | [d1, d2] => { results := [.lit (.bool false)], args := [d1, d2] }
  | _ => none }
def ContextsChecksWrongFalsely : Prop := contextsChecksRow.holds Tryd.pinned (OpenSpec.ofChange contextsChecksWrong)

/- THE SECOND FORM. 'bulk': how many values and letters a reading holds, each counted each time it is reached (what is shared counts as often as it is met; a slice's spare places count too). A statement '..UptoSaid' is the law's where the arguments, and the package variables that the reading takes, are together of bulk at most 1048576: NARROWER than '..Said'. Prove '..Said' where nothing that the law and all that it calls make is longer than what came in: it says more and counts as full. Else prove '..UptoSaid'. A law counts once. -/
mutual
def uptoBulk {H : Type} : DataW H → Nat
  | .lit (.string bytes) => bytes.length + 1
  | .lit _ => 1
  | .nil => 1
  | .ptr d => uptoBulk d + 1
  | .slice elems spare => uptoBulkAll elems + uptoBulkAll spare + 1
  | .agg parts => uptoBulkAll parts + 1
  | .iface _ d => uptoBulk d + 1
  | .map entries => uptoBulkEntries entries + 1
  | .held _ => 1
def uptoBulkAll {H : Type} : List (DataW H) → Nat
  | [] => 0
  | d :: r => uptoBulk d + uptoBulkAll r
def uptoBulkEntries {H : Type} : List (Lit × DataW H) → Nat
  | [] => 0
  | x :: r => uptoBulkEntry x + uptoBulkEntries r
def uptoBulkEntry {H : Type} : Lit × DataW H → Nat
  | (.string bytes, d) => bytes.length + uptoBulk d + 1
  | (_, d) => uptoBulk d + 1
 end
def uptoSmall : (H : Type) → List (DataW H) → Bool := fun _ ds => decide (uptoBulkAll ds ≤ 1048576)
def OpenSpec.upto (s : _root_.Go.ChangeSpec) : _root_.Go.OpenSpec := { _root_.Go.OpenSpec.ofChange s with cond := some uptoSmall }

/-- 'eponymlaw07.ClassesLetters', WHERE WHAT IT READS IS OF BULK AT MOST 1048576: true; the input reads as it did. -/
def classesLettersUptoRow : OpenClaim := { program := "ytjhgaacecfmadaadoor", sum := "0b9ffd8cd52d3342ecb4c2cd9e120e6d1a82be819a2c54af1f0ecedc5b388319", func := "eponym/eponymlaw07.ClassesLetters", spec := "classesLetters", unfollowed := true, recurses := true, named := ["eponym/api.ErrKind", "eponym/api.ErrFull", "eponym/api.ErrRange", "eponym/api.ErrOrder"], plainKeys := false, apart := false, laid := [("eponym/api.ErrRange", laid_eponym_api_ErrRange), ("eponym/api.ErrOrder", laid_eponym_api_ErrOrder), ("eponym/api.ErrKind", laid_eponym_api_ErrKind), ("eponym/api.ErrFull", laid_eponym_api_ErrFull)], narrowed := true }
def ClassesLettersUptoSaid : Prop := classesLettersUptoRow.holds Tryd.pinned (OpenSpec.upto classesLettersSpec)

/-- 'eponymlaw09.BidiEnds', WHERE WHAT IT READS IS OF BULK AT MOST 1048576: true; the input reads as it did. -/
def bidiEndsUptoRow : OpenClaim := { program := "ytjhgaacecfmadaadoor", sum := "0b9ffd8cd52d3342ecb4c2cd9e120e6d1a82be819a2c54af1f0ecedc5b388319", func := "eponym/eponymlaw09.BidiEnds", spec := "bidiEnds", unfollowed := true, recurses := true, named := ["eponym/api.ErrKind", "eponym/api.ErrFull", "eponym/api.ErrRange", "eponym/api.ErrOrder", "eponym/api.ErrBidi"], plainKeys := false, apart := false, laid := [("eponym/api.ErrRange", laid_eponym_api_ErrRange), ("eponym/api.ErrOrder", laid_eponym_api_ErrOrder), ("eponym/api.ErrBidi", laid_eponym_api_ErrBidi), ("eponym/api.ErrKind", laid_eponym_api_ErrKind), ("eponym/api.ErrFull", laid_eponym_api_ErrFull)], narrowed := true }
def BidiEndsUptoSaid : Prop := bidiEndsUptoRow.holds Tryd.pinned (OpenSpec.upto bidiEndsSpec)

/-- 'eponymlaw04.DecompOnes', WHERE WHAT IT READS IS OF BULK AT MOST 1048576: true; the input reads as it did. -/
def decompOnesUptoRow : OpenClaim := { program := "ytjhgaacecfmadaadoor", sum := "0b9ffd8cd52d3342ecb4c2cd9e120e6d1a82be819a2c54af1f0ecedc5b388319", func := "eponym/eponymlaw04.DecompOnes", spec := "decompOnes", unfollowed := true, recurses := true, named := ["eponym/api.ErrFull", "eponym/api.ErrDeep", "eponym/api.ErrKind", "eponym/api.ErrRange", "eponym/api.ErrOrder", "eponym/api.ErrForm", "eponym/api.ErrThere"], plainKeys := false, apart := false, laid := [("eponym/api.ErrRange", laid_eponym_api_ErrRange), ("eponym/api.ErrForm", laid_eponym_api_ErrForm), ("eponym/api.ErrOrder", laid_eponym_api_ErrOrder), ("eponym/api.ErrThere", laid_eponym_api_ErrThere), ("eponym/api.ErrDeep", laid_eponym_api_ErrDeep), ("eponym/api.ErrKind", laid_eponym_api_ErrKind), ("eponym/api.ErrFull", laid_eponym_api_ErrFull)], narrowed := true }
def DecompOnesUptoSaid : Prop := decompOnesUptoRow.holds Tryd.pinned (OpenSpec.upto decompOnesSpec)

/-- 'eponymlaw04.DecompSyllables', WHERE WHAT IT READS IS OF BULK AT MOST 1048576: true; the input reads as it did. -/
def decompSyllablesUptoRow : OpenClaim := { program := "ytjhgaacecfmadaadoor", sum := "0b9ffd8cd52d3342ecb4c2cd9e120e6d1a82be819a2c54af1f0ecedc5b388319", func := "eponym/eponymlaw04.DecompSyllables", spec := "decompSyllables", unfollowed := true, recurses := true, named := ["eponym/api.ErrFull", "eponym/api.ErrDeep", "eponym/api.ErrKind", "eponym/api.ErrRange", "eponym/api.ErrOrder", "eponym/api.ErrForm", "eponym/api.ErrThere"], plainKeys := false, apart := false, laid := [("eponym/api.ErrRange", laid_eponym_api_ErrRange), ("eponym/api.ErrForm", laid_eponym_api_ErrForm), ("eponym/api.ErrOrder", laid_eponym_api_ErrOrder), ("eponym/api.ErrThere", laid_eponym_api_ErrThere), ("eponym/api.ErrDeep", laid_eponym_api_ErrDeep), ("eponym/api.ErrKind", laid_eponym_api_ErrKind), ("eponym/api.ErrFull", laid_eponym_api_ErrFull)], narrowed := true }
def DecompSyllablesUptoSaid : Prop := decompSyllablesUptoRow.holds Tryd.pinned (OpenSpec.upto decompSyllablesSpec)

/-- 'eponymlaw09.BidiBreaks', WHERE WHAT IT READS IS OF BULK AT MOST 1048576: true; the input reads as it did. -/
def bidiBreaksUptoRow : OpenClaim := { program := "ytjhgaacecfmadaadoor", sum := "0b9ffd8cd52d3342ecb4c2cd9e120e6d1a82be819a2c54af1f0ecedc5b388319", func := "eponym/eponymlaw09.BidiBreaks", spec := "bidiBreaks", inPlace := ["internal/reflectlite.ValueOf", "(internal/reflectlite.Value).Type", "(internal/reflectlite.Value).IsNil", "internal/reflectlite.TypeOf", "(internal/reflectlite.Value).Elem", "(internal/reflectlite.Value).Set"], unfollowed := true, recurses := true, named := ["eponym/api.ErrBidi", "errors.errorType", "eponym/api.ErrByte", "eponym/api.ErrEnd", "eponym/api.ErrLong", "eponym/api.ErrRange", "eponym/api.ErrForm", "eponym/api.ErrOrder", "eponym/api.ErrThere", "eponym/api.ErrNone", "eponym/api.ErrDeep", "eponym/api.ErrClass", "eponym/api.ErrContext", "eponym/api.ErrHyphen", "eponym/api.ErrNorm", "eponym/api.ErrPuny", "eponym/api.ErrEmpty", "eponym/api.ErrKind", "eponym/api.ErrFull"], plainKeys := false, apart := false, laid := [("errors.errorType", laid_errors_errorType), ("eponym/api.ErrByte", laid_eponym_api_ErrByte), ("eponym/api.ErrEnd", laid_eponym_api_ErrEnd), ("eponym/api.ErrLong", laid_eponym_api_ErrLong), ("eponym/api.ErrRange", laid_eponym_api_ErrRange), ("eponym/api.ErrForm", laid_eponym_api_ErrForm), ("eponym/api.ErrOrder", laid_eponym_api_ErrOrder), ("eponym/api.ErrThere", laid_eponym_api_ErrThere), ("eponym/api.ErrNone", laid_eponym_api_ErrNone), ("eponym/api.ErrDeep", laid_eponym_api_ErrDeep), ("eponym/api.ErrClass", laid_eponym_api_ErrClass), ("eponym/api.ErrContext", laid_eponym_api_ErrContext), ("eponym/api.ErrBidi", laid_eponym_api_ErrBidi), ("eponym/api.ErrHyphen", laid_eponym_api_ErrHyphen), ("eponym/api.ErrNorm", laid_eponym_api_ErrNorm), ("eponym/api.ErrPuny", laid_eponym_api_ErrPuny), ("eponym/api.ErrEmpty", laid_eponym_api_ErrEmpty), ("eponym/api.ErrKind", laid_eponym_api_ErrKind), ("eponym/api.ErrFull", laid_eponym_api_ErrFull)], narrowed := true }
def BidiBreaksUptoSaid : Prop := bidiBreaksUptoRow.holds Tryd.pinned (OpenSpec.upto bidiBreaksSpec)

/-- 'eponymlaw07.ClassesChecks', WHERE WHAT IT READS IS OF BULK AT MOST 1048576: true; the input reads as it did. -/
def classesChecksUptoRow : OpenClaim := { program := "ytjhgaacecfmadaadoor", sum := "0b9ffd8cd52d3342ecb4c2cd9e120e6d1a82be819a2c54af1f0ecedc5b388319", func := "eponym/eponymlaw07.ClassesChecks", spec := "classesChecks", inPlace := ["internal/reflectlite.ValueOf", "(internal/reflectlite.Value).Type", "(internal/reflectlite.Value).IsNil", "internal/reflectlite.TypeOf", "(internal/reflectlite.Value).Elem", "(internal/reflectlite.Value).Set"], unfollowed := true, recurses := true, named := ["eponym/api.ErrKind", "eponym/api.ErrFull", "eponym/api.ErrRange", "eponym/api.ErrOrder", "errors.errorType", "eponym/api.ErrByte", "eponym/api.ErrEnd", "eponym/api.ErrLong", "eponym/api.ErrForm", "eponym/api.ErrThere", "eponym/api.ErrNone", "eponym/api.ErrDeep", "eponym/api.ErrClass", "eponym/api.ErrContext", "eponym/api.ErrBidi", "eponym/api.ErrHyphen", "eponym/api.ErrNorm", "eponym/api.ErrPuny", "eponym/api.ErrEmpty"], plainKeys := false, apart := false, laid := [("errors.errorType", laid_errors_errorType), ("eponym/api.ErrByte", laid_eponym_api_ErrByte), ("eponym/api.ErrEnd", laid_eponym_api_ErrEnd), ("eponym/api.ErrLong", laid_eponym_api_ErrLong), ("eponym/api.ErrRange", laid_eponym_api_ErrRange), ("eponym/api.ErrForm", laid_eponym_api_ErrForm), ("eponym/api.ErrOrder", laid_eponym_api_ErrOrder), ("eponym/api.ErrThere", laid_eponym_api_ErrThere), ("eponym/api.ErrNone", laid_eponym_api_ErrNone), ("eponym/api.ErrDeep", laid_eponym_api_ErrDeep), ("eponym/api.ErrClass", laid_eponym_api_ErrClass), ("eponym/api.ErrContext", laid_eponym_api_ErrContext), ("eponym/api.ErrBidi", laid_eponym_api_ErrBidi), ("eponym/api.ErrHyphen", laid_eponym_api_ErrHyphen), ("eponym/api.ErrNorm", laid_eponym_api_ErrNorm), ("eponym/api.ErrPuny", laid_eponym_api_ErrPuny), ("eponym/api.ErrEmpty", laid_eponym_api_ErrEmpty), ("eponym/api.ErrKind", laid_eponym_api_ErrKind), ("eponym/api.ErrFull", laid_eponym_api_ErrFull)], narrowed := true }
def ClassesChecksUptoSaid : Prop := classesChecksUptoRow.holds Tryd.pinned (OpenSpec.upto classesChecksSpec)

/-- 'eponymlaw09.BidiNames', WHERE WHAT IT READS IS OF BULK AT MOST 1048576: true; the input reads as it did. -/
def bidiNamesUptoRow : OpenClaim := { program := "ytjhgaacecfmadaadoor", sum := "0b9ffd8cd52d3342ecb4c2cd9e120e6d1a82be819a2c54af1f0ecedc5b388319", func := "eponym/eponymlaw09.BidiNames", spec := "bidiNames", inPlace := ["internal/reflectlite.ValueOf", "(internal/reflectlite.Value).Type", "(internal/reflectlite.Value).IsNil", "internal/reflectlite.TypeOf", "(internal/reflectlite.Value).Elem", "(internal/reflectlite.Value).Set"], unfollowed := true, recurses := true, named := ["eponym/api.ErrBidi", "errors.errorType", "eponym/api.ErrByte", "eponym/api.ErrEnd", "eponym/api.ErrLong", "eponym/api.ErrRange", "eponym/api.ErrForm", "eponym/api.ErrOrder", "eponym/api.ErrThere", "eponym/api.ErrNone", "eponym/api.ErrDeep", "eponym/api.ErrClass", "eponym/api.ErrContext", "eponym/api.ErrHyphen", "eponym/api.ErrNorm", "eponym/api.ErrPuny", "eponym/api.ErrEmpty", "eponym/api.ErrKind", "eponym/api.ErrFull"], plainKeys := false, apart := false, laid := [("errors.errorType", laid_errors_errorType), ("eponym/api.ErrByte", laid_eponym_api_ErrByte), ("eponym/api.ErrEnd", laid_eponym_api_ErrEnd), ("eponym/api.ErrLong", laid_eponym_api_ErrLong), ("eponym/api.ErrRange", laid_eponym_api_ErrRange), ("eponym/api.ErrForm", laid_eponym_api_ErrForm), ("eponym/api.ErrOrder", laid_eponym_api_ErrOrder), ("eponym/api.ErrThere", laid_eponym_api_ErrThere), ("eponym/api.ErrNone", laid_eponym_api_ErrNone), ("eponym/api.ErrDeep", laid_eponym_api_ErrDeep), ("eponym/api.ErrClass", laid_eponym_api_ErrClass), ("eponym/api.ErrContext", laid_eponym_api_ErrContext), ("eponym/api.ErrBidi", laid_eponym_api_ErrBidi), ("eponym/api.ErrHyphen", laid_eponym_api_ErrHyphen), ("eponym/api.ErrNorm", laid_eponym_api_ErrNorm), ("eponym/api.ErrPuny", laid_eponym_api_ErrPuny), ("eponym/api.ErrEmpty", laid_eponym_api_ErrEmpty), ("eponym/api.ErrKind", laid_eponym_api_ErrKind), ("eponym/api.ErrFull", laid_eponym_api_ErrFull)], narrowed := true }
def BidiNamesUptoSaid : Prop := bidiNamesUptoRow.holds Tryd.pinned (OpenSpec.upto bidiNamesSpec)

/-- 'eponymlaw08.ContextsDigits', WHERE WHAT IT READS IS OF BULK AT MOST 1048576: true; the input reads as it did. -/
def contextsDigitsUptoRow : OpenClaim := { program := "ytjhgaacecfmadaadoor", sum := "0b9ffd8cd52d3342ecb4c2cd9e120e6d1a82be819a2c54af1f0ecedc5b388319", func := "eponym/eponymlaw08.ContextsDigits", spec := "contextsDigits", unfollowed := true, recurses := true, named := ["eponym/api.ErrFull", "eponym/api.ErrDeep", "eponym/api.ErrKind", "eponym/api.ErrRange", "eponym/api.ErrOrder", "eponym/api.ErrForm", "eponym/api.ErrThere"], plainKeys := false, apart := false, laid := [("eponym/api.ErrRange", laid_eponym_api_ErrRange), ("eponym/api.ErrForm", laid_eponym_api_ErrForm), ("eponym/api.ErrOrder", laid_eponym_api_ErrOrder), ("eponym/api.ErrThere", laid_eponym_api_ErrThere), ("eponym/api.ErrDeep", laid_eponym_api_ErrDeep), ("eponym/api.ErrKind", laid_eponym_api_ErrKind), ("eponym/api.ErrFull", laid_eponym_api_ErrFull)], narrowed := true }
def ContextsDigitsUptoSaid : Prop := contextsDigitsUptoRow.holds Tryd.pinned (OpenSpec.upto contextsDigitsSpec)

/-- 'eponymlaw08.ContextsBehind', WHERE WHAT IT READS IS OF BULK AT MOST 1048576: true; the input reads as it did. -/
def contextsBehindUptoRow : OpenClaim := { program := "ytjhgaacecfmadaadoor", sum := "0b9ffd8cd52d3342ecb4c2cd9e120e6d1a82be819a2c54af1f0ecedc5b388319", func := "eponym/eponymlaw08.ContextsBehind", spec := "contextsBehind", unfollowed := true, recurses := true, named := ["eponym/api.ErrFull", "eponym/api.ErrDeep", "eponym/api.ErrKind", "eponym/api.ErrRange", "eponym/api.ErrOrder", "eponym/api.ErrForm", "eponym/api.ErrThere"], plainKeys := false, apart := false, laid := [("eponym/api.ErrRange", laid_eponym_api_ErrRange), ("eponym/api.ErrForm", laid_eponym_api_ErrForm), ("eponym/api.ErrOrder", laid_eponym_api_ErrOrder), ("eponym/api.ErrThere", laid_eponym_api_ErrThere), ("eponym/api.ErrDeep", laid_eponym_api_ErrDeep), ("eponym/api.ErrKind", laid_eponym_api_ErrKind), ("eponym/api.ErrFull", laid_eponym_api_ErrFull)], narrowed := true }
def ContextsBehindUptoSaid : Prop := contextsBehindUptoRow.holds Tryd.pinned (OpenSpec.upto contextsBehindSpec)

/-- 'eponymlaw19.VariantsAlike', WHERE WHAT IT READS IS OF BULK AT MOST 1048576: true; the input reads as it did. -/
def variantsAlikeUptoRow : OpenClaim := { program := "ytjhgaacecfmadaadoor", sum := "0b9ffd8cd52d3342ecb4c2cd9e120e6d1a82be819a2c54af1f0ecedc5b388319", func := "eponym/eponymlaw19.VariantsAlike", spec := "variantsAlike", inPlace := ["internal/reflectlite.ValueOf", "(internal/reflectlite.Value).Type", "(internal/reflectlite.Value).IsNil", "internal/reflectlite.TypeOf", "(internal/reflectlite.Value).Elem", "(internal/reflectlite.Value).Set"], unfollowed := true, recurses := true, named := ["eponym/api.ErrForm", "eponym/api.ErrFull", "eponym/api.ErrThere", "eponym/api.ErrRange", "eponym/api.ErrByte", "eponym/api.ErrEnd", "errors.errorType", "eponym/api.ErrEmpty", "eponym/api.ErrOrder"], plainKeys := false, apart := false, laid := [("errors.errorType", laid_errors_errorType), ("eponym/api.ErrByte", laid_eponym_api_ErrByte), ("eponym/api.ErrEnd", laid_eponym_api_ErrEnd), ("eponym/api.ErrRange", laid_eponym_api_ErrRange), ("eponym/api.ErrForm", laid_eponym_api_ErrForm), ("eponym/api.ErrOrder", laid_eponym_api_ErrOrder), ("eponym/api.ErrThere", laid_eponym_api_ErrThere), ("eponym/api.ErrEmpty", laid_eponym_api_ErrEmpty), ("eponym/api.ErrFull", laid_eponym_api_ErrFull)], narrowed := true }
def VariantsAlikeUptoSaid : Prop := variantsAlikeUptoRow.holds Tryd.pinned (OpenSpec.upto variantsAlikeSpec)

/-- 'eponymlaw19.VariantsChecks', WHERE WHAT IT READS IS OF BULK AT MOST 1048576: true; the input reads as it did. -/
def variantsChecksUptoRow : OpenClaim := { program := "ytjhgaacecfmadaadoor", sum := "0b9ffd8cd52d3342ecb4c2cd9e120e6d1a82be819a2c54af1f0ecedc5b388319", func := "eponym/eponymlaw19.VariantsChecks", spec := "variantsChecks", inPlace := ["internal/reflectlite.ValueOf", "(internal/reflectlite.Value).Type", "(internal/reflectlite.Value).IsNil", "internal/reflectlite.TypeOf", "(internal/reflectlite.Value).Elem", "(internal/reflectlite.Value).Set"], unfollowed := true, recurses := true, named := ["eponym/api.ErrForm", "eponym/api.ErrFull", "eponym/api.ErrThere", "eponym/api.ErrRange", "eponym/api.ErrByte", "eponym/api.ErrEnd", "errors.errorType", "eponym/api.ErrEmpty", "eponym/api.ErrOrder", "eponym/api.ErrLong", "eponym/api.ErrNone", "eponym/api.ErrDeep", "eponym/api.ErrClass", "eponym/api.ErrContext", "eponym/api.ErrBidi", "eponym/api.ErrHyphen", "eponym/api.ErrNorm", "eponym/api.ErrPuny", "eponym/api.ErrKind"], plainKeys := false, apart := false, laid := [("errors.errorType", laid_errors_errorType), ("eponym/api.ErrByte", laid_eponym_api_ErrByte), ("eponym/api.ErrEnd", laid_eponym_api_ErrEnd), ("eponym/api.ErrLong", laid_eponym_api_ErrLong), ("eponym/api.ErrRange", laid_eponym_api_ErrRange), ("eponym/api.ErrForm", laid_eponym_api_ErrForm), ("eponym/api.ErrOrder", laid_eponym_api_ErrOrder), ("eponym/api.ErrThere", laid_eponym_api_ErrThere), ("eponym/api.ErrNone", laid_eponym_api_ErrNone), ("eponym/api.ErrDeep", laid_eponym_api_ErrDeep), ("eponym/api.ErrClass", laid_eponym_api_ErrClass), ("eponym/api.ErrContext", laid_eponym_api_ErrContext), ("eponym/api.ErrBidi", laid_eponym_api_ErrBidi), ("eponym/api.ErrHyphen", laid_eponym_api_ErrHyphen), ("eponym/api.ErrNorm", laid_eponym_api_ErrNorm), ("eponym/api.ErrPuny", laid_eponym_api_ErrPuny), ("eponym/api.ErrEmpty", laid_eponym_api_ErrEmpty), ("eponym/api.ErrKind", laid_eponym_api_ErrKind), ("eponym/api.ErrFull", laid_eponym_api_ErrFull)], narrowed := true }
def VariantsChecksUptoSaid : Prop := variantsChecksUptoRow.holds Tryd.pinned (OpenSpec.upto variantsChecksSpec)

/-- 'eponymlaw04.DecompAlls', WHERE WHAT IT READS IS OF BULK AT MOST 1048576: true; the input reads as it did. -/
def decompAllsUptoRow : OpenClaim := { program := "ytjhgaacecfmadaadoor", sum := "0b9ffd8cd52d3342ecb4c2cd9e120e6d1a82be819a2c54af1f0ecedc5b388319", func := "eponym/eponymlaw04.DecompAlls", spec := "decompAlls", unfollowed := true, recurses := true, named := ["eponym/api.ErrFull", "eponym/api.ErrDeep", "eponym/api.ErrKind", "eponym/api.ErrRange", "eponym/api.ErrOrder", "eponym/api.ErrForm", "eponym/api.ErrThere"], plainKeys := false, apart := false, laid := [("eponym/api.ErrRange", laid_eponym_api_ErrRange), ("eponym/api.ErrForm", laid_eponym_api_ErrForm), ("eponym/api.ErrOrder", laid_eponym_api_ErrOrder), ("eponym/api.ErrThere", laid_eponym_api_ErrThere), ("eponym/api.ErrDeep", laid_eponym_api_ErrDeep), ("eponym/api.ErrKind", laid_eponym_api_ErrKind), ("eponym/api.ErrFull", laid_eponym_api_ErrFull)], narrowed := true }
def DecompAllsUptoSaid : Prop := decompAllsUptoRow.holds Tryd.pinned (OpenSpec.upto decompAllsSpec)

/-- 'eponymlaw04.DecompStays', WHERE WHAT IT READS IS OF BULK AT MOST 1048576: true; the input reads as it did. -/
def decompStaysUptoRow : OpenClaim := { program := "ytjhgaacecfmadaadoor", sum := "0b9ffd8cd52d3342ecb4c2cd9e120e6d1a82be819a2c54af1f0ecedc5b388319", func := "eponym/eponymlaw04.DecompStays", spec := "decompStays", unfollowed := true, recurses := true, named := ["eponym/api.ErrFull", "eponym/api.ErrDeep", "eponym/api.ErrKind", "eponym/api.ErrRange", "eponym/api.ErrOrder", "eponym/api.ErrForm", "eponym/api.ErrThere"], plainKeys := false, apart := false, laid := [("eponym/api.ErrRange", laid_eponym_api_ErrRange), ("eponym/api.ErrForm", laid_eponym_api_ErrForm), ("eponym/api.ErrOrder", laid_eponym_api_ErrOrder), ("eponym/api.ErrThere", laid_eponym_api_ErrThere), ("eponym/api.ErrDeep", laid_eponym_api_ErrDeep), ("eponym/api.ErrKind", laid_eponym_api_ErrKind), ("eponym/api.ErrFull", laid_eponym_api_ErrFull)], narrowed := true }
def DecompStaysUptoSaid : Prop := decompStaysUptoRow.holds Tryd.pinned (OpenSpec.upto decompStaysSpec)

/-- 'eponymlaw04.DecompChecks', WHERE WHAT IT READS IS OF BULK AT MOST 1048576: true; the input reads as it did. -/
def decompChecksUptoRow : OpenClaim := { program := "ytjhgaacecfmadaadoor", sum := "0b9ffd8cd52d3342ecb4c2cd9e120e6d1a82be819a2c54af1f0ecedc5b388319", func := "eponym/eponymlaw04.DecompChecks", spec := "decompChecks", inPlace := ["internal/reflectlite.ValueOf", "(internal/reflectlite.Value).Type", "(internal/reflectlite.Value).IsNil", "internal/reflectlite.TypeOf", "(internal/reflectlite.Value).Elem", "(internal/reflectlite.Value).Set"], unfollowed := true, recurses := true, named := ["eponym/api.ErrFull", "eponym/api.ErrDeep", "eponym/api.ErrKind", "eponym/api.ErrRange", "eponym/api.ErrOrder", "eponym/api.ErrForm", "eponym/api.ErrThere", "errors.errorType", "eponym/api.ErrByte", "eponym/api.ErrEnd", "eponym/api.ErrLong", "eponym/api.ErrNone", "eponym/api.ErrClass", "eponym/api.ErrContext", "eponym/api.ErrBidi", "eponym/api.ErrHyphen", "eponym/api.ErrNorm", "eponym/api.ErrPuny", "eponym/api.ErrEmpty"], plainKeys := false, apart := false, laid := [("errors.errorType", laid_errors_errorType), ("eponym/api.ErrByte", laid_eponym_api_ErrByte), ("eponym/api.ErrEnd", laid_eponym_api_ErrEnd), ("eponym/api.ErrLong", laid_eponym_api_ErrLong), ("eponym/api.ErrRange", laid_eponym_api_ErrRange), ("eponym/api.ErrForm", laid_eponym_api_ErrForm), ("eponym/api.ErrOrder", laid_eponym_api_ErrOrder), ("eponym/api.ErrThere", laid_eponym_api_ErrThere), ("eponym/api.ErrNone", laid_eponym_api_ErrNone), ("eponym/api.ErrDeep", laid_eponym_api_ErrDeep), ("eponym/api.ErrClass", laid_eponym_api_ErrClass), ("eponym/api.ErrContext", laid_eponym_api_ErrContext), ("eponym/api.ErrBidi", laid_eponym_api_ErrBidi), ("eponym/api.ErrHyphen", laid_eponym_api_ErrHyphen), ("eponym/api.ErrNorm", laid_eponym_api_ErrNorm), ("eponym/api.ErrPuny", laid_eponym_api_ErrPuny), ("eponym/api.ErrEmpty", laid_eponym_api_ErrEmpty), ("eponym/api.ErrKind", laid_eponym_api_ErrKind), ("eponym/api.ErrFull", laid_eponym_api_ErrFull)], narrowed := true }
def DecompChecksUptoSaid : Prop := decompChecksUptoRow.holds Tryd.pinned (OpenSpec.upto decompChecksSpec)

/-- 'eponymlaw05.CompStays', WHERE WHAT IT READS IS OF BULK AT MOST 1048576: true; the input reads as it did. -/
def compStaysUptoRow : OpenClaim := { program := "ytjhgaacecfmadaadoor", sum := "0b9ffd8cd52d3342ecb4c2cd9e120e6d1a82be819a2c54af1f0ecedc5b388319", func := "eponym/eponymlaw05.CompStays", spec := "compStays", unfollowed := true, recurses := true, named := ["eponym/api.ErrFull", "eponym/api.ErrDeep", "eponym/api.ErrKind", "eponym/api.ErrRange", "eponym/api.ErrOrder", "eponym/api.ErrForm", "eponym/api.ErrThere"], plainKeys := false, apart := false, laid := [("eponym/api.ErrRange", laid_eponym_api_ErrRange), ("eponym/api.ErrForm", laid_eponym_api_ErrForm), ("eponym/api.ErrOrder", laid_eponym_api_ErrOrder), ("eponym/api.ErrThere", laid_eponym_api_ErrThere), ("eponym/api.ErrDeep", laid_eponym_api_ErrDeep), ("eponym/api.ErrKind", laid_eponym_api_ErrKind), ("eponym/api.ErrFull", laid_eponym_api_ErrFull)], narrowed := true }
def CompStaysUptoSaid : Prop := compStaysUptoRow.holds Tryd.pinned (OpenSpec.upto compStaysSpec)

/-- 'eponymlaw05.CompSame', WHERE WHAT IT READS IS OF BULK AT MOST 1048576: true; the input reads as it did. -/
def compSameUptoRow : OpenClaim := { program := "ytjhgaacecfmadaadoor", sum := "0b9ffd8cd52d3342ecb4c2cd9e120e6d1a82be819a2c54af1f0ecedc5b388319", func := "eponym/eponymlaw05.CompSame", spec := "compSame", unfollowed := true, recurses := true, named := ["eponym/api.ErrFull", "eponym/api.ErrDeep", "eponym/api.ErrKind", "eponym/api.ErrRange", "eponym/api.ErrOrder", "eponym/api.ErrForm", "eponym/api.ErrThere"], plainKeys := false, apart := false, laid := [("eponym/api.ErrRange", laid_eponym_api_ErrRange), ("eponym/api.ErrForm", laid_eponym_api_ErrForm), ("eponym/api.ErrOrder", laid_eponym_api_ErrOrder), ("eponym/api.ErrThere", laid_eponym_api_ErrThere), ("eponym/api.ErrDeep", laid_eponym_api_ErrDeep), ("eponym/api.ErrKind", laid_eponym_api_ErrKind), ("eponym/api.ErrFull", laid_eponym_api_ErrFull)], narrowed := true }
def CompSameUptoSaid : Prop := compSameUptoRow.holds Tryd.pinned (OpenSpec.upto compSameSpec)

/-- 'eponymlaw08.ContextsChecks', WHERE WHAT IT READS IS OF BULK AT MOST 1048576: true; the input reads as it did. -/
def contextsChecksUptoRow : OpenClaim := { program := "ytjhgaacecfmadaadoor", sum := "0b9ffd8cd52d3342ecb4c2cd9e120e6d1a82be819a2c54af1f0ecedc5b388319", func := "eponym/eponymlaw08.ContextsChecks", spec := "contextsChecks", inPlace := ["internal/reflectlite.ValueOf", "(internal/reflectlite.Value).Type", "(internal/reflectlite.Value).IsNil", "internal/reflectlite.TypeOf", "(internal/reflectlite.Value).Elem", "(internal/reflectlite.Value).Set"], unfollowed := true, recurses := true, named := ["eponym/api.ErrFull", "eponym/api.ErrDeep", "eponym/api.ErrKind", "eponym/api.ErrRange", "eponym/api.ErrOrder", "eponym/api.ErrForm", "eponym/api.ErrThere", "errors.errorType", "eponym/api.ErrByte", "eponym/api.ErrEnd", "eponym/api.ErrLong", "eponym/api.ErrNone", "eponym/api.ErrClass", "eponym/api.ErrContext", "eponym/api.ErrBidi", "eponym/api.ErrHyphen", "eponym/api.ErrNorm", "eponym/api.ErrPuny", "eponym/api.ErrEmpty"], plainKeys := false, apart := false, laid := [("errors.errorType", laid_errors_errorType), ("eponym/api.ErrByte", laid_eponym_api_ErrByte), ("eponym/api.ErrEnd", laid_eponym_api_ErrEnd), ("eponym/api.ErrLong", laid_eponym_api_ErrLong), ("eponym/api.ErrRange", laid_eponym_api_ErrRange), ("eponym/api.ErrForm", laid_eponym_api_ErrForm), ("eponym/api.ErrOrder", laid_eponym_api_ErrOrder), ("eponym/api.ErrThere", laid_eponym_api_ErrThere), ("eponym/api.ErrNone", laid_eponym_api_ErrNone), ("eponym/api.ErrDeep", laid_eponym_api_ErrDeep), ("eponym/api.ErrClass", laid_eponym_api_ErrClass), ("eponym/api.ErrContext", laid_eponym_api_ErrContext), ("eponym/api.ErrBidi", laid_eponym_api_ErrBidi), ("eponym/api.ErrHyphen", laid_eponym_api_ErrHyphen), ("eponym/api.ErrNorm", laid_eponym_api_ErrNorm), ("eponym/api.ErrPuny", laid_eponym_api_ErrPuny), ("eponym/api.ErrEmpty", laid_eponym_api_ErrEmpty), ("eponym/api.ErrKind", laid_eponym_api_ErrKind), ("eponym/api.ErrFull", laid_eponym_api_ErrFull)], narrowed := true }
def ContextsChecksUptoSaid : Prop := contextsChecksUptoRow.holds Tryd.pinned (OpenSpec.upto contextsChecksSpec)

end Rows
end Go.Proofs.YtjhgaacecfmadaaDoor
