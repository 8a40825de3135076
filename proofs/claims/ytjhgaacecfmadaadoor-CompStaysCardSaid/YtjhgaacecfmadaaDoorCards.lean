/-
  DERIVED. GIVEN WITH THE SEED: THE CARDS: each row of YtjhgaacecfmadaaDoorRows.lean that lists a variable, with what it lists TIED to the program's text (the seventh form; the later family's looks); each row that meets fmt, with fmt's text TOLD by the authors' own Lean function (tested against real Go, not proved from fmt's source: count such statements apart). THE CARD IS WHAT COUNTS. Prove the row's statement (the work); the ties are given (YtjhgaacecfmadaaDoorTie.lean); close each card by the builder's one call (the guide's Derived/Test/ToyasCard.lean, 'card_holds'). Laid BY PROGRAM, IN A SANDBOX (cutbox-door.mjs). By AI agents, Wed Nov 11 2026. No macro, syntax, notation, axiom, sorry.
-/
import Derived.Test.YtjhgaacecfmadaaDoorRows
import GoSem.ClaimSeven
namespace Go.Proofs.YtjhgaacecfmadaaDoor
namespace Rows

/-- THE TIED CARD OF 'eponymlaw07.ClassesLetters'. -/
def classesLettersCard : Claim7 := { stood := { row := classesLettersRow, standIns := [], harness := (true, "7bede78d00c4cdd5d533e047a33d9230bc718a783d3f63241c7f983115507577"), looks := true }, kinds := [], alts := [], laidByText := true, laidKinds := [.sentinel, .sentinel, .sentinel, .sentinel], laidTests := true, laidLooks := .later }
def ClassesLettersCardSaid : Prop := Claim7.holds Tryd.pinned (.plain (OpenSpec.ofChange classesLettersSpec)) classesLettersCard

/-- THE TIED CARD OF 'eponymlaw09.BidiEnds'. -/
def bidiEndsCard : Claim7 := { stood := { row := bidiEndsRow, standIns := [], harness := (true, "7bede78d00c4cdd5d533e047a33d9230bc718a783d3f63241c7f983115507577"), looks := true }, kinds := [], alts := [], laidByText := true, laidKinds := [.sentinel, .sentinel, .sentinel, .sentinel, .sentinel], laidTests := true, laidLooks := .later }
def BidiEndsCardSaid : Prop := Claim7.holds Tryd.pinned (.plain (OpenSpec.ofChange bidiEndsSpec)) bidiEndsCard

/-- THE TIED CARD OF 'eponymlaw04.DecompOnes'. -/
def decompOnesCard : Claim7 := { stood := { row := decompOnesRow, standIns := [], harness := (true, "7bede78d00c4cdd5d533e047a33d9230bc718a783d3f63241c7f983115507577"), looks := true }, kinds := [], alts := [], laidByText := true, laidKinds := [.sentinel, .sentinel, .sentinel, .sentinel, .sentinel, .sentinel, .sentinel], laidTests := true, laidLooks := .later }
def DecompOnesCardSaid : Prop := Claim7.holds Tryd.pinned (.plain (OpenSpec.ofChange decompOnesSpec)) decompOnesCard

/-- THE TIED CARD OF 'eponymlaw04.DecompSyllables'. -/
def decompSyllablesCard : Claim7 := { stood := { row := decompSyllablesRow, standIns := [], harness := (true, "7bede78d00c4cdd5d533e047a33d9230bc718a783d3f63241c7f983115507577"), looks := true }, kinds := [], alts := [], laidByText := true, laidKinds := [.sentinel, .sentinel, .sentinel, .sentinel, .sentinel, .sentinel, .sentinel], laidTests := true, laidLooks := .later }
def DecompSyllablesCardSaid : Prop := Claim7.holds Tryd.pinned (.plain (OpenSpec.ofChange decompSyllablesSpec)) decompSyllablesCard

/-- THE TIED CARD OF 'eponymlaw09.BidiBreaks'. -/
def bidiBreaksCard : Claim7 := { stood := { row := bidiBreaksRow, standIns := [], harness := (true, "7bede78d00c4cdd5d533e047a33d9230bc718a783d3f63241c7f983115507577"), looks := true }, kinds := [], alts := [], laidByText := true, laidKinds := [.handle, .sentinel, .sentinel, .sentinel, .sentinel, .sentinel, .sentinel, .sentinel, .sentinel, .sentinel, .sentinel, .sentinel, .sentinel, .sentinel, .sentinel, .sentinel, .sentinel, .sentinel, .sentinel], laidTests := true, laidLooks := .later }
def BidiBreaksCardSaid : Prop := Claim7.holds Tryd.pinned (.plain (OpenSpec.ofChange bidiBreaksSpec)) bidiBreaksCard

/-- THE TIED CARD OF 'eponymlaw07.ClassesChecks'. -/
def classesChecksCard : Claim7 := { stood := { row := classesChecksRow, standIns := [], harness := (true, "7bede78d00c4cdd5d533e047a33d9230bc718a783d3f63241c7f983115507577"), looks := true }, kinds := [], alts := [], laidByText := true, laidKinds := [.handle, .sentinel, .sentinel, .sentinel, .sentinel, .sentinel, .sentinel, .sentinel, .sentinel, .sentinel, .sentinel, .sentinel, .sentinel, .sentinel, .sentinel, .sentinel, .sentinel, .sentinel, .sentinel], laidTests := true, laidLooks := .later }
def ClassesChecksCardSaid : Prop := Claim7.holds Tryd.pinned (.plain (OpenSpec.ofChange classesChecksSpec)) classesChecksCard

/-- THE TIED CARD OF 'eponymlaw09.BidiNames'. -/
def bidiNamesCard : Claim7 := { stood := { row := bidiNamesRow, standIns := [], harness := (true, "7bede78d00c4cdd5d533e047a33d9230bc718a783d3f63241c7f983115507577"), looks := true }, kinds := [], alts := [], laidByText := true, laidKinds := [.handle, .sentinel, .sentinel, .sentinel, .sentinel, .sentinel, .sentinel, .sentinel, .sentinel, .sentinel, .sentinel, .sentinel, .sentinel, .sentinel, .sentinel, .sentinel, .sentinel, .sentinel, .sentinel], laidTests := true, laidLooks := .later }
def BidiNamesCardSaid : Prop := Claim7.holds Tryd.pinned (.plain (OpenSpec.ofChange bidiNamesSpec)) bidiNamesCard

/-- THE TIED CARD OF 'eponymlaw08.ContextsDigits'. -/
def contextsDigitsCard : Claim7 := { stood := { row := contextsDigitsRow, standIns := [], harness := (true, "7bede78d00c4cdd5d533e047a33d9230bc718a783d3f63241c7f983115507577"), looks := true }, kinds := [], alts := [], laidByText := true, laidKinds := [.sentinel, .sentinel, .sentinel, .sentinel, .sentinel, .sentinel, .sentinel], laidTests := true, laidLooks := .later }
def ContextsDigitsCardSaid : Prop := Claim7.holds Tryd.pinned (.plain (OpenSpec.ofChange contextsDigitsSpec)) contextsDigitsCard

/-- THE TIED CARD OF 'eponymlaw08.ContextsBehind'. -/
def contextsBehindCard : Claim7 := { stood := { row := contextsBehindRow, standIns := [], harness := (true, "7bede78d00c4cdd5d533e047a33d9230bc718a783d3f63241c7f983115507577"), looks := true }, kinds := [], alts := [], laidByText := true, laidKinds := [.sentinel, .sentinel, .sentinel, .sentinel, .sentinel, .sentinel, .sentinel], laidTests := true, laidLooks := .later }
def ContextsBehindCardSaid : Prop := Claim7.holds Tryd.pinned (.plain (OpenSpec.ofChange contextsBehindSpec)) contextsBehindCard

/-- THE TIED CARD OF 'eponymlaw19.VariantsAlike'. -/
def variantsAlikeCard : Claim7 := { stood := { row := variantsAlikeRow, standIns := [], harness := (true, "7bede78d00c4cdd5d533e047a33d9230bc718a783d3f63241c7f983115507577"), looks := true }, kinds := [], alts := [], laidByText := true, laidKinds := [.handle, .sentinel, .sentinel, .sentinel, .sentinel, .sentinel, .sentinel, .sentinel, .sentinel], laidTests := true, laidLooks := .later }
def VariantsAlikeCardSaid : Prop := Claim7.holds Tryd.pinned (.plain (OpenSpec.ofChange variantsAlikeSpec)) variantsAlikeCard

/-- THE TIED CARD OF 'eponymlaw19.VariantsChecks'. -/
def variantsChecksCard : Claim7 := { stood := { row := variantsChecksRow, standIns := [], harness := (true, "7bede78d00c4cdd5d533e047a33d9230bc718a783d3f63241c7f983115507577"), looks := true }, kinds := [], alts := [], laidByText := true, laidKinds := [.handle, .sentinel, .sentinel, .sentinel, .sentinel, .sentinel, .sentinel, .sentinel, .sentinel, .sentinel, .sentinel, .sentinel, .sentinel, .sentinel, .sentinel, .sentinel, .sentinel, .sentinel, .sentinel], laidTests := true, laidLooks := .later }
def VariantsChecksCardSaid : Prop := Claim7.holds Tryd.pinned (.plain (OpenSpec.ofChange variantsChecksSpec)) variantsChecksCard

/-- THE TIED CARD OF 'eponymlaw04.DecompAlls'. -/
def decompAllsCard : Claim7 := { stood := { row := decompAllsRow, standIns := [], harness := (true, "7bede78d00c4cdd5d533e047a33d9230bc718a783d3f63241c7f983115507577"), looks := true }, kinds := [], alts := [], laidByText := true, laidKinds := [.sentinel, .sentinel, .sentinel, .sentinel, .sentinel, .sentinel, .sentinel], laidTests := true, laidLooks := .later }
def DecompAllsCardSaid : Prop := Claim7.holds Tryd.pinned (.plain (OpenSpec.ofChange decompAllsSpec)) decompAllsCard

/-- THE TIED CARD OF 'eponymlaw04.DecompStays'. -/
def decompStaysCard : Claim7 := { stood := { row := decompStaysRow, standIns := [], harness := (true, "7bede78d00c4cdd5d533e047a33d9230bc718a783d3f63241c7f983115507577"), looks := true }, kinds := [], alts := [], laidByText := true, laidKinds := [.sentinel, .sentinel, .sentinel, .sentinel, .sentinel, .sentinel, .sentinel], laidTests := true, laidLooks := .later }
def DecompStaysCardSaid : Prop := Claim7.holds Tryd.pinned (.plain (OpenSpec.ofChange decompStaysSpec)) decompStaysCard

/-- THE TIED CARD OF 'eponymlaw04.DecompChecks'. -/
def decompChecksCard : Claim7 := { stood := { row := decompChecksRow, standIns := [], harness := (true, "7bede78d00c4cdd5d533e047a33d9230bc718a783d3f63241c7f983115507577"), looks := true }, kinds := [], alts := [], laidByText := true, laidKinds := [.handle, .sentinel, .sentinel, .sentinel, .sentinel, .sentinel, .sentinel, .sentinel, .sentinel, .sentinel, .sentinel, .sentinel, .sentinel, .sentinel, .sentinel, .sentinel, .sentinel, .sentinel, .sentinel], laidTests := true, laidLooks := .later }
def DecompChecksCardSaid : Prop := Claim7.holds Tryd.pinned (.plain (OpenSpec.ofChange decompChecksSpec)) decompChecksCard

/-- THE TIED CARD OF 'eponymlaw05.CompStays'. -/
def compStaysCard : Claim7 := { stood := { row := compStaysRow, standIns := [], harness := (true, "7bede78d00c4cdd5d533e047a33d9230bc718a783d3f63241c7f983115507577"), looks := true }, kinds := [], alts := [], laidByText := true, laidKinds := [.sentinel, .sentinel, .sentinel, .sentinel, .sentinel, .sentinel, .sentinel], laidTests := true, laidLooks := .later }
def CompStaysCardSaid : Prop := Claim7.holds Tryd.pinned (.plain (OpenSpec.ofChange compStaysSpec)) compStaysCard

/-- THE TIED CARD OF 'eponymlaw05.CompSame'. -/
def compSameCard : Claim7 := { stood := { row := compSameRow, standIns := [], harness := (true, "7bede78d00c4cdd5d533e047a33d9230bc718a783d3f63241c7f983115507577"), looks := true }, kinds := [], alts := [], laidByText := true, laidKinds := [.sentinel, .sentinel, .sentinel, .sentinel, .sentinel, .sentinel, .sentinel], laidTests := true, laidLooks := .later }
def CompSameCardSaid : Prop := Claim7.holds Tryd.pinned (.plain (OpenSpec.ofChange compSameSpec)) compSameCard

/-- THE TIED CARD OF 'eponymlaw08.ContextsChecks'. -/
def contextsChecksCard : Claim7 := { stood := { row := contextsChecksRow, standIns := [], harness := (true, "7bede78d00c4cdd5d533e047a33d9230bc718a783d3f63241c7f983115507577"), looks := true }, kinds := [], alts := [], laidByText := true, laidKinds := [.handle, .sentinel, .sentinel, .sentinel, .sentinel, .sentinel, .sentinel, .sentinel, .sentinel, .sentinel, .sentinel, .sentinel, .sentinel, .sentinel, .sentinel, .sentinel, .sentinel, .sentinel, .sentinel], laidTests := true, laidLooks := .later }
def ContextsChecksCardSaid : Prop := Claim7.holds Tryd.pinned (.plain (OpenSpec.ofChange contextsChecksSpec)) contextsChecksCard

/-- THE SECOND FORM's CARD OF 'eponymlaw07.ClassesLetters'. -/
def classesLettersUptoCard : Claim7 := { stood := { row := classesLettersUptoRow, standIns := [], harness := (true, "7bede78d00c4cdd5d533e047a33d9230bc718a783d3f63241c7f983115507577"), looks := true }, kinds := [], alts := [], laidByText := true, laidKinds := [.sentinel, .sentinel, .sentinel, .sentinel], laidTests := true, laidLooks := .later }
def ClassesLettersUptoCardSaid : Prop := Claim7.holds Tryd.pinned (.plain (OpenSpec.upto classesLettersSpec)) classesLettersUptoCard

/-- THE SECOND FORM's CARD OF 'eponymlaw09.BidiEnds'. -/
def bidiEndsUptoCard : Claim7 := { stood := { row := bidiEndsUptoRow, standIns := [], harness := (true, "7bede78d00c4cdd5d533e047a33d9230bc718a783d3f63241c7f983115507577"), looks := true }, kinds := [], alts := [], laidByText := true, laidKinds := [.sentinel, .sentinel, .sentinel, .sentinel, .sentinel], laidTests := true, laidLooks := .later }
def BidiEndsUptoCardSaid : Prop := Claim7.holds Tryd.pinned (.plain (OpenSpec.upto bidiEndsSpec)) bidiEndsUptoCard

/-- THE SECOND FORM's CARD OF 'eponymlaw04.DecompOnes'. -/
def decompOnesUptoCard : Claim7 := { stood := { row := decompOnesUptoRow, standIns := [], harness := (true, "7bede78d00c4cdd5d533e047a33d9230bc718a783d3f63241c7f983115507577"), looks := true }, kinds := [], alts := [], laidByText := true, laidKinds := [.sentinel, .sentinel, .sentinel, .sentinel, .sentinel, .sentinel, .sentinel], laidTests := true, laidLooks := .later }
def DecompOnesUptoCardSaid : Prop := Claim7.holds Tryd.pinned (.plain (OpenSpec.upto decompOnesSpec)) decompOnesUptoCard

/-- THE SECOND FORM's CARD OF 'eponymlaw04.DecompSyllables'. -/
def decompSyllablesUptoCard : Claim7 := { stood := { row := decompSyllablesUptoRow, standIns := [], harness := (true, "7bede78d00c4cdd5d533e047a33d9230bc718a783d3f63241c7f983115507577"), looks := true }, kinds := [], alts := [], laidByText := true, laidKinds := [.sentinel, .sentinel, .sentinel, .sentinel, .sentinel, .sentinel, .sentinel], laidTests := true, laidLooks := .later }
def DecompSyllablesUptoCardSaid : Prop := Claim7.holds Tryd.pinned (.plain (OpenSpec.upto decompSyllablesSpec)) decompSyllablesUptoCard

/-- THE SECOND FORM's CARD OF 'eponymlaw09.BidiBreaks'. -/
def bidiBreaksUptoCard : Claim7 := { stood := { row := bidiBreaksUptoRow, standIns := [], harness := (true, "7bede78d00c4cdd5d533e047a33d9230bc718a783d3f63241c7f983115507577"), looks := true }, kinds := [], alts := [], laidByText := true, laidKinds := [.handle, .sentinel, .sentinel, .sentinel, .sentinel, .sentinel, .sentinel, .sentinel, .sentinel, .sentinel, .sentinel, .sentinel, .sentinel, .sentinel, .sentinel, .sentinel, .sentinel, .sentinel, .sentinel], laidTests := true, laidLooks := .later }
def BidiBreaksUptoCardSaid : Prop := Claim7.holds Tryd.pinned (.plain (OpenSpec.upto bidiBreaksSpec)) bidiBreaksUptoCard

/-- THE SECOND FORM's CARD OF 'eponymlaw07.ClassesChecks'. -/
def classesChecksUptoCard : Claim7 := { stood := { row := classesChecksUptoRow, standIns := [], harness := (true, "7bede78d00c4cdd5d533e047a33d9230bc718a783d3f63241c7f983115507577"), looks := true }, kinds := [], alts := [], laidByText := true, laidKinds := [.handle, .sentinel, .sentinel, .sentinel, .sentinel, .sentinel, .sentinel, .sentinel, .sentinel, .sentinel, .sentinel, .sentinel, .sentinel, .sentinel, .sentinel, .sentinel, .sentinel, .sentinel, .sentinel], laidTests := true, laidLooks := .later }
def ClassesChecksUptoCardSaid : Prop := Claim7.holds Tryd.pinned (.plain (OpenSpec.upto classesChecksSpec)) classesChecksUptoCard

/-- THE SECOND FORM's CARD OF 'eponymlaw09.BidiNames'. -/
def bidiNamesUptoCard : Claim7 := { stood := { row := bidiNamesUptoRow, standIns := [], harness := (true, "7bede78d00c4cdd5d533e047a33d9230bc718a783d3f63241c7f983115507577"), looks := true }, kinds := [], alts := [], laidByText := true, laidKinds := [.handle, .sentinel, .sentinel, .sentinel, .sentinel, .sentinel, .sentinel, .sentinel, .sentinel, .sentinel, .sentinel, .sentinel, .sentinel, .sentinel, .sentinel, .sentinel, .sentinel, .sentinel, .sentinel], laidTests := true, laidLooks := .later }
def BidiNamesUptoCardSaid : Prop := Claim7.holds Tryd.pinned (.plain (OpenSpec.upto bidiNamesSpec)) bidiNamesUptoCard

/-- THE SECOND FORM's CARD OF 'eponymlaw08.ContextsDigits'. -/
def contextsDigitsUptoCard : Claim7 := { stood := { row := contextsDigitsUptoRow, standIns := [], harness := (true, "7bede78d00c4cdd5d533e047a33d9230bc718a783d3f63241c7f983115507577"), looks := true }, kinds := [], alts := [], laidByText := true, laidKinds := [.sentinel, .sentinel, .sentinel, .sentinel, .sentinel, .sentinel, .sentinel], laidTests := true, laidLooks := .later }
def ContextsDigitsUptoCardSaid : Prop := Claim7.holds Tryd.pinned (.plain (OpenSpec.upto contextsDigitsSpec)) contextsDigitsUptoCard

/-- THE SECOND FORM's CARD OF 'eponymlaw08.ContextsBehind'. -/
def contextsBehindUptoCard : Claim7 := { stood := { row := contextsBehindUptoRow, standIns := [], harness := (true, "7bede78d00c4cdd5d533e047a33d9230bc718a783d3f63241c7f983115507577"), looks := true }, kinds := [], alts := [], laidByText := true, laidKinds := [.sentinel, .sentinel, .sentinel, .sentinel, .sentinel, .sentinel, .sentinel], laidTests := true, laidLooks := .later }
def ContextsBehindUptoCardSaid : Prop := Claim7.holds Tryd.pinned (.plain (OpenSpec.upto contextsBehindSpec)) contextsBehindUptoCard

/-- THE SECOND FORM's CARD OF 'eponymlaw19.VariantsAlike'. -/
def variantsAlikeUptoCard : Claim7 := { stood := { row := variantsAlikeUptoRow, standIns := [], harness := (true, "7bede78d00c4cdd5d533e047a33d9230bc718a783d3f63241c7f983115507577"), looks := true }, kinds := [], alts := [], laidByText := true, laidKinds := [.handle, .sentinel, .sentinel, .sentinel, .sentinel, .sentinel, .sentinel, .sentinel, .sentinel], laidTests := true, laidLooks := .later }
def VariantsAlikeUptoCardSaid : Prop := Claim7.holds Tryd.pinned (.plain (OpenSpec.upto variantsAlikeSpec)) variantsAlikeUptoCard

/-- THE SECOND FORM's CARD OF 'eponymlaw19.VariantsChecks'. -/
def variantsChecksUptoCard : Claim7 := { stood := { row := variantsChecksUptoRow, standIns := [], harness := (true, "7bede78d00c4cdd5d533e047a33d9230bc718a783d3f63241c7f983115507577"), looks := true }, kinds := [], alts := [], laidByText := true, laidKinds := [.handle, .sentinel, .sentinel, .sentinel, .sentinel, .sentinel, .sentinel, .sentinel, .sentinel, .sentinel, .sentinel, .sentinel, .sentinel, .sentinel, .sentinel, .sentinel, .sentinel, .sentinel, .sentinel], laidTests := true, laidLooks := .later }
def VariantsChecksUptoCardSaid : Prop := Claim7.holds Tryd.pinned (.plain (OpenSpec.upto variantsChecksSpec)) variantsChecksUptoCard

/-- THE SECOND FORM's CARD OF 'eponymlaw04.DecompAlls'. -/
def decompAllsUptoCard : Claim7 := { stood := { row := decompAllsUptoRow, standIns := [], harness := (true, "7bede78d00c4cdd5d533e047a33d9230bc718a783d3f63241c7f983115507577"), looks := true }, kinds := [], alts := [], laidByText := true, laidKinds := [.sentinel, .sentinel, .sentinel, .sentinel, .sentinel, .sentinel, .sentinel], laidTests := true, laidLooks := .later }
def DecompAllsUptoCardSaid : Prop := Claim7.holds Tryd.pinned (.plain (OpenSpec.upto decompAllsSpec)) decompAllsUptoCard

/-- THE SECOND FORM's CARD OF 'eponymlaw04.DecompStays'. -/
def decompStaysUptoCard : Claim7 := { stood := { row := decompStaysUptoRow, standIns := [], harness := (true, "7bede78d00c4cdd5d533e047a33d9230bc718a783d3f63241c7f983115507577"), looks := true }, kinds := [], alts := [], laidByText := true, laidKinds := [.sentinel, .sentinel, .sentinel, .sentinel, .sentinel, .sentinel, .sentinel], laidTests := true, laidLooks := .later }
def DecompStaysUptoCardSaid : Prop := Claim7.holds Tryd.pinned (.plain (OpenSpec.upto decompStaysSpec)) decompStaysUptoCard

/-- THE SECOND FORM's CARD OF 'eponymlaw04.DecompChecks'. -/
def decompChecksUptoCard : Claim7 := { stood := { row := decompChecksUptoRow, standIns := [], harness := (true, "7bede78d00c4cdd5d533e047a33d9230bc718a783d3f63241c7f983115507577"), looks := true }, kinds := [], alts := [], laidByText := true, laidKinds := [.handle, .sentinel, .sentinel, .sentinel, .sentinel, .sentinel, .sentinel, .sentinel, .sentinel, .sentinel, .sentinel, .sentinel, .sentinel, .sentinel, .sentinel, .sentinel, .sentinel, .sentinel, .sentinel], laidTests := true, laidLooks := .later }
def DecompChecksUptoCardSaid : Prop := Claim7.holds Tryd.pinned (.plain (OpenSpec.upto decompChecksSpec)) decompChecksUptoCard

/-- THE SECOND FORM's CARD OF 'eponymlaw05.CompStays'. -/
def compStaysUptoCard : Claim7 := { stood := { row := compStaysUptoRow, standIns := [], harness := (true, "7bede78d00c4cdd5d533e047a33d9230bc718a783d3f63241c7f983115507577"), looks := true }, kinds := [], alts := [], laidByText := true, laidKinds := [.sentinel, .sentinel, .sentinel, .sentinel, .sentinel, .sentinel, .sentinel], laidTests := true, laidLooks := .later }
def CompStaysUptoCardSaid : Prop := Claim7.holds Tryd.pinned (.plain (OpenSpec.upto compStaysSpec)) compStaysUptoCard

/-- THE SECOND FORM's CARD OF 'eponymlaw05.CompSame'. -/
def compSameUptoCard : Claim7 := { stood := { row := compSameUptoRow, standIns := [], harness := (true, "7bede78d00c4cdd5d533e047a33d9230bc718a783d3f63241c7f983115507577"), looks := true }, kinds := [], alts := [], laidByText := true, laidKinds := [.sentinel, .sentinel, .sentinel, .sentinel, .sentinel, .sentinel, .sentinel], laidTests := true, laidLooks := .later }
def CompSameUptoCardSaid : Prop := Claim7.holds Tryd.pinned (.plain (OpenSpec.upto compSameSpec)) compSameUptoCard

/-- THE SECOND FORM's CARD OF 'eponymlaw08.ContextsChecks'. -/
def contextsChecksUptoCard : Claim7 := { stood := { row := contextsChecksUptoRow, standIns := [], harness := (true, "7bede78d00c4cdd5d533e047a33d9230bc718a783d3f63241c7f983115507577"), looks := true }, kinds := [], alts := [], laidByText := true, laidKinds := [.handle, .sentinel, .sentinel, .sentinel, .sentinel, .sentinel, .sentinel, .sentinel, .sentinel, .sentinel, .sentinel, .sentinel, .sentinel, .sentinel, .sentinel, .sentinel, .sentinel, .sentinel, .sentinel], laidTests := true, laidLooks := .later }
def ContextsChecksUptoCardSaid : Prop := Claim7.holds Tryd.pinned (.plain (OpenSpec.upto contextsChecksSpec)) contextsChecksUptoCard
end Rows
end Go.Proofs.YtjhgaacecfmadaaDoor
