/-
  DERIVED. GIVEN WITH THE SEED: THE CARDS: each row of YtkeokkmhhhhoiaaGreatDoorRows.lean that lists a variable, with what it lists TIED to the program's text (the seventh form; the later family's looks); each row that meets fmt, with fmt's text TOLD by the authors' own Lean function (tested against real Go, not proved from fmt's source: count such statements apart). THE CARD IS WHAT COUNTS. Prove the row's statement (the work); the ties are given (YtkeokkmhhhhoiaaGreatDoorTie.lean); close each card by the builder's one call (the guide's Derived/Test/ToyasCard.lean, 'card_holds'). Laid BY PROGRAM, IN A SANDBOX (cutbox-door.mjs). By AI agents, Wed Nov 11 2026. No macro, syntax, notation, axiom, sorry.
-/
import Derived.Test.YtkeokkmhhhhoiaaGreatDoorRows
import GoSem.ClaimSeven
namespace Go.Proofs.YtkeokkmhhhhoiaaGreatDoor
namespace Rows

/-- THE TIED CARD OF 'eponymlaw10.LabelChecks'. -/
def labelChecksCard : Claim7 := { stood := { row := labelChecksRow, standIns := [], harness := (true, "bdd68c5d6f13cc261eebd82d28eb8800b5296c1e1b3a0dd3749b83ec7b44505b"), looks := true }, kinds := [], alts := [], laidByText := true, laidKinds := [.handle, .sentinel, .sentinel, .sentinel, .sentinel, .sentinel, .sentinel, .sentinel, .sentinel, .sentinel, .sentinel, .sentinel, .sentinel, .sentinel, .sentinel, .sentinel, .sentinel, .sentinel, .sentinel], laidTests := true, laidLooks := .later }
def LabelChecksCardSaid : Prop := Claim7.holds Tryz.pinned (.plain (OpenSpec.ofChange labelChecksSpec)) labelChecksCard

/-- THE TIED CARD OF 'eponymlaw10.LabelRunes'. -/
def labelRunesCard : Claim7 := { stood := { row := labelRunesRow, standIns := [], harness := (true, "bdd68c5d6f13cc261eebd82d28eb8800b5296c1e1b3a0dd3749b83ec7b44505b"), looks := true }, kinds := [], alts := [], laidByText := true, laidKinds := [.handle, .sentinel, .sentinel, .sentinel, .sentinel, .sentinel, .sentinel, .sentinel, .sentinel, .sentinel, .sentinel, .sentinel, .sentinel, .sentinel, .sentinel, .sentinel, .sentinel, .sentinel, .sentinel], laidTests := true, laidLooks := .later }
def LabelRunesCardSaid : Prop := Claim7.holds Tryz.pinned (.plain (OpenSpec.ofChange labelRunesSpec)) labelRunesCard

/-- THE TIED CARD OF 'eponymlaw10.LabelCanons'. -/
def labelCanonsCard : Claim7 := { stood := { row := labelCanonsRow, standIns := [], harness := (true, "bdd68c5d6f13cc261eebd82d28eb8800b5296c1e1b3a0dd3749b83ec7b44505b"), looks := true }, kinds := [], alts := [], laidByText := true, laidKinds := [.handle, .sentinel, .sentinel, .sentinel, .sentinel, .sentinel, .sentinel, .sentinel, .sentinel, .sentinel, .sentinel, .sentinel, .sentinel, .sentinel, .sentinel, .sentinel, .sentinel, .sentinel, .sentinel], laidTests := true, laidLooks := .later }
def LabelCanonsCardSaid : Prop := Claim7.holds Tryz.pinned (.plain (OpenSpec.ofChange labelCanonsSpec)) labelCanonsCard

/-- THE TIED CARD OF 'eponymlaw10.LabelFits'. -/
def labelFitsCard : Claim7 := { stood := { row := labelFitsRow, standIns := [], harness := (true, "bdd68c5d6f13cc261eebd82d28eb8800b5296c1e1b3a0dd3749b83ec7b44505b"), looks := true }, kinds := [], alts := [], laidByText := true, laidKinds := [.handle, .sentinel, .sentinel, .sentinel, .sentinel, .sentinel, .sentinel, .sentinel, .sentinel, .sentinel, .sentinel, .sentinel, .sentinel, .sentinel, .sentinel, .sentinel, .sentinel, .sentinel, .sentinel], laidTests := true, laidLooks := .later }
def LabelFitsCardSaid : Prop := Claim7.holds Tryz.pinned (.plain (OpenSpec.ofChange labelFitsSpec)) labelFitsCard

/-- THE TIED CARD OF 'eponymlaw10.LabelBack'. -/
def labelBackCard : Claim7 := { stood := { row := labelBackRow, standIns := [], harness := (true, "bdd68c5d6f13cc261eebd82d28eb8800b5296c1e1b3a0dd3749b83ec7b44505b"), looks := true }, kinds := [], alts := [], laidByText := true, laidKinds := [.handle, .sentinel, .sentinel, .sentinel, .sentinel, .sentinel, .sentinel, .sentinel, .sentinel, .sentinel, .sentinel, .sentinel, .sentinel, .sentinel, .sentinel, .sentinel, .sentinel, .sentinel, .sentinel], laidTests := true, laidLooks := .later }
def LabelBackCardSaid : Prop := Claim7.holds Tryz.pinned (.plain (OpenSpec.ofChange labelBackSpec)) labelBackCard

/-- THE TIED CARD OF 'eponymlaw10.LabelOnce'. -/
def labelOnceCard : Claim7 := { stood := { row := labelOnceRow, standIns := [], harness := (true, "bdd68c5d6f13cc261eebd82d28eb8800b5296c1e1b3a0dd3749b83ec7b44505b"), looks := true }, kinds := [], alts := [], laidByText := true, laidKinds := [.handle, .sentinel, .sentinel, .sentinel, .sentinel, .sentinel, .sentinel, .sentinel, .sentinel, .sentinel, .sentinel, .sentinel, .sentinel, .sentinel, .sentinel, .sentinel, .sentinel, .sentinel, .sentinel], laidTests := true, laidLooks := .later }
def LabelOnceCardSaid : Prop := Claim7.holds Tryz.pinned (.plain (OpenSpec.ofChange labelOnceSpec)) labelOnceCard

/-- THE SECOND FORM's CARD OF 'eponymlaw10.LabelChecks'. -/
def labelChecksUptoCard : Claim7 := { stood := { row := labelChecksUptoRow, standIns := [], harness := (true, "bdd68c5d6f13cc261eebd82d28eb8800b5296c1e1b3a0dd3749b83ec7b44505b"), looks := true }, kinds := [], alts := [], laidByText := true, laidKinds := [.handle, .sentinel, .sentinel, .sentinel, .sentinel, .sentinel, .sentinel, .sentinel, .sentinel, .sentinel, .sentinel, .sentinel, .sentinel, .sentinel, .sentinel, .sentinel, .sentinel, .sentinel, .sentinel], laidTests := true, laidLooks := .later }
def LabelChecksUptoCardSaid : Prop := Claim7.holds Tryz.pinned (.plain (OpenSpec.upto labelChecksSpec)) labelChecksUptoCard

/-- THE SECOND FORM's CARD OF 'eponymlaw10.LabelRunes'. -/
def labelRunesUptoCard : Claim7 := { stood := { row := labelRunesUptoRow, standIns := [], harness := (true, "bdd68c5d6f13cc261eebd82d28eb8800b5296c1e1b3a0dd3749b83ec7b44505b"), looks := true }, kinds := [], alts := [], laidByText := true, laidKinds := [.handle, .sentinel, .sentinel, .sentinel, .sentinel, .sentinel, .sentinel, .sentinel, .sentinel, .sentinel, .sentinel, .sentinel, .sentinel, .sentinel, .sentinel, .sentinel, .sentinel, .sentinel, .sentinel], laidTests := true, laidLooks := .later }
def LabelRunesUptoCardSaid : Prop := Claim7.holds Tryz.pinned (.plain (OpenSpec.upto labelRunesSpec)) labelRunesUptoCard

/-- THE SECOND FORM's CARD OF 'eponymlaw10.LabelCanons'. -/
def labelCanonsUptoCard : Claim7 := { stood := { row := labelCanonsUptoRow, standIns := [], harness := (true, "bdd68c5d6f13cc261eebd82d28eb8800b5296c1e1b3a0dd3749b83ec7b44505b"), looks := true }, kinds := [], alts := [], laidByText := true, laidKinds := [.handle, .sentinel, .sentinel, .sentinel, .sentinel, .sentinel, .sentinel, .sentinel, .sentinel, .sentinel, .sentinel, .sentinel, .sentinel, .sentinel, .sentinel, .sentinel, .sentinel, .sentinel, .sentinel], laidTests := true, laidLooks := .later }
def LabelCanonsUptoCardSaid : Prop := Claim7.holds Tryz.pinned (.plain (OpenSpec.upto labelCanonsSpec)) labelCanonsUptoCard

/-- THE SECOND FORM's CARD OF 'eponymlaw10.LabelFits'. -/
def labelFitsUptoCard : Claim7 := { stood := { row := labelFitsUptoRow, standIns := [], harness := (true, "bdd68c5d6f13cc261eebd82d28eb8800b5296c1e1b3a0dd3749b83ec7b44505b"), looks := true }, kinds := [], alts := [], laidByText := true, laidKinds := [.handle, .sentinel, .sentinel, .sentinel, .sentinel, .sentinel, .sentinel, .sentinel, .sentinel, .sentinel, .sentinel, .sentinel, .sentinel, .sentinel, .sentinel, .sentinel, .sentinel, .sentinel, .sentinel], laidTests := true, laidLooks := .later }
def LabelFitsUptoCardSaid : Prop := Claim7.holds Tryz.pinned (.plain (OpenSpec.upto labelFitsSpec)) labelFitsUptoCard

/-- THE SECOND FORM's CARD OF 'eponymlaw10.LabelBack'. -/
def labelBackUptoCard : Claim7 := { stood := { row := labelBackUptoRow, standIns := [], harness := (true, "bdd68c5d6f13cc261eebd82d28eb8800b5296c1e1b3a0dd3749b83ec7b44505b"), looks := true }, kinds := [], alts := [], laidByText := true, laidKinds := [.handle, .sentinel, .sentinel, .sentinel, .sentinel, .sentinel, .sentinel, .sentinel, .sentinel, .sentinel, .sentinel, .sentinel, .sentinel, .sentinel, .sentinel, .sentinel, .sentinel, .sentinel, .sentinel], laidTests := true, laidLooks := .later }
def LabelBackUptoCardSaid : Prop := Claim7.holds Tryz.pinned (.plain (OpenSpec.upto labelBackSpec)) labelBackUptoCard

/-- THE SECOND FORM's CARD OF 'eponymlaw10.LabelOnce'. -/
def labelOnceUptoCard : Claim7 := { stood := { row := labelOnceUptoRow, standIns := [], harness := (true, "bdd68c5d6f13cc261eebd82d28eb8800b5296c1e1b3a0dd3749b83ec7b44505b"), looks := true }, kinds := [], alts := [], laidByText := true, laidKinds := [.handle, .sentinel, .sentinel, .sentinel, .sentinel, .sentinel, .sentinel, .sentinel, .sentinel, .sentinel, .sentinel, .sentinel, .sentinel, .sentinel, .sentinel, .sentinel, .sentinel, .sentinel, .sentinel], laidTests := true, laidLooks := .later }
def LabelOnceUptoCardSaid : Prop := Claim7.holds Tryz.pinned (.plain (OpenSpec.upto labelOnceSpec)) labelOnceUptoCard
end Rows
end Go.Proofs.YtkeokkmhhhhoiaaGreatDoor
