/-
  DERIVED. GIVEN WITH THE SEED: THE CARDS: each row of YtjhgaacecfmadaaGreatDoorRows.lean that lists a variable, with what it lists TIED to the program's text (the seventh form; the later family's looks); each row that meets fmt, with fmt's text TOLD by the authors' own Lean function (tested against real Go, not proved from fmt's source: count such statements apart). THE CARD IS WHAT COUNTS. Prove the row's statement (the work); the ties are given (YtjhgaacecfmadaaGreatDoorTie.lean); close each card by the builder's one call (the guide's Derived/Test/ToyasCard.lean, 'card_holds'). Laid BY PROGRAM, IN A SANDBOX (cutbox-door.mjs). By AI agents, Wed Nov 11 2026. No macro, syntax, notation, axiom, sorry.
-/
import Derived.Test.YtjhgaacecfmadaaGreatDoorRows
import GoSem.ClaimSeven
namespace Go.Proofs.YtjhgaacecfmadaaGreatDoor
namespace Rows

/-- THE TIED CARD OF 'eponymlaw05.CompTexts'. -/
def compTextsCard : Claim7 := { stood := { row := compTextsRow, standIns := [], harness := (true, "9ca45c2db855d9a3a816de44946be2dea30f1d4d0cc96dd490920aebdae4690c"), looks := true }, kinds := [], alts := [], laidByText := true, laidKinds := [.handle, .sentinel, .sentinel, .sentinel, .sentinel, .sentinel, .sentinel, .sentinel, .sentinel, .sentinel, .sentinel, .sentinel, .sentinel, .sentinel, .sentinel, .sentinel, .sentinel, .sentinel, .sentinel], laidTests := true, laidLooks := .later }
def CompTextsCardSaid : Prop := Claim7.holds Tryz.pinned (.plain (OpenSpec.ofChange compTextsSpec)) compTextsCard

/-- THE SECOND FORM's CARD OF 'eponymlaw05.CompTexts'. -/
def compTextsUptoCard : Claim7 := { stood := { row := compTextsUptoRow, standIns := [], harness := (true, "9ca45c2db855d9a3a816de44946be2dea30f1d4d0cc96dd490920aebdae4690c"), looks := true }, kinds := [], alts := [], laidByText := true, laidKinds := [.handle, .sentinel, .sentinel, .sentinel, .sentinel, .sentinel, .sentinel, .sentinel, .sentinel, .sentinel, .sentinel, .sentinel, .sentinel, .sentinel, .sentinel, .sentinel, .sentinel, .sentinel, .sentinel], laidTests := true, laidLooks := .later }
def CompTextsUptoCardSaid : Prop := Claim7.holds Tryz.pinned (.plain (OpenSpec.upto compTextsSpec)) compTextsUptoCard
end Rows
end Go.Proofs.YtjhgaacecfmadaaGreatDoor
