/-
  DERIVED. GIVEN WITH THE SEED: THE CARDS: each row of YtclhniadffljdaaDoorRows.lean that lists a variable, with what it lists TIED to the program's text (the seventh form; the later family's looks); each row that meets fmt, with fmt's text TOLD by the authors' own Lean function (tested against real Go, not proved from fmt's source: count such statements apart). THE CARD IS WHAT COUNTS. Prove the row's statement (the work); the ties are given (YtclhniadffljdaaDoorTie.lean); close each card by the builder's one call (the guide's Derived/Test/ToyasCard.lean, 'card_holds'). Laid BY PROGRAM, IN A SANDBOX (cutbox-door.mjs). By AI agents, Wed Nov 11 2026. No macro, syntax, notation, axiom, sorry.
-/
import Derived.Test.YtclhniadffljdaaDoorRows
import GoSem.ClaimSeven
namespace Go.Proofs.YtclhniadffljdaaDoor
namespace Rows

/-- THE TIED CARD OF 'eponymlaw19.VariantsAlike'. -/
def variantsAlikeCard : Claim7 := { stood := { row := variantsAlikeRow, standIns := [], harness := (true, "eda40858b06087ea1813162da14972dc11fd4334c7d8b94747388e2e77256d3a"), looks := true }, kinds := [], alts := [], laidByText := true, laidKinds := [.handle, .sentinel, .sentinel, .sentinel, .sentinel, .sentinel, .sentinel, .sentinel, .sentinel], laidTests := true, laidLooks := .later }
def VariantsAlikeCardSaid : Prop := Claim7.holds Tryd.pinned (.plain (OpenSpec.ofChange variantsAlikeSpec)) variantsAlikeCard

/-- THE TIED CARD OF 'eponymlaw19.VariantsChecks'. -/
def variantsChecksCard : Claim7 := { stood := { row := variantsChecksRow, standIns := [], harness := (true, "eda40858b06087ea1813162da14972dc11fd4334c7d8b94747388e2e77256d3a"), looks := true }, kinds := [], alts := [], laidByText := true, laidKinds := [.handle, .sentinel, .sentinel, .sentinel, .sentinel, .sentinel, .sentinel, .sentinel, .sentinel, .sentinel, .sentinel, .sentinel, .sentinel, .sentinel, .sentinel, .sentinel, .sentinel, .sentinel, .sentinel], laidTests := true, laidLooks := .later }
def VariantsChecksCardSaid : Prop := Claim7.holds Tryd.pinned (.plain (OpenSpec.ofChange variantsChecksSpec)) variantsChecksCard

/-- THE TIED CARD OF 'eponymlaw06.PunyEncodes'. -/
def punyEncodesCard : Claim7 := { stood := { row := punyEncodesRow, standIns := [], harness := (true, "eda40858b06087ea1813162da14972dc11fd4334c7d8b94747388e2e77256d3a"), looks := true }, kinds := [], alts := [], laidByText := true, laidKinds := [.handle, .sentinel, .sentinel, .sentinel, .sentinel, .sentinel, .sentinel, .sentinel, .sentinel, .sentinel, .sentinel, .sentinel, .sentinel, .sentinel, .sentinel, .sentinel, .sentinel, .sentinel, .sentinel], laidTests := true, laidLooks := .later }
def PunyEncodesCardSaid : Prop := Claim7.holds Tryd.pinned (.plain (OpenSpec.ofChange punyEncodesSpec)) punyEncodesCard

/-- THE TIED CARD OF 'eponymlaw06.PunyDecodes'. -/
def punyDecodesCard : Claim7 := { stood := { row := punyDecodesRow, standIns := [], harness := (true, "eda40858b06087ea1813162da14972dc11fd4334c7d8b94747388e2e77256d3a"), looks := true }, kinds := [], alts := [], laidByText := true, laidKinds := [.handle, .sentinel, .sentinel, .sentinel, .sentinel, .sentinel, .sentinel, .sentinel, .sentinel, .sentinel, .sentinel, .sentinel, .sentinel, .sentinel, .sentinel, .sentinel, .sentinel, .sentinel, .sentinel], laidTests := true, laidLooks := .later }
def PunyDecodesCardSaid : Prop := Claim7.holds Tryd.pinned (.plain (OpenSpec.ofChange punyDecodesSpec)) punyDecodesCard

/-- THE TIED CARD OF 'eponymlaw06.PunyBack'. -/
def punyBackCard : Claim7 := { stood := { row := punyBackRow, standIns := [], harness := (true, "eda40858b06087ea1813162da14972dc11fd4334c7d8b94747388e2e77256d3a"), looks := true }, kinds := [], alts := [], laidByText := true, laidKinds := [.handle, .sentinel, .sentinel, .sentinel, .sentinel, .sentinel, .sentinel, .sentinel, .sentinel, .sentinel, .sentinel, .sentinel, .sentinel, .sentinel, .sentinel, .sentinel, .sentinel, .sentinel, .sentinel], laidTests := true, laidLooks := .later }
def PunyBackCardSaid : Prop := Claim7.holds Tryd.pinned (.plain (OpenSpec.ofChange punyBackSpec)) punyBackCard

/-- THE TIED CARD OF 'eponymlaw06.PunyThere'. -/
def punyThereCard : Claim7 := { stood := { row := punyThereRow, standIns := [], harness := (true, "eda40858b06087ea1813162da14972dc11fd4334c7d8b94747388e2e77256d3a"), looks := true }, kinds := [], alts := [], laidByText := true, laidKinds := [.handle, .sentinel, .sentinel, .sentinel, .sentinel, .sentinel, .sentinel, .sentinel, .sentinel, .sentinel, .sentinel, .sentinel, .sentinel, .sentinel, .sentinel, .sentinel, .sentinel, .sentinel, .sentinel], laidTests := true, laidLooks := .later }
def PunyThereCardSaid : Prop := Claim7.holds Tryd.pinned (.plain (OpenSpec.ofChange punyThereSpec)) punyThereCard

/-- THE TIED CARD OF 'eponymlaw06.PunyNumbers'. -/
def punyNumbersCard : Claim7 := { stood := { row := punyNumbersRow, standIns := [], harness := (true, "eda40858b06087ea1813162da14972dc11fd4334c7d8b94747388e2e77256d3a"), looks := true }, kinds := [], alts := [], laidByText := true, laidKinds := [.handle, .sentinel, .sentinel, .sentinel, .sentinel, .sentinel, .sentinel, .sentinel, .sentinel, .sentinel, .sentinel, .sentinel, .sentinel, .sentinel, .sentinel, .sentinel, .sentinel, .sentinel, .sentinel], laidTests := true, laidLooks := .later }
def PunyNumbersCardSaid : Prop := Claim7.holds Tryd.pinned (.plain (OpenSpec.ofChange punyNumbersSpec)) punyNumbersCard

/-- THE SECOND FORM's CARD OF 'eponymlaw19.VariantsAlike'. -/
def variantsAlikeUptoCard : Claim7 := { stood := { row := variantsAlikeUptoRow, standIns := [], harness := (true, "eda40858b06087ea1813162da14972dc11fd4334c7d8b94747388e2e77256d3a"), looks := true }, kinds := [], alts := [], laidByText := true, laidKinds := [.handle, .sentinel, .sentinel, .sentinel, .sentinel, .sentinel, .sentinel, .sentinel, .sentinel], laidTests := true, laidLooks := .later }
def VariantsAlikeUptoCardSaid : Prop := Claim7.holds Tryd.pinned (.plain (OpenSpec.upto variantsAlikeSpec)) variantsAlikeUptoCard

/-- THE SECOND FORM's CARD OF 'eponymlaw19.VariantsChecks'. -/
def variantsChecksUptoCard : Claim7 := { stood := { row := variantsChecksUptoRow, standIns := [], harness := (true, "eda40858b06087ea1813162da14972dc11fd4334c7d8b94747388e2e77256d3a"), looks := true }, kinds := [], alts := [], laidByText := true, laidKinds := [.handle, .sentinel, .sentinel, .sentinel, .sentinel, .sentinel, .sentinel, .sentinel, .sentinel, .sentinel, .sentinel, .sentinel, .sentinel, .sentinel, .sentinel, .sentinel, .sentinel, .sentinel, .sentinel], laidTests := true, laidLooks := .later }
def VariantsChecksUptoCardSaid : Prop := Claim7.holds Tryd.pinned (.plain (OpenSpec.upto variantsChecksSpec)) variantsChecksUptoCard

/-- THE SECOND FORM's CARD OF 'eponymlaw06.PunyEncodes'. -/
def punyEncodesUptoCard : Claim7 := { stood := { row := punyEncodesUptoRow, standIns := [], harness := (true, "eda40858b06087ea1813162da14972dc11fd4334c7d8b94747388e2e77256d3a"), looks := true }, kinds := [], alts := [], laidByText := true, laidKinds := [.handle, .sentinel, .sentinel, .sentinel, .sentinel, .sentinel, .sentinel, .sentinel, .sentinel, .sentinel, .sentinel, .sentinel, .sentinel, .sentinel, .sentinel, .sentinel, .sentinel, .sentinel, .sentinel], laidTests := true, laidLooks := .later }
def PunyEncodesUptoCardSaid : Prop := Claim7.holds Tryd.pinned (.plain (OpenSpec.upto punyEncodesSpec)) punyEncodesUptoCard

/-- THE SECOND FORM's CARD OF 'eponymlaw06.PunyDecodes'. -/
def punyDecodesUptoCard : Claim7 := { stood := { row := punyDecodesUptoRow, standIns := [], harness := (true, "eda40858b06087ea1813162da14972dc11fd4334c7d8b94747388e2e77256d3a"), looks := true }, kinds := [], alts := [], laidByText := true, laidKinds := [.handle, .sentinel, .sentinel, .sentinel, .sentinel, .sentinel, .sentinel, .sentinel, .sentinel, .sentinel, .sentinel, .sentinel, .sentinel, .sentinel, .sentinel, .sentinel, .sentinel, .sentinel, .sentinel], laidTests := true, laidLooks := .later }
def PunyDecodesUptoCardSaid : Prop := Claim7.holds Tryd.pinned (.plain (OpenSpec.upto punyDecodesSpec)) punyDecodesUptoCard

/-- THE SECOND FORM's CARD OF 'eponymlaw06.PunyBack'. -/
def punyBackUptoCard : Claim7 := { stood := { row := punyBackUptoRow, standIns := [], harness := (true, "eda40858b06087ea1813162da14972dc11fd4334c7d8b94747388e2e77256d3a"), looks := true }, kinds := [], alts := [], laidByText := true, laidKinds := [.handle, .sentinel, .sentinel, .sentinel, .sentinel, .sentinel, .sentinel, .sentinel, .sentinel, .sentinel, .sentinel, .sentinel, .sentinel, .sentinel, .sentinel, .sentinel, .sentinel, .sentinel, .sentinel], laidTests := true, laidLooks := .later }
def PunyBackUptoCardSaid : Prop := Claim7.holds Tryd.pinned (.plain (OpenSpec.upto punyBackSpec)) punyBackUptoCard

/-- THE SECOND FORM's CARD OF 'eponymlaw06.PunyThere'. -/
def punyThereUptoCard : Claim7 := { stood := { row := punyThereUptoRow, standIns := [], harness := (true, "eda40858b06087ea1813162da14972dc11fd4334c7d8b94747388e2e77256d3a"), looks := true }, kinds := [], alts := [], laidByText := true, laidKinds := [.handle, .sentinel, .sentinel, .sentinel, .sentinel, .sentinel, .sentinel, .sentinel, .sentinel, .sentinel, .sentinel, .sentinel, .sentinel, .sentinel, .sentinel, .sentinel, .sentinel, .sentinel, .sentinel], laidTests := true, laidLooks := .later }
def PunyThereUptoCardSaid : Prop := Claim7.holds Tryd.pinned (.plain (OpenSpec.upto punyThereSpec)) punyThereUptoCard

/-- THE SECOND FORM's CARD OF 'eponymlaw06.PunyNumbers'. -/
def punyNumbersUptoCard : Claim7 := { stood := { row := punyNumbersUptoRow, standIns := [], harness := (true, "eda40858b06087ea1813162da14972dc11fd4334c7d8b94747388e2e77256d3a"), looks := true }, kinds := [], alts := [], laidByText := true, laidKinds := [.handle, .sentinel, .sentinel, .sentinel, .sentinel, .sentinel, .sentinel, .sentinel, .sentinel, .sentinel, .sentinel, .sentinel, .sentinel, .sentinel, .sentinel, .sentinel, .sentinel, .sentinel, .sentinel], laidTests := true, laidLooks := .later }
def PunyNumbersUptoCardSaid : Prop := Claim7.holds Tryd.pinned (.plain (OpenSpec.upto punyNumbersSpec)) punyNumbersUptoCard
end Rows
end Go.Proofs.YtclhniadffljdaaDoor
