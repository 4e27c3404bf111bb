/-
  DERIVED. GIVEN WITH THE SEED: THE CARDS: each row of YtanbnlobbgfidaaGreatDoorRows.lean that lists a variable, with what it lists TIED to the program's text (the seventh form; the later family's looks); each row that meets fmt, with fmt's text TOLD by the authors' own Lean function (tested against real Go, not proved from fmt's source: count such statements apart). THE CARD IS WHAT COUNTS. Prove the row's statement (the work); the ties are given (YtanbnlobbgfidaaGreatDoorTie.lean); close each card by the builder's one call (the guide's Derived/Test/ToyasCard.lean, 'card_holds'). Laid BY PROGRAM, IN A SANDBOX (cutbox-door.mjs). By AI agents, Wed Nov 11 2026. No macro, syntax, notation, axiom, sorry.
-/
import Derived.Test.YtanbnlobbgfidaaGreatDoorRows
import GoSem.ClaimSeven
namespace Go.Proofs.YtanbnlobbgfidaaGreatDoor
namespace Rows

/-- THE TIED CARD OF 'eponymlaw15.AsnUnions'. -/
def asnUnionsCard : Claim7 := { stood := { row := asnUnionsRow, standIns := [], harness := (true, "da5f9512a59ffb162bd63e68d05396f2cfa4538c9959218fa8000757de335618"), looks := true }, kinds := [], alts := [], laidByText := true, laidKinds := [.data, .data, .data, .handle, .sentinel, .sentinel, .sentinel, .sentinel, .sentinel, .sentinel, .sentinel, .sentinel, .sentinel, .sentinel, .sentinel, .sentinel, .sentinel, .sentinel, .sentinel, .sentinel, .sentinel, .sentinel, .sentinel, .sentinel], laidTests := true, laidLooks := .later }
def AsnUnionsCardSaid : Prop := Claim7.holds Tryz.pinned (.plain (OpenSpec.ofChange asnUnionsSpec)) asnUnionsCard

/-- THE TIED CARD OF 'eponymlaw15.AsnGaps'. -/
def asnGapsCard : Claim7 := { stood := { row := asnGapsRow, standIns := [], harness := (true, "da5f9512a59ffb162bd63e68d05396f2cfa4538c9959218fa8000757de335618"), looks := true }, kinds := [], alts := [], laidByText := true, laidKinds := [.data, .data, .data, .handle, .sentinel, .sentinel, .sentinel, .sentinel, .sentinel, .sentinel, .sentinel, .sentinel, .sentinel, .sentinel, .sentinel, .sentinel, .sentinel, .sentinel, .sentinel, .sentinel, .sentinel, .sentinel, .sentinel, .sentinel], laidTests := true, laidLooks := .later }
def AsnGapsCardSaid : Prop := Claim7.holds Tryz.pinned (.plain (OpenSpec.ofChange asnGapsSpec)) asnGapsCard

/-- THE TIED CARD OF 'eponymlaw15.AsnTexts'. -/
def asnTextsCard : Claim7 := { stood := { row := asnTextsRow, standIns := [], harness := (true, "da5f9512a59ffb162bd63e68d05396f2cfa4538c9959218fa8000757de335618"), looks := true }, kinds := [], alts := [], laidByText := true, laidKinds := [.data, .data, .data, .handle, .sentinel, .sentinel, .sentinel, .sentinel, .sentinel, .sentinel, .sentinel, .sentinel, .sentinel, .sentinel, .sentinel, .sentinel, .sentinel, .sentinel, .sentinel, .sentinel, .sentinel, .sentinel, .sentinel, .sentinel], laidTests := true, laidLooks := .later }
def AsnTextsCardSaid : Prop := Claim7.holds Tryz.pinned (.plain (OpenSpec.ofChange asnTextsSpec)) asnTextsCard

/-- THE TIED CARD OF 'eponymlaw15.AsnFinds'. -/
def asnFindsCard : Claim7 := { stood := { row := asnFindsRow, standIns := [], harness := (true, "da5f9512a59ffb162bd63e68d05396f2cfa4538c9959218fa8000757de335618"), looks := true }, kinds := [], alts := [], laidByText := true, laidKinds := [.data, .data, .data, .handle, .sentinel, .sentinel, .sentinel, .sentinel, .sentinel, .sentinel, .sentinel, .sentinel, .sentinel, .sentinel, .sentinel, .sentinel, .sentinel, .sentinel, .sentinel, .sentinel, .sentinel, .sentinel, .sentinel, .sentinel], laidTests := true, laidLooks := .later }
def AsnFindsCardSaid : Prop := Claim7.holds Tryz.pinned (.plain (OpenSpec.ofChange asnFindsSpec)) asnFindsCard

/-- THE SECOND FORM's CARD OF 'eponymlaw15.AsnUnions'. -/
def asnUnionsUptoCard : Claim7 := { stood := { row := asnUnionsUptoRow, standIns := [], harness := (true, "da5f9512a59ffb162bd63e68d05396f2cfa4538c9959218fa8000757de335618"), looks := true }, kinds := [], alts := [], laidByText := true, laidKinds := [.data, .data, .data, .handle, .sentinel, .sentinel, .sentinel, .sentinel, .sentinel, .sentinel, .sentinel, .sentinel, .sentinel, .sentinel, .sentinel, .sentinel, .sentinel, .sentinel, .sentinel, .sentinel, .sentinel, .sentinel, .sentinel, .sentinel], laidTests := true, laidLooks := .later }
def AsnUnionsUptoCardSaid : Prop := Claim7.holds Tryz.pinned (.plain (OpenSpec.upto asnUnionsSpec)) asnUnionsUptoCard

/-- THE SECOND FORM's CARD OF 'eponymlaw15.AsnGaps'. -/
def asnGapsUptoCard : Claim7 := { stood := { row := asnGapsUptoRow, standIns := [], harness := (true, "da5f9512a59ffb162bd63e68d05396f2cfa4538c9959218fa8000757de335618"), looks := true }, kinds := [], alts := [], laidByText := true, laidKinds := [.data, .data, .data, .handle, .sentinel, .sentinel, .sentinel, .sentinel, .sentinel, .sentinel, .sentinel, .sentinel, .sentinel, .sentinel, .sentinel, .sentinel, .sentinel, .sentinel, .sentinel, .sentinel, .sentinel, .sentinel, .sentinel, .sentinel], laidTests := true, laidLooks := .later }
def AsnGapsUptoCardSaid : Prop := Claim7.holds Tryz.pinned (.plain (OpenSpec.upto asnGapsSpec)) asnGapsUptoCard

/-- THE SECOND FORM's CARD OF 'eponymlaw15.AsnTexts'. -/
def asnTextsUptoCard : Claim7 := { stood := { row := asnTextsUptoRow, standIns := [], harness := (true, "da5f9512a59ffb162bd63e68d05396f2cfa4538c9959218fa8000757de335618"), looks := true }, kinds := [], alts := [], laidByText := true, laidKinds := [.data, .data, .data, .handle, .sentinel, .sentinel, .sentinel, .sentinel, .sentinel, .sentinel, .sentinel, .sentinel, .sentinel, .sentinel, .sentinel, .sentinel, .sentinel, .sentinel, .sentinel, .sentinel, .sentinel, .sentinel, .sentinel, .sentinel], laidTests := true, laidLooks := .later }
def AsnTextsUptoCardSaid : Prop := Claim7.holds Tryz.pinned (.plain (OpenSpec.upto asnTextsSpec)) asnTextsUptoCard

/-- THE SECOND FORM's CARD OF 'eponymlaw15.AsnFinds'. -/
def asnFindsUptoCard : Claim7 := { stood := { row := asnFindsUptoRow, standIns := [], harness := (true, "da5f9512a59ffb162bd63e68d05396f2cfa4538c9959218fa8000757de335618"), looks := true }, kinds := [], alts := [], laidByText := true, laidKinds := [.data, .data, .data, .handle, .sentinel, .sentinel, .sentinel, .sentinel, .sentinel, .sentinel, .sentinel, .sentinel, .sentinel, .sentinel, .sentinel, .sentinel, .sentinel, .sentinel, .sentinel, .sentinel, .sentinel, .sentinel, .sentinel, .sentinel], laidTests := true, laidLooks := .later }
def AsnFindsUptoCardSaid : Prop := Claim7.holds Tryz.pinned (.plain (OpenSpec.upto asnFindsSpec)) asnFindsUptoCard
end Rows
end Go.Proofs.YtanbnlobbgfidaaGreatDoor
