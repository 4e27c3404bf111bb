/-
  DERIVED. GIVEN WITH THE SEED: THE CARDS: each row of YtpjjkejppgehaaaGreatDoorRows.lean that lists a variable, with what it lists TIED to the program's text (the seventh form; the later family's looks); each row that meets fmt, with fmt's text TOLD by the authors' own Lean function (tested against real Go, not proved from fmt's source: count such statements apart). THE CARD IS WHAT COUNTS. Prove the row's statement (the work); the ties are given (YtpjjkejppgehaaaGreatDoorTie.lean); close each card by the builder's one call (the guide's Derived/Test/ToyasCard.lean, 'card_holds'). Laid BY PROGRAM, IN A SANDBOX (cutbox-door.mjs). By AI agents, Wed Nov 11 2026. No macro, syntax, notation, axiom, sorry.
-/
import Derived.Test.YtpjjkejppgehaaaGreatDoorRows
import GoSem.ClaimSeven
namespace Go.Proofs.YtpjjkejppgehaaaGreatDoor
namespace Rows

/-- THE TIED CARD OF 'eponymlaw27.HttpTexts'. -/
def httpTextsCard : Claim7 := { stood := { row := httpTextsRow, standIns := [], harness := (true, "1ec864f995cc29f546e5d4627aaabd0f1cb1c29746696fdc790df7f9c59ebfd4"), looks := true }, kinds := [], alts := [], laidByText := true, laidKinds := [.data, .data, .data, .data, .handle, .sentinel, .sentinel, .sentinel, .sentinel, .sentinel, .sentinel, .sentinel, .sentinel, .sentinel, .sentinel, .sentinel, .sentinel, .sentinel, .sentinel, .sentinel, .sentinel, .sentinel, .sentinel, .sentinel, .sentinel, .pinned], laidTests := true, laidLooks := .later }
def HttpTextsCardSaid : Prop := Claim7.holds Tryz.pinned (.plain (OpenSpec.ofChange httpTextsSpec)) httpTextsCard

/-- THE TIED CARD OF 'eponymlaw27.HttpReads'. -/
def httpReadsCard : Claim7 := { stood := { row := httpReadsRow, standIns := [], harness := (true, "1ec864f995cc29f546e5d4627aaabd0f1cb1c29746696fdc790df7f9c59ebfd4"), looks := true }, kinds := [], alts := [], laidByText := true, laidKinds := [.data, .data, .data, .data, .handle, .sentinel, .sentinel, .sentinel, .sentinel, .sentinel, .sentinel, .sentinel, .sentinel, .sentinel, .sentinel, .sentinel, .sentinel, .sentinel, .sentinel, .sentinel, .sentinel, .sentinel, .sentinel, .sentinel, .sentinel, .pinned], laidTests := true, laidLooks := .later }
def HttpReadsCardSaid : Prop := Claim7.holds Tryz.pinned (.plain (OpenSpec.ofChange httpReadsSpec)) httpReadsCard

/-- THE SECOND FORM's CARD OF 'eponymlaw27.HttpTexts'. -/
def httpTextsUptoCard : Claim7 := { stood := { row := httpTextsUptoRow, standIns := [], harness := (true, "1ec864f995cc29f546e5d4627aaabd0f1cb1c29746696fdc790df7f9c59ebfd4"), looks := true }, kinds := [], alts := [], laidByText := true, laidKinds := [.data, .data, .data, .data, .handle, .sentinel, .sentinel, .sentinel, .sentinel, .sentinel, .sentinel, .sentinel, .sentinel, .sentinel, .sentinel, .sentinel, .sentinel, .sentinel, .sentinel, .sentinel, .sentinel, .sentinel, .sentinel, .sentinel, .sentinel, .pinned], laidTests := true, laidLooks := .later }
def HttpTextsUptoCardSaid : Prop := Claim7.holds Tryz.pinned (.plain (OpenSpec.upto httpTextsSpec)) httpTextsUptoCard

/-- THE SECOND FORM's CARD OF 'eponymlaw27.HttpReads'. -/
def httpReadsUptoCard : Claim7 := { stood := { row := httpReadsUptoRow, standIns := [], harness := (true, "1ec864f995cc29f546e5d4627aaabd0f1cb1c29746696fdc790df7f9c59ebfd4"), looks := true }, kinds := [], alts := [], laidByText := true, laidKinds := [.data, .data, .data, .data, .handle, .sentinel, .sentinel, .sentinel, .sentinel, .sentinel, .sentinel, .sentinel, .sentinel, .sentinel, .sentinel, .sentinel, .sentinel, .sentinel, .sentinel, .sentinel, .sentinel, .sentinel, .sentinel, .sentinel, .sentinel, .pinned], laidTests := true, laidLooks := .later }
def HttpReadsUptoCardSaid : Prop := Claim7.holds Tryz.pinned (.plain (OpenSpec.upto httpReadsSpec)) httpReadsUptoCard
end Rows
end Go.Proofs.YtpjjkejppgehaaaGreatDoor
