/-
  DERIVED. GIVEN WITH THE SEED: THE CARDS: each row of YtlgdenihddkjaaaDoorRows.lean that lists a variable, with what it lists TIED to the program's text (the seventh form; the later family's looks); each row that meets fmt, with fmt's text TOLD by the authors' own Lean function (tested against real Go, not proved from fmt's source: count such statements apart). THE CARD IS WHAT COUNTS. Prove the row's statement (the work); the ties are given (YtlgdenihddkjaaaDoorTie.lean); close each card by the builder's one call (the guide's Derived/Test/ToyasCard.lean, 'card_holds'). Laid BY PROGRAM, IN A SANDBOX (cutbox-door.mjs). By AI agents, Wed Nov 11 2026. No macro, syntax, notation, axiom, sorry.
-/
import Derived.Test.YtlgdenihddkjaaaDoorRows
import GoSem.ClaimSeven
namespace Go.Proofs.YtlgdenihddkjaaaDoor
namespace Rows

/-- THE TIED CARD OF 'eponymlaw16.StampFollows'. -/
def stampFollowsCard : Claim7 := { stood := { row := stampFollowsRow, standIns := [], harness := (true, "45d07bbb5bf80a5b418c46eb463e6895ddfefe2fbecf913568c250fb97f3dd1b"), looks := true }, kinds := [], alts := [], laidByText := true, laidKinds := [.data, .data, .data, .data, .sentinel, .sentinel, .sentinel, .pinned], laidTests := true, laidLooks := .later }
def StampFollowsCardSaid : Prop := Claim7.holds Tryd.pinned (.plain (OpenSpec.ofChange stampFollowsSpec)) stampFollowsCard

/-- THE TIED CARD OF 'eponymlaw16.StampParses'. -/
def stampParsesCard : Claim7 := { stood := { row := stampParsesRow, standIns := [], harness := (true, "45d07bbb5bf80a5b418c46eb463e6895ddfefe2fbecf913568c250fb97f3dd1b"), looks := true }, kinds := [], alts := [], laidByText := true, laidKinds := [.data, .data, .data, .data, .handle, .sentinel, .sentinel, .sentinel, .sentinel, .sentinel, .sentinel, .sentinel, .sentinel, .sentinel, .sentinel, .sentinel, .sentinel, .sentinel, .sentinel, .sentinel, .sentinel, .sentinel, .sentinel, .pinned], laidTests := true, laidLooks := .later }
def StampParsesCardSaid : Prop := Claim7.holds Tryd.pinned (.plain (OpenSpec.ofChange stampParsesSpec)) stampParsesCard

/-- THE TIED CARD OF 'eponymlaw16.StampTexts'. -/
def stampTextsCard : Claim7 := { stood := { row := stampTextsRow, standIns := [], harness := (true, "45d07bbb5bf80a5b418c46eb463e6895ddfefe2fbecf913568c250fb97f3dd1b"), looks := true }, kinds := [], alts := [], laidByText := true, laidKinds := [.data, .data, .data, .data, .handle, .sentinel, .sentinel, .sentinel, .sentinel, .sentinel, .sentinel, .sentinel, .sentinel, .sentinel, .sentinel, .sentinel, .sentinel, .sentinel, .sentinel, .sentinel, .sentinel, .sentinel, .sentinel, .pinned], laidTests := true, laidLooks := .later }
def StampTextsCardSaid : Prop := Claim7.holds Tryd.pinned (.plain (OpenSpec.ofChange stampTextsSpec)) stampTextsCard

/-- THE TIED CARD OF 'eponymlaw16.StampDays'. -/
def stampDaysCard : Claim7 := { stood := { row := stampDaysRow, standIns := [], harness := (true, "45d07bbb5bf80a5b418c46eb463e6895ddfefe2fbecf913568c250fb97f3dd1b"), looks := true }, kinds := [], alts := [], laidByText := true, laidKinds := [.data, .data, .data, .data, .handle, .sentinel, .sentinel, .sentinel, .sentinel, .sentinel, .sentinel, .sentinel, .sentinel, .sentinel, .sentinel, .sentinel, .sentinel, .sentinel, .sentinel, .sentinel, .sentinel, .sentinel, .sentinel, .pinned], laidTests := true, laidLooks := .later }
def StampDaysCardSaid : Prop := Claim7.holds Tryd.pinned (.plain (OpenSpec.ofChange stampDaysSpec)) stampDaysCard

/-- THE SECOND FORM's CARD OF 'eponymlaw16.StampFollows'. -/
def stampFollowsUptoCard : Claim7 := { stood := { row := stampFollowsUptoRow, standIns := [], harness := (true, "45d07bbb5bf80a5b418c46eb463e6895ddfefe2fbecf913568c250fb97f3dd1b"), looks := true }, kinds := [], alts := [], laidByText := true, laidKinds := [.data, .data, .data, .data, .sentinel, .sentinel, .sentinel, .pinned], laidTests := true, laidLooks := .later }
def StampFollowsUptoCardSaid : Prop := Claim7.holds Tryd.pinned (.plain (OpenSpec.upto stampFollowsSpec)) stampFollowsUptoCard

/-- THE SECOND FORM's CARD OF 'eponymlaw16.StampParses'. -/
def stampParsesUptoCard : Claim7 := { stood := { row := stampParsesUptoRow, standIns := [], harness := (true, "45d07bbb5bf80a5b418c46eb463e6895ddfefe2fbecf913568c250fb97f3dd1b"), looks := true }, kinds := [], alts := [], laidByText := true, laidKinds := [.data, .data, .data, .data, .handle, .sentinel, .sentinel, .sentinel, .sentinel, .sentinel, .sentinel, .sentinel, .sentinel, .sentinel, .sentinel, .sentinel, .sentinel, .sentinel, .sentinel, .sentinel, .sentinel, .sentinel, .sentinel, .pinned], laidTests := true, laidLooks := .later }
def StampParsesUptoCardSaid : Prop := Claim7.holds Tryd.pinned (.plain (OpenSpec.upto stampParsesSpec)) stampParsesUptoCard

/-- THE SECOND FORM's CARD OF 'eponymlaw16.StampTexts'. -/
def stampTextsUptoCard : Claim7 := { stood := { row := stampTextsUptoRow, standIns := [], harness := (true, "45d07bbb5bf80a5b418c46eb463e6895ddfefe2fbecf913568c250fb97f3dd1b"), looks := true }, kinds := [], alts := [], laidByText := true, laidKinds := [.data, .data, .data, .data, .handle, .sentinel, .sentinel, .sentinel, .sentinel, .sentinel, .sentinel, .sentinel, .sentinel, .sentinel, .sentinel, .sentinel, .sentinel, .sentinel, .sentinel, .sentinel, .sentinel, .sentinel, .sentinel, .pinned], laidTests := true, laidLooks := .later }
def StampTextsUptoCardSaid : Prop := Claim7.holds Tryd.pinned (.plain (OpenSpec.upto stampTextsSpec)) stampTextsUptoCard

/-- THE SECOND FORM's CARD OF 'eponymlaw16.StampDays'. -/
def stampDaysUptoCard : Claim7 := { stood := { row := stampDaysUptoRow, standIns := [], harness := (true, "45d07bbb5bf80a5b418c46eb463e6895ddfefe2fbecf913568c250fb97f3dd1b"), looks := true }, kinds := [], alts := [], laidByText := true, laidKinds := [.data, .data, .data, .data, .handle, .sentinel, .sentinel, .sentinel, .sentinel, .sentinel, .sentinel, .sentinel, .sentinel, .sentinel, .sentinel, .sentinel, .sentinel, .sentinel, .sentinel, .sentinel, .sentinel, .sentinel, .sentinel, .pinned], laidTests := true, laidLooks := .later }
def StampDaysUptoCardSaid : Prop := Claim7.holds Tryd.pinned (.plain (OpenSpec.upto stampDaysSpec)) stampDaysUptoCard
end Rows
end Go.Proofs.YtlgdenihddkjaaaDoor
