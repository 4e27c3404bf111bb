/-
  DERIVED. GIVEN WITH THE SEED: THE CARDS: each row of YthdmaajmgbhbmaaDoorRows.lean that lists a variable, with what it lists TIED to the program's text (the seventh form; the later family's looks); each row that meets fmt, with fmt's text TOLD by the authors' own Lean function (tested against real Go, not proved from fmt's source: count such statements apart). THE CARD IS WHAT COUNTS. Prove the row's statement (the work); the ties are given (YthdmaajmgbhbmaaDoorTie.lean); close each card by the builder's one call (the guide's Derived/Test/ToyasCard.lean, 'card_holds'). Laid BY PROGRAM, IN A SANDBOX (cutbox-door.mjs). By AI agents, Wed Nov 11 2026. No macro, syntax, notation, axiom, sorry.
-/
import Derived.Test.YthdmaajmgbhbmaaDoorRows
import GoSem.ClaimSeven
namespace Go.Proofs.YthdmaajmgbhbmaaDoor
namespace Rows

/-- THE TIED CARD OF 'eponymlaw27.HttpGets'. -/
def httpGetsCard : Claim7 := { stood := { row := httpGetsRow, standIns := [], harness := (true, "d2cccc5a3e033d338244a2744ecd77eed70f8e85100c0bc2770f58870dafd3bf"), looks := true }, kinds := [], alts := [], laidByText := true, laidKinds := [.data, .sentinel, .sentinel, .sentinel, .sentinel, .pinned], laidTests := true, laidLooks := .later }
def HttpGetsCardSaid : Prop := Claim7.holds Tryd.pinned (.plain (OpenSpec.ofChange httpGetsSpec)) httpGetsCard

/-- THE TIED CARD OF 'eponymlaw27.HttpFull'. -/
def httpFullCard : Claim7 := { stood := { row := httpFullRow, standIns := [], harness := (true, "d2cccc5a3e033d338244a2744ecd77eed70f8e85100c0bc2770f58870dafd3bf"), looks := true }, kinds := [], alts := [], laidByText := true, laidKinds := [.data, .handle, .sentinel, .sentinel, .sentinel, .sentinel, .sentinel, .sentinel, .sentinel, .sentinel, .sentinel, .sentinel, .sentinel, .sentinel, .sentinel, .sentinel, .sentinel, .sentinel, .sentinel, .sentinel, .pinned], laidTests := true, laidLooks := .later }
def HttpFullCardSaid : Prop := Claim7.holds Tryd.pinned (.plain (OpenSpec.ofChange httpFullSpec)) httpFullCard

/-- THE SECOND FORM's CARD OF 'eponymlaw27.HttpGets'. -/
def httpGetsUptoCard : Claim7 := { stood := { row := httpGetsUptoRow, standIns := [], harness := (true, "d2cccc5a3e033d338244a2744ecd77eed70f8e85100c0bc2770f58870dafd3bf"), looks := true }, kinds := [], alts := [], laidByText := true, laidKinds := [.data, .sentinel, .sentinel, .sentinel, .sentinel, .pinned], laidTests := true, laidLooks := .later }
def HttpGetsUptoCardSaid : Prop := Claim7.holds Tryd.pinned (.plain (OpenSpec.upto httpGetsSpec)) httpGetsUptoCard

/-- THE SECOND FORM's CARD OF 'eponymlaw27.HttpFull'. -/
def httpFullUptoCard : Claim7 := { stood := { row := httpFullUptoRow, standIns := [], harness := (true, "d2cccc5a3e033d338244a2744ecd77eed70f8e85100c0bc2770f58870dafd3bf"), looks := true }, kinds := [], alts := [], laidByText := true, laidKinds := [.data, .handle, .sentinel, .sentinel, .sentinel, .sentinel, .sentinel, .sentinel, .sentinel, .sentinel, .sentinel, .sentinel, .sentinel, .sentinel, .sentinel, .sentinel, .sentinel, .sentinel, .sentinel, .sentinel, .pinned], laidTests := true, laidLooks := .later }
def HttpFullUptoCardSaid : Prop := Claim7.holds Tryd.pinned (.plain (OpenSpec.upto httpFullSpec)) httpFullUptoCard
end Rows
end Go.Proofs.YthdmaajmgbhbmaaDoor
