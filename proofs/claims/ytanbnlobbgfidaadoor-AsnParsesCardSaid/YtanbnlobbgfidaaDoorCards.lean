/-
  DERIVED. GIVEN WITH THE SEED: THE CARDS: each row of YtanbnlobbgfidaaDoorRows.lean that lists a variable, with what it lists TIED to the program's text (the seventh form; the later family's looks); each row that meets fmt, with fmt's text TOLD by the authors' own Lean function (tested against real Go, not proved from fmt's source: count such statements apart). THE CARD IS WHAT COUNTS. Prove the row's statement (the work); the ties are given (YtanbnlobbgfidaaDoorTie.lean); close each card by the builder's one call (the guide's Derived/Test/ToyasCard.lean, 'card_holds'). Laid BY PROGRAM, IN A SANDBOX (cutbox-door.mjs). By AI agents, Wed Nov 11 2026. No macro, syntax, notation, axiom, sorry.
-/
import Derived.Test.YtanbnlobbgfidaaDoorRows
import GoSem.ClaimSeven
namespace Go.Proofs.YtanbnlobbgfidaaDoor
namespace Rows

/-- THE TIED CARD OF 'eponymlaw15.AsnParses'. -/
def asnParsesCard : Claim7 := { stood := { row := asnParsesRow, standIns := [], harness := (true, "f48fbb8f0cae04aa3c947eec245c6221cc6dc0669013e337832afc218c1c48af"), looks := true }, kinds := [], alts := [], laidByText := true, laidKinds := [.data, .data, .data, .handle, .sentinel, .sentinel, .sentinel, .sentinel, .sentinel, .sentinel, .sentinel, .sentinel, .sentinel, .sentinel, .sentinel, .sentinel, .sentinel, .sentinel, .sentinel, .sentinel, .sentinel, .sentinel, .sentinel, .sentinel], laidTests := true, laidLooks := .later }
def AsnParsesCardSaid : Prop := Claim7.holds Tryd.pinned (.plain (OpenSpec.ofChange asnParsesSpec)) asnParsesCard

/-- THE TIED CARD OF 'eponymlaw15.AsnOrder'. -/
def asnOrderCard : Claim7 := { stood := { row := asnOrderRow, standIns := [], harness := (true, "f48fbb8f0cae04aa3c947eec245c6221cc6dc0669013e337832afc218c1c48af"), looks := true }, kinds := [], alts := [], laidByText := true, laidKinds := [.data, .data, .data, .handle, .sentinel, .sentinel, .sentinel, .sentinel, .sentinel, .sentinel, .sentinel, .sentinel, .sentinel, .sentinel, .sentinel, .sentinel, .sentinel, .sentinel, .sentinel, .sentinel, .sentinel, .sentinel, .sentinel, .sentinel], laidTests := true, laidLooks := .later }
def AsnOrderCardSaid : Prop := Claim7.holds Tryd.pinned (.plain (OpenSpec.ofChange asnOrderSpec)) asnOrderCard

/-- THE SECOND FORM's CARD OF 'eponymlaw15.AsnParses'. -/
def asnParsesUptoCard : Claim7 := { stood := { row := asnParsesUptoRow, standIns := [], harness := (true, "f48fbb8f0cae04aa3c947eec245c6221cc6dc0669013e337832afc218c1c48af"), looks := true }, kinds := [], alts := [], laidByText := true, laidKinds := [.data, .data, .data, .handle, .sentinel, .sentinel, .sentinel, .sentinel, .sentinel, .sentinel, .sentinel, .sentinel, .sentinel, .sentinel, .sentinel, .sentinel, .sentinel, .sentinel, .sentinel, .sentinel, .sentinel, .sentinel, .sentinel, .sentinel], laidTests := true, laidLooks := .later }
def AsnParsesUptoCardSaid : Prop := Claim7.holds Tryd.pinned (.plain (OpenSpec.upto asnParsesSpec)) asnParsesUptoCard

/-- THE SECOND FORM's CARD OF 'eponymlaw15.AsnOrder'. -/
def asnOrderUptoCard : Claim7 := { stood := { row := asnOrderUptoRow, standIns := [], harness := (true, "f48fbb8f0cae04aa3c947eec245c6221cc6dc0669013e337832afc218c1c48af"), looks := true }, kinds := [], alts := [], laidByText := true, laidKinds := [.data, .data, .data, .handle, .sentinel, .sentinel, .sentinel, .sentinel, .sentinel, .sentinel, .sentinel, .sentinel, .sentinel, .sentinel, .sentinel, .sentinel, .sentinel, .sentinel, .sentinel, .sentinel, .sentinel, .sentinel, .sentinel, .sentinel], laidTests := true, laidLooks := .later }
def AsnOrderUptoCardSaid : Prop := Claim7.holds Tryd.pinned (.plain (OpenSpec.upto asnOrderSpec)) asnOrderUptoCard
end Rows
end Go.Proofs.YtanbnlobbgfidaaDoor
