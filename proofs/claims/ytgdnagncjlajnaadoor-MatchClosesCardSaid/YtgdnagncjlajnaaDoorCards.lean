/-
  DERIVED. GIVEN WITH THE SEED: THE CARDS: each row of YtgdnagncjlajnaaDoorRows.lean that lists a variable, with what it lists TIED to the program's text (the seventh form; the later family's looks); each row that meets fmt, with fmt's text TOLD by the authors' own Lean function (tested against real Go, not proved from fmt's source: count such statements apart). THE CARD IS WHAT COUNTS. Prove the row's statement (the work); the ties are given (YtgdnagncjlajnaaDoorTie.lean); close each card by the builder's one call (the guide's Derived/Test/ToyasCard.lean, 'card_holds'). Laid BY PROGRAM, IN A SANDBOX (cutbox-door.mjs). By AI agents, Wed Nov 11 2026. No macro, syntax, notation, axiom, sorry.
-/
import Derived.Test.YtgdnagncjlajnaaDoorRows
import GoSem.ClaimSeven
namespace Go.Proofs.YtgdnagncjlajnaaDoor
namespace Rows

/-- THE TIED CARD OF 'eponymlaw18.MatchMeans'. -/
def matchMeansCard : Claim7 := { stood := { row := matchMeansRow, standIns := [], harness := (true, "1aa38ca6eefe0f1c2abf88699e2a07fed2ceb4c5e53bdd1a46231b1d148c184e"), looks := false }, kinds := [], alts := [], laidByText := true, laidKinds := [.data, .pinned], laidTests := true, laidLooks := .later }
def MatchMeansCardSaid : Prop := Claim7.holds Tryd.pinned (.plain (OpenSpec.ofChange matchMeansSpec)) matchMeansCard

/-- THE TIED CARD OF 'eponymlaw18.MatchGlobs'. -/
def matchGlobsCard : Claim7 := { stood := { row := matchGlobsRow, standIns := [], harness := (true, "1aa38ca6eefe0f1c2abf88699e2a07fed2ceb4c5e53bdd1a46231b1d148c184e"), looks := false }, kinds := [], alts := [], laidByText := true, laidKinds := [.data, .pinned], laidTests := true, laidLooks := .later }
def MatchGlobsCardSaid : Prop := Claim7.holds Tryd.pinned (.plain (OpenSpec.ofChange matchGlobsSpec)) matchGlobsCard

/-- THE TIED CARD OF 'eponymlaw18.MatchCloses'. -/
def matchClosesCard : Claim7 := { stood := { row := matchClosesRow, standIns := [], harness := (true, "1aa38ca6eefe0f1c2abf88699e2a07fed2ceb4c5e53bdd1a46231b1d148c184e"), looks := false }, kinds := [], alts := [], laidByText := true, laidKinds := [.data, .pinned], laidTests := true, laidLooks := .later }
def MatchClosesCardSaid : Prop := Claim7.holds Tryd.pinned (.plain (OpenSpec.ofChange matchClosesSpec)) matchClosesCard

/-- THE SECOND FORM's CARD OF 'eponymlaw18.MatchMeans'. -/
def matchMeansUptoCard : Claim7 := { stood := { row := matchMeansUptoRow, standIns := [], harness := (true, "1aa38ca6eefe0f1c2abf88699e2a07fed2ceb4c5e53bdd1a46231b1d148c184e"), looks := false }, kinds := [], alts := [], laidByText := true, laidKinds := [.data, .pinned], laidTests := true, laidLooks := .later }
def MatchMeansUptoCardSaid : Prop := Claim7.holds Tryd.pinned (.plain (OpenSpec.upto matchMeansSpec)) matchMeansUptoCard

/-- THE SECOND FORM's CARD OF 'eponymlaw18.MatchGlobs'. -/
def matchGlobsUptoCard : Claim7 := { stood := { row := matchGlobsUptoRow, standIns := [], harness := (true, "1aa38ca6eefe0f1c2abf88699e2a07fed2ceb4c5e53bdd1a46231b1d148c184e"), looks := false }, kinds := [], alts := [], laidByText := true, laidKinds := [.data, .pinned], laidTests := true, laidLooks := .later }
def MatchGlobsUptoCardSaid : Prop := Claim7.holds Tryd.pinned (.plain (OpenSpec.upto matchGlobsSpec)) matchGlobsUptoCard

/-- THE SECOND FORM's CARD OF 'eponymlaw18.MatchCloses'. -/
def matchClosesUptoCard : Claim7 := { stood := { row := matchClosesUptoRow, standIns := [], harness := (true, "1aa38ca6eefe0f1c2abf88699e2a07fed2ceb4c5e53bdd1a46231b1d148c184e"), looks := false }, kinds := [], alts := [], laidByText := true, laidKinds := [.data, .pinned], laidTests := true, laidLooks := .later }
def MatchClosesUptoCardSaid : Prop := Claim7.holds Tryd.pinned (.plain (OpenSpec.upto matchClosesSpec)) matchClosesUptoCard
end Rows
end Go.Proofs.YtgdnagncjlajnaaDoor
