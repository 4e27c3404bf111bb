/-
  DERIVED. GIVEN WITH THE SEED: THE CARDS: each row of YthggpjiabklekaaGreatDoorRows.lean that lists a variable, with what it lists TIED to the program's text (the seventh form; the later family's looks); each row that meets fmt, with fmt's text TOLD by the authors' own Lean function (tested against real Go, not proved from fmt's source: count such statements apart). THE CARD IS WHAT COUNTS. Prove the row's statement (the work); the ties are given (YthggpjiabklekaaGreatDoorTie.lean); close each card by the builder's one call (the guide's Derived/Test/ToyasCard.lean, 'card_holds'). Laid BY PROGRAM, IN A SANDBOX (cutbox-door.mjs). By AI agents, Wed Nov 11 2026. No macro, syntax, notation, axiom, sorry.
-/
import Derived.Test.YthggpjiabklekaaGreatDoorRows
import GoSem.ClaimSeven
namespace Go.Proofs.YthggpjiabklekaaGreatDoor
namespace Rows

/-- THE TIED CARD OF 'eponymlaw03.RangesFinds'. -/
def rangesFindsCard : Claim7 := { stood := { row := rangesFindsRow, standIns := [], harness := (true, "b2c13af00e6e7179a96cc4e90cca6a673ba2957d60697b694ee404790e08f0f7"), looks := true }, kinds := [], alts := [], laidByText := true, laidKinds := [.data, .data, .data, .data, .handle, .sentinel, .sentinel, .sentinel, .sentinel, .sentinel, .sentinel, .sentinel, .sentinel, .sentinel, .sentinel, .sentinel, .sentinel, .sentinel, .sentinel, .sentinel, .sentinel, .sentinel, .sentinel, .sentinel, .sentinel, .pinned, .pinned], laidTests := true, laidLooks := .later }
def RangesFindsCardSaid : Prop := Claim7.holds Tryz.pinned (.plain (OpenSpec.ofChange rangesFindsSpec)) rangesFindsCard

/-- THE TIED CARD OF 'eponymlaw03.RangesTexts'. -/
def rangesTextsCard : Claim7 := { stood := { row := rangesTextsRow, standIns := [], harness := (true, "b2c13af00e6e7179a96cc4e90cca6a673ba2957d60697b694ee404790e08f0f7"), looks := true }, kinds := [], alts := [], laidByText := true, laidKinds := [.data, .data, .data, .data, .handle, .sentinel, .sentinel, .sentinel, .sentinel, .sentinel, .sentinel, .sentinel, .sentinel, .sentinel, .sentinel, .sentinel, .sentinel, .sentinel, .sentinel, .sentinel, .sentinel, .sentinel, .sentinel, .sentinel, .sentinel, .pinned, .pinned], laidTests := true, laidLooks := .later }
def RangesTextsCardSaid : Prop := Claim7.holds Tryz.pinned (.plain (OpenSpec.ofChange rangesTextsSpec)) rangesTextsCard

/-- THE TIED CARD OF 'eponymlaw03.RangesParses'. -/
def rangesParsesCard : Claim7 := { stood := { row := rangesParsesRow, standIns := [], harness := (true, "b2c13af00e6e7179a96cc4e90cca6a673ba2957d60697b694ee404790e08f0f7"), looks := true }, kinds := [], alts := [], laidByText := true, laidKinds := [.data, .data, .data, .data, .handle, .sentinel, .sentinel, .sentinel, .sentinel, .sentinel, .sentinel, .sentinel, .sentinel, .sentinel, .sentinel, .sentinel, .sentinel, .sentinel, .sentinel, .sentinel, .sentinel, .sentinel, .sentinel, .sentinel, .sentinel, .pinned, .pinned], laidTests := true, laidLooks := .later }
def RangesParsesCardSaid : Prop := Claim7.holds Tryz.pinned (.plain (OpenSpec.ofChange rangesParsesSpec)) rangesParsesCard

/-- THE TIED CARD OF 'eponymlaw03.RangesJoins'. -/
def rangesJoinsCard : Claim7 := { stood := { row := rangesJoinsRow, standIns := [], harness := (true, "b2c13af00e6e7179a96cc4e90cca6a673ba2957d60697b694ee404790e08f0f7"), looks := true }, kinds := [], alts := [], laidByText := true, laidKinds := [.data, .data, .data, .data, .handle, .sentinel, .sentinel, .sentinel, .sentinel, .sentinel, .sentinel, .sentinel, .sentinel, .sentinel, .sentinel, .sentinel, .sentinel, .sentinel, .sentinel, .sentinel, .sentinel, .sentinel, .sentinel, .sentinel, .sentinel, .pinned, .pinned], laidTests := true, laidLooks := .later }
def RangesJoinsCardSaid : Prop := Claim7.holds Tryz.pinned (.plain (OpenSpec.ofChange rangesJoinsSpec)) rangesJoinsCard

/-- THE TIED CARD OF 'eponymlaw03.RangesGoes'. -/
def rangesGoesCard : Claim7 := { stood := { row := rangesGoesRow, standIns := [], harness := (true, "b2c13af00e6e7179a96cc4e90cca6a673ba2957d60697b694ee404790e08f0f7"), looks := true }, kinds := [], alts := [], laidByText := true, laidKinds := [.data, .data, .data, .data, .handle, .sentinel, .sentinel, .sentinel, .sentinel, .sentinel, .sentinel, .sentinel, .sentinel, .sentinel, .sentinel, .sentinel, .sentinel, .sentinel, .sentinel, .sentinel, .sentinel, .sentinel, .sentinel, .sentinel, .sentinel, .pinned, .pinned], laidTests := true, laidLooks := .later }
def RangesGoesCardSaid : Prop := Claim7.holds Tryz.pinned (.plain (OpenSpec.ofChange rangesGoesSpec)) rangesGoesCard

/-- THE TIED CARD OF 'eponymlaw03.RangesChecks'. -/
def rangesChecksCard : Claim7 := { stood := { row := rangesChecksRow, standIns := [], harness := (true, "b2c13af00e6e7179a96cc4e90cca6a673ba2957d60697b694ee404790e08f0f7"), looks := true }, kinds := [], alts := [], laidByText := true, laidKinds := [.data, .data, .data, .data, .handle, .sentinel, .sentinel, .sentinel, .sentinel, .sentinel, .sentinel, .sentinel, .sentinel, .sentinel, .sentinel, .sentinel, .sentinel, .sentinel, .sentinel, .sentinel, .sentinel, .sentinel, .sentinel, .sentinel, .sentinel, .pinned, .pinned], laidTests := true, laidLooks := .later }
def RangesChecksCardSaid : Prop := Claim7.holds Tryz.pinned (.plain (OpenSpec.ofChange rangesChecksSpec)) rangesChecksCard

/-- THE TIED CARD OF 'eponymlaw03.RangesFull'. -/
def rangesFullCard : Claim7 := { stood := { row := rangesFullRow, standIns := [], harness := (true, "b2c13af00e6e7179a96cc4e90cca6a673ba2957d60697b694ee404790e08f0f7"), looks := true }, kinds := [], alts := [], laidByText := true, laidKinds := [.data, .data, .data, .data, .handle, .sentinel, .sentinel, .sentinel, .sentinel, .sentinel, .sentinel, .sentinel, .sentinel, .sentinel, .sentinel, .sentinel, .sentinel, .sentinel, .sentinel, .sentinel, .sentinel, .sentinel, .sentinel, .sentinel, .sentinel, .pinned, .pinned], laidTests := true, laidLooks := .later }
def RangesFullCardSaid : Prop := Claim7.holds Tryz.pinned (.plain (OpenSpec.ofChange rangesFullSpec)) rangesFullCard

/-- THE SECOND FORM's CARD OF 'eponymlaw03.RangesFinds'. -/
def rangesFindsUptoCard : Claim7 := { stood := { row := rangesFindsUptoRow, standIns := [], harness := (true, "b2c13af00e6e7179a96cc4e90cca6a673ba2957d60697b694ee404790e08f0f7"), looks := true }, kinds := [], alts := [], laidByText := true, laidKinds := [.data, .data, .data, .data, .handle, .sentinel, .sentinel, .sentinel, .sentinel, .sentinel, .sentinel, .sentinel, .sentinel, .sentinel, .sentinel, .sentinel, .sentinel, .sentinel, .sentinel, .sentinel, .sentinel, .sentinel, .sentinel, .sentinel, .sentinel, .pinned, .pinned], laidTests := true, laidLooks := .later }
def RangesFindsUptoCardSaid : Prop := Claim7.holds Tryz.pinned (.plain (OpenSpec.upto rangesFindsSpec)) rangesFindsUptoCard

/-- THE SECOND FORM's CARD OF 'eponymlaw03.RangesTexts'. -/
def rangesTextsUptoCard : Claim7 := { stood := { row := rangesTextsUptoRow, standIns := [], harness := (true, "b2c13af00e6e7179a96cc4e90cca6a673ba2957d60697b694ee404790e08f0f7"), looks := true }, kinds := [], alts := [], laidByText := true, laidKinds := [.data, .data, .data, .data, .handle, .sentinel, .sentinel, .sentinel, .sentinel, .sentinel, .sentinel, .sentinel, .sentinel, .sentinel, .sentinel, .sentinel, .sentinel, .sentinel, .sentinel, .sentinel, .sentinel, .sentinel, .sentinel, .sentinel, .sentinel, .pinned, .pinned], laidTests := true, laidLooks := .later }
def RangesTextsUptoCardSaid : Prop := Claim7.holds Tryz.pinned (.plain (OpenSpec.upto rangesTextsSpec)) rangesTextsUptoCard

/-- THE SECOND FORM's CARD OF 'eponymlaw03.RangesParses'. -/
def rangesParsesUptoCard : Claim7 := { stood := { row := rangesParsesUptoRow, standIns := [], harness := (true, "b2c13af00e6e7179a96cc4e90cca6a673ba2957d60697b694ee404790e08f0f7"), looks := true }, kinds := [], alts := [], laidByText := true, laidKinds := [.data, .data, .data, .data, .handle, .sentinel, .sentinel, .sentinel, .sentinel, .sentinel, .sentinel, .sentinel, .sentinel, .sentinel, .sentinel, .sentinel, .sentinel, .sentinel, .sentinel, .sentinel, .sentinel, .sentinel, .sentinel, .sentinel, .sentinel, .pinned, .pinned], laidTests := true, laidLooks := .later }
def RangesParsesUptoCardSaid : Prop := Claim7.holds Tryz.pinned (.plain (OpenSpec.upto rangesParsesSpec)) rangesParsesUptoCard

/-- THE SECOND FORM's CARD OF 'eponymlaw03.RangesJoins'. -/
def rangesJoinsUptoCard : Claim7 := { stood := { row := rangesJoinsUptoRow, standIns := [], harness := (true, "b2c13af00e6e7179a96cc4e90cca6a673ba2957d60697b694ee404790e08f0f7"), looks := true }, kinds := [], alts := [], laidByText := true, laidKinds := [.data, .data, .data, .data, .handle, .sentinel, .sentinel, .sentinel, .sentinel, .sentinel, .sentinel, .sentinel, .sentinel, .sentinel, .sentinel, .sentinel, .sentinel, .sentinel, .sentinel, .sentinel, .sentinel, .sentinel, .sentinel, .sentinel, .sentinel, .pinned, .pinned], laidTests := true, laidLooks := .later }
def RangesJoinsUptoCardSaid : Prop := Claim7.holds Tryz.pinned (.plain (OpenSpec.upto rangesJoinsSpec)) rangesJoinsUptoCard

/-- THE SECOND FORM's CARD OF 'eponymlaw03.RangesGoes'. -/
def rangesGoesUptoCard : Claim7 := { stood := { row := rangesGoesUptoRow, standIns := [], harness := (true, "b2c13af00e6e7179a96cc4e90cca6a673ba2957d60697b694ee404790e08f0f7"), looks := true }, kinds := [], alts := [], laidByText := true, laidKinds := [.data, .data, .data, .data, .handle, .sentinel, .sentinel, .sentinel, .sentinel, .sentinel, .sentinel, .sentinel, .sentinel, .sentinel, .sentinel, .sentinel, .sentinel, .sentinel, .sentinel, .sentinel, .sentinel, .sentinel, .sentinel, .sentinel, .sentinel, .pinned, .pinned], laidTests := true, laidLooks := .later }
def RangesGoesUptoCardSaid : Prop := Claim7.holds Tryz.pinned (.plain (OpenSpec.upto rangesGoesSpec)) rangesGoesUptoCard

/-- THE SECOND FORM's CARD OF 'eponymlaw03.RangesChecks'. -/
def rangesChecksUptoCard : Claim7 := { stood := { row := rangesChecksUptoRow, standIns := [], harness := (true, "b2c13af00e6e7179a96cc4e90cca6a673ba2957d60697b694ee404790e08f0f7"), looks := true }, kinds := [], alts := [], laidByText := true, laidKinds := [.data, .data, .data, .data, .handle, .sentinel, .sentinel, .sentinel, .sentinel, .sentinel, .sentinel, .sentinel, .sentinel, .sentinel, .sentinel, .sentinel, .sentinel, .sentinel, .sentinel, .sentinel, .sentinel, .sentinel, .sentinel, .sentinel, .sentinel, .pinned, .pinned], laidTests := true, laidLooks := .later }
def RangesChecksUptoCardSaid : Prop := Claim7.holds Tryz.pinned (.plain (OpenSpec.upto rangesChecksSpec)) rangesChecksUptoCard

/-- THE SECOND FORM's CARD OF 'eponymlaw03.RangesFull'. -/
def rangesFullUptoCard : Claim7 := { stood := { row := rangesFullUptoRow, standIns := [], harness := (true, "b2c13af00e6e7179a96cc4e90cca6a673ba2957d60697b694ee404790e08f0f7"), looks := true }, kinds := [], alts := [], laidByText := true, laidKinds := [.data, .data, .data, .data, .handle, .sentinel, .sentinel, .sentinel, .sentinel, .sentinel, .sentinel, .sentinel, .sentinel, .sentinel, .sentinel, .sentinel, .sentinel, .sentinel, .sentinel, .sentinel, .sentinel, .sentinel, .sentinel, .sentinel, .sentinel, .pinned, .pinned], laidTests := true, laidLooks := .later }
def RangesFullUptoCardSaid : Prop := Claim7.holds Tryz.pinned (.plain (OpenSpec.upto rangesFullSpec)) rangesFullUptoCard
end Rows
end Go.Proofs.YthggpjiabklekaaGreatDoor
