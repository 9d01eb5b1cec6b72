/-
  DERIVED. GIVEN WITH THE SEED: THE CARDS: each row of YthobcefghkeddaaGreatDoorRows.lean that lists a variable, with what it lists TIED to the program's text (the seventh form; the later family's looks); each row that meets fmt, with fmt's text TOLD by the authors' own Lean function (tested against real Go, not proved from fmt's source: count such statements apart). THE CARD IS WHAT COUNTS. Prove the row's statement (the work); the ties are given (YthobcefghkeddaaGreatDoorTie.lean); close each card by the builder's one call (the guide's Derived/Test/ToyasCard.lean, 'card_holds'). Laid BY PROGRAM, IN A SANDBOX (cutbox-door.mjs). By AI agents, Wed Nov 11 2026. No macro, syntax, notation, axiom, sorry.
-/
import Derived.Test.YthobcefghkeddaaGreatDoorRows
import GoSem.ClaimSeven
namespace Go.Proofs.YthobcefghkeddaaGreatDoor
namespace Rows

/-- THE TIED CARD OF 'bulkheadlaw10.CheckRows'. -/
def checkRowsCard : Claim7 := { stood := { row := checkRowsRow, standIns := [], harness := (true, "52f33abb9aa381e8fddb1f9b0eacf60b8eeb1cc350e000791f0631c0f04fd0f9"), looks := true }, kinds := [], alts := [], laidByText := true, laidKinds := [.data, .data, .data, .data, .handle, .sentinel, .sentinel, .listed, .data, .data, .pinned], laidTests := true, laidLooks := .later }
def CheckRowsCardSaid : Prop := Claim7.holds Tryz.pinned (.plain (OpenSpec.ofChange checkRowsSpec)) checkRowsCard

/-- THE TIED CARD OF 'bulkheadlaw11.PlaceStill'. -/
def placeStillCard : Claim7 := { stood := { row := placeStillRow, standIns := [], harness := (true, "52f33abb9aa381e8fddb1f9b0eacf60b8eeb1cc350e000791f0631c0f04fd0f9"), looks := true }, kinds := [], alts := [], laidByText := true, laidKinds := [.data, .data, .data, .data, .handle, .sentinel, .sentinel, .listed, .data, .data, .pinned], laidTests := true, laidLooks := .later }
def PlaceStillCardSaid : Prop := Claim7.holds Tryz.pinned (.plain (OpenSpec.ofChange placeStillSpec)) placeStillCard

/-- THE TIED CARD OF 'bulkheadlaw11.PlaceRoom'. -/
def placeRoomCard : Claim7 := { stood := { row := placeRoomRow, standIns := [], harness := (true, "52f33abb9aa381e8fddb1f9b0eacf60b8eeb1cc350e000791f0631c0f04fd0f9"), looks := true }, kinds := [], alts := [], laidByText := true, laidKinds := [.data, .data, .data, .data, .handle, .sentinel, .sentinel, .listed, .data, .data, .pinned], laidTests := true, laidLooks := .later }
def PlaceRoomCardSaid : Prop := Claim7.holds Tryz.pinned (.plain (OpenSpec.ofChange placeRoomSpec)) placeRoomCard

/-- THE TIED CARD OF 'bulkheadlaw11.PlaceNames'. -/
def placeNamesCard : Claim7 := { stood := { row := placeNamesRow, standIns := [], harness := (true, "52f33abb9aa381e8fddb1f9b0eacf60b8eeb1cc350e000791f0631c0f04fd0f9"), looks := true }, kinds := [], alts := [], laidByText := true, laidKinds := [.data, .data, .data, .data, .handle, .sentinel, .sentinel, .listed, .data, .data, .pinned], laidTests := true, laidLooks := .later }
def PlaceNamesCardSaid : Prop := Claim7.holds Tryz.pinned (.plain (OpenSpec.ofChange placeNamesSpec)) placeNamesCard

/-- THE TIED CARD OF 'bulkheadlaw11.PlacePlaced'. -/
def placePlacedCard : Claim7 := { stood := { row := placePlacedRow, standIns := [], harness := (true, "52f33abb9aa381e8fddb1f9b0eacf60b8eeb1cc350e000791f0631c0f04fd0f9"), looks := true }, kinds := [], alts := [], laidByText := true, laidKinds := [.data, .data, .data, .data, .handle, .sentinel, .sentinel, .listed, .data, .data, .pinned], laidTests := true, laidLooks := .later }
def PlacePlacedCardSaid : Prop := Claim7.holds Tryz.pinned (.plain (OpenSpec.ofChange placePlacedSpec)) placePlacedCard

/-- THE SECOND FORM's CARD OF 'bulkheadlaw10.CheckRows'. -/
def checkRowsUptoCard : Claim7 := { stood := { row := checkRowsUptoRow, standIns := [], harness := (true, "52f33abb9aa381e8fddb1f9b0eacf60b8eeb1cc350e000791f0631c0f04fd0f9"), looks := true }, kinds := [], alts := [], laidByText := true, laidKinds := [.data, .data, .data, .data, .handle, .sentinel, .sentinel, .listed, .data, .data, .pinned], laidTests := true, laidLooks := .later }
def CheckRowsUptoCardSaid : Prop := Claim7.holds Tryz.pinned (.plain (OpenSpec.upto checkRowsSpec)) checkRowsUptoCard

/-- THE SECOND FORM's CARD OF 'bulkheadlaw11.PlaceStill'. -/
def placeStillUptoCard : Claim7 := { stood := { row := placeStillUptoRow, standIns := [], harness := (true, "52f33abb9aa381e8fddb1f9b0eacf60b8eeb1cc350e000791f0631c0f04fd0f9"), looks := true }, kinds := [], alts := [], laidByText := true, laidKinds := [.data, .data, .data, .data, .handle, .sentinel, .sentinel, .listed, .data, .data, .pinned], laidTests := true, laidLooks := .later }
def PlaceStillUptoCardSaid : Prop := Claim7.holds Tryz.pinned (.plain (OpenSpec.upto placeStillSpec)) placeStillUptoCard

/-- THE SECOND FORM's CARD OF 'bulkheadlaw11.PlaceRoom'. -/
def placeRoomUptoCard : Claim7 := { stood := { row := placeRoomUptoRow, standIns := [], harness := (true, "52f33abb9aa381e8fddb1f9b0eacf60b8eeb1cc350e000791f0631c0f04fd0f9"), looks := true }, kinds := [], alts := [], laidByText := true, laidKinds := [.data, .data, .data, .data, .handle, .sentinel, .sentinel, .listed, .data, .data, .pinned], laidTests := true, laidLooks := .later }
def PlaceRoomUptoCardSaid : Prop := Claim7.holds Tryz.pinned (.plain (OpenSpec.upto placeRoomSpec)) placeRoomUptoCard

/-- THE SECOND FORM's CARD OF 'bulkheadlaw11.PlaceNames'. -/
def placeNamesUptoCard : Claim7 := { stood := { row := placeNamesUptoRow, standIns := [], harness := (true, "52f33abb9aa381e8fddb1f9b0eacf60b8eeb1cc350e000791f0631c0f04fd0f9"), looks := true }, kinds := [], alts := [], laidByText := true, laidKinds := [.data, .data, .data, .data, .handle, .sentinel, .sentinel, .listed, .data, .data, .pinned], laidTests := true, laidLooks := .later }
def PlaceNamesUptoCardSaid : Prop := Claim7.holds Tryz.pinned (.plain (OpenSpec.upto placeNamesSpec)) placeNamesUptoCard

/-- THE SECOND FORM's CARD OF 'bulkheadlaw11.PlacePlaced'. -/
def placePlacedUptoCard : Claim7 := { stood := { row := placePlacedUptoRow, standIns := [], harness := (true, "52f33abb9aa381e8fddb1f9b0eacf60b8eeb1cc350e000791f0631c0f04fd0f9"), looks := true }, kinds := [], alts := [], laidByText := true, laidKinds := [.data, .data, .data, .data, .handle, .sentinel, .sentinel, .listed, .data, .data, .pinned], laidTests := true, laidLooks := .later }
def PlacePlacedUptoCardSaid : Prop := Claim7.holds Tryz.pinned (.plain (OpenSpec.upto placePlacedSpec)) placePlacedUptoCard
end Rows
end Go.Proofs.YthobcefghkeddaaGreatDoor
