/-
  DERIVED. GIVEN WITH THE SEED: THE CARDS: each row of YteplcnpmdjdlkaaGreatDoorRows.lean that lists a variable, with what it lists TIED to the program's text (the seventh form; the later family's looks); each row that meets fmt, with fmt's text TOLD by the authors' own Lean function (tested against real Go, not proved from fmt's source: count such statements apart). THE CARD IS WHAT COUNTS. Prove the row's statement (the work); the ties are given (YteplcnpmdjdlkaaGreatDoorTie.lean); close each card by the builder's one call (the guide's Derived/Test/ToyasCard.lean, 'card_holds'). Laid BY PROGRAM, IN A SANDBOX (cutbox-door.mjs). By AI agents, Wed Nov 11 2026. No macro, syntax, notation, axiom, sorry.
-/
import Derived.Test.YteplcnpmdjdlkaaGreatDoorRows
import GoSem.ClaimSeven
namespace Go.Proofs.YteplcnpmdjdlkaaGreatDoor
namespace Rows

/-- THE TIED CARD OF 'dragomanlaw22.LwwKnown'. -/
def lwwKnownCard : Claim7 := { stood := { row := lwwKnownRow, standIns := [], harness := (true, "04a7b1ccffeb55cd68365e1fad4ab266e879bc3be2b967b90f0d1df7fcfe8539"), looks := true }, kinds := [], alts := [], laidByText := true, laidKinds := [.data, .data, .data, .data, .sentinel, .sentinel, .pinned], laidTests := true, laidLooks := .later }
def LwwKnownCardSaid : Prop := Claim7.holds Tryz.pinned (.plain (OpenSpec.ofChange lwwKnownSpec)) lwwKnownCard

/-- THE TIED CARD OF 'dragomanlaw22.LwwPlays'. -/
def lwwPlaysCard : Claim7 := { stood := { row := lwwPlaysRow, standIns := [], harness := (true, "04a7b1ccffeb55cd68365e1fad4ab266e879bc3be2b967b90f0d1df7fcfe8539"), looks := true }, kinds := [], alts := [], laidByText := true, laidKinds := [.data, .data, .data, .data, .sentinel, .sentinel, .pinned], laidTests := true, laidLooks := .later }
def LwwPlaysCardSaid : Prop := Claim7.holds Tryz.pinned (.plain (OpenSpec.ofChange lwwPlaysSpec)) lwwPlaysCard

/-- THE TIED CARD OF 'dragomanlaw22.LwwOrder'. -/
def lwwOrderCard : Claim7 := { stood := { row := lwwOrderRow, standIns := [], harness := (true, "04a7b1ccffeb55cd68365e1fad4ab266e879bc3be2b967b90f0d1df7fcfe8539"), looks := true }, kinds := [], alts := [], laidByText := true, laidKinds := [.data, .data, .data, .data, .sentinel, .sentinel, .pinned], laidTests := true, laidLooks := .later }
def LwwOrderCardSaid : Prop := Claim7.holds Tryz.pinned (.plain (OpenSpec.ofChange lwwOrderSpec)) lwwOrderCard

/-- THE TIED CARD OF 'dragomanlaw22.LwwKeysApart'. -/
def lwwKeysApartCard : Claim7 := { stood := { row := lwwKeysApartRow, standIns := [], harness := (true, "04a7b1ccffeb55cd68365e1fad4ab266e879bc3be2b967b90f0d1df7fcfe8539"), looks := true }, kinds := [], alts := [], laidByText := true, laidKinds := [.data, .data, .data, .data, .sentinel, .sentinel, .pinned], laidTests := true, laidLooks := .later }
def LwwKeysApartCardSaid : Prop := Claim7.holds Tryz.pinned (.plain (OpenSpec.ofChange lwwKeysApartSpec)) lwwKeysApartCard

/-- THE SECOND FORM's CARD OF 'dragomanlaw22.LwwKnown'. -/
def lwwKnownUptoCard : Claim7 := { stood := { row := lwwKnownUptoRow, standIns := [], harness := (true, "04a7b1ccffeb55cd68365e1fad4ab266e879bc3be2b967b90f0d1df7fcfe8539"), looks := true }, kinds := [], alts := [], laidByText := true, laidKinds := [.data, .data, .data, .data, .sentinel, .sentinel, .pinned], laidTests := true, laidLooks := .later }
def LwwKnownUptoCardSaid : Prop := Claim7.holds Tryz.pinned (.plain (OpenSpec.upto lwwKnownSpec)) lwwKnownUptoCard

/-- THE SECOND FORM's CARD OF 'dragomanlaw22.LwwPlays'. -/
def lwwPlaysUptoCard : Claim7 := { stood := { row := lwwPlaysUptoRow, standIns := [], harness := (true, "04a7b1ccffeb55cd68365e1fad4ab266e879bc3be2b967b90f0d1df7fcfe8539"), looks := true }, kinds := [], alts := [], laidByText := true, laidKinds := [.data, .data, .data, .data, .sentinel, .sentinel, .pinned], laidTests := true, laidLooks := .later }
def LwwPlaysUptoCardSaid : Prop := Claim7.holds Tryz.pinned (.plain (OpenSpec.upto lwwPlaysSpec)) lwwPlaysUptoCard

/-- THE SECOND FORM's CARD OF 'dragomanlaw22.LwwOrder'. -/
def lwwOrderUptoCard : Claim7 := { stood := { row := lwwOrderUptoRow, standIns := [], harness := (true, "04a7b1ccffeb55cd68365e1fad4ab266e879bc3be2b967b90f0d1df7fcfe8539"), looks := true }, kinds := [], alts := [], laidByText := true, laidKinds := [.data, .data, .data, .data, .sentinel, .sentinel, .pinned], laidTests := true, laidLooks := .later }
def LwwOrderUptoCardSaid : Prop := Claim7.holds Tryz.pinned (.plain (OpenSpec.upto lwwOrderSpec)) lwwOrderUptoCard

/-- THE SECOND FORM's CARD OF 'dragomanlaw22.LwwKeysApart'. -/
def lwwKeysApartUptoCard : Claim7 := { stood := { row := lwwKeysApartUptoRow, standIns := [], harness := (true, "04a7b1ccffeb55cd68365e1fad4ab266e879bc3be2b967b90f0d1df7fcfe8539"), looks := true }, kinds := [], alts := [], laidByText := true, laidKinds := [.data, .data, .data, .data, .sentinel, .sentinel, .pinned], laidTests := true, laidLooks := .later }
def LwwKeysApartUptoCardSaid : Prop := Claim7.holds Tryz.pinned (.plain (OpenSpec.upto lwwKeysApartSpec)) lwwKeysApartUptoCard
end Rows
end Go.Proofs.YteplcnpmdjdlkaaGreatDoor
