/-
  DERIVED. GIVEN WITH THE SEED: THE CARDS: each row of YtffcpmohanhihaaGreatDoorRows.lean that lists a variable, with what it lists TIED to the program's text (the seventh form; the later family's looks); each row that meets fmt, with fmt's text TOLD by the authors' own Lean function (tested against real Go, not proved from fmt's source: count such statements apart). THE CARD IS WHAT COUNTS. Prove the row's statement (the work); the ties are given (YtffcpmohanhihaaGreatDoorTie.lean); close each card by the builder's one call (the guide's Derived/Test/ToyasCard.lean, 'card_holds'). Laid BY PROGRAM, IN A SANDBOX (cutbox-door.mjs). By AI agents, Wed Nov 11 2026. No macro, syntax, notation, axiom, sorry.
-/
import Derived.Test.YtffcpmohanhihaaGreatDoorRows
import GoSem.ClaimSeven
namespace Go.Proofs.YtffcpmohanhihaaGreatDoor
namespace Rows

/-- THE TIED CARD OF 'dragomanlaw25.ReadyKnown'. -/
def readyKnownCard : Claim7 := { stood := { row := readyKnownRow, standIns := [], harness := (true, "65471015dee6113028e36ad3bb7c176ed0b508a129a83a615d100bc4656f05a1"), looks := true }, kinds := [], alts := [], laidByText := true, laidKinds := [.data, .data, .data, .data, .sentinel, .sentinel, .pinned], laidTests := true, laidLooks := .later }
def ReadyKnownCardSaid : Prop := Claim7.holds Tryz.pinned (.plain (OpenSpec.ofChange readyKnownSpec)) readyKnownCard

/-- THE TIED CARD OF 'dragomanlaw25.ReadyAll'. -/
def readyAllCard : Claim7 := { stood := { row := readyAllRow, standIns := [], harness := (true, "65471015dee6113028e36ad3bb7c176ed0b508a129a83a615d100bc4656f05a1"), looks := true }, kinds := [], alts := [], laidByText := true, laidKinds := [.data, .data, .data, .data, .sentinel, .sentinel, .pinned], laidTests := true, laidLooks := .later }
def ReadyAllCardSaid : Prop := Claim7.holds Tryz.pinned (.plain (OpenSpec.ofChange readyAllSpec)) readyAllCard

/-- THE TIED CARD OF 'dragomanlaw25.ReadyRoom'. -/
def readyRoomCard : Claim7 := { stood := { row := readyRoomRow, standIns := [], harness := (true, "65471015dee6113028e36ad3bb7c176ed0b508a129a83a615d100bc4656f05a1"), looks := true }, kinds := [], alts := [], laidByText := true, laidKinds := [.data, .data, .data, .data, .sentinel, .sentinel, .pinned], laidTests := true, laidLooks := .later }
def ReadyRoomCardSaid : Prop := Claim7.holds Tryz.pinned (.plain (OpenSpec.ofChange readyRoomSpec)) readyRoomCard

/-- THE TIED CARD OF 'dragomanlaw25.ReadyPlays'. -/
def readyPlaysCard : Claim7 := { stood := { row := readyPlaysRow, standIns := [], harness := (true, "65471015dee6113028e36ad3bb7c176ed0b508a129a83a615d100bc4656f05a1"), looks := true }, kinds := [], alts := [], laidByText := true, laidKinds := [.data, .data, .data, .data, .sentinel, .sentinel, .pinned], laidTests := true, laidLooks := .later }
def ReadyPlaysCardSaid : Prop := Claim7.holds Tryz.pinned (.plain (OpenSpec.ofChange readyPlaysSpec)) readyPlaysCard

/-- THE TIED CARD OF 'dragomanlaw25.ReadyTwice'. -/
def readyTwiceCard : Claim7 := { stood := { row := readyTwiceRow, standIns := [], harness := (true, "65471015dee6113028e36ad3bb7c176ed0b508a129a83a615d100bc4656f05a1"), looks := true }, kinds := [], alts := [], laidByText := true, laidKinds := [.data, .data, .data, .data, .sentinel, .sentinel, .pinned], laidTests := true, laidLooks := .later }
def ReadyTwiceCardSaid : Prop := Claim7.holds Tryz.pinned (.plain (OpenSpec.ofChange readyTwiceSpec)) readyTwiceCard

/-- THE SECOND FORM's CARD OF 'dragomanlaw25.ReadyKnown'. -/
def readyKnownUptoCard : Claim7 := { stood := { row := readyKnownUptoRow, standIns := [], harness := (true, "65471015dee6113028e36ad3bb7c176ed0b508a129a83a615d100bc4656f05a1"), looks := true }, kinds := [], alts := [], laidByText := true, laidKinds := [.data, .data, .data, .data, .sentinel, .sentinel, .pinned], laidTests := true, laidLooks := .later }
def ReadyKnownUptoCardSaid : Prop := Claim7.holds Tryz.pinned (.plain (OpenSpec.upto readyKnownSpec)) readyKnownUptoCard

/-- THE SECOND FORM's CARD OF 'dragomanlaw25.ReadyAll'. -/
def readyAllUptoCard : Claim7 := { stood := { row := readyAllUptoRow, standIns := [], harness := (true, "65471015dee6113028e36ad3bb7c176ed0b508a129a83a615d100bc4656f05a1"), looks := true }, kinds := [], alts := [], laidByText := true, laidKinds := [.data, .data, .data, .data, .sentinel, .sentinel, .pinned], laidTests := true, laidLooks := .later }
def ReadyAllUptoCardSaid : Prop := Claim7.holds Tryz.pinned (.plain (OpenSpec.upto readyAllSpec)) readyAllUptoCard

/-- THE SECOND FORM's CARD OF 'dragomanlaw25.ReadyRoom'. -/
def readyRoomUptoCard : Claim7 := { stood := { row := readyRoomUptoRow, standIns := [], harness := (true, "65471015dee6113028e36ad3bb7c176ed0b508a129a83a615d100bc4656f05a1"), looks := true }, kinds := [], alts := [], laidByText := true, laidKinds := [.data, .data, .data, .data, .sentinel, .sentinel, .pinned], laidTests := true, laidLooks := .later }
def ReadyRoomUptoCardSaid : Prop := Claim7.holds Tryz.pinned (.plain (OpenSpec.upto readyRoomSpec)) readyRoomUptoCard

/-- THE SECOND FORM's CARD OF 'dragomanlaw25.ReadyPlays'. -/
def readyPlaysUptoCard : Claim7 := { stood := { row := readyPlaysUptoRow, standIns := [], harness := (true, "65471015dee6113028e36ad3bb7c176ed0b508a129a83a615d100bc4656f05a1"), looks := true }, kinds := [], alts := [], laidByText := true, laidKinds := [.data, .data, .data, .data, .sentinel, .sentinel, .pinned], laidTests := true, laidLooks := .later }
def ReadyPlaysUptoCardSaid : Prop := Claim7.holds Tryz.pinned (.plain (OpenSpec.upto readyPlaysSpec)) readyPlaysUptoCard

/-- THE SECOND FORM's CARD OF 'dragomanlaw25.ReadyTwice'. -/
def readyTwiceUptoCard : Claim7 := { stood := { row := readyTwiceUptoRow, standIns := [], harness := (true, "65471015dee6113028e36ad3bb7c176ed0b508a129a83a615d100bc4656f05a1"), looks := true }, kinds := [], alts := [], laidByText := true, laidKinds := [.data, .data, .data, .data, .sentinel, .sentinel, .pinned], laidTests := true, laidLooks := .later }
def ReadyTwiceUptoCardSaid : Prop := Claim7.holds Tryz.pinned (.plain (OpenSpec.upto readyTwiceSpec)) readyTwiceUptoCard
end Rows
end Go.Proofs.YtffcpmohanhihaaGreatDoor
