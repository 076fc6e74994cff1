/-
  DERIVED. GIVEN WITH THE SEED: THE CARDS: each row of YtnapebgkcjnnbaaGreatDoorRows.lean that lists a variable, with what it lists TIED to the program's text (the seventh form; the later family's looks); each row that meets fmt, with fmt's text TOLD by the authors' own Lean function (tested against real Go, not proved from fmt's source: count such statements apart). THE CARD IS WHAT COUNTS. Prove the row's statement (the work); the ties are given (YtnapebgkcjnnbaaGreatDoorTie.lean); close each card by the builder's one call (the guide's Derived/Test/ToyasCard.lean, 'card_holds'). Laid BY PROGRAM, IN A SANDBOX (cutbox-door.mjs). By AI agents, Wed Nov 11 2026. No macro, syntax, notation, axiom, sorry.
-/
import Derived.Test.YtnapebgkcjnnbaaGreatDoorRows
import GoSem.ClaimSeven
namespace Go.Proofs.YtnapebgkcjnnbaaGreatDoor
namespace Rows

/-- THE TIED CARD OF 'dragomanlaw15.CellSays'. -/
def cellSaysCard : Claim7 := { stood := { row := cellSaysRow, standIns := [], harness := (true, "c557bd99bb3e685d19cbbe0b99fd877244a5a9d6e39041bdfd0d8d2342b304bc"), looks := true }, kinds := [], alts := [], laidByText := true, laidKinds := [.data, .data, .data, .data, .sentinel, .sentinel, .pinned], laidTests := true, laidLooks := .later }
def CellSaysCardSaid : Prop := Claim7.holds Tryz.pinned (.plain (OpenSpec.ofChange cellSaysSpec)) cellSaysCard

/-- THE TIED CARD OF 'dragomanlaw15.CellBack'. -/
def cellBackCard : Claim7 := { stood := { row := cellBackRow, standIns := [], harness := (true, "c557bd99bb3e685d19cbbe0b99fd877244a5a9d6e39041bdfd0d8d2342b304bc"), looks := true }, kinds := [], alts := [], laidByText := true, laidKinds := [.data, .data, .data, .data, .sentinel, .sentinel, .pinned], laidTests := true, laidLooks := .later }
def CellBackCardSaid : Prop := Claim7.holds Tryz.pinned (.plain (OpenSpec.ofChange cellBackSpec)) cellBackCard

/-- THE SECOND FORM's CARD OF 'dragomanlaw15.CellSays'. -/
def cellSaysUptoCard : Claim7 := { stood := { row := cellSaysUptoRow, standIns := [], harness := (true, "c557bd99bb3e685d19cbbe0b99fd877244a5a9d6e39041bdfd0d8d2342b304bc"), looks := true }, kinds := [], alts := [], laidByText := true, laidKinds := [.data, .data, .data, .data, .sentinel, .sentinel, .pinned], laidTests := true, laidLooks := .later }
def CellSaysUptoCardSaid : Prop := Claim7.holds Tryz.pinned (.plain (OpenSpec.upto cellSaysSpec)) cellSaysUptoCard

/-- THE SECOND FORM's CARD OF 'dragomanlaw15.CellBack'. -/
def cellBackUptoCard : Claim7 := { stood := { row := cellBackUptoRow, standIns := [], harness := (true, "c557bd99bb3e685d19cbbe0b99fd877244a5a9d6e39041bdfd0d8d2342b304bc"), looks := true }, kinds := [], alts := [], laidByText := true, laidKinds := [.data, .data, .data, .data, .sentinel, .sentinel, .pinned], laidTests := true, laidLooks := .later }
def CellBackUptoCardSaid : Prop := Claim7.holds Tryz.pinned (.plain (OpenSpec.upto cellBackSpec)) cellBackUptoCard
end Rows
end Go.Proofs.YtnapebgkcjnnbaaGreatDoor
