/-
  DERIVED. GIVEN WITH THE SEED: THE CARDS: each row of YtjjiiaclgacfiaaGreatDoorRows.lean that lists a variable, with what it lists TIED to the program's text (the seventh form; the later family's looks); each row that meets fmt, with fmt's text TOLD by the authors' own Lean function (tested against real Go, not proved from fmt's source: count such statements apart). THE CARD IS WHAT COUNTS. Prove the row's statement (the work); the ties are given (YtjjiiaclgacfiaaGreatDoorTie.lean); close each card by the builder's one call (the guide's Derived/Test/ToyasCard.lean, 'card_holds'). Laid BY PROGRAM, IN A SANDBOX (cutbox-door.mjs). By AI agents, Wed Nov 11 2026. No macro, syntax, notation, axiom, sorry.
-/
import Derived.Test.YtjjiiaclgacfiaaGreatDoorRows
import GoSem.ClaimSeven
namespace Go.Proofs.YtjjiiaclgacfiaaGreatDoor
namespace Rows

/-- THE TIED CARD OF 'dragomanlaw21.OpsSays'. -/
def opsSaysCard : Claim7 := { stood := { row := opsSaysRow, standIns := [], harness := (true, "fa5f401ec378f3ef7d020129331856f929df763f2361de07b3992f8c2ac2d630"), looks := true }, kinds := [], alts := [], laidByText := true, laidKinds := [.data, .data, .data, .data, .sentinel, .sentinel, .pinned], laidTests := true, laidLooks := .later }
def OpsSaysCardSaid : Prop := Claim7.holds Tryz.pinned (.plain (OpenSpec.ofChange opsSaysSpec)) opsSaysCard

/-- THE SECOND FORM's CARD OF 'dragomanlaw21.OpsSays'. -/
def opsSaysUptoCard : Claim7 := { stood := { row := opsSaysUptoRow, standIns := [], harness := (true, "fa5f401ec378f3ef7d020129331856f929df763f2361de07b3992f8c2ac2d630"), looks := true }, kinds := [], alts := [], laidByText := true, laidKinds := [.data, .data, .data, .data, .sentinel, .sentinel, .pinned], laidTests := true, laidLooks := .later }
def OpsSaysUptoCardSaid : Prop := Claim7.holds Tryz.pinned (.plain (OpenSpec.upto opsSaysSpec)) opsSaysUptoCard
end Rows
end Go.Proofs.YtjjiiaclgacfiaaGreatDoor
