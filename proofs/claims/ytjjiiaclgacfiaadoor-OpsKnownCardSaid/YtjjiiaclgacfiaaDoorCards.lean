/-
  DERIVED. GIVEN WITH THE SEED: THE CARDS: each row of YtjjiiaclgacfiaaDoorRows.lean that lists a variable, with what it lists TIED to the program's text (the seventh form; the later family's looks); each row that meets fmt, with fmt's text TOLD by the authors' own Lean function (tested against real Go, not proved from fmt's source: count such statements apart). THE CARD IS WHAT COUNTS. Prove the row's statement (the work); the ties are given (YtjjiiaclgacfiaaDoorTie.lean); close each card by the builder's one call (the guide's Derived/Test/ToyasCard.lean, 'card_holds'). Laid BY PROGRAM, IN A SANDBOX (cutbox-door.mjs). By AI agents, Wed Nov 11 2026. No macro, syntax, notation, axiom, sorry.
-/
import Derived.Test.YtjjiiaclgacfiaaDoorRows
import GoSem.ClaimSeven
namespace Go.Proofs.YtjjiiaclgacfiaaDoor
namespace Rows

/-- THE TIED CARD OF 'dragomanlaw21.OpsKnown'. -/
def opsKnownCard : Claim7 := { stood := { row := opsKnownRow, standIns := [], harness := (true, "1bae6e9c06a5763601a16e7c4d8091791f00785a5731fef6bd4df16ee892a02d"), looks := true }, kinds := [], alts := [], laidByText := true, laidKinds := [.data, .data, .data, .data, .sentinel, .sentinel, .pinned], laidTests := true, laidLooks := .later }
def OpsKnownCardSaid : Prop := Claim7.holds Tryd.pinned (.plain (OpenSpec.ofChange opsKnownSpec)) opsKnownCard

/-- THE TIED CARD OF 'dragomanlaw21.OpsOrder'. -/
def opsOrderCard : Claim7 := { stood := { row := opsOrderRow, standIns := [], harness := (true, "1bae6e9c06a5763601a16e7c4d8091791f00785a5731fef6bd4df16ee892a02d"), looks := true }, kinds := [], alts := [], laidByText := true, laidKinds := [.data, .data, .data, .data, .sentinel, .sentinel, .pinned], laidTests := true, laidLooks := .later }
def OpsOrderCardSaid : Prop := Claim7.holds Tryd.pinned (.plain (OpenSpec.ofChange opsOrderSpec)) opsOrderCard

/-- THE SECOND FORM's CARD OF 'dragomanlaw21.OpsKnown'. -/
def opsKnownUptoCard : Claim7 := { stood := { row := opsKnownUptoRow, standIns := [], harness := (true, "1bae6e9c06a5763601a16e7c4d8091791f00785a5731fef6bd4df16ee892a02d"), looks := true }, kinds := [], alts := [], laidByText := true, laidKinds := [.data, .data, .data, .data, .sentinel, .sentinel, .pinned], laidTests := true, laidLooks := .later }
def OpsKnownUptoCardSaid : Prop := Claim7.holds Tryd.pinned (.plain (OpenSpec.upto opsKnownSpec)) opsKnownUptoCard

/-- THE SECOND FORM's CARD OF 'dragomanlaw21.OpsOrder'. -/
def opsOrderUptoCard : Claim7 := { stood := { row := opsOrderUptoRow, standIns := [], harness := (true, "1bae6e9c06a5763601a16e7c4d8091791f00785a5731fef6bd4df16ee892a02d"), looks := true }, kinds := [], alts := [], laidByText := true, laidKinds := [.data, .data, .data, .data, .sentinel, .sentinel, .pinned], laidTests := true, laidLooks := .later }
def OpsOrderUptoCardSaid : Prop := Claim7.holds Tryd.pinned (.plain (OpenSpec.upto opsOrderSpec)) opsOrderUptoCard
end Rows
end Go.Proofs.YtjjiiaclgacfiaaDoor
