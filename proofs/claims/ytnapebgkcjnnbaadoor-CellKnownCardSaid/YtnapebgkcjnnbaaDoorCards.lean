/-
  DERIVED. GIVEN WITH THE SEED: THE CARDS: each row of YtnapebgkcjnnbaaDoorRows.lean that lists a variable, with what it lists TIED to the program's text (the seventh form; the later family's looks); each row that meets fmt, with fmt's text TOLD by the authors' own Lean function (tested against real Go, not proved from fmt's source: count such statements apart). THE CARD IS WHAT COUNTS. Prove the row's statement (the work); the ties are given (YtnapebgkcjnnbaaDoorTie.lean); close each card by the builder's one call (the guide's Derived/Test/ToyasCard.lean, 'card_holds'). Laid BY PROGRAM, IN A SANDBOX (cutbox-door.mjs). By AI agents, Wed Nov 11 2026. No macro, syntax, notation, axiom, sorry.
-/
import Derived.Test.YtnapebgkcjnnbaaDoorRows
import GoSem.ClaimSeven
namespace Go.Proofs.YtnapebgkcjnnbaaDoor
namespace Rows

/-- THE TIED CARD OF 'dragomanlaw15.CellKnown'. -/
def cellKnownCard : Claim7 := { stood := { row := cellKnownRow, standIns := [], harness := (true, "09eb1632d9303a05444220a48336ff175b49396a6149e5d8882575e32c58a7f6"), looks := true }, kinds := [], alts := [], laidByText := true, laidKinds := [.data, .data, .data, .data, .sentinel, .sentinel, .pinned], laidTests := true, laidLooks := .later }
def CellKnownCardSaid : Prop := Claim7.holds Tryd.pinned (.plain (OpenSpec.ofChange cellKnownSpec)) cellKnownCard

/-- THE TIED CARD OF 'dragomanlaw15.CellStrings'. -/
def cellStringsCard : Claim7 := { stood := { row := cellStringsRow, standIns := [], harness := (true, "09eb1632d9303a05444220a48336ff175b49396a6149e5d8882575e32c58a7f6"), looks := true }, kinds := [], alts := [], laidByText := true, laidKinds := [.data, .data, .data, .data, .sentinel, .sentinel, .pinned], laidTests := true, laidLooks := .later }
def CellStringsCardSaid : Prop := Claim7.holds Tryd.pinned (.plain (OpenSpec.ofChange cellStringsSpec)) cellStringsCard

/-- THE SECOND FORM's CARD OF 'dragomanlaw15.CellKnown'. -/
def cellKnownUptoCard : Claim7 := { stood := { row := cellKnownUptoRow, standIns := [], harness := (true, "09eb1632d9303a05444220a48336ff175b49396a6149e5d8882575e32c58a7f6"), looks := true }, kinds := [], alts := [], laidByText := true, laidKinds := [.data, .data, .data, .data, .sentinel, .sentinel, .pinned], laidTests := true, laidLooks := .later }
def CellKnownUptoCardSaid : Prop := Claim7.holds Tryd.pinned (.plain (OpenSpec.upto cellKnownSpec)) cellKnownUptoCard

/-- THE SECOND FORM's CARD OF 'dragomanlaw15.CellStrings'. -/
def cellStringsUptoCard : Claim7 := { stood := { row := cellStringsUptoRow, standIns := [], harness := (true, "09eb1632d9303a05444220a48336ff175b49396a6149e5d8882575e32c58a7f6"), looks := true }, kinds := [], alts := [], laidByText := true, laidKinds := [.data, .data, .data, .data, .sentinel, .sentinel, .pinned], laidTests := true, laidLooks := .later }
def CellStringsUptoCardSaid : Prop := Claim7.holds Tryd.pinned (.plain (OpenSpec.upto cellStringsSpec)) cellStringsUptoCard
end Rows
end Go.Proofs.YtnapebgkcjnnbaaDoor
