/-
  DERIVED. GIVEN WITH THE SEED: THE CARDS: each row of YtcpmehppfccihaaGreatDoorRows.lean that lists a variable, with what it lists TIED to the program's text (the seventh form; the later family's looks); each row that meets fmt, with fmt's text TOLD by the authors' own Lean function (tested against real Go, not proved from fmt's source: count such statements apart). THE CARD IS WHAT COUNTS. Prove the row's statement (the work); the ties are given (YtcpmehppfccihaaGreatDoorTie.lean); close each card by the builder's one call (the guide's Derived/Test/ToyasCard.lean, 'card_holds'). Laid BY PROGRAM, IN A SANDBOX (cutbox-door.mjs). By AI agents, Wed Nov 11 2026. No macro, syntax, notation, axiom, sorry.
-/
import Derived.Test.YtcpmehppfccihaaGreatDoorRows
import GoSem.ClaimSeven
namespace Go.Proofs.YtcpmehppfccihaaGreatDoor
namespace Rows

/-- THE TIED CARD OF 'dragomanlaw4.ValueKnown'. -/
def valueKnownCard : Claim7 := { stood := { row := valueKnownRow, standIns := [], harness := (true, "bc8cea3e4b2a444e4c3c6c25478c62bca9d5bdd1a95174f2d1308233a208919d"), looks := true }, kinds := [], alts := [], laidByText := true, laidKinds := [.data, .data, .data, .data, .sentinel, .sentinel, .pinned], laidTests := true, laidLooks := .later }
def ValueKnownCardSaid : Prop := Claim7.holds Tryz.pinned (.plain (OpenSpec.ofChange valueKnownSpec)) valueKnownCard

/-- THE TIED CARD OF 'dragomanlaw4.ValueMakes'. -/
def valueMakesCard : Claim7 := { stood := { row := valueMakesRow, standIns := [], harness := (true, "bc8cea3e4b2a444e4c3c6c25478c62bca9d5bdd1a95174f2d1308233a208919d"), looks := true }, kinds := [], alts := [], laidByText := true, laidKinds := [.data, .data, .data, .data, .sentinel, .sentinel, .pinned], laidTests := true, laidLooks := .later }
def ValueMakesCardSaid : Prop := Claim7.holds Tryz.pinned (.plain (OpenSpec.ofChange valueMakesSpec)) valueMakesCard

/-- THE TIED CARD OF 'dragomanlaw4.ValueNew'. -/
def valueNewCard : Claim7 := { stood := { row := valueNewRow, standIns := [], harness := (true, "bc8cea3e4b2a444e4c3c6c25478c62bca9d5bdd1a95174f2d1308233a208919d"), looks := true }, kinds := [], alts := [], laidByText := true, laidKinds := [.data, .data, .data, .data, .sentinel, .sentinel, .pinned], laidTests := true, laidLooks := .later }
def ValueNewCardSaid : Prop := Claim7.holds Tryz.pinned (.plain (OpenSpec.ofChange valueNewSpec)) valueNewCard

/-- THE TIED CARD OF 'dragomanlaw4.ValueGets'. -/
def valueGetsCard : Claim7 := { stood := { row := valueGetsRow, standIns := [], harness := (true, "bc8cea3e4b2a444e4c3c6c25478c62bca9d5bdd1a95174f2d1308233a208919d"), looks := true }, kinds := [], alts := [], laidByText := true, laidKinds := [.data, .data, .data, .data, .sentinel, .sentinel, .pinned], laidTests := true, laidLooks := .later }
def ValueGetsCardSaid : Prop := Claim7.holds Tryz.pinned (.plain (OpenSpec.ofChange valueGetsSpec)) valueGetsCard

/-- THE TIED CARD OF 'dragomanlaw4.ValueNests'. -/
def valueNestsCard : Claim7 := { stood := { row := valueNestsRow, standIns := [], harness := (true, "bc8cea3e4b2a444e4c3c6c25478c62bca9d5bdd1a95174f2d1308233a208919d"), looks := true }, kinds := [], alts := [], laidByText := true, laidKinds := [.data, .data, .data, .data, .sentinel, .sentinel, .pinned], laidTests := true, laidLooks := .later }
def ValueNestsCardSaid : Prop := Claim7.holds Tryz.pinned (.plain (OpenSpec.ofChange valueNestsSpec)) valueNestsCard

/-- THE TIED CARD OF 'dragomanlaw4.ValueLikes'. -/
def valueLikesCard : Claim7 := { stood := { row := valueLikesRow, standIns := [], harness := (true, "bc8cea3e4b2a444e4c3c6c25478c62bca9d5bdd1a95174f2d1308233a208919d"), looks := true }, kinds := [], alts := [], laidByText := true, laidKinds := [.data, .data, .data, .data, .sentinel, .sentinel, .pinned], laidTests := true, laidLooks := .later }
def ValueLikesCardSaid : Prop := Claim7.holds Tryz.pinned (.plain (OpenSpec.ofChange valueLikesSpec)) valueLikesCard

/-- THE SECOND FORM's CARD OF 'dragomanlaw4.ValueKnown'. -/
def valueKnownUptoCard : Claim7 := { stood := { row := valueKnownUptoRow, standIns := [], harness := (true, "bc8cea3e4b2a444e4c3c6c25478c62bca9d5bdd1a95174f2d1308233a208919d"), looks := true }, kinds := [], alts := [], laidByText := true, laidKinds := [.data, .data, .data, .data, .sentinel, .sentinel, .pinned], laidTests := true, laidLooks := .later }
def ValueKnownUptoCardSaid : Prop := Claim7.holds Tryz.pinned (.plain (OpenSpec.upto valueKnownSpec)) valueKnownUptoCard

/-- THE SECOND FORM's CARD OF 'dragomanlaw4.ValueMakes'. -/
def valueMakesUptoCard : Claim7 := { stood := { row := valueMakesUptoRow, standIns := [], harness := (true, "bc8cea3e4b2a444e4c3c6c25478c62bca9d5bdd1a95174f2d1308233a208919d"), looks := true }, kinds := [], alts := [], laidByText := true, laidKinds := [.data, .data, .data, .data, .sentinel, .sentinel, .pinned], laidTests := true, laidLooks := .later }
def ValueMakesUptoCardSaid : Prop := Claim7.holds Tryz.pinned (.plain (OpenSpec.upto valueMakesSpec)) valueMakesUptoCard

/-- THE SECOND FORM's CARD OF 'dragomanlaw4.ValueNew'. -/
def valueNewUptoCard : Claim7 := { stood := { row := valueNewUptoRow, standIns := [], harness := (true, "bc8cea3e4b2a444e4c3c6c25478c62bca9d5bdd1a95174f2d1308233a208919d"), looks := true }, kinds := [], alts := [], laidByText := true, laidKinds := [.data, .data, .data, .data, .sentinel, .sentinel, .pinned], laidTests := true, laidLooks := .later }
def ValueNewUptoCardSaid : Prop := Claim7.holds Tryz.pinned (.plain (OpenSpec.upto valueNewSpec)) valueNewUptoCard

/-- THE SECOND FORM's CARD OF 'dragomanlaw4.ValueGets'. -/
def valueGetsUptoCard : Claim7 := { stood := { row := valueGetsUptoRow, standIns := [], harness := (true, "bc8cea3e4b2a444e4c3c6c25478c62bca9d5bdd1a95174f2d1308233a208919d"), looks := true }, kinds := [], alts := [], laidByText := true, laidKinds := [.data, .data, .data, .data, .sentinel, .sentinel, .pinned], laidTests := true, laidLooks := .later }
def ValueGetsUptoCardSaid : Prop := Claim7.holds Tryz.pinned (.plain (OpenSpec.upto valueGetsSpec)) valueGetsUptoCard

/-- THE SECOND FORM's CARD OF 'dragomanlaw4.ValueNests'. -/
def valueNestsUptoCard : Claim7 := { stood := { row := valueNestsUptoRow, standIns := [], harness := (true, "bc8cea3e4b2a444e4c3c6c25478c62bca9d5bdd1a95174f2d1308233a208919d"), looks := true }, kinds := [], alts := [], laidByText := true, laidKinds := [.data, .data, .data, .data, .sentinel, .sentinel, .pinned], laidTests := true, laidLooks := .later }
def ValueNestsUptoCardSaid : Prop := Claim7.holds Tryz.pinned (.plain (OpenSpec.upto valueNestsSpec)) valueNestsUptoCard

/-- THE SECOND FORM's CARD OF 'dragomanlaw4.ValueLikes'. -/
def valueLikesUptoCard : Claim7 := { stood := { row := valueLikesUptoRow, standIns := [], harness := (true, "bc8cea3e4b2a444e4c3c6c25478c62bca9d5bdd1a95174f2d1308233a208919d"), looks := true }, kinds := [], alts := [], laidByText := true, laidKinds := [.data, .data, .data, .data, .sentinel, .sentinel, .pinned], laidTests := true, laidLooks := .later }
def ValueLikesUptoCardSaid : Prop := Claim7.holds Tryz.pinned (.plain (OpenSpec.upto valueLikesSpec)) valueLikesUptoCard
end Rows
end Go.Proofs.YtcpmehppfccihaaGreatDoor
