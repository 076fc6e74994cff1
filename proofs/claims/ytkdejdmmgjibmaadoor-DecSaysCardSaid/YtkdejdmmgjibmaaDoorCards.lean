/-
  DERIVED. GIVEN WITH THE SEED: THE CARDS: each row of YtkdejdmmgjibmaaDoorRows.lean that lists a variable, with what it lists TIED to the program's text (the seventh form; the later family's looks); each row that meets fmt, with fmt's text TOLD by the authors' own Lean function (tested against real Go, not proved from fmt's source: count such statements apart). THE CARD IS WHAT COUNTS. Prove the row's statement (the work); the ties are given (YtkdejdmmgjibmaaDoorTie.lean); close each card by the builder's one call (the guide's Derived/Test/ToyasCard.lean, 'card_holds'). Laid BY PROGRAM, IN A SANDBOX (cutbox-door.mjs). By AI agents, Wed Nov 11 2026. No macro, syntax, notation, axiom, sorry.
-/
import Derived.Test.YtkdejdmmgjibmaaDoorRows
import GoSem.ClaimSeven
namespace Go.Proofs.YtkdejdmmgjibmaaDoor
namespace Rows

/-- THE TIED CARD OF 'dragomanlaw3.DecKnown'. -/
def decKnownCard : Claim7 := { stood := { row := decKnownRow, standIns := [], harness := (true, "dfe7848243d28c15956929b5aa14356c5595229e64fc9bbf424728a9e052a038"), looks := true }, kinds := [], alts := [], laidByText := true, laidKinds := [.data, .data, .data, .data, .sentinel, .sentinel, .pinned], laidTests := true, laidLooks := .later }
def DecKnownCardSaid : Prop := Claim7.holds Tryd.pinned (.plain (OpenSpec.ofChange decKnownSpec)) decKnownCard

/-- THE TIED CARD OF 'dragomanlaw3.DecSays'. -/
def decSaysCard : Claim7 := { stood := { row := decSaysRow, standIns := [], harness := (true, "dfe7848243d28c15956929b5aa14356c5595229e64fc9bbf424728a9e052a038"), looks := true }, kinds := [], alts := [], laidByText := true, laidKinds := [.data, .data, .data, .data, .sentinel, .sentinel, .pinned], laidTests := true, laidLooks := .later }
def DecSaysCardSaid : Prop := Claim7.holds Tryd.pinned (.plain (OpenSpec.ofChange decSaysSpec)) decSaysCard

/-- THE TIED CARD OF 'dragomanlaw3.DecOrder'. -/
def decOrderCard : Claim7 := { stood := { row := decOrderRow, standIns := [], harness := (true, "dfe7848243d28c15956929b5aa14356c5595229e64fc9bbf424728a9e052a038"), looks := true }, kinds := [], alts := [], laidByText := true, laidKinds := [.data, .data, .data, .data, .sentinel, .sentinel, .pinned], laidTests := true, laidLooks := .later }
def DecOrderCardSaid : Prop := Claim7.holds Tryd.pinned (.plain (OpenSpec.ofChange decOrderSpec)) decOrderCard

/-- THE TIED CARD OF 'dragomanlaw3.DecInts'. -/
def decIntsCard : Claim7 := { stood := { row := decIntsRow, standIns := [], harness := (true, "dfe7848243d28c15956929b5aa14356c5595229e64fc9bbf424728a9e052a038"), looks := true }, kinds := [], alts := [], laidByText := true, laidKinds := [.data, .data, .data, .data, .sentinel, .sentinel, .pinned], laidTests := true, laidLooks := .later }
def DecIntsCardSaid : Prop := Claim7.holds Tryd.pinned (.plain (OpenSpec.ofChange decIntsSpec)) decIntsCard

/-- THE TIED CARD OF 'dragomanlaw3.DecScale'. -/
def decScaleCard : Claim7 := { stood := { row := decScaleRow, standIns := [], harness := (true, "dfe7848243d28c15956929b5aa14356c5595229e64fc9bbf424728a9e052a038"), looks := true }, kinds := [], alts := [], laidByText := true, laidKinds := [.data, .data, .data, .data, .sentinel, .sentinel, .pinned], laidTests := true, laidLooks := .later }
def DecScaleCardSaid : Prop := Claim7.holds Tryd.pinned (.plain (OpenSpec.ofChange decScaleSpec)) decScaleCard

/-- THE TIED CARD OF 'dragomanlaw3.DecSigns'. -/
def decSignsCard : Claim7 := { stood := { row := decSignsRow, standIns := [], harness := (true, "dfe7848243d28c15956929b5aa14356c5595229e64fc9bbf424728a9e052a038"), looks := true }, kinds := [], alts := [], laidByText := true, laidKinds := [.data, .data, .data, .data, .sentinel, .sentinel, .pinned], laidTests := true, laidLooks := .later }
def DecSignsCardSaid : Prop := Claim7.holds Tryd.pinned (.plain (OpenSpec.ofChange decSignsSpec)) decSignsCard

/-- THE SECOND FORM's CARD OF 'dragomanlaw3.DecKnown'. -/
def decKnownUptoCard : Claim7 := { stood := { row := decKnownUptoRow, standIns := [], harness := (true, "dfe7848243d28c15956929b5aa14356c5595229e64fc9bbf424728a9e052a038"), looks := true }, kinds := [], alts := [], laidByText := true, laidKinds := [.data, .data, .data, .data, .sentinel, .sentinel, .pinned], laidTests := true, laidLooks := .later }
def DecKnownUptoCardSaid : Prop := Claim7.holds Tryd.pinned (.plain (OpenSpec.upto decKnownSpec)) decKnownUptoCard

/-- THE SECOND FORM's CARD OF 'dragomanlaw3.DecSays'. -/
def decSaysUptoCard : Claim7 := { stood := { row := decSaysUptoRow, standIns := [], harness := (true, "dfe7848243d28c15956929b5aa14356c5595229e64fc9bbf424728a9e052a038"), looks := true }, kinds := [], alts := [], laidByText := true, laidKinds := [.data, .data, .data, .data, .sentinel, .sentinel, .pinned], laidTests := true, laidLooks := .later }
def DecSaysUptoCardSaid : Prop := Claim7.holds Tryd.pinned (.plain (OpenSpec.upto decSaysSpec)) decSaysUptoCard

/-- THE SECOND FORM's CARD OF 'dragomanlaw3.DecOrder'. -/
def decOrderUptoCard : Claim7 := { stood := { row := decOrderUptoRow, standIns := [], harness := (true, "dfe7848243d28c15956929b5aa14356c5595229e64fc9bbf424728a9e052a038"), looks := true }, kinds := [], alts := [], laidByText := true, laidKinds := [.data, .data, .data, .data, .sentinel, .sentinel, .pinned], laidTests := true, laidLooks := .later }
def DecOrderUptoCardSaid : Prop := Claim7.holds Tryd.pinned (.plain (OpenSpec.upto decOrderSpec)) decOrderUptoCard

/-- THE SECOND FORM's CARD OF 'dragomanlaw3.DecInts'. -/
def decIntsUptoCard : Claim7 := { stood := { row := decIntsUptoRow, standIns := [], harness := (true, "dfe7848243d28c15956929b5aa14356c5595229e64fc9bbf424728a9e052a038"), looks := true }, kinds := [], alts := [], laidByText := true, laidKinds := [.data, .data, .data, .data, .sentinel, .sentinel, .pinned], laidTests := true, laidLooks := .later }
def DecIntsUptoCardSaid : Prop := Claim7.holds Tryd.pinned (.plain (OpenSpec.upto decIntsSpec)) decIntsUptoCard

/-- THE SECOND FORM's CARD OF 'dragomanlaw3.DecScale'. -/
def decScaleUptoCard : Claim7 := { stood := { row := decScaleUptoRow, standIns := [], harness := (true, "dfe7848243d28c15956929b5aa14356c5595229e64fc9bbf424728a9e052a038"), looks := true }, kinds := [], alts := [], laidByText := true, laidKinds := [.data, .data, .data, .data, .sentinel, .sentinel, .pinned], laidTests := true, laidLooks := .later }
def DecScaleUptoCardSaid : Prop := Claim7.holds Tryd.pinned (.plain (OpenSpec.upto decScaleSpec)) decScaleUptoCard

/-- THE SECOND FORM's CARD OF 'dragomanlaw3.DecSigns'. -/
def decSignsUptoCard : Claim7 := { stood := { row := decSignsUptoRow, standIns := [], harness := (true, "dfe7848243d28c15956929b5aa14356c5595229e64fc9bbf424728a9e052a038"), looks := true }, kinds := [], alts := [], laidByText := true, laidKinds := [.data, .data, .data, .data, .sentinel, .sentinel, .pinned], laidTests := true, laidLooks := .later }
def DecSignsUptoCardSaid : Prop := Claim7.holds Tryd.pinned (.plain (OpenSpec.upto decSignsSpec)) decSignsUptoCard
end Rows
end Go.Proofs.YtkdejdmmgjibmaaDoor
