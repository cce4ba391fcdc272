/-
  DERIVED. GIVEN WITH THE SEED: THE CARDS: each row of YtoelfmmfjebabaaGreatDoorRows.lean that lists a variable, with what it lists TIED to the program's text (the seventh form; the later family's looks); each row that meets fmt, with fmt's text TOLD by the authors' own Lean function (tested against real Go, not proved from fmt's source: count such statements apart). THE CARD IS WHAT COUNTS. Prove the row's statement (the work); the ties are given (YtoelfmmfjebabaaGreatDoorTie.lean); close each card by the builder's one call (the guide's Derived/Test/ToyasCard.lean, 'card_holds'). Laid BY PROGRAM, IN A SANDBOX (cutbox-door.mjs). By AI agents, Wed Nov 11 2026. No macro, syntax, notation, axiom, sorry.
-/
import Derived.Test.YtoelfmmfjebabaaGreatDoorRows
import GoSem.ClaimSeven
namespace Go.Proofs.YtoelfmmfjebabaaGreatDoor
namespace Rows

/-- THE TIED CARD OF 'chamberlainlaw10.PrinterBack'. -/
def printerBackCard : Claim7 := { stood := { row := printerBackRow, standIns := [], harness := (true, "e8767e7cf8fc9a67297340829fe4f54a47425d8f808881959bed036d9256cf18"), looks := false }, kinds := [], alts := [], laidByText := true, laidKinds := [.data, .data, .mapped, .pinned], laidTests := true, laidLooks := .later }
def PrinterBackCardSaid : Prop := Claim7.holds Tryz.pinned (.plain (OpenSpec.ofChange printerBackSpec)) printerBackCard

/-- THE TIED CARD OF 'chamberlainlaw10.PrinterNames'. -/
def printerNamesCard : Claim7 := { stood := { row := printerNamesRow, standIns := [], harness := (true, "e8767e7cf8fc9a67297340829fe4f54a47425d8f808881959bed036d9256cf18"), looks := false }, kinds := [], alts := [], laidByText := true, laidKinds := [.data, .data, .mapped, .pinned], laidTests := true, laidLooks := .later }
def PrinterNamesCardSaid : Prop := Claim7.holds Tryz.pinned (.plain (OpenSpec.ofChange printerNamesSpec)) printerNamesCard

/-- THE TIED CARD OF 'chamberlainlaw10.PrinterPolicyBack'. -/
def printerPolicyBackCard : Claim7 := { stood := { row := printerPolicyBackRow, standIns := [], harness := (true, "e8767e7cf8fc9a67297340829fe4f54a47425d8f808881959bed036d9256cf18"), looks := false }, kinds := [], alts := [], laidByText := true, laidKinds := [.data, .data, .mapped, .pinned], laidTests := true, laidLooks := .later }
def PrinterPolicyBackCardSaid : Prop := Claim7.holds Tryz.pinned (.plain (OpenSpec.ofChange printerPolicyBackSpec)) printerPolicyBackCard

/-- THE SECOND FORM's CARD OF 'chamberlainlaw10.PrinterBack'. -/
def printerBackUptoCard : Claim7 := { stood := { row := printerBackUptoRow, standIns := [], harness := (true, "e8767e7cf8fc9a67297340829fe4f54a47425d8f808881959bed036d9256cf18"), looks := false }, kinds := [], alts := [], laidByText := true, laidKinds := [.data, .data, .mapped, .pinned], laidTests := true, laidLooks := .later }
def PrinterBackUptoCardSaid : Prop := Claim7.holds Tryz.pinned (.plain (OpenSpec.upto printerBackSpec)) printerBackUptoCard

/-- THE SECOND FORM's CARD OF 'chamberlainlaw10.PrinterNames'. -/
def printerNamesUptoCard : Claim7 := { stood := { row := printerNamesUptoRow, standIns := [], harness := (true, "e8767e7cf8fc9a67297340829fe4f54a47425d8f808881959bed036d9256cf18"), looks := false }, kinds := [], alts := [], laidByText := true, laidKinds := [.data, .data, .mapped, .pinned], laidTests := true, laidLooks := .later }
def PrinterNamesUptoCardSaid : Prop := Claim7.holds Tryz.pinned (.plain (OpenSpec.upto printerNamesSpec)) printerNamesUptoCard

/-- THE SECOND FORM's CARD OF 'chamberlainlaw10.PrinterPolicyBack'. -/
def printerPolicyBackUptoCard : Claim7 := { stood := { row := printerPolicyBackUptoRow, standIns := [], harness := (true, "e8767e7cf8fc9a67297340829fe4f54a47425d8f808881959bed036d9256cf18"), looks := false }, kinds := [], alts := [], laidByText := true, laidKinds := [.data, .data, .mapped, .pinned], laidTests := true, laidLooks := .later }
def PrinterPolicyBackUptoCardSaid : Prop := Claim7.holds Tryz.pinned (.plain (OpenSpec.upto printerPolicyBackSpec)) printerPolicyBackUptoCard
end Rows
end Go.Proofs.YtoelfmmfjebabaaGreatDoor
