/-
  DERIVED. GIVEN WITH THE SEED: THE CARDS: each row of YtoelfmmfjebabaaDoorRows.lean that lists a variable, with what it lists TIED to the program's text (the seventh form; the later family's looks); each row that meets fmt, with fmt's text TOLD by the authors' own Lean function (tested against real Go, not proved from fmt's source: count such statements apart). THE CARD IS WHAT COUNTS. Prove the row's statement (the work); the ties are given (YtoelfmmfjebabaaDoorTie.lean); close each card by the builder's one call (the guide's Derived/Test/ToyasCard.lean, 'card_holds'). Laid BY PROGRAM, IN A SANDBOX (cutbox-door.mjs). By AI agents, Wed Nov 11 2026. No macro, syntax, notation, axiom, sorry.
-/
import Derived.Test.YtoelfmmfjebabaaDoorRows
import GoSem.ClaimSeven
namespace Go.Proofs.YtoelfmmfjebabaaDoor
namespace Rows

/-- THE TIED CARD OF 'chamberlainlaw10.PrinterTells'. -/
def printerTellsCard : Claim7 := { stood := { row := printerTellsRow, standIns := [], harness := (true, "128871d5e3a927f81d9493286029ec0756fcc80ff07baf53a72bb81c3797a055"), looks := false }, kinds := [], alts := [], laidByText := true, laidKinds := [.data, .mapped, .pinned], laidTests := true, laidLooks := .later }
def PrinterTellsCardSaid : Prop := Claim7.holds Tryd.pinned (.plain (OpenSpec.ofChange printerTellsSpec)) printerTellsCard

/-- THE TIED CARD OF 'chamberlainlaw10.PrinterPolicies'. -/
def printerPoliciesCard : Claim7 := { stood := { row := printerPoliciesRow, standIns := [], harness := (true, "128871d5e3a927f81d9493286029ec0756fcc80ff07baf53a72bb81c3797a055"), looks := false }, kinds := [], alts := [], laidByText := true, laidKinds := [.data, .mapped, .pinned], laidTests := true, laidLooks := .later }
def PrinterPoliciesCardSaid : Prop := Claim7.holds Tryd.pinned (.plain (OpenSpec.ofChange printerPoliciesSpec)) printerPoliciesCard

/-- THE TIED CARD OF 'chamberlainlaw10.PrinterScopes'. -/
def printerScopesCard : Claim7 := { stood := { row := printerScopesRow, standIns := [], harness := (true, "128871d5e3a927f81d9493286029ec0756fcc80ff07baf53a72bb81c3797a055"), looks := false }, kinds := [], alts := [], laidByText := true, laidKinds := [.data, .mapped, .pinned], laidTests := true, laidLooks := .later }
def PrinterScopesCardSaid : Prop := Claim7.holds Tryd.pinned (.plain (OpenSpec.ofChange printerScopesSpec)) printerScopesCard

/-- THE SECOND FORM's CARD OF 'chamberlainlaw10.PrinterTells'. -/
def printerTellsUptoCard : Claim7 := { stood := { row := printerTellsUptoRow, standIns := [], harness := (true, "128871d5e3a927f81d9493286029ec0756fcc80ff07baf53a72bb81c3797a055"), looks := false }, kinds := [], alts := [], laidByText := true, laidKinds := [.data, .mapped, .pinned], laidTests := true, laidLooks := .later }
def PrinterTellsUptoCardSaid : Prop := Claim7.holds Tryd.pinned (.plain (OpenSpec.upto printerTellsSpec)) printerTellsUptoCard

/-- THE SECOND FORM's CARD OF 'chamberlainlaw10.PrinterPolicies'. -/
def printerPoliciesUptoCard : Claim7 := { stood := { row := printerPoliciesUptoRow, standIns := [], harness := (true, "128871d5e3a927f81d9493286029ec0756fcc80ff07baf53a72bb81c3797a055"), looks := false }, kinds := [], alts := [], laidByText := true, laidKinds := [.data, .mapped, .pinned], laidTests := true, laidLooks := .later }
def PrinterPoliciesUptoCardSaid : Prop := Claim7.holds Tryd.pinned (.plain (OpenSpec.upto printerPoliciesSpec)) printerPoliciesUptoCard

/-- THE SECOND FORM's CARD OF 'chamberlainlaw10.PrinterScopes'. -/
def printerScopesUptoCard : Claim7 := { stood := { row := printerScopesUptoRow, standIns := [], harness := (true, "128871d5e3a927f81d9493286029ec0756fcc80ff07baf53a72bb81c3797a055"), looks := false }, kinds := [], alts := [], laidByText := true, laidKinds := [.data, .mapped, .pinned], laidTests := true, laidLooks := .later }
def PrinterScopesUptoCardSaid : Prop := Claim7.holds Tryd.pinned (.plain (OpenSpec.upto printerScopesSpec)) printerScopesUptoCard
end Rows
end Go.Proofs.YtoelfmmfjebabaaDoor
