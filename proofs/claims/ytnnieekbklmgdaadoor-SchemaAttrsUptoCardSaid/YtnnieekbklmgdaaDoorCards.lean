/-
  DERIVED. GIVEN WITH THE SEED: THE CARDS: each row of YtnnieekbklmgdaaDoorRows.lean that lists a variable, with what it lists TIED to the program's text (the seventh form; the later family's looks); each row that meets fmt, with fmt's text TOLD by the authors' own Lean function (tested against real Go, not proved from fmt's source: count such statements apart). THE CARD IS WHAT COUNTS. Prove the row's statement (the work); the ties are given (YtnnieekbklmgdaaDoorTie.lean); close each card by the builder's one call (the guide's Derived/Test/ToyasCard.lean, 'card_holds'). Laid BY PROGRAM, IN A SANDBOX (cutbox-door.mjs). By AI agents, Wed Nov 11 2026. No macro, syntax, notation, axiom, sorry.
-/
import Derived.Test.YtnnieekbklmgdaaDoorRows
import GoSem.ClaimSeven
namespace Go.Proofs.YtnnieekbklmgdaaDoor
namespace Rows

/-- THE TIED CARD OF 'chamberlainlaw12.SchemaChecks'. -/
def schemaChecksCard : Claim7 := { stood := { row := schemaChecksRow, standIns := [], harness := (true, "7e76be3e1e9495098fe0d596c9d577010a9804cd9a21972032f764208a0ccf71"), looks := false }, kinds := [], alts := [], laidByText := true, laidKinds := [.data, .pinned], laidTests := true, laidLooks := .later }
def SchemaChecksCardSaid : Prop := Claim7.holds Tryd.pinned (.plain (OpenSpec.ofChange schemaChecksSpec)) schemaChecksCard

/-- THE TIED CARD OF 'chamberlainlaw12.SchemaFinds'. -/
def schemaFindsCard : Claim7 := { stood := { row := schemaFindsRow, standIns := [], harness := (true, "7e76be3e1e9495098fe0d596c9d577010a9804cd9a21972032f764208a0ccf71"), looks := false }, kinds := [], alts := [], laidByText := true, laidKinds := [.data, .pinned], laidTests := true, laidLooks := .later }
def SchemaFindsCardSaid : Prop := Claim7.holds Tryd.pinned (.plain (OpenSpec.ofChange schemaFindsSpec)) schemaFindsCard

/-- THE TIED CARD OF 'chamberlainlaw12.SchemaAbove'. -/
def schemaAboveCard : Claim7 := { stood := { row := schemaAboveRow, standIns := [], harness := (true, "7e76be3e1e9495098fe0d596c9d577010a9804cd9a21972032f764208a0ccf71"), looks := false }, kinds := [], alts := [], laidByText := true, laidKinds := [.data, .pinned], laidTests := true, laidLooks := .later }
def SchemaAboveCardSaid : Prop := Claim7.holds Tryd.pinned (.plain (OpenSpec.ofChange schemaAboveSpec)) schemaAboveCard

/-- THE TIED CARD OF 'chamberlainlaw12.SchemaGraphs'. -/
def schemaGraphsCard : Claim7 := { stood := { row := schemaGraphsRow, standIns := [], harness := (true, "7e76be3e1e9495098fe0d596c9d577010a9804cd9a21972032f764208a0ccf71"), looks := false }, kinds := [], alts := [], laidByText := true, laidKinds := [.data, .pinned], laidTests := true, laidLooks := .later }
def SchemaGraphsCardSaid : Prop := Claim7.holds Tryd.pinned (.plain (OpenSpec.ofChange schemaGraphsSpec)) schemaGraphsCard

/-- THE TIED CARD OF 'chamberlainlaw12.SchemaAttrs'. -/
def schemaAttrsCard : Claim7 := { stood := { row := schemaAttrsRow, standIns := [], harness := (true, "7e76be3e1e9495098fe0d596c9d577010a9804cd9a21972032f764208a0ccf71"), looks := false }, kinds := [], alts := [], laidByText := true, laidKinds := [.data, .pinned], laidTests := true, laidLooks := .later }
def SchemaAttrsCardSaid : Prop := Claim7.holds Tryd.pinned (.plain (OpenSpec.ofChange schemaAttrsSpec)) schemaAttrsCard

/-- THE SECOND FORM's CARD OF 'chamberlainlaw12.SchemaChecks'. -/
def schemaChecksUptoCard : Claim7 := { stood := { row := schemaChecksUptoRow, standIns := [], harness := (true, "7e76be3e1e9495098fe0d596c9d577010a9804cd9a21972032f764208a0ccf71"), looks := false }, kinds := [], alts := [], laidByText := true, laidKinds := [.data, .pinned], laidTests := true, laidLooks := .later }
def SchemaChecksUptoCardSaid : Prop := Claim7.holds Tryd.pinned (.plain (OpenSpec.upto schemaChecksSpec)) schemaChecksUptoCard

/-- THE SECOND FORM's CARD OF 'chamberlainlaw12.SchemaFinds'. -/
def schemaFindsUptoCard : Claim7 := { stood := { row := schemaFindsUptoRow, standIns := [], harness := (true, "7e76be3e1e9495098fe0d596c9d577010a9804cd9a21972032f764208a0ccf71"), looks := false }, kinds := [], alts := [], laidByText := true, laidKinds := [.data, .pinned], laidTests := true, laidLooks := .later }
def SchemaFindsUptoCardSaid : Prop := Claim7.holds Tryd.pinned (.plain (OpenSpec.upto schemaFindsSpec)) schemaFindsUptoCard

/-- THE SECOND FORM's CARD OF 'chamberlainlaw12.SchemaAbove'. -/
def schemaAboveUptoCard : Claim7 := { stood := { row := schemaAboveUptoRow, standIns := [], harness := (true, "7e76be3e1e9495098fe0d596c9d577010a9804cd9a21972032f764208a0ccf71"), looks := false }, kinds := [], alts := [], laidByText := true, laidKinds := [.data, .pinned], laidTests := true, laidLooks := .later }
def SchemaAboveUptoCardSaid : Prop := Claim7.holds Tryd.pinned (.plain (OpenSpec.upto schemaAboveSpec)) schemaAboveUptoCard

/-- THE SECOND FORM's CARD OF 'chamberlainlaw12.SchemaGraphs'. -/
def schemaGraphsUptoCard : Claim7 := { stood := { row := schemaGraphsUptoRow, standIns := [], harness := (true, "7e76be3e1e9495098fe0d596c9d577010a9804cd9a21972032f764208a0ccf71"), looks := false }, kinds := [], alts := [], laidByText := true, laidKinds := [.data, .pinned], laidTests := true, laidLooks := .later }
def SchemaGraphsUptoCardSaid : Prop := Claim7.holds Tryd.pinned (.plain (OpenSpec.upto schemaGraphsSpec)) schemaGraphsUptoCard

/-- THE SECOND FORM's CARD OF 'chamberlainlaw12.SchemaAttrs'. -/
def schemaAttrsUptoCard : Claim7 := { stood := { row := schemaAttrsUptoRow, standIns := [], harness := (true, "7e76be3e1e9495098fe0d596c9d577010a9804cd9a21972032f764208a0ccf71"), looks := false }, kinds := [], alts := [], laidByText := true, laidKinds := [.data, .pinned], laidTests := true, laidLooks := .later }
def SchemaAttrsUptoCardSaid : Prop := Claim7.holds Tryd.pinned (.plain (OpenSpec.upto schemaAttrsSpec)) schemaAttrsUptoCard
end Rows
end Go.Proofs.YtnnieekbklmgdaaDoor
