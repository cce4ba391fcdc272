/-
  DERIVED. GIVEN WITH THE SEED: THE CARDS: each row of YtaigfbhkndcpaaaDoorRows.lean that lists a variable, with what it lists TIED to the program's text (the seventh form; the later family's looks); each row that meets fmt, with fmt's text TOLD by the authors' own Lean function (tested against real Go, not proved from fmt's source: count such statements apart). THE CARD IS WHAT COUNTS. Prove the row's statement (the work); the ties are given (YtaigfbhkndcpaaaDoorTie.lean); close each card by the builder's one call (the guide's Derived/Test/ToyasCard.lean, 'card_holds'). Laid BY PROGRAM, IN A SANDBOX (cutbox-door.mjs). By AI agents, Wed Nov 11 2026. No macro, syntax, notation, axiom, sorry.
-/
import Derived.Test.YtaigfbhkndcpaaaDoorRows
import GoSem.ClaimSeven
namespace Go.Proofs.YtaigfbhkndcpaaaDoor
namespace Rows

/-- THE TIED CARD OF 'chamberlainlaw02.TextsNames'. -/
def textsNamesCard : Claim7 := { stood := { row := textsNamesRow, standIns := [], harness := (true, "8ee2915494e4c546738aa9c05ff7c736aedc92e0ce6169063c609acadc8738b8"), looks := false }, kinds := [], alts := [], laidByText := true, laidKinds := [.data, .pinned], laidTests := true, laidLooks := .later }
def TextsNamesCardSaid : Prop := Claim7.holds Tryd.pinned (.plain (OpenSpec.ofChange textsNamesSpec)) textsNamesCard

/-- THE TIED CARD OF 'chamberlainlaw02.TextsQuotes'. -/
def textsQuotesCard : Claim7 := { stood := { row := textsQuotesRow, standIns := [], harness := (true, "8ee2915494e4c546738aa9c05ff7c736aedc92e0ce6169063c609acadc8738b8"), looks := false }, kinds := [], alts := [], laidByText := true, laidKinds := [.data, .pinned], laidTests := true, laidLooks := .later }
def TextsQuotesCardSaid : Prop := Claim7.holds Tryd.pinned (.plain (OpenSpec.ofChange textsQuotesSpec)) textsQuotesCard

/-- THE TIED CARD OF 'chamberlainlaw02.TextsUnquotes'. -/
def textsUnquotesCard : Claim7 := { stood := { row := textsUnquotesRow, standIns := [], harness := (true, "8ee2915494e4c546738aa9c05ff7c736aedc92e0ce6169063c609acadc8738b8"), looks := false }, kinds := [], alts := [], laidByText := true, laidKinds := [.data, .pinned], laidTests := true, laidLooks := .later }
def TextsUnquotesCardSaid : Prop := Claim7.holds Tryd.pinned (.plain (OpenSpec.ofChange textsUnquotesSpec)) textsUnquotesCard

/-- THE TIED CARD OF 'chamberlainlaw02.TextsJoined'. -/
def textsJoinedCard : Claim7 := { stood := { row := textsJoinedRow, standIns := [], harness := (true, "8ee2915494e4c546738aa9c05ff7c736aedc92e0ce6169063c609acadc8738b8"), looks := false }, kinds := [], alts := [], laidByText := true, laidKinds := [.data, .pinned], laidTests := true, laidLooks := .later }
def TextsJoinedCardSaid : Prop := Claim7.holds Tryd.pinned (.plain (OpenSpec.ofChange textsJoinedSpec)) textsJoinedCard

/-- THE TIED CARD OF 'chamberlainlaw02.TextsPaths'. -/
def textsPathsCard : Claim7 := { stood := { row := textsPathsRow, standIns := [], harness := (true, "8ee2915494e4c546738aa9c05ff7c736aedc92e0ce6169063c609acadc8738b8"), looks := false }, kinds := [], alts := [], laidByText := true, laidKinds := [.data, .pinned], laidTests := true, laidLooks := .later }
def TextsPathsCardSaid : Prop := Claim7.holds Tryd.pinned (.plain (OpenSpec.ofChange textsPathsSpec)) textsPathsCard

/-- THE SECOND FORM's CARD OF 'chamberlainlaw02.TextsNames'. -/
def textsNamesUptoCard : Claim7 := { stood := { row := textsNamesUptoRow, standIns := [], harness := (true, "8ee2915494e4c546738aa9c05ff7c736aedc92e0ce6169063c609acadc8738b8"), looks := false }, kinds := [], alts := [], laidByText := true, laidKinds := [.data, .pinned], laidTests := true, laidLooks := .later }
def TextsNamesUptoCardSaid : Prop := Claim7.holds Tryd.pinned (.plain (OpenSpec.upto textsNamesSpec)) textsNamesUptoCard

/-- THE SECOND FORM's CARD OF 'chamberlainlaw02.TextsQuotes'. -/
def textsQuotesUptoCard : Claim7 := { stood := { row := textsQuotesUptoRow, standIns := [], harness := (true, "8ee2915494e4c546738aa9c05ff7c736aedc92e0ce6169063c609acadc8738b8"), looks := false }, kinds := [], alts := [], laidByText := true, laidKinds := [.data, .pinned], laidTests := true, laidLooks := .later }
def TextsQuotesUptoCardSaid : Prop := Claim7.holds Tryd.pinned (.plain (OpenSpec.upto textsQuotesSpec)) textsQuotesUptoCard

/-- THE SECOND FORM's CARD OF 'chamberlainlaw02.TextsUnquotes'. -/
def textsUnquotesUptoCard : Claim7 := { stood := { row := textsUnquotesUptoRow, standIns := [], harness := (true, "8ee2915494e4c546738aa9c05ff7c736aedc92e0ce6169063c609acadc8738b8"), looks := false }, kinds := [], alts := [], laidByText := true, laidKinds := [.data, .pinned], laidTests := true, laidLooks := .later }
def TextsUnquotesUptoCardSaid : Prop := Claim7.holds Tryd.pinned (.plain (OpenSpec.upto textsUnquotesSpec)) textsUnquotesUptoCard

/-- THE SECOND FORM's CARD OF 'chamberlainlaw02.TextsJoined'. -/
def textsJoinedUptoCard : Claim7 := { stood := { row := textsJoinedUptoRow, standIns := [], harness := (true, "8ee2915494e4c546738aa9c05ff7c736aedc92e0ce6169063c609acadc8738b8"), looks := false }, kinds := [], alts := [], laidByText := true, laidKinds := [.data, .pinned], laidTests := true, laidLooks := .later }
def TextsJoinedUptoCardSaid : Prop := Claim7.holds Tryd.pinned (.plain (OpenSpec.upto textsJoinedSpec)) textsJoinedUptoCard

/-- THE SECOND FORM's CARD OF 'chamberlainlaw02.TextsPaths'. -/
def textsPathsUptoCard : Claim7 := { stood := { row := textsPathsUptoRow, standIns := [], harness := (true, "8ee2915494e4c546738aa9c05ff7c736aedc92e0ce6169063c609acadc8738b8"), looks := false }, kinds := [], alts := [], laidByText := true, laidKinds := [.data, .pinned], laidTests := true, laidLooks := .later }
def TextsPathsUptoCardSaid : Prop := Claim7.holds Tryd.pinned (.plain (OpenSpec.upto textsPathsSpec)) textsPathsUptoCard
end Rows
end Go.Proofs.YtaigfbhkndcpaaaDoor
