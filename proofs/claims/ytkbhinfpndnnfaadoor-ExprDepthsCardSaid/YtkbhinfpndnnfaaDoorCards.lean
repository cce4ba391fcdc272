/-
  DERIVED. GIVEN WITH THE SEED: THE CARDS: each row of YtkbhinfpndnnfaaDoorRows.lean that lists a variable, with what it lists TIED to the program's text (the seventh form; the later family's looks); each row that meets fmt, with fmt's text TOLD by the authors' own Lean function (tested against real Go, not proved from fmt's source: count such statements apart). THE CARD IS WHAT COUNTS. Prove the row's statement (the work); the ties are given (YtkbhinfpndnnfaaDoorTie.lean); close each card by the builder's one call (the guide's Derived/Test/ToyasCard.lean, 'card_holds'). Laid BY PROGRAM, IN A SANDBOX (cutbox-door.mjs). By AI agents, Wed Nov 11 2026. No macro, syntax, notation, axiom, sorry.
-/
import Derived.Test.YtkbhinfpndnnfaaDoorRows
import GoSem.ClaimSeven
namespace Go.Proofs.YtkbhinfpndnnfaaDoor
namespace Rows

/-- THE TIED CARD OF 'chamberlainlaw08.ExprDepths'. -/
def exprDepthsCard : Claim7 := { stood := { row := exprDepthsRow, standIns := [], harness := (true, "5560ccf1df3b476a623f8aaf7dac10e157d5a1f4ed3fe08df9087d317cae7538"), looks := false }, kinds := [], alts := [], laidByText := true, laidKinds := [.data], laidTests := true, laidLooks := .later }
def ExprDepthsCardSaid : Prop := Claim7.holds Tryd.pinned (.plain (OpenSpec.ofChange exprDepthsSpec)) exprDepthsCard

/-- THE SECOND FORM's CARD OF 'chamberlainlaw08.ExprDepths'. -/
def exprDepthsUptoCard : Claim7 := { stood := { row := exprDepthsUptoRow, standIns := [], harness := (true, "5560ccf1df3b476a623f8aaf7dac10e157d5a1f4ed3fe08df9087d317cae7538"), looks := false }, kinds := [], alts := [], laidByText := true, laidKinds := [.data], laidTests := true, laidLooks := .later }
def ExprDepthsUptoCardSaid : Prop := Claim7.holds Tryd.pinned (.plain (OpenSpec.upto exprDepthsSpec)) exprDepthsUptoCard
end Rows
end Go.Proofs.YtkbhinfpndnnfaaDoor
