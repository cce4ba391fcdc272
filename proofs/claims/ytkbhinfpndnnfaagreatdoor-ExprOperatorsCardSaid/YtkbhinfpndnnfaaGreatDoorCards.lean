/-
  DERIVED. GIVEN WITH THE SEED: THE CARDS: each row of YtkbhinfpndnnfaaGreatDoorRows.lean that lists a variable, with what it lists TIED to the program's text (the seventh form; the later family's looks); each row that meets fmt, with fmt's text TOLD by the authors' own Lean function (tested against real Go, not proved from fmt's source: count such statements apart). THE CARD IS WHAT COUNTS. Prove the row's statement (the work); the ties are given (YtkbhinfpndnnfaaGreatDoorTie.lean); close each card by the builder's one call (the guide's Derived/Test/ToyasCard.lean, 'card_holds'). Laid BY PROGRAM, IN A SANDBOX (cutbox-door.mjs). By AI agents, Wed Nov 11 2026. No macro, syntax, notation, axiom, sorry.
-/
import Derived.Test.YtkbhinfpndnnfaaGreatDoorRows
import GoSem.ClaimSeven
namespace Go.Proofs.YtkbhinfpndnnfaaGreatDoor
namespace Rows

/-- THE TIED CARD OF 'chamberlainlaw08.ExprWords'. -/
def exprWordsCard : Claim7 := { stood := { row := exprWordsRow, standIns := [], harness := (true, "e5ab00a1add87875e2e8013ffa0412463659d5ca39ba41e9215be6def01a8547"), looks := false }, kinds := [], alts := [], laidByText := true, laidKinds := [.data], laidTests := true, laidLooks := .later }
def ExprWordsCardSaid : Prop := Claim7.holds Tryz.pinned (.plain (OpenSpec.ofChange exprWordsSpec)) exprWordsCard

/-- THE TIED CARD OF 'chamberlainlaw08.ExprDeep'. -/
def exprDeepCard : Claim7 := { stood := { row := exprDeepRow, standIns := [], harness := (true, "e5ab00a1add87875e2e8013ffa0412463659d5ca39ba41e9215be6def01a8547"), looks := false }, kinds := [], alts := [], laidByText := true, laidKinds := [.data], laidTests := true, laidLooks := .later }
def ExprDeepCardSaid : Prop := Claim7.holds Tryz.pinned (.plain (OpenSpec.ofChange exprDeepSpec)) exprDeepCard

/-- THE TIED CARD OF 'chamberlainlaw08.ExprOperators'. -/
def exprOperatorsCard : Claim7 := { stood := { row := exprOperatorsRow, standIns := [], harness := (true, "e5ab00a1add87875e2e8013ffa0412463659d5ca39ba41e9215be6def01a8547"), looks := false }, kinds := [], alts := [], laidByText := true, laidKinds := [.data], laidTests := true, laidLooks := .later }
def ExprOperatorsCardSaid : Prop := Claim7.holds Tryz.pinned (.plain (OpenSpec.ofChange exprOperatorsSpec)) exprOperatorsCard

/-- THE SECOND FORM's CARD OF 'chamberlainlaw08.ExprWords'. -/
def exprWordsUptoCard : Claim7 := { stood := { row := exprWordsUptoRow, standIns := [], harness := (true, "e5ab00a1add87875e2e8013ffa0412463659d5ca39ba41e9215be6def01a8547"), looks := false }, kinds := [], alts := [], laidByText := true, laidKinds := [.data], laidTests := true, laidLooks := .later }
def ExprWordsUptoCardSaid : Prop := Claim7.holds Tryz.pinned (.plain (OpenSpec.upto exprWordsSpec)) exprWordsUptoCard

/-- THE SECOND FORM's CARD OF 'chamberlainlaw08.ExprDeep'. -/
def exprDeepUptoCard : Claim7 := { stood := { row := exprDeepUptoRow, standIns := [], harness := (true, "e5ab00a1add87875e2e8013ffa0412463659d5ca39ba41e9215be6def01a8547"), looks := false }, kinds := [], alts := [], laidByText := true, laidKinds := [.data], laidTests := true, laidLooks := .later }
def ExprDeepUptoCardSaid : Prop := Claim7.holds Tryz.pinned (.plain (OpenSpec.upto exprDeepSpec)) exprDeepUptoCard

/-- THE SECOND FORM's CARD OF 'chamberlainlaw08.ExprOperators'. -/
def exprOperatorsUptoCard : Claim7 := { stood := { row := exprOperatorsUptoRow, standIns := [], harness := (true, "e5ab00a1add87875e2e8013ffa0412463659d5ca39ba41e9215be6def01a8547"), looks := false }, kinds := [], alts := [], laidByText := true, laidKinds := [.data], laidTests := true, laidLooks := .later }
def ExprOperatorsUptoCardSaid : Prop := Claim7.holds Tryz.pinned (.plain (OpenSpec.upto exprOperatorsSpec)) exprOperatorsUptoCard
end Rows
end Go.Proofs.YtkbhinfpndnnfaaGreatDoor
