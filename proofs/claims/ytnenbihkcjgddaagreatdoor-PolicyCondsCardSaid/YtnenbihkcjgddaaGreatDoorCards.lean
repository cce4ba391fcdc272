/-
  DERIVED. GIVEN WITH THE SEED: THE CARDS: each row of YtnenbihkcjgddaaGreatDoorRows.lean that lists a variable, with what it lists TIED to the program's text (the seventh form; the later family's looks); each row that meets fmt, with fmt's text TOLD by the authors' own Lean function (tested against real Go, not proved from fmt's source: count such statements apart). THE CARD IS WHAT COUNTS. Prove the row's statement (the work); the ties are given (YtnenbihkcjgddaaGreatDoorTie.lean); close each card by the builder's one call (the guide's Derived/Test/ToyasCard.lean, 'card_holds'). Laid BY PROGRAM, IN A SANDBOX (cutbox-door.mjs). By AI agents, Wed Nov 11 2026. No macro, syntax, notation, axiom, sorry.
-/
import Derived.Test.YtnenbihkcjgddaaGreatDoorRows
import GoSem.ClaimSeven
namespace Go.Proofs.YtnenbihkcjgddaaGreatDoor
namespace Rows

/-- THE TIED CARD OF 'chamberlainlaw09.PolicyReads'. -/
def policyReadsCard : Claim7 := { stood := { row := policyReadsRow, standIns := [], harness := (true, "57c2d63a6dd31b2796fe82e1203444e4881ebcbcfaaf0251d125cccfb06a8771"), looks := false }, kinds := [], alts := [], laidByText := true, laidKinds := [.data], laidTests := true, laidLooks := .later }
def PolicyReadsCardSaid : Prop := Claim7.holds Tryz.pinned (.plain (OpenSpec.ofChange policyReadsSpec)) policyReadsCard

/-- THE TIED CARD OF 'chamberlainlaw09.PolicyScopes'. -/
def policyScopesCard : Claim7 := { stood := { row := policyScopesRow, standIns := [], harness := (true, "57c2d63a6dd31b2796fe82e1203444e4881ebcbcfaaf0251d125cccfb06a8771"), looks := false }, kinds := [], alts := [], laidByText := true, laidKinds := [.data], laidTests := true, laidLooks := .later }
def PolicyScopesCardSaid : Prop := Claim7.holds Tryz.pinned (.plain (OpenSpec.ofChange policyScopesSpec)) policyScopesCard

/-- THE TIED CARD OF 'chamberlainlaw09.PolicyConds'. -/
def policyCondsCard : Claim7 := { stood := { row := policyCondsRow, standIns := [], harness := (true, "57c2d63a6dd31b2796fe82e1203444e4881ebcbcfaaf0251d125cccfb06a8771"), looks := false }, kinds := [], alts := [], laidByText := true, laidKinds := [.data], laidTests := true, laidLooks := .later }
def PolicyCondsCardSaid : Prop := Claim7.holds Tryz.pinned (.plain (OpenSpec.ofChange policyCondsSpec)) policyCondsCard

/-- THE SECOND FORM's CARD OF 'chamberlainlaw09.PolicyReads'. -/
def policyReadsUptoCard : Claim7 := { stood := { row := policyReadsUptoRow, standIns := [], harness := (true, "57c2d63a6dd31b2796fe82e1203444e4881ebcbcfaaf0251d125cccfb06a8771"), looks := false }, kinds := [], alts := [], laidByText := true, laidKinds := [.data], laidTests := true, laidLooks := .later }
def PolicyReadsUptoCardSaid : Prop := Claim7.holds Tryz.pinned (.plain (OpenSpec.upto policyReadsSpec)) policyReadsUptoCard

/-- THE SECOND FORM's CARD OF 'chamberlainlaw09.PolicyScopes'. -/
def policyScopesUptoCard : Claim7 := { stood := { row := policyScopesUptoRow, standIns := [], harness := (true, "57c2d63a6dd31b2796fe82e1203444e4881ebcbcfaaf0251d125cccfb06a8771"), looks := false }, kinds := [], alts := [], laidByText := true, laidKinds := [.data], laidTests := true, laidLooks := .later }
def PolicyScopesUptoCardSaid : Prop := Claim7.holds Tryz.pinned (.plain (OpenSpec.upto policyScopesSpec)) policyScopesUptoCard

/-- THE SECOND FORM's CARD OF 'chamberlainlaw09.PolicyConds'. -/
def policyCondsUptoCard : Claim7 := { stood := { row := policyCondsUptoRow, standIns := [], harness := (true, "57c2d63a6dd31b2796fe82e1203444e4881ebcbcfaaf0251d125cccfb06a8771"), looks := false }, kinds := [], alts := [], laidByText := true, laidKinds := [.data], laidTests := true, laidLooks := .later }
def PolicyCondsUptoCardSaid : Prop := Claim7.holds Tryz.pinned (.plain (OpenSpec.upto policyCondsSpec)) policyCondsUptoCard
end Rows
end Go.Proofs.YtnenbihkcjgddaaGreatDoor
