/-
  DERIVED. GIVEN WITH THE SEED: THE CARDS: each row of YtnenbihkcjgddaaDoorRows.lean that lists a variable, with what it lists TIED to the program's text (the seventh form; the later family's looks); each row that meets fmt, with fmt's text TOLD by the authors' own Lean function (tested against real Go, not proved from fmt's source: count such statements apart). THE CARD IS WHAT COUNTS. Prove the row's statement (the work); the ties are given (YtnenbihkcjgddaaDoorTie.lean); close each card by the builder's one call (the guide's Derived/Test/ToyasCard.lean, 'card_holds'). Laid BY PROGRAM, IN A SANDBOX (cutbox-door.mjs). By AI agents, Wed Nov 11 2026. No macro, syntax, notation, axiom, sorry.
-/
import Derived.Test.YtnenbihkcjgddaaDoorRows
import GoSem.ClaimSeven
namespace Go.Proofs.YtnenbihkcjgddaaDoor
namespace Rows

/-- THE TIED CARD OF 'chamberlainlaw09.PolicySlots'. -/
def policySlotsCard : Claim7 := { stood := { row := policySlotsRow, standIns := [], harness := (true, "c1e9a5d116228793e5c0e5601c1a196ca9907185541e216b98020b9f8e634493"), looks := false }, kinds := [], alts := [], laidByText := true, laidKinds := [.data], laidTests := true, laidLooks := .later }
def PolicySlotsCardSaid : Prop := Claim7.holds Tryd.pinned (.plain (OpenSpec.ofChange policySlotsSpec)) policySlotsCard

/-- THE TIED CARD OF 'chamberlainlaw09.PolicyIds'. -/
def policyIdsCard : Claim7 := { stood := { row := policyIdsRow, standIns := [], harness := (true, "c1e9a5d116228793e5c0e5601c1a196ca9907185541e216b98020b9f8e634493"), looks := false }, kinds := [], alts := [], laidByText := true, laidKinds := [.data], laidTests := true, laidLooks := .later }
def PolicyIdsCardSaid : Prop := Claim7.holds Tryd.pinned (.plain (OpenSpec.ofChange policyIdsSpec)) policyIdsCard

/-- THE SECOND FORM's CARD OF 'chamberlainlaw09.PolicySlots'. -/
def policySlotsUptoCard : Claim7 := { stood := { row := policySlotsUptoRow, standIns := [], harness := (true, "c1e9a5d116228793e5c0e5601c1a196ca9907185541e216b98020b9f8e634493"), looks := false }, kinds := [], alts := [], laidByText := true, laidKinds := [.data], laidTests := true, laidLooks := .later }
def PolicySlotsUptoCardSaid : Prop := Claim7.holds Tryd.pinned (.plain (OpenSpec.upto policySlotsSpec)) policySlotsUptoCard

/-- THE SECOND FORM's CARD OF 'chamberlainlaw09.PolicyIds'. -/
def policyIdsUptoCard : Claim7 := { stood := { row := policyIdsUptoRow, standIns := [], harness := (true, "c1e9a5d116228793e5c0e5601c1a196ca9907185541e216b98020b9f8e634493"), looks := false }, kinds := [], alts := [], laidByText := true, laidKinds := [.data], laidTests := true, laidLooks := .later }
def PolicyIdsUptoCardSaid : Prop := Claim7.holds Tryd.pinned (.plain (OpenSpec.upto policyIdsSpec)) policyIdsUptoCard
end Rows
end Go.Proofs.YtnenbihkcjgddaaDoor
