/-
  NARROWER THAN 'FOR EVERY INPUT', by the rows' own cells (each row's printed sentence says how): PolicySlots: laid · PolicyIds: laid.
  DERIVED. THE GIVEN ROWS OF THIS SEAT. 2 by the template 'for every input the law returns true; each argument reads behind the call as it read before'; 0 by the template 'total and deterministic' (their statements: YtnenbihkcjgddaaDoorTotals.lean).
  GIVEN WITH THE SEED: the statements are not yours to turn. If you find one false, say at which input.
  Laid BY PROGRAM, IN A SANDBOX (cutbox-rows.mjs): the forced cells as the released guide's own fill.sh prints them over the translation e1640b7c3a44b638… (all of the seat's roots in one cut). By AI agents, Wed Nov 11 2026. No macro, syntax, notation, axiom, sorry.
-/
import Derived.Test.YtnenbihkcjgddaaDoorChecked
import GoSem.Claim
import GoSem.ClaimJoined
import GoSem.ClaimMapViews
import Derived.JoinedTies
import Derived.KernelRfl
namespace Go.Proofs.YtnenbihkcjgddaaDoor
/- THE CELL 'sum', in the pinned program and in every row, IS THE sha256 OF THE DUMP (.gsa) THAT YtnenbihkcjgddaaDoorProg.lean LOADS. Nothing in Lean hashes anything: it is a label: what it is worth is what the hold of that sum in a sandbox is worth. -/
noncomputable def Tryd.pinned : Pinned := { name := "ytnenbihkcjgddaadoor", sum := "e1640b7c3a44b638206cd25612ae021664572568bfb8e9958319f54058bb852d", checked := Tryd.checked }
namespace Rows
def none {H : Type} : Left H := { results := [], args := [] }

/- WHAT THE LISTED PACKAGE-LEVEL VARIABLES READ AS WHEN THE CALL BEGINS. Each datum BY PROGRAM (the guide's laid-datum.mjs) off the statement by which the dump's own 'gosem.cut.vars' lays the variable. In a bare row this is a premise. The card (YtnenbihkcjgddaaDoorCards.lean) ties it to the program's text. -/
def laid_chamberlain_lex_marks {H : Type} : DataW H := .agg [.lit (.string [58, 58]), .lit (.string [61, 61]), .lit (.string [33, 61]), .lit (.string [60, 61]), .lit (.string [62, 61]), .lit (.string [38, 38]), .lit (.string [124, 124]), .lit (.string [40]), .lit (.string [41]), .lit (.string [123]), .lit (.string [125]), .lit (.string [91]), .lit (.string [93]), .lit (.string [44]), .lit (.string [59]), .lit (.string [58]), .lit (.string [46]), .lit (.string [60]), .lit (.string [62]), .lit (.string [33]), .lit (.string [43]), .lit (.string [45]), .lit (.string [42])]

/-- 'chamberlainlaw09.PolicySlots': WHATEVER THE INPUT: true; the input reads as it did. -/
def policySlotsSpec : ChangeSpec := { name := "policySlots", fn := fun _ => fun
  | [d] => { results := [.lit (.bool true)], args := [d] }
  | _ => none }
def policySlotsRow : OpenClaim := { program := "ytnenbihkcjgddaadoor", sum := "e1640b7c3a44b638206cd25612ae021664572568bfb8e9958319f54058bb852d", func := "chamberlain/chamberlainlaw09.PolicySlots", spec := "policySlots", inPlace := ["internal/bytealg.IndexByteString", "math/bits.Add64", "internal/bytealg.IndexString"], unfollowed := true, recurses := true, named := ["chamberlain/lex.marks", "internal/bytealg.MaxLen"], apart := false, laid := [("chamberlain/lex.marks", laid_chamberlain_lex_marks)] }
def PolicySlotsSaid : Prop := policySlotsRow.holds Tryd.pinned (OpenSpec.ofChange policySlotsSpec)

/-- ITS FALSE NEIGHBOUR: 'it returns false'. Refute it at one input. -/
def policySlotsWrong : ChangeSpec := { name := "policySlots", fn := fun _ => fun
  | [d] => { results := [.lit (.bool false)], args := [d] }
  | _ => none }
def PolicySlotsWrongFalsely : Prop := policySlotsRow.holds Tryd.pinned (OpenSpec.ofChange policySlotsWrong)

/-- 'chamberlainlaw09.PolicyIds': WHATEVER THE INPUT: true; the input reads as it did. -/
def policyIdsSpec : ChangeSpec := { name := "policyIds", fn := fun _ => fun
  | [d] => { results := [.lit (.bool true)], args := [d] }
  | _ => none }
def policyIdsRow : OpenClaim := { program := "ytnenbihkcjgddaadoor", sum := "e1640b7c3a44b638206cd25612ae021664572568bfb8e9958319f54058bb852d", func := "chamberlain/chamberlainlaw09.PolicyIds", spec := "policyIds", inPlace := ["internal/bytealg.IndexByteString", "math/bits.Add64", "internal/bytealg.IndexString"], unfollowed := true, recurses := true, named := ["chamberlain/lex.marks", "internal/bytealg.MaxLen"], apart := false, laid := [("chamberlain/lex.marks", laid_chamberlain_lex_marks)] }
def PolicyIdsSaid : Prop := policyIdsRow.holds Tryd.pinned (OpenSpec.ofChange policyIdsSpec)

/-- ITS FALSE NEIGHBOUR: 'it returns false'. Refute it at one input. -/
def policyIdsWrong : ChangeSpec := { name := "policyIds", fn := fun _ => fun
  | [d] => { results := [.lit (.bool false)], args := [d] }
  | _ => none }
def PolicyIdsWrongFalsely : Prop := policyIdsRow.holds Tryd.pinned (OpenSpec.ofChange policyIdsWrong)

/- THE SECOND FORM. 'bulk': how many values and letters a reading holds, each counted each time it is reached (what is shared counts as often as it is met; a slice's spare places count too). A statement '..UptoSaid' is the law's where the arguments, and the package variables that the reading takes, are together of bulk at most 1048576: NARROWER than '..Said'. Prove '..Said' where nothing that the law and all that it calls make is longer than what came in: it says more and counts as full. Else prove '..UptoSaid'. A law counts once. -/
mutual
def uptoBulk {H : Type} : DataW H → Nat
  | .lit (.string bytes) => bytes.length + 1
  | .lit _ => 1
  | .nil => 1
  | .ptr d => uptoBulk d + 1
  | .slice elems spare => uptoBulkAll elems + uptoBulkAll spare + 1
  | .agg parts => uptoBulkAll parts + 1
  | .iface _ d => uptoBulk d + 1
  | .map entries => uptoBulkEntries entries + 1
  | .held _ => 1
def uptoBulkAll {H : Type} : List (DataW H) → Nat
  | [] => 0
  | d :: r => uptoBulk d + uptoBulkAll r
def uptoBulkEntries {H : Type} : List (Lit × DataW H) → Nat
  | [] => 0
  | x :: r => uptoBulkEntry x + uptoBulkEntries r
def uptoBulkEntry {H : Type} : Lit × DataW H → Nat
  | (.string bytes, d) => bytes.length + uptoBulk d + 1
  | (_, d) => uptoBulk d + 1
 end
def uptoSmall : (H : Type) → List (DataW H) → Bool := fun _ ds => decide (uptoBulkAll ds ≤ 1048576)
def OpenSpec.upto (s : _root_.Go.ChangeSpec) : _root_.Go.OpenSpec := { _root_.Go.OpenSpec.ofChange s with cond := some uptoSmall }

/-- 'chamberlainlaw09.PolicySlots', WHERE WHAT IT READS IS OF BULK AT MOST 1048576: true; the input reads as it did. -/
def policySlotsUptoRow : OpenClaim := { program := "ytnenbihkcjgddaadoor", sum := "e1640b7c3a44b638206cd25612ae021664572568bfb8e9958319f54058bb852d", func := "chamberlain/chamberlainlaw09.PolicySlots", spec := "policySlots", inPlace := ["internal/bytealg.IndexByteString", "math/bits.Add64", "internal/bytealg.IndexString"], unfollowed := true, recurses := true, named := ["chamberlain/lex.marks", "internal/bytealg.MaxLen"], apart := false, laid := [("chamberlain/lex.marks", laid_chamberlain_lex_marks)], narrowed := true }
def PolicySlotsUptoSaid : Prop := policySlotsUptoRow.holds Tryd.pinned (OpenSpec.upto policySlotsSpec)

/-- 'chamberlainlaw09.PolicyIds', WHERE WHAT IT READS IS OF BULK AT MOST 1048576: true; the input reads as it did. -/
def policyIdsUptoRow : OpenClaim := { program := "ytnenbihkcjgddaadoor", sum := "e1640b7c3a44b638206cd25612ae021664572568bfb8e9958319f54058bb852d", func := "chamberlain/chamberlainlaw09.PolicyIds", spec := "policyIds", inPlace := ["internal/bytealg.IndexByteString", "math/bits.Add64", "internal/bytealg.IndexString"], unfollowed := true, recurses := true, named := ["chamberlain/lex.marks", "internal/bytealg.MaxLen"], apart := false, laid := [("chamberlain/lex.marks", laid_chamberlain_lex_marks)], narrowed := true }
def PolicyIdsUptoSaid : Prop := policyIdsUptoRow.holds Tryd.pinned (OpenSpec.upto policyIdsSpec)

end Rows
end Go.Proofs.YtnenbihkcjgddaaDoor
