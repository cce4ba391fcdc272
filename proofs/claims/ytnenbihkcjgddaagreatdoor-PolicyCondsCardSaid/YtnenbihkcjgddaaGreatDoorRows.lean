/-
  NARROWER THAN 'FOR EVERY INPUT', by the rows' own cells (each row's printed sentence says how): PolicyReads: laid · PolicyScopes: laid · PolicyConds: laid.
  DERIVED. THE GIVEN ROWS OF THIS SEAT. 3 by the template 'for every input the law returns true; each argument reads behind the call as it read before'; 0 by the template 'total and deterministic' (their statements: YtnenbihkcjgddaaGreatDoorTotals.lean).
  GIVEN WITH THE SEED: the statements are not yours to turn. If you find one false, say at which input.
  Laid BY PROGRAM, IN A SANDBOX (cutbox-rows.mjs): the forced cells as the released guide's own fill.sh prints them over the translation 024f769e772baf32… (all of the seat's roots in one cut). By AI agents, Wed Nov 11 2026. No macro, syntax, notation, axiom, sorry.
-/
import Derived.Test.YtnenbihkcjgddaaGreatDoorChecked
import GoSem.Claim
import GoSem.ClaimJoined
import GoSem.ClaimMapViews
import Derived.JoinedTies
import Derived.KernelRfl
namespace Go.Proofs.YtnenbihkcjgddaaGreatDoor
/- THE CELL 'sum', in the pinned program and in every row, IS THE sha256 OF THE DUMP (.gsa) THAT YtnenbihkcjgddaaGreatDoorProg.lean LOADS. Nothing in Lean hashes anything: it is a label: what it is worth is what the hold of that sum in a sandbox is worth. -/
noncomputable def Tryz.pinned : Pinned := { name := "ytnenbihkcjgddaagreatdoor", sum := "024f769e772baf32e73fd602289a1db3c1bdf07eb13de656bb47f02aec0c1545", checked := Tryz.checked }
namespace Rows
def none {H : Type} : Left H := { results := [], args := [] }

/- WHAT THE LISTED PACKAGE-LEVEL VARIABLES READ AS WHEN THE CALL BEGINS. Each datum BY PROGRAM (the guide's laid-datum.mjs) off the statement by which the dump's own 'gosem.cut.vars' lays the variable. In a bare row this is a premise. The card (YtnenbihkcjgddaaGreatDoorCards.lean) ties it to the program's text. -/
def laid_chamberlain_lex_marks {H : Type} : DataW H := .agg [.lit (.string [58, 58]), .lit (.string [61, 61]), .lit (.string [33, 61]), .lit (.string [60, 61]), .lit (.string [62, 61]), .lit (.string [38, 38]), .lit (.string [124, 124]), .lit (.string [40]), .lit (.string [41]), .lit (.string [123]), .lit (.string [125]), .lit (.string [91]), .lit (.string [93]), .lit (.string [44]), .lit (.string [59]), .lit (.string [58]), .lit (.string [46]), .lit (.string [60]), .lit (.string [62]), .lit (.string [33]), .lit (.string [43]), .lit (.string [45]), .lit (.string [42])]

/-- 'chamberlainlaw09.PolicyReads': WHATEVER THE INPUT: true; the input reads as it did. -/
def policyReadsSpec : ChangeSpec := { name := "policyReads", fn := fun _ => fun
  | [d] => { results := [.lit (.bool true)], args := [d] }
  | _ => none }
def policyReadsRow : OpenClaim := { program := "ytnenbihkcjgddaagreatdoor", sum := "024f769e772baf32e73fd602289a1db3c1bdf07eb13de656bb47f02aec0c1545", func := "chamberlain/chamberlainlaw09.PolicyReads", spec := "policyReads", inPlace := ["internal/bytealg.IndexByteString", "math/bits.Add64", "internal/bytealg.IndexString"], unfollowed := true, recurses := true, named := ["chamberlain/lex.marks", "internal/bytealg.MaxLen"], apart := false, laid := [("chamberlain/lex.marks", laid_chamberlain_lex_marks)] }
def PolicyReadsSaid : Prop := policyReadsRow.holds Tryz.pinned (OpenSpec.ofChange policyReadsSpec)

/-- ITS FALSE NEIGHBOUR: 'it returns false'. Refute it at one input. -/
def policyReadsWrong : ChangeSpec := { name := "policyReads", fn := fun _ => fun
  | [d] => { results := [.lit (.bool false)], args := [d] }
  | _ => none }
def PolicyReadsWrongFalsely : Prop := policyReadsRow.holds Tryz.pinned (OpenSpec.ofChange policyReadsWrong)

/-- 'chamberlainlaw09.PolicyScopes': WHATEVER THE INPUT: true; the input reads as it did. -/
def policyScopesSpec : ChangeSpec := { name := "policyScopes", fn := fun _ => fun
  | [d1, d2, d3, d4] => { results := [.lit (.bool true)], args := [d1, d2, d3, d4] }
  | _ => none }
def policyScopesRow : OpenClaim := { program := "ytnenbihkcjgddaagreatdoor", sum := "024f769e772baf32e73fd602289a1db3c1bdf07eb13de656bb47f02aec0c1545", func := "chamberlain/chamberlainlaw09.PolicyScopes", spec := "policyScopes", inPlace := ["internal/bytealg.IndexByteString", "math/bits.Add64", "internal/bytealg.IndexString"], unfollowed := true, recurses := true, named := ["chamberlain/lex.marks", "internal/bytealg.MaxLen"], apart := false, laid := [("chamberlain/lex.marks", laid_chamberlain_lex_marks)] }
def PolicyScopesSaid : Prop := policyScopesRow.holds Tryz.pinned (OpenSpec.ofChange policyScopesSpec)

/-- ITS FALSE NEIGHBOUR: 'it returns false'. Refute it at one input. -/
def policyScopesWrong : ChangeSpec := { name := "policyScopes", fn := fun _ => fun
  | [d1, d2, d3, d4] => { results := [.lit (.bool false)], args := [d1, d2, d3, d4] }
  | _ => none }
def PolicyScopesWrongFalsely : Prop := policyScopesRow.holds Tryz.pinned (OpenSpec.ofChange policyScopesWrong)

/-- 'chamberlainlaw09.PolicyConds': WHATEVER THE INPUT: true; the input reads as it did. -/
def policyCondsSpec : ChangeSpec := { name := "policyConds", fn := fun _ => fun
  | [d1, d2] => { results := [.lit (.bool true)], args := [d1, d2] }
  | _ => none }
def policyCondsRow : OpenClaim := { program := "ytnenbihkcjgddaagreatdoor", sum := "024f769e772baf32e73fd602289a1db3c1bdf07eb13de656bb47f02aec0c1545", func := "chamberlain/chamberlainlaw09.PolicyConds", spec := "policyConds", inPlace := ["internal/bytealg.IndexByteString", "math/bits.Add64", "internal/bytealg.IndexString"], unfollowed := true, recurses := true, named := ["chamberlain/lex.marks", "internal/bytealg.MaxLen"], apart := false, laid := [("chamberlain/lex.marks", laid_chamberlain_lex_marks)] }
def PolicyCondsSaid : Prop := policyCondsRow.holds Tryz.pinned (OpenSpec.ofChange policyCondsSpec)

/-- ITS FALSE NEIGHBOUR: 'it returns false'. Refute it at one input. -/
def policyCondsWrong : ChangeSpec := { name := "policyConds", fn := fun _ => fun
  | [d1, d2] => { results := [.lit (.bool false)], args := [d1, d2] }
  | _ => none }
def PolicyCondsWrongFalsely : Prop := policyCondsRow.holds Tryz.pinned (OpenSpec.ofChange policyCondsWrong)

/- THE SECOND FORM. 'bulk': how many values and letters a reading holds, each counted each time it is reached (what is shared counts as often as it is met; a slice's spare places count too). A statement '..UptoSaid' is the law's where the arguments, and the package variables that the reading takes, are together of bulk at most 1048576: NARROWER than '..Said'. Prove '..Said' where nothing that the law and all that it calls make is longer than what came in: it says more and counts as full. Else prove '..UptoSaid'. A law counts once. -/
mutual
def uptoBulk {H : Type} : DataW H → Nat
  | .lit (.string bytes) => bytes.length + 1
  | .lit _ => 1
  | .nil => 1
  | .ptr d => uptoBulk d + 1
  | .slice elems spare => uptoBulkAll elems + uptoBulkAll spare + 1
  | .agg parts => uptoBulkAll parts + 1
  | .iface _ d => uptoBulk d + 1
  | .map entries => uptoBulkEntries entries + 1
  | .held _ => 1
def uptoBulkAll {H : Type} : List (DataW H) → Nat
  | [] => 0
  | d :: r => uptoBulk d + uptoBulkAll r
def uptoBulkEntries {H : Type} : List (Lit × DataW H) → Nat
  | [] => 0
  | x :: r => uptoBulkEntry x + uptoBulkEntries r
def uptoBulkEntry {H : Type} : Lit × DataW H → Nat
  | (.string bytes, d) => bytes.length + uptoBulk d + 1
  | (_, d) => uptoBulk d + 1
 end
def uptoSmall : (H : Type) → List (DataW H) → Bool := fun _ ds => decide (uptoBulkAll ds ≤ 1048576)
def OpenSpec.upto (s : _root_.Go.ChangeSpec) : _root_.Go.OpenSpec := { _root_.Go.OpenSpec.ofChange s with cond := some uptoSmall }

/-- 'chamberlainlaw09.PolicyReads', WHERE WHAT IT READS IS OF BULK AT MOST 1048576: true; the input reads as it did. -/
def policyReadsUptoRow : OpenClaim := { program := "ytnenbihkcjgddaagreatdoor", sum := "024f769e772baf32e73fd602289a1db3c1bdf07eb13de656bb47f02aec0c1545", func := "chamberlain/chamberlainlaw09.PolicyReads", spec := "policyReads", inPlace := ["internal/bytealg.IndexByteString", "math/bits.Add64", "internal/bytealg.IndexString"], unfollowed := true, recurses := true, named := ["chamberlain/lex.marks", "internal/bytealg.MaxLen"], apart := false, laid := [("chamberlain/lex.marks", laid_chamberlain_lex_marks)], narrowed := true }
def PolicyReadsUptoSaid : Prop := policyReadsUptoRow.holds Tryz.pinned (OpenSpec.upto policyReadsSpec)

/-- 'chamberlainlaw09.PolicyScopes', WHERE WHAT IT READS IS OF BULK AT MOST 1048576: true; the input reads as it did. -/
def policyScopesUptoRow : OpenClaim := { program := "ytnenbihkcjgddaagreatdoor", sum := "024f769e772baf32e73fd602289a1db3c1bdf07eb13de656bb47f02aec0c1545", func := "chamberlain/chamberlainlaw09.PolicyScopes", spec := "policyScopes", inPlace := ["internal/bytealg.IndexByteString", "math/bits.Add64", "internal/bytealg.IndexString"], unfollowed := true, recurses := true, named := ["chamberlain/lex.marks", "internal/bytealg.MaxLen"], apart := false, laid := [("chamberlain/lex.marks", laid_chamberlain_lex_marks)], narrowed := true }
def PolicyScopesUptoSaid : Prop := policyScopesUptoRow.holds Tryz.pinned (OpenSpec.upto policyScopesSpec)

/-- 'chamberlainlaw09.PolicyConds', WHERE WHAT IT READS IS OF BULK AT MOST 1048576: true; the input reads as it did. -/
def policyCondsUptoRow : OpenClaim := { program := "ytnenbihkcjgddaagreatdoor", sum := "024f769e772baf32e73fd602289a1db3c1bdf07eb13de656bb47f02aec0c1545", func := "chamberlain/chamberlainlaw09.PolicyConds", spec := "policyConds", inPlace := ["internal/bytealg.IndexByteString", "math/bits.Add64", "internal/bytealg.IndexString"], unfollowed := true, recurses := true, named := ["chamberlain/lex.marks", "internal/bytealg.MaxLen"], apart := false, laid := [("chamberlain/lex.marks", laid_chamberlain_lex_marks)], narrowed := true }
def PolicyCondsUptoSaid : Prop := policyCondsUptoRow.holds Tryz.pinned (OpenSpec.upto policyCondsSpec)

end Rows
end Go.Proofs.YtnenbihkcjgddaaGreatDoor
