/-
  NARROWER THAN 'FOR EVERY INPUT', by the rows' own cells (each row's printed sentence says how): ExprWords: laid · ExprDeep: laid · ExprOperators: laid.
  DERIVED. THE GIVEN ROWS OF THIS SEAT. 3 by the template 'for every input the law returns true; each argument reads behind the call as it read before'; 0 by the template 'total and deterministic' (their statements: YtkbhinfpndnnfaaGreatDoorTotals.lean).
  GIVEN WITH THE SEED: the statements are not yours to turn. If you find one false, say at which input.
  Laid BY PROGRAM, IN A SANDBOX (cutbox-rows.mjs): the forced cells as the released guide's own fill.sh prints them over the translation 8b9a8a95b2300e34… (all of the seat's roots in one cut). By AI agents, Wed Nov 11 2026. No macro, syntax, notation, axiom, sorry.
-/
import Derived.Test.YtkbhinfpndnnfaaGreatDoorChecked
import GoSem.Claim
import GoSem.ClaimJoined
import GoSem.ClaimMapViews
import Derived.JoinedTies
import Derived.KernelRfl
namespace Go.Proofs.YtkbhinfpndnnfaaGreatDoor
/- THE CELL 'sum', in the pinned program and in every row, IS THE sha256 OF THE DUMP (.gsa) THAT YtkbhinfpndnnfaaGreatDoorProg.lean LOADS. Nothing in Lean hashes anything: it is a label: what it is worth is what the hold of that sum in a sandbox is worth. -/
noncomputable def Tryz.pinned : Pinned := { name := "ytkbhinfpndnnfaagreatdoor", sum := "8b9a8a95b2300e34d3cc22c52beb66db09a17d0a7f070e4bb45b831db8254562", checked := Tryz.checked }
namespace Rows
def none {H : Type} : Left H := { results := [], args := [] }

/- WHAT THE LISTED PACKAGE-LEVEL VARIABLES READ AS WHEN THE CALL BEGINS. Each datum BY PROGRAM (the guide's laid-datum.mjs) off the statement by which the dump's own 'gosem.cut.vars' lays the variable. In a bare row this is a premise. The card (YtkbhinfpndnnfaaGreatDoorCards.lean) ties it to the program's text. -/
def laid_chamberlain_lex_marks {H : Type} : DataW H := .agg [.lit (.string [58, 58]), .lit (.string [61, 61]), .lit (.string [33, 61]), .lit (.string [60, 61]), .lit (.string [62, 61]), .lit (.string [38, 38]), .lit (.string [124, 124]), .lit (.string [40]), .lit (.string [41]), .lit (.string [123]), .lit (.string [125]), .lit (.string [91]), .lit (.string [93]), .lit (.string [44]), .lit (.string [59]), .lit (.string [58]), .lit (.string [46]), .lit (.string [60]), .lit (.string [62]), .lit (.string [33]), .lit (.string [43]), .lit (.string [45]), .lit (.string [42])]

/-- 'chamberlainlaw08.ExprWords': WHATEVER THE INPUT: true; the input reads as it did. -/
def exprWordsSpec : ChangeSpec := { name := "exprWords", fn := fun _ => fun
  | [d1, d2] => { results := [.lit (.bool true)], args := [d1, d2] }
  | _ => none }
def exprWordsRow : OpenClaim := { program := "ytkbhinfpndnnfaagreatdoor", sum := "8b9a8a95b2300e34d3cc22c52beb66db09a17d0a7f070e4bb45b831db8254562", func := "chamberlain/chamberlainlaw08.ExprWords", spec := "exprWords", inPlace := ["internal/bytealg.IndexByteString", "math/bits.Add64", "internal/bytealg.IndexString"], unfollowed := true, recurses := true, named := ["chamberlain/lex.marks", "internal/bytealg.MaxLen"], apart := false, laid := [("chamberlain/lex.marks", laid_chamberlain_lex_marks)] }
def ExprWordsSaid : Prop := exprWordsRow.holds Tryz.pinned (OpenSpec.ofChange exprWordsSpec)

/-- ITS FALSE NEIGHBOUR: 'it returns false'. Refute it at one input. -/
def exprWordsWrong : ChangeSpec := { name := "exprWords", fn := fun _ => fun
  | [d1, d2] => { results := [.lit (.bool false)], args := [d1, d2] }
  | _ => none }
def ExprWordsWrongFalsely : Prop := exprWordsRow.holds Tryz.pinned (OpenSpec.ofChange exprWordsWrong)

/-- 'chamberlainlaw08.ExprDeep': WHATEVER THE INPUT: true; the input reads as it did. -/
def exprDeepSpec : ChangeSpec := { name := "exprDeep", fn := fun _ => fun
  | [d1, d2] => { results := [.lit (.bool true)], args := [d1, d2] }
  | _ => none }
def exprDeepRow : OpenClaim := { program := "ytkbhinfpndnnfaagreatdoor", sum := "8b9a8a95b2300e34d3cc22c52beb66db09a17d0a7f070e4bb45b831db8254562", func := "chamberlain/chamberlainlaw08.ExprDeep", spec := "exprDeep", inPlace := ["internal/bytealg.IndexByteString", "math/bits.Add64", "internal/bytealg.IndexString"], unfollowed := true, recurses := true, named := ["chamberlain/lex.marks", "internal/bytealg.MaxLen"], apart := false, laid := [("chamberlain/lex.marks", laid_chamberlain_lex_marks)] }
def ExprDeepSaid : Prop := exprDeepRow.holds Tryz.pinned (OpenSpec.ofChange exprDeepSpec)

/-- ITS FALSE NEIGHBOUR: 'it returns false'. Refute it at one input. -/
def exprDeepWrong : ChangeSpec := { name := "exprDeep", fn := fun _ => fun
  | [d1, d2] => { results := [.lit (.bool false)], args := [d1, d2] }
  | _ => none }
def ExprDeepWrongFalsely : Prop := exprDeepRow.holds Tryz.pinned (OpenSpec.ofChange exprDeepWrong)

/-- 'chamberlainlaw08.ExprOperators': WHATEVER THE INPUT: true; the input reads as it did. -/
def exprOperatorsSpec : ChangeSpec := { name := "exprOperators", fn := fun _ => fun
  | [d1, d2] => { results := [.lit (.bool true)], args := [d1, d2] }
  | _ => none }
def exprOperatorsRow : OpenClaim := { program := "ytkbhinfpndnnfaagreatdoor", sum := "8b9a8a95b2300e34d3cc22c52beb66db09a17d0a7f070e4bb45b831db8254562", func := "chamberlain/chamberlainlaw08.ExprOperators", spec := "exprOperators", inPlace := ["internal/bytealg.IndexByteString", "math/bits.Add64", "internal/bytealg.IndexString"], unfollowed := true, recurses := true, named := ["chamberlain/lex.marks", "internal/bytealg.MaxLen"], apart := false, laid := [("chamberlain/lex.marks", laid_chamberlain_lex_marks)] }
def ExprOperatorsSaid : Prop := exprOperatorsRow.holds Tryz.pinned (OpenSpec.ofChange exprOperatorsSpec)

/-- ITS FALSE NEIGHBOUR: 'it returns false'. Refute it at one input. -/
def exprOperatorsWrong : ChangeSpec := { name := "exprOperators", fn := fun _ => fun
  | [d1, d2] => { results := [.lit (.bool false)], args := [d1, d2] }
  | _ => none }
def ExprOperatorsWrongFalsely : Prop := exprOperatorsRow.holds Tryz.pinned (OpenSpec.ofChange exprOperatorsWrong)

/- THE SECOND FORM. 'bulk': how many values and letters a reading holds, each counted each time it is reached (what is shared counts as often as it is met; a slice's spare places count too). A statement '..UptoSaid' is the law's where the arguments, and the package variables that the reading takes, are together of bulk at most 1048576: NARROWER than '..Said'. Prove '..Said' where nothing that the law and all that it calls make is longer than what came in: it says more and counts as full. Else prove '..UptoSaid'. A law counts once. -/
mutual
def uptoBulk {H : Type} : DataW H → Nat
  | .lit (.string bytes) => bytes.length + 1
  | .lit _ => 1
  | .nil => 1
  | .ptr d => uptoBulk d + 1
  | .slice elems spare => uptoBulkAll elems + uptoBulkAll spare + 1
  | .agg parts => uptoBulkAll parts + 1
  | .iface _ d => uptoBulk d + 1
  | .map entries => uptoBulkEntries entries + 1
  | .held _ => 1
def uptoBulkAll {H : Type} : List (DataW H) → Nat
  | [] => 0
  | d :: r => uptoBulk d + uptoBulkAll r
def uptoBulkEntries {H : Type} : List (Lit × DataW H) → Nat
  | [] => 0
  | x :: r => uptoBulkEntry x + uptoBulkEntries r
def uptoBulkEntry {H : Type} : Lit × DataW H → Nat
  | (.string bytes, d) => bytes.length + uptoBulk d + 1
  | (_, d) => uptoBulk d + 1
 end
def uptoSmall : (H : Type) → List (DataW H) → Bool := fun _ ds => decide (uptoBulkAll ds ≤ 1048576)
def OpenSpec.upto (s : _root_.Go.ChangeSpec) : _root_.Go.OpenSpec := { _root_.Go.OpenSpec.ofChange s with cond := some uptoSmall }

/-- 'chamberlainlaw08.ExprWords', WHERE WHAT IT READS IS OF BULK AT MOST 1048576: true; the input reads as it did. -/
def exprWordsUptoRow : OpenClaim := { program := "ytkbhinfpndnnfaagreatdoor", sum := "8b9a8a95b2300e34d3cc22c52beb66db09a17d0a7f070e4bb45b831db8254562", func := "chamberlain/chamberlainlaw08.ExprWords", spec := "exprWords", inPlace := ["internal/bytealg.IndexByteString", "math/bits.Add64", "internal/bytealg.IndexString"], unfollowed := true, recurses := true, named := ["chamberlain/lex.marks", "internal/bytealg.MaxLen"], apart := false, laid := [("chamberlain/lex.marks", laid_chamberlain_lex_marks)], narrowed := true }
def ExprWordsUptoSaid : Prop := exprWordsUptoRow.holds Tryz.pinned (OpenSpec.upto exprWordsSpec)

/-- 'chamberlainlaw08.ExprDeep', WHERE WHAT IT READS IS OF BULK AT MOST 1048576: true; the input reads as it did. -/
def exprDeepUptoRow : OpenClaim := { program := "ytkbhinfpndnnfaagreatdoor", sum := "8b9a8a95b2300e34d3cc22c52beb66db09a17d0a7f070e4bb45b831db8254562", func := "chamberlain/chamberlainlaw08.ExprDeep", spec := "exprDeep", inPlace := ["internal/bytealg.IndexByteString", "math/bits.Add64", "internal/bytealg.IndexString"], unfollowed := true, recurses := true, named := ["chamberlain/lex.marks", "internal/bytealg.MaxLen"], apart := false, laid := [("chamberlain/lex.marks", laid_chamberlain_lex_marks)], narrowed := true }
def ExprDeepUptoSaid : Prop := exprDeepUptoRow.holds Tryz.pinned (OpenSpec.upto exprDeepSpec)

/-- 'chamberlainlaw08.ExprOperators', WHERE WHAT IT READS IS OF BULK AT MOST 1048576: true; the input reads as it did. -/
def exprOperatorsUptoRow : OpenClaim := { program := "ytkbhinfpndnnfaagreatdoor", sum := "8b9a8a95b2300e34d3cc22c52beb66db09a17d0a7f070e4bb45b831db8254562", func := "chamberlain/chamberlainlaw08.ExprOperators", spec := "exprOperators", inPlace := ["internal/bytealg.IndexByteString", "math/bits.Add64", "internal/bytealg.IndexString"], unfollowed := true, recurses := true, named := ["chamberlain/lex.marks", "internal/bytealg.MaxLen"], apart := false, laid := [("chamberlain/lex.marks", laid_chamberlain_lex_marks)], narrowed := true }
def ExprOperatorsUptoSaid : Prop := exprOperatorsUptoRow.holds Tryz.pinned (OpenSpec.upto exprOperatorsSpec)

end Rows
end Go.Proofs.YtkbhinfpndnnfaaGreatDoor
