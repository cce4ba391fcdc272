/-
  NARROWER THAN 'FOR EVERY INPUT', by the rows' own cells (each row's printed sentence says how): TextsNames: laid · TextsQuotes: laid · TextsUnquotes: laid · TextsJoined: laid · TextsPaths: laid.
  DERIVED. THE GIVEN ROWS OF THIS SEAT. 5 by the template 'for every input the law returns true; each argument reads behind the call as it read before'; 0 by the template 'total and deterministic' (their statements: YtaigfbhkndcpaaaDoorTotals.lean).
  GIVEN WITH THE SEED: the statements are not yours to turn. If you find one false, say at which input.
  Laid BY PROGRAM, IN A SANDBOX (cutbox-rows.mjs): the forced cells as the released guide's own fill.sh prints them over the translation 1ffa37392ddd1028… (all of the seat's roots in one cut). By AI agents, Wed Nov 11 2026. No macro, syntax, notation, axiom, sorry.
-/
import Derived.Test.YtaigfbhkndcpaaaDoorChecked
import GoSem.PinnedTables
import GoSem.Claim
import GoSem.ClaimJoined
import GoSem.ClaimMapViews
import Derived.JoinedTies
import Derived.KernelRfl
namespace Go.Proofs.YtaigfbhkndcpaaaDoor
/- THE CELL 'sum', in the pinned program and in every row, IS THE sha256 OF THE DUMP (.gsa) THAT YtaigfbhkndcpaaaDoorProg.lean LOADS. Nothing in Lean hashes anything: it is a label: what it is worth is what the hold of that sum in a sandbox is worth. -/
noncomputable def Tryd.pinned : Pinned := { name := "ytaigfbhkndcpaaadoor", sum := "1ffa37392ddd1028e735d6344c2d0dad59c79f2cfdeb5ed3542cf3e108e85932", checked := Tryd.checked }
namespace Rows
def none {H : Type} : Left H := { results := [], args := [] }

/- WHAT THE LISTED PACKAGE-LEVEL VARIABLES READ AS WHEN THE CALL BEGINS. Each datum BY PROGRAM (the guide's laid-datum.mjs) off the statement by which the dump's own 'gosem.cut.vars' lays the variable. In a bare row this is a premise. The card (YtaigfbhkndcpaaaDoorCards.lean) ties it to the program's text. -/
def laid_unicode_utf8_acceptRanges {H : Type} : DataW H := .agg [.agg [.lit (.int .u8 128), .lit (.int .u8 191)], .agg [.lit (.int .u8 160), .lit (.int .u8 191)], .agg [.lit (.int .u8 128), .lit (.int .u8 159)], .agg [.lit (.int .u8 144), .lit (.int .u8 191)], .agg [.lit (.int .u8 128), .lit (.int .u8 143)], .agg [.lit (.int .u8 0), .lit (.int .u8 0)], .agg [.lit (.int .u8 0), .lit (.int .u8 0)], .agg [.lit (.int .u8 0), .lit (.int .u8 0)], .agg [.lit (.int .u8 0), .lit (.int .u8 0)], .agg [.lit (.int .u8 0), .lit (.int .u8 0)], .agg [.lit (.int .u8 0), .lit (.int .u8 0)], .agg [.lit (.int .u8 0), .lit (.int .u8 0)], .agg [.lit (.int .u8 0), .lit (.int .u8 0)], .agg [.lit (.int .u8 0), .lit (.int .u8 0)], .agg [.lit (.int .u8 0), .lit (.int .u8 0)], .agg [.lit (.int .u8 0), .lit (.int .u8 0)]]
/-- One of Go's own tables, pinned by name: the form's constant. -/
def laid_unicode_utf8_first : DataW Unit := Go.Pinned.utf8First

/-- 'chamberlainlaw02.TextsNames': WHATEVER THE INPUT: true; the input reads as it did. -/
def textsNamesSpec : ChangeSpec := { name := "textsNames", fn := fun _ => fun
  | [d] => { results := [.lit (.bool true)], args := [d] }
  | _ => none }
def textsNamesRow : OpenClaim := { program := "ytaigfbhkndcpaaadoor", sum := "1ffa37392ddd1028e735d6344c2d0dad59c79f2cfdeb5ed3542cf3e108e85932", func := "chamberlain/chamberlainlaw02.TextsNames", spec := "textsNames", inPlace := ["internal/bytealg.IndexByteString", "internal/abi.NoEscape", "internal/bytealg.CountString", "internal/bytealg.IndexString"], named := ["unicode/utf8.first", "unicode/utf8.acceptRanges", "internal/bytealg.MaxLen"], apart := false, laid := [("unicode/utf8.acceptRanges", laid_unicode_utf8_acceptRanges), ("unicode/utf8.first", laid_unicode_utf8_first)] }
def TextsNamesSaid : Prop := textsNamesRow.holds Tryd.pinned (OpenSpec.ofChange textsNamesSpec)

/-- ITS FALSE NEIGHBOUR: 'it returns false'. Refute it at one input. -/
def textsNamesWrong : ChangeSpec := { name := "textsNames", fn := fun _ => fun
  | [d] => { results := [.lit (.bool false)], args := [d] }
  | _ => none }
def TextsNamesWrongFalsely : Prop := textsNamesRow.holds Tryd.pinned (OpenSpec.ofChange textsNamesWrong)

/-- 'chamberlainlaw02.TextsQuotes': WHATEVER THE INPUT: true; the input reads as it did. -/
def textsQuotesSpec : ChangeSpec := { name := "textsQuotes", fn := fun _ => fun
  | [d] => { results := [.lit (.bool true)], args := [d] }
  | _ => none }
def textsQuotesRow : OpenClaim := { program := "ytaigfbhkndcpaaadoor", sum := "1ffa37392ddd1028e735d6344c2d0dad59c79f2cfdeb5ed3542cf3e108e85932", func := "chamberlain/chamberlainlaw02.TextsQuotes", spec := "textsQuotes", inPlace := ["internal/bytealg.IndexByteString", "internal/abi.NoEscape", "internal/bytealg.CountString", "internal/bytealg.IndexString"], named := ["unicode/utf8.first", "unicode/utf8.acceptRanges", "internal/bytealg.MaxLen"], apart := false, laid := [("unicode/utf8.acceptRanges", laid_unicode_utf8_acceptRanges), ("unicode/utf8.first", laid_unicode_utf8_first)] }
def TextsQuotesSaid : Prop := textsQuotesRow.holds Tryd.pinned (OpenSpec.ofChange textsQuotesSpec)

/-- ITS FALSE NEIGHBOUR: 'it returns false'. Refute it at one input. -/
def textsQuotesWrong : ChangeSpec := { name := "textsQuotes", fn := fun _ => fun
  | [d] => { results := [.lit (.bool false)], args := [d] }
  | _ => none }
def TextsQuotesWrongFalsely : Prop := textsQuotesRow.holds Tryd.pinned (OpenSpec.ofChange textsQuotesWrong)

/-- 'chamberlainlaw02.TextsUnquotes': WHATEVER THE INPUT: true; the input reads as it did. -/
def textsUnquotesSpec : ChangeSpec := { name := "textsUnquotes", fn := fun _ => fun
  | [d] => { results := [.lit (.bool true)], args := [d] }
  | _ => none }
def textsUnquotesRow : OpenClaim := { program := "ytaigfbhkndcpaaadoor", sum := "1ffa37392ddd1028e735d6344c2d0dad59c79f2cfdeb5ed3542cf3e108e85932", func := "chamberlain/chamberlainlaw02.TextsUnquotes", spec := "textsUnquotes", inPlace := ["internal/bytealg.IndexByteString", "internal/abi.NoEscape", "internal/bytealg.CountString", "internal/bytealg.IndexString"], named := ["unicode/utf8.first", "unicode/utf8.acceptRanges", "internal/bytealg.MaxLen"], apart := false, laid := [("unicode/utf8.acceptRanges", laid_unicode_utf8_acceptRanges), ("unicode/utf8.first", laid_unicode_utf8_first)] }
def TextsUnquotesSaid : Prop := textsUnquotesRow.holds Tryd.pinned (OpenSpec.ofChange textsUnquotesSpec)

/-- ITS FALSE NEIGHBOUR: 'it returns false'. Refute it at one input. -/
def textsUnquotesWrong : ChangeSpec := { name := "textsUnquotes", fn := fun _ => fun
  | [d] => { results := [.lit (.bool false)], args := [d] }
  | _ => none }
def TextsUnquotesWrongFalsely : Prop := textsUnquotesRow.holds Tryd.pinned (OpenSpec.ofChange textsUnquotesWrong)

/-- 'chamberlainlaw02.TextsJoined': WHATEVER THE INPUT: true; the input reads as it did. -/
def textsJoinedSpec : ChangeSpec := { name := "textsJoined", fn := fun _ => fun
  | [d1, d2] => { results := [.lit (.bool true)], args := [d1, d2] }
  | _ => none }
def textsJoinedRow : OpenClaim := { program := "ytaigfbhkndcpaaadoor", sum := "1ffa37392ddd1028e735d6344c2d0dad59c79f2cfdeb5ed3542cf3e108e85932", func := "chamberlain/chamberlainlaw02.TextsJoined", spec := "textsJoined", inPlace := ["internal/bytealg.IndexByteString", "internal/abi.NoEscape", "internal/bytealg.CountString", "internal/bytealg.IndexString"], named := ["unicode/utf8.first", "unicode/utf8.acceptRanges", "internal/bytealg.MaxLen"], apart := false, laid := [("unicode/utf8.acceptRanges", laid_unicode_utf8_acceptRanges), ("unicode/utf8.first", laid_unicode_utf8_first)] }
def TextsJoinedSaid : Prop := textsJoinedRow.holds Tryd.pinned (OpenSpec.ofChange textsJoinedSpec)

/-- ITS FALSE NEIGHBOUR: 'it returns false'. Refute it at one input. -/
def textsJoinedWrong : ChangeSpec := { name := "textsJoined", fn := fun _ => fun
  | [d1, d2] => { results := [.lit (.bool false)], args := [d1, d2] }
  | _ => none }
def TextsJoinedWrongFalsely : Prop := textsJoinedRow.holds Tryd.pinned (OpenSpec.ofChange textsJoinedWrong)

/-- 'chamberlainlaw02.TextsPaths': WHATEVER THE INPUT: true; the input reads as it did. -/
def textsPathsSpec : ChangeSpec := { name := "textsPaths", fn := fun _ => fun
  | [d1, d2] => { results := [.lit (.bool true)], args := [d1, d2] }
  | _ => none }
def textsPathsRow : OpenClaim := { program := "ytaigfbhkndcpaaadoor", sum := "1ffa37392ddd1028e735d6344c2d0dad59c79f2cfdeb5ed3542cf3e108e85932", func := "chamberlain/chamberlainlaw02.TextsPaths", spec := "textsPaths", inPlace := ["internal/bytealg.IndexByteString", "internal/abi.NoEscape", "internal/bytealg.CountString", "internal/bytealg.IndexString"], named := ["unicode/utf8.first", "unicode/utf8.acceptRanges", "internal/bytealg.MaxLen"], apart := false, laid := [("unicode/utf8.acceptRanges", laid_unicode_utf8_acceptRanges), ("unicode/utf8.first", laid_unicode_utf8_first)] }
def TextsPathsSaid : Prop := textsPathsRow.holds Tryd.pinned (OpenSpec.ofChange textsPathsSpec)

/-- ITS FALSE NEIGHBOUR: 'it returns false'. Refute it at one input. -/
def textsPathsWrong : ChangeSpec := { name := "textsPaths", fn := fun _ => fun
  | [d1, d2] => { results := [.lit (.bool false)], args := [d1, d2] }
  | _ => none }
def TextsPathsWrongFalsely : Prop := textsPathsRow.holds Tryd.pinned (OpenSpec.ofChange textsPathsWrong)

/- THE SECOND FORM. 'bulk': how many values and letters a reading holds, each counted each time it is reached (what is shared counts as often as it is met; a slice's spare places count too). A statement '..UptoSaid' is the law's where the arguments, and the package variables that the reading takes, are together of bulk at most 1048576: NARROWER than '..Said'. Prove '..Said' where nothing that the law and all that it calls make is longer than what came in: it says more and counts as full. Else prove '..UptoSaid'. A law counts once. -/
mutual
def uptoBulk {H : Type} : DataW H → Nat
  | .lit (.string bytes) => bytes.length + 1
  | .lit _ => 1
  | .nil => 1
  | .ptr d => uptoBulk d + 1
  | .slice elems spare => uptoBulkAll elems + uptoBulkAll spare + 1
  | .agg parts => uptoBulkAll parts + 1
  | .iface _ d => uptoBulk d + 1
  | .map entries => uptoBulkEntries entries + 1
  | .held _ => 1
def uptoBulkAll {H : Type} : List (DataW H) → Nat
  | [] => 0
  | d :: r => uptoBulk d + uptoBulkAll r
def uptoBulkEntries {H : Type} : List (Lit × DataW H) → Nat
  | [] => 0
  | x :: r => uptoBulkEntry x + uptoBulkEntries r
def uptoBulkEntry {H : Type} : Lit × DataW H → Nat
  | (.string bytes, d) => bytes.length + uptoBulk d + 1
  | (_, d) => uptoBulk d + 1
 end
def uptoSmall : (H : Type) → List (DataW H) → Bool := fun _ ds => decide (uptoBulkAll ds ≤ 1048576)
def OpenSpec.upto (s : _root_.Go.ChangeSpec) : _root_.Go.OpenSpec := { _root_.Go.OpenSpec.ofChange s with cond := some uptoSmall }

/-- 'chamberlainlaw02.TextsNames', WHERE WHAT IT READS IS OF BULK AT MOST 1048576: true; the input reads as it did. -/
def textsNamesUptoRow : OpenClaim := { program := "ytaigfbhkndcpaaadoor", sum := "1ffa37392ddd1028e735d6344c2d0dad59c79f2cfdeb5ed3542cf3e108e85932", func := "chamberlain/chamberlainlaw02.TextsNames", spec := "textsNames", inPlace := ["internal/bytealg.IndexByteString", "internal/abi.NoEscape", "internal/bytealg.CountString", "internal/bytealg.IndexString"], named := ["unicode/utf8.first", "unicode/utf8.acceptRanges", "internal/bytealg.MaxLen"], apart := false, laid := [("unicode/utf8.acceptRanges", laid_unicode_utf8_acceptRanges), ("unicode/utf8.first", laid_unicode_utf8_first)], narrowed := true }
def TextsNamesUptoSaid : Prop := textsNamesUptoRow.holds Tryd.pinned (OpenSpec.upto textsNamesSpec)

/-- 'chamberlainlaw02.TextsQuotes', WHERE WHAT IT READS IS OF BULK AT MOST 1048576: true; the input reads as it did. -/
def textsQuotesUptoRow : OpenClaim := { program := "ytaigfbhkndcpaaadoor", sum := "1ffa37392ddd1028e735d6344c2d0dad59c79f2cfdeb5ed3542cf3e108e85932", func := "chamberlain/chamberlainlaw02.TextsQuotes", spec := "textsQuotes", inPlace := ["internal/bytealg.IndexByteString", "internal/abi.NoEscape", "internal/bytealg.CountString", "internal/bytealg.IndexString"], named := ["unicode/utf8.first", "unicode/utf8.acceptRanges", "internal/bytealg.MaxLen"], apart := false, laid := [("unicode/utf8.acceptRanges", laid_unicode_utf8_acceptRanges), ("unicode/utf8.first", laid_unicode_utf8_first)], narrowed := true }
def TextsQuotesUptoSaid : Prop := textsQuotesUptoRow.holds Tryd.pinned (OpenSpec.upto textsQuotesSpec)

/-- 'chamberlainlaw02.TextsUnquotes', WHERE WHAT IT READS IS OF BULK AT MOST 1048576: true; the input reads as it did. -/
def textsUnquotesUptoRow : OpenClaim := { program := "ytaigfbhkndcpaaadoor", sum := "1ffa37392ddd1028e735d6344c2d0dad59c79f2cfdeb5ed3542cf3e108e85932", func := "chamberlain/chamberlainlaw02.TextsUnquotes", spec := "textsUnquotes", inPlace := ["internal/bytealg.IndexByteString", "internal/abi.NoEscape", "internal/bytealg.CountString", "internal/bytealg.IndexString"], named := ["unicode/utf8.first", "unicode/utf8.acceptRanges", "internal/bytealg.MaxLen"], apart := false, laid := [("unicode/utf8.acceptRanges", laid_unicode_utf8_acceptRanges), ("unicode/utf8.first", laid_unicode_utf8_first)], narrowed := true }
def TextsUnquotesUptoSaid : Prop := textsUnquotesUptoRow.holds Tryd.pinned (OpenSpec.upto textsUnquotesSpec)

/-- 'chamberlainlaw02.TextsJoined', WHERE WHAT IT READS IS OF BULK AT MOST 1048576: true; the input reads as it did. -/
def textsJoinedUptoRow : OpenClaim := { program := "ytaigfbhkndcpaaadoor", sum := "1ffa37392ddd1028e735d6344c2d0dad59c79f2cfdeb5ed3542cf3e108e85932", func := "chamberlain/chamberlainlaw02.TextsJoined", spec := "textsJoined", inPlace := ["internal/bytealg.IndexByteString", "internal/abi.NoEscape", "internal/bytealg.CountString", "internal/bytealg.IndexString"], named := ["unicode/utf8.first", "unicode/utf8.acceptRanges", "internal/bytealg.MaxLen"], apart := false, laid := [("unicode/utf8.acceptRanges", laid_unicode_utf8_acceptRanges), ("unicode/utf8.first", laid_unicode_utf8_first)], narrowed := true }
def TextsJoinedUptoSaid : Prop := textsJoinedUptoRow.holds Tryd.pinned (OpenSpec.upto textsJoinedSpec)

/-- 'chamberlainlaw02.TextsPaths', WHERE WHAT IT READS IS OF BULK AT MOST 1048576: true; the input reads as it did. -/
def textsPathsUptoRow : OpenClaim := { program := "ytaigfbhkndcpaaadoor", sum := "1ffa37392ddd1028e735d6344c2d0dad59c79f2cfdeb5ed3542cf3e108e85932", func := "chamberlain/chamberlainlaw02.TextsPaths", spec := "textsPaths", inPlace := ["internal/bytealg.IndexByteString", "internal/abi.NoEscape", "internal/bytealg.CountString", "internal/bytealg.IndexString"], named := ["unicode/utf8.first", "unicode/utf8.acceptRanges", "internal/bytealg.MaxLen"], apart := false, laid := [("unicode/utf8.acceptRanges", laid_unicode_utf8_acceptRanges), ("unicode/utf8.first", laid_unicode_utf8_first)], narrowed := true }
def TextsPathsUptoSaid : Prop := textsPathsUptoRow.holds Tryd.pinned (OpenSpec.upto textsPathsSpec)

end Rows
end Go.Proofs.YtaigfbhkndcpaaaDoor
