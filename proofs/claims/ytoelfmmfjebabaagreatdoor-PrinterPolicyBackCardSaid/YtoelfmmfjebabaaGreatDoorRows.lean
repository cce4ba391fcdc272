/-
  NARROWER THAN 'FOR EVERY INPUT', by the rows' own cells (each row's printed sentence says how): PrinterBack: laid · PrinterNames: laid · PrinterPolicyBack: laid.
  DERIVED. THE GIVEN ROWS OF THIS SEAT. 3 by the template 'for every input the law returns true; each argument reads behind the call as it read before'; 0 by the template 'total and deterministic' (their statements: YtoelfmmfjebabaaGreatDoorTotals.lean).
  GIVEN WITH THE SEED: the statements are not yours to turn. If you find one false, say at which input.
  Laid BY PROGRAM, IN A SANDBOX (cutbox-rows.mjs): the forced cells as the released guide's own fill.sh prints them over the translation 1b3047d898e86ed6… (all of the seat's roots in one cut). By AI agents, Wed Nov 11 2026. No macro, syntax, notation, axiom, sorry.
-/
import Derived.Test.YtoelfmmfjebabaaGreatDoorChecked
import GoSem.PinnedTables
import GoSem.Claim
import GoSem.ClaimJoined
import GoSem.ClaimMapViews
import Derived.JoinedTies
import Derived.KernelRfl
namespace Go.Proofs.YtoelfmmfjebabaaGreatDoor
/- THE CELL 'sum', in the pinned program and in every row, IS THE sha256 OF THE DUMP (.gsa) THAT YtoelfmmfjebabaaGreatDoorProg.lean LOADS. Nothing in Lean hashes anything: it is a label: what it is worth is what the hold of that sum in a sandbox is worth. -/
noncomputable def Tryz.pinned : Pinned := { name := "ytoelfmmfjebabaagreatdoor", sum := "1b3047d898e86ed63f4ee5b3282cb391bee57d8ea64c267fb5e5bdf8449a9fbb", checked := Tryz.checked }
namespace Rows
def none {H : Type} : Left H := { results := [], args := [] }

/- WHAT THE LISTED PACKAGE-LEVEL VARIABLES READ AS WHEN THE CALL BEGINS. Each datum BY PROGRAM (the guide's laid-datum.mjs) off the statement by which the dump's own 'gosem.cut.vars' lays the variable. In a bare row this is a premise. The card (YtoelfmmfjebabaaGreatDoorCards.lean) ties it to the program's text. -/
def laid_unicode_utf8_acceptRanges {H : Type} : DataW H := .agg [.agg [.lit (.int .u8 128), .lit (.int .u8 191)], .agg [.lit (.int .u8 160), .lit (.int .u8 191)], .agg [.lit (.int .u8 128), .lit (.int .u8 159)], .agg [.lit (.int .u8 144), .lit (.int .u8 191)], .agg [.lit (.int .u8 128), .lit (.int .u8 143)], .agg [.lit (.int .u8 0), .lit (.int .u8 0)], .agg [.lit (.int .u8 0), .lit (.int .u8 0)], .agg [.lit (.int .u8 0), .lit (.int .u8 0)], .agg [.lit (.int .u8 0), .lit (.int .u8 0)], .agg [.lit (.int .u8 0), .lit (.int .u8 0)], .agg [.lit (.int .u8 0), .lit (.int .u8 0)], .agg [.lit (.int .u8 0), .lit (.int .u8 0)], .agg [.lit (.int .u8 0), .lit (.int .u8 0)], .agg [.lit (.int .u8 0), .lit (.int .u8 0)], .agg [.lit (.int .u8 0), .lit (.int .u8 0)], .agg [.lit (.int .u8 0), .lit (.int .u8 0)]]
def laid_chamberlain_lex_marks {H : Type} : DataW H := .agg [.lit (.string [58, 58]), .lit (.string [61, 61]), .lit (.string [33, 61]), .lit (.string [60, 61]), .lit (.string [62, 61]), .lit (.string [38, 38]), .lit (.string [124, 124]), .lit (.string [40]), .lit (.string [41]), .lit (.string [123]), .lit (.string [125]), .lit (.string [91]), .lit (.string [93]), .lit (.string [44]), .lit (.string [59]), .lit (.string [58]), .lit (.string [46]), .lit (.string [60]), .lit (.string [62]), .lit (.string [33]), .lit (.string [43]), .lit (.string [45]), .lit (.string [42])]
def laid_chamberlain_printer_signs {H : Type} : DataW H := .map [(.int .i64 4, .lit (.string [32, 38, 38, 32])), (.int .i64 5, .lit (.string [32, 124, 124, 32])), (.int .i64 8, .lit (.string [32, 61, 61, 32])), (.int .i64 9, .lit (.string [32, 60, 32])), (.int .i64 10, .lit (.string [32, 60, 61, 32])), (.int .i64 11, .lit (.string [32, 43, 32])), (.int .i64 12, .lit (.string [32, 45, 32])), (.int .i64 13, .lit (.string [32, 42, 32])), (.int .i64 15, .lit (.string [32, 105, 110, 32]))]
/-- One of Go's own tables, pinned by name: the form's constant. -/
def laid_unicode_utf8_first : DataW Unit := Go.Pinned.utf8First

/-- 'chamberlainlaw10.PrinterBack': WHATEVER THE INPUT: true; the input reads as it did. -/
def printerBackSpec : ChangeSpec := { name := "printerBack", fn := fun _ => fun
  | [d] => { results := [.lit (.bool true)], args := [d] }
  | _ => none }
def printerBackRow : OpenClaim := { program := "ytoelfmmfjebabaagreatdoor", sum := "1b3047d898e86ed63f4ee5b3282cb391bee57d8ea64c267fb5e5bdf8449a9fbb", func := "chamberlain/chamberlainlaw10.PrinterBack", spec := "printerBack", inPlace := ["internal/abi.NoEscape", "internal/bytealg.IndexByteString", "internal/bytealg.IndexString", "internal/bytealg.CountString", "math/bits.Add64"], unfollowed := true, recurses := true, named := ["chamberlain/printer.signs", "internal/bytealg.MaxLen", "unicode/utf8.first", "unicode/utf8.acceptRanges", "chamberlain/lex.marks"], apart := false, laid := [("unicode/utf8.acceptRanges", laid_unicode_utf8_acceptRanges), ("chamberlain/lex.marks", laid_chamberlain_lex_marks), ("chamberlain/printer.signs", laid_chamberlain_printer_signs), ("unicode/utf8.first", laid_unicode_utf8_first)] }
def PrinterBackSaid : Prop := printerBackRow.holds Tryz.pinned (OpenSpec.ofChange printerBackSpec)

/-- ITS FALSE NEIGHBOUR: 'it returns false'. Refute it at one input. -/
def printerBackWrong : ChangeSpec := { name := "printerBack", fn := fun _ => fun
  | [d] => { results := [.lit (.bool false)], args := [d] }
  | _ => none }
def PrinterBackWrongFalsely : Prop := printerBackRow.holds Tryz.pinned (OpenSpec.ofChange printerBackWrong)

/-- 'chamberlainlaw10.PrinterNames': WHATEVER THE INPUT: true; the input reads as it did. -/
def printerNamesSpec : ChangeSpec := { name := "printerNames", fn := fun _ => fun
  | [d1, d2, d3] => { results := [.lit (.bool true)], args := [d1, d2, d3] }
  | _ => none }
def printerNamesRow : OpenClaim := { program := "ytoelfmmfjebabaagreatdoor", sum := "1b3047d898e86ed63f4ee5b3282cb391bee57d8ea64c267fb5e5bdf8449a9fbb", func := "chamberlain/chamberlainlaw10.PrinterNames", spec := "printerNames", inPlace := ["internal/abi.NoEscape", "internal/bytealg.IndexByteString", "internal/bytealg.IndexString", "internal/bytealg.CountString", "math/bits.Add64"], unfollowed := true, recurses := true, named := ["chamberlain/printer.signs", "internal/bytealg.MaxLen", "unicode/utf8.first", "unicode/utf8.acceptRanges", "chamberlain/lex.marks"], apart := false, laid := [("unicode/utf8.acceptRanges", laid_unicode_utf8_acceptRanges), ("chamberlain/lex.marks", laid_chamberlain_lex_marks), ("chamberlain/printer.signs", laid_chamberlain_printer_signs), ("unicode/utf8.first", laid_unicode_utf8_first)] }
def PrinterNamesSaid : Prop := printerNamesRow.holds Tryz.pinned (OpenSpec.ofChange printerNamesSpec)

/-- ITS FALSE NEIGHBOUR: 'it returns false'. Refute it at one input. -/
def printerNamesWrong : ChangeSpec := { name := "printerNames", fn := fun _ => fun
  | [d1, d2, d3] => { results := [.lit (.bool false)], args := [d1, d2, d3] }
  | _ => none }
def PrinterNamesWrongFalsely : Prop := printerNamesRow.holds Tryz.pinned (OpenSpec.ofChange printerNamesWrong)

/-- 'chamberlainlaw10.PrinterPolicyBack': WHATEVER THE INPUT: true; the input reads as it did. -/
def printerPolicyBackSpec : ChangeSpec := { name := "printerPolicyBack", fn := fun _ => fun
  | [d] => { results := [.lit (.bool true)], args := [d] }
  | _ => none }
def printerPolicyBackRow : OpenClaim := { program := "ytoelfmmfjebabaagreatdoor", sum := "1b3047d898e86ed63f4ee5b3282cb391bee57d8ea64c267fb5e5bdf8449a9fbb", func := "chamberlain/chamberlainlaw10.PrinterPolicyBack", spec := "printerPolicyBack", inPlace := ["internal/abi.NoEscape", "internal/bytealg.IndexByteString", "internal/bytealg.IndexString", "internal/bytealg.CountString", "math/bits.Add64"], unfollowed := true, recurses := true, named := ["chamberlain/printer.signs", "internal/bytealg.MaxLen", "unicode/utf8.first", "unicode/utf8.acceptRanges", "chamberlain/lex.marks"], apart := false, laid := [("unicode/utf8.acceptRanges", laid_unicode_utf8_acceptRanges), ("chamberlain/lex.marks", laid_chamberlain_lex_marks), ("chamberlain/printer.signs", laid_chamberlain_printer_signs), ("unicode/utf8.first", laid_unicode_utf8_first)] }
def PrinterPolicyBackSaid : Prop := printerPolicyBackRow.holds Tryz.pinned (OpenSpec.ofChange printerPolicyBackSpec)

/-- ITS FALSE NEIGHBOUR: 'it returns false'. Refute it at one input. -/
def printerPolicyBackWrong : ChangeSpec := { name := "printerPolicyBack", fn := fun _ => fun
  | [d] => { results := [.lit (.bool false)], args := [d] }
  | _ => none }
def PrinterPolicyBackWrongFalsely : Prop := printerPolicyBackRow.holds Tryz.pinned (OpenSpec.ofChange printerPolicyBackWrong)

/- THE SECOND FORM. 'bulk': how many values and letters a reading holds, each counted each time it is reached (what is shared counts as often as it is met; a slice's spare places count too). A statement '..UptoSaid' is the law's where the arguments, and the package variables that the reading takes, are together of bulk at most 1048576: NARROWER than '..Said'. Prove '..Said' where nothing that the law and all that it calls make is longer than what came in: it says more and counts as full. Else prove '..UptoSaid'. A law counts once. -/
mutual
def uptoBulk {H : Type} : DataW H → Nat
  | .lit (.string bytes) => bytes.length + 1
  | .lit _ => 1
  | .nil => 1
  | .ptr d => uptoBulk d + 1
  | .slice elems spare => uptoBulkAll elems + uptoBulkAll spare + 1
  | .agg parts => uptoBulkAll parts + 1
  | .iface _ d => uptoBulk d + 1
  | .map entries => uptoBulkEntries entries + 1
  | .held _ => 1
def uptoBulkAll {H : Type} : List (DataW H) → Nat
  | [] => 0
  | d :: r => uptoBulk d + uptoBulkAll r
def uptoBulkEntries {H : Type} : List (Lit × DataW H) → Nat
  | [] => 0
  | x :: r => uptoBulkEntry x + uptoBulkEntries r
def uptoBulkEntry {H : Type} : Lit × DataW H → Nat
  | (.string bytes, d) => bytes.length + uptoBulk d + 1
  | (_, d) => uptoBulk d + 1
 end
def uptoSmall : (H : Type) → List (DataW H) → Bool := fun _ ds => decide (uptoBulkAll ds ≤ 1048576)
def OpenSpec.upto (s : _root_.Go.ChangeSpec) : _root_.Go.OpenSpec := { _root_.Go.OpenSpec.ofChange s with cond := some uptoSmall }

/-- 'chamberlainlaw10.PrinterBack', WHERE WHAT IT READS IS OF BULK AT MOST 1048576: true; the input reads as it did. -/
def printerBackUptoRow : OpenClaim := { program := "ytoelfmmfjebabaagreatdoor", sum := "1b3047d898e86ed63f4ee5b3282cb391bee57d8ea64c267fb5e5bdf8449a9fbb", func := "chamberlain/chamberlainlaw10.PrinterBack", spec := "printerBack", inPlace := ["internal/abi.NoEscape", "internal/bytealg.IndexByteString", "internal/bytealg.IndexString", "internal/bytealg.CountString", "math/bits.Add64"], unfollowed := true, recurses := true, named := ["chamberlain/printer.signs", "internal/bytealg.MaxLen", "unicode/utf8.first", "unicode/utf8.acceptRanges", "chamberlain/lex.marks"], apart := false, laid := [("unicode/utf8.acceptRanges", laid_unicode_utf8_acceptRanges), ("chamberlain/lex.marks", laid_chamberlain_lex_marks), ("chamberlain/printer.signs", laid_chamberlain_printer_signs), ("unicode/utf8.first", laid_unicode_utf8_first)], narrowed := true }
def PrinterBackUptoSaid : Prop := printerBackUptoRow.holds Tryz.pinned (OpenSpec.upto printerBackSpec)

/-- 'chamberlainlaw10.PrinterNames', WHERE WHAT IT READS IS OF BULK AT MOST 1048576: true; the input reads as it did. -/
def printerNamesUptoRow : OpenClaim := { program := "ytoelfmmfjebabaagreatdoor", sum := "1b3047d898e86ed63f4ee5b3282cb391bee57d8ea64c267fb5e5bdf8449a9fbb", func := "chamberlain/chamberlainlaw10.PrinterNames", spec := "printerNames", inPlace := ["internal/abi.NoEscape", "internal/bytealg.IndexByteString", "internal/bytealg.IndexString", "internal/bytealg.CountString", "math/bits.Add64"], unfollowed := true, recurses := true, named := ["chamberlain/printer.signs", "internal/bytealg.MaxLen", "unicode/utf8.first", "unicode/utf8.acceptRanges", "chamberlain/lex.marks"], apart := false, laid := [("unicode/utf8.acceptRanges", laid_unicode_utf8_acceptRanges), ("chamberlain/lex.marks", laid_chamberlain_lex_marks), ("chamberlain/printer.signs", laid_chamberlain_printer_signs), ("unicode/utf8.first", laid_unicode_utf8_first)], narrowed := true }
def PrinterNamesUptoSaid : Prop := printerNamesUptoRow.holds Tryz.pinned (OpenSpec.upto printerNamesSpec)

/-- 'chamberlainlaw10.PrinterPolicyBack', WHERE WHAT IT READS IS OF BULK AT MOST 1048576: true; the input reads as it did. -/
def printerPolicyBackUptoRow : OpenClaim := { program := "ytoelfmmfjebabaagreatdoor", sum := "1b3047d898e86ed63f4ee5b3282cb391bee57d8ea64c267fb5e5bdf8449a9fbb", func := "chamberlain/chamberlainlaw10.PrinterPolicyBack", spec := "printerPolicyBack", inPlace := ["internal/abi.NoEscape", "internal/bytealg.IndexByteString", "internal/bytealg.IndexString", "internal/bytealg.CountString", "math/bits.Add64"], unfollowed := true, recurses := true, named := ["chamberlain/printer.signs", "internal/bytealg.MaxLen", "unicode/utf8.first", "unicode/utf8.acceptRanges", "chamberlain/lex.marks"], apart := false, laid := [("unicode/utf8.acceptRanges", laid_unicode_utf8_acceptRanges), ("chamberlain/lex.marks", laid_chamberlain_lex_marks), ("chamberlain/printer.signs", laid_chamberlain_printer_signs), ("unicode/utf8.first", laid_unicode_utf8_first)], narrowed := true }
def PrinterPolicyBackUptoSaid : Prop := printerPolicyBackUptoRow.holds Tryz.pinned (OpenSpec.upto printerPolicyBackSpec)

end Rows
end Go.Proofs.YtoelfmmfjebabaaGreatDoor
