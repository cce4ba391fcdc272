/-
  NARROWER THAN 'FOR EVERY INPUT', by the rows' own cells (each row's printed sentence says how): PrinterTells: loops, laid · PrinterPolicies: loops, laid · PrinterScopes: laid.
  DERIVED. THE GIVEN ROWS OF THIS SEAT. 3 by the template 'for every input the law returns true; each argument reads behind the call as it read before'; 0 by the template 'total and deterministic' (their statements: YtoelfmmfjebabaaDoorTotals.lean).
  GIVEN WITH THE SEED: the statements are not yours to turn. If you find one false, say at which input.
  Laid BY PROGRAM, IN A SANDBOX (cutbox-rows.mjs): the forced cells as the released guide's own fill.sh prints them over the translation 04716004d39844ee… (all of the seat's roots in one cut). By AI agents, Wed Nov 11 2026. No macro, syntax, notation, axiom, sorry.
-/
import Derived.Test.YtoelfmmfjebabaaDoorChecked
import GoSem.PinnedTables
import GoSem.Claim
import GoSem.ClaimJoined
import GoSem.ClaimMapViews
import Derived.JoinedTies
import Derived.KernelRfl
namespace Go.Proofs.YtoelfmmfjebabaaDoor
/- THE CELL 'sum', in the pinned program and in every row, IS THE sha256 OF THE DUMP (.gsa) THAT YtoelfmmfjebabaaDoorProg.lean LOADS. Nothing in Lean hashes anything: it is a label: what it is worth is what the hold of that sum in a sandbox is worth. -/
noncomputable def Tryd.pinned : Pinned := { name := "ytoelfmmfjebabaadoor", sum := "04716004d39844eeea22699bea171c781855946b27a0f1d8883d0a3e4a78ecbe", checked := Tryd.checked }
namespace Rows
def none {H : Type} : Left H := { results := [], args := [] }

/- WHAT THE LISTED PACKAGE-LEVEL VARIABLES READ AS WHEN THE CALL BEGINS. Each datum BY PROGRAM (the guide's laid-datum.mjs) off the statement by which the dump's own 'gosem.cut.vars' lays the variable. In a bare row this is a premise. The card (YtoelfmmfjebabaaDoorCards.lean) ties it to the program's text. -/
def laid_unicode_utf8_acceptRanges {H : Type} : DataW H := .agg [.agg [.lit (.int .u8 128), .lit (.int .u8 191)], .agg [.lit (.int .u8 160), .lit (.int .u8 191)], .agg [.lit (.int .u8 128), .lit (.int .u8 159)], .agg [.lit (.int .u8 144), .lit (.int .u8 191)], .agg [.lit (.int .u8 128), .lit (.int .u8 143)], .agg [.lit (.int .u8 0), .lit (.int .u8 0)], .agg [.lit (.int .u8 0), .lit (.int .u8 0)], .agg [.lit (.int .u8 0), .lit (.int .u8 0)], .agg [.lit (.int .u8 0), .lit (.int .u8 0)], .agg [.lit (.int .u8 0), .lit (.int .u8 0)], .agg [.lit (.int .u8 0), .lit (.int .u8 0)], .agg [.lit (.int .u8 0), .lit (.int .u8 0)], .agg [.lit (.int .u8 0), .lit (.int .u8 0)], .agg [.lit (.int .u8 0), .lit (.int .u8 0)], .agg [.lit (.int .u8 0), .lit (.int .u8 0)], .agg [.lit (.int .u8 0), .lit (.int .u8 0)]]
def laid_chamberlain_printer_signs {H : Type} : DataW H := .map [(.int .i64 4, .lit (.string [32, 38, 38, 32])), (.int .i64 5, .lit (.string [32, 124, 124, 32])), (.int .i64 8, .lit (.string [32, 61, 61, 32])), (.int .i64 9, .lit (.string [32, 60, 32])), (.int .i64 10, .lit (.string [32, 60, 61, 32])), (.int .i64 11, .lit (.string [32, 43, 32])), (.int .i64 12, .lit (.string [32, 45, 32])), (.int .i64 13, .lit (.string [32, 42, 32])), (.int .i64 15, .lit (.string [32, 105, 110, 32]))]
/-- One of Go's own tables, pinned by name: the form's constant. -/
def laid_unicode_utf8_first : DataW Unit := Go.Pinned.utf8First

/-- 'chamberlainlaw10.PrinterTells': WHATEVER THE INPUT: true; the input reads as it did. -/
def printerTellsSpec : ChangeSpec := { name := "printerTells", fn := fun _ => fun
  | [d] => { results := [.lit (.bool true)], args := [d] }
  | _ => none }
def printerTellsRow : OpenClaim := { program := "ytoelfmmfjebabaadoor", sum := "04716004d39844eeea22699bea171c781855946b27a0f1d8883d0a3e4a78ecbe", func := "chamberlain/chamberlainlaw10.PrinterTells", spec := "printerTells", inPlace := ["internal/abi.NoEscape", "internal/bytealg.IndexByteString", "internal/bytealg.IndexString", "internal/bytealg.CountString"], unfollowed := true, recurses := true, named := ["chamberlain/printer.signs", "internal/bytealg.MaxLen", "unicode/utf8.first", "unicode/utf8.acceptRanges"], loops := true, apart := false, laid := [("unicode/utf8.acceptRanges", laid_unicode_utf8_acceptRanges), ("chamberlain/printer.signs", laid_chamberlain_printer_signs), ("unicode/utf8.first", laid_unicode_utf8_first)] }
def PrinterTellsSaid : Prop := printerTellsRow.holds Tryd.pinned (OpenSpec.ofChange printerTellsSpec)

/-- ITS FALSE NEIGHBOUR: 'it returns false'. Refute it at one input. -/
def printerTellsWrong : ChangeSpec := { name := "printerTells", fn := fun _ => fun
  | [d] => { results := [.lit (.bool false)], args := [d] }
  | _ => none }
def PrinterTellsWrongFalsely : Prop := printerTellsRow.holds Tryd.pinned (OpenSpec.ofChange printerTellsWrong)

/-- 'chamberlainlaw10.PrinterPolicies': WHATEVER THE INPUT: true; the input reads as it did. -/
def printerPoliciesSpec : ChangeSpec := { name := "printerPolicies", fn := fun _ => fun
  | [d] => { results := [.lit (.bool true)], args := [d] }
  | _ => none }
def printerPoliciesRow : OpenClaim := { program := "ytoelfmmfjebabaadoor", sum := "04716004d39844eeea22699bea171c781855946b27a0f1d8883d0a3e4a78ecbe", func := "chamberlain/chamberlainlaw10.PrinterPolicies", spec := "printerPolicies", inPlace := ["internal/abi.NoEscape", "internal/bytealg.IndexByteString", "internal/bytealg.IndexString", "internal/bytealg.CountString"], unfollowed := true, recurses := true, named := ["chamberlain/printer.signs", "internal/bytealg.MaxLen", "unicode/utf8.first", "unicode/utf8.acceptRanges"], loops := true, apart := false, laid := [("unicode/utf8.acceptRanges", laid_unicode_utf8_acceptRanges), ("chamberlain/printer.signs", laid_chamberlain_printer_signs), ("unicode/utf8.first", laid_unicode_utf8_first)] }
def PrinterPoliciesSaid : Prop := printerPoliciesRow.holds Tryd.pinned (OpenSpec.ofChange printerPoliciesSpec)

/-- ITS FALSE NEIGHBOUR: 'it returns false'. Refute it at one input. -/
def printerPoliciesWrong : ChangeSpec := { name := "printerPolicies", fn := fun _ => fun
  | [d] => { results := [.lit (.bool false)], args := [d] }
  | _ => none }
def PrinterPoliciesWrongFalsely : Prop := printerPoliciesRow.holds Tryd.pinned (OpenSpec.ofChange printerPoliciesWrong)

/-- 'chamberlainlaw10.PrinterScopes': WHATEVER THE INPUT: true; the input reads as it did. -/
def printerScopesSpec : ChangeSpec := { name := "printerScopes", fn := fun _ => fun
  | [d1, d2, d3, d4, d5] => { results := [.lit (.bool true)], args := [d1, d2, d3, d4, d5] }
  | _ => none }
def printerScopesRow : OpenClaim := { program := "ytoelfmmfjebabaadoor", sum := "04716004d39844eeea22699bea171c781855946b27a0f1d8883d0a3e4a78ecbe", func := "chamberlain/chamberlainlaw10.PrinterScopes", spec := "printerScopes", inPlace := ["internal/abi.NoEscape", "internal/bytealg.IndexByteString", "internal/bytealg.IndexString", "internal/bytealg.CountString"], unfollowed := true, recurses := true, named := ["chamberlain/printer.signs", "internal/bytealg.MaxLen", "unicode/utf8.first", "unicode/utf8.acceptRanges"], apart := false, laid := [("unicode/utf8.acceptRanges", laid_unicode_utf8_acceptRanges), ("chamberlain/printer.signs", laid_chamberlain_printer_signs), ("unicode/utf8.first", laid_unicode_utf8_first)] }
def PrinterScopesSaid : Prop := printerScopesRow.holds Tryd.pinned (OpenSpec.ofChange printerScopesSpec)

/-- ITS FALSE NEIGHBOUR: 'it returns false'. Refute it at one input. -/
def printerScopesWrong : ChangeSpec := { name := "printerScopes", fn := fun _ => fun
  | [d1, d2, d3, d4, d5] => { results := [.lit (.bool false)], args := [d1, d2, d3, d4, d5] }
  | _ => none }
def PrinterScopesWrongFalsely : Prop := printerScopesRow.holds Tryd.pinned (OpenSpec.ofChange printerScopesWrong)

/- THE SECOND FORM. 'bulk': how many values and letters a reading holds, each counted each time it is reached (what is shared counts as often as it is met; a slice's spare places count too). A statement '..UptoSaid' is the law's where the arguments, and the package variables that the reading takes, are together of bulk at most 1048576: NARROWER than '..Said'. Prove '..Said' where nothing that the law and all that it calls make is longer than what came in: it says more and counts as full. Else prove '..UptoSaid'. A law counts once. -/
mutual
def uptoBulk {H : Type} : DataW H → Nat
  | .lit (.string bytes) => bytes.length + 1
  | .lit _ => 1
  | .nil => 1
  | .ptr d => uptoBulk d + 1
  | .slice elems spare => uptoBulkAll elems + uptoBulkAll spare + 1
  | .agg parts => uptoBulkAll parts + 1
  | .iface _ d => uptoBulk d + 1
  | .map entries => uptoBulkEntries entries + 1
  | .held _ => 1
def uptoBulkAll {H : Type} : List (DataW H) → Nat
  | [] => 0
  | d :: r => uptoBulk d + uptoBulkAll r
def uptoBulkEntries {H : Type} : List (Lit × DataW H) → Nat
  | [] => 0
  | x :: r => uptoBulkEntry x + uptoBulkEntries r
def uptoBulkEntry {H : Type} : Lit × DataW H → Nat
  | (.string bytes, d) => bytes.length + uptoBulk d + 1
  | (_, d) => uptoBulk d + 1
 end
def uptoSmall : (H : Type) → List (DataW H) → Bool := fun _ ds => decide (uptoBulkAll ds ≤ 1048576)
def OpenSpec.upto (s : _root_.Go.ChangeSpec) : _root_.Go.OpenSpec := { _root_.Go.OpenSpec.ofChange s with cond := some uptoSmall }

/-- 'chamberlainlaw10.PrinterTells', WHERE WHAT IT READS IS OF BULK AT MOST 1048576: true; the input reads as it did. -/
def printerTellsUptoRow : OpenClaim := { program := "ytoelfmmfjebabaadoor", sum := "04716004d39844eeea22699bea171c781855946b27a0f1d8883d0a3e4a78ecbe", func := "chamberlain/chamberlainlaw10.PrinterTells", spec := "printerTells", inPlace := ["internal/abi.NoEscape", "internal/bytealg.IndexByteString", "internal/bytealg.IndexString", "internal/bytealg.CountString"], unfollowed := true, recurses := true, named := ["chamberlain/printer.signs", "internal/bytealg.MaxLen", "unicode/utf8.first", "unicode/utf8.acceptRanges"], loops := true, apart := false, laid := [("unicode/utf8.acceptRanges", laid_unicode_utf8_acceptRanges), ("chamberlain/printer.signs", laid_chamberlain_printer_signs), ("unicode/utf8.first", laid_unicode_utf8_first)], narrowed := true }
def PrinterTellsUptoSaid : Prop := printerTellsUptoRow.holds Tryd.pinned (OpenSpec.upto printerTellsSpec)

/-- 'chamberlainlaw10.PrinterPolicies', WHERE WHAT IT READS IS OF BULK AT MOST 1048576: true; the input reads as it did. -/
def printerPoliciesUptoRow : OpenClaim := { program := "ytoelfmmfjebabaadoor", sum := "04716004d39844eeea22699bea171c781855946b27a0f1d8883d0a3e4a78ecbe", func := "chamberlain/chamberlainlaw10.PrinterPolicies", spec := "printerPolicies", inPlace := ["internal/abi.NoEscape", "internal/bytealg.IndexByteString", "internal/bytealg.IndexString", "internal/bytealg.CountString"], unfollowed := true, recurses := true, named := ["chamberlain/printer.signs", "internal/bytealg.MaxLen", "unicode/utf8.first", "unicode/utf8.acceptRanges"], loops := true, apart := false, laid := [("unicode/utf8.acceptRanges", laid_unicode_utf8_acceptRanges), ("chamberlain/printer.signs", laid_chamberlain_printer_signs), ("unicode/utf8.first", laid_unicode_utf8_first)], narrowed := true }
def PrinterPoliciesUptoSaid : Prop := printerPoliciesUptoRow.holds Tryd.pinned (OpenSpec.upto printerPoliciesSpec)

/-- 'chamberlainlaw10.PrinterScopes', WHERE WHAT IT READS IS OF BULK AT MOST 1048576: true; the input reads as it did. -/
def printerScopesUptoRow : OpenClaim := { program := "ytoelfmmfjebabaadoor", sum := "04716004d39844eeea22699bea171c781855946b27a0f1d8883d0a3e4a78ecbe", func := "chamberlain/chamberlainlaw10.PrinterScopes", spec := "printerScopes", inPlace := ["internal/abi.NoEscape", "internal/bytealg.IndexByteString", "internal/bytealg.IndexString", "internal/bytealg.CountString"], unfollowed := true, recurses := true, named := ["chamberlain/printer.signs", "internal/bytealg.MaxLen", "unicode/utf8.first", "unicode/utf8.acceptRanges"], apart := false, laid := [("unicode/utf8.acceptRanges", laid_unicode_utf8_acceptRanges), ("chamberlain/printer.signs", laid_chamberlain_printer_signs), ("unicode/utf8.first", laid_unicode_utf8_first)], narrowed := true }
def PrinterScopesUptoSaid : Prop := printerScopesUptoRow.holds Tryd.pinned (OpenSpec.upto printerScopesSpec)

end Rows
end Go.Proofs.YtoelfmmfjebabaaDoor
