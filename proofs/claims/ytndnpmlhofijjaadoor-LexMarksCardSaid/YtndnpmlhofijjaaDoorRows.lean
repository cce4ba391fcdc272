/-
  NARROWER THAN 'FOR EVERY INPUT', by the rows' own cells (each row's printed sentence says how): LexReads: laid · LexBlanks: laid · LexLong: laid · LexOne: laid · LexMarks: laid.
  DERIVED. THE GIVEN ROWS OF THIS SEAT. 5 by the template 'for every input the law returns true; each argument reads behind the call as it read before'; 0 by the template 'total and deterministic' (their statements: YtndnpmlhofijjaaDoorTotals.lean).
  GIVEN WITH THE SEED: the statements are not yours to turn. If you find one false, say at which input.
  Laid BY PROGRAM, IN A SANDBOX (cutbox-rows.mjs): the forced cells as the released guide's own fill.sh prints them over the translation e9ee4784d2e7d057… (all of the seat's roots in one cut). By AI agents, Wed Nov 11 2026. No macro, syntax, notation, axiom, sorry.
-/
import Derived.Test.YtndnpmlhofijjaaDoorChecked
import GoSem.Claim
import GoSem.ClaimJoined
import GoSem.ClaimMapViews
import Derived.JoinedTies
import Derived.KernelRfl
namespace Go.Proofs.YtndnpmlhofijjaaDoor
/- THE CELL 'sum', in the pinned program and in every row, IS THE sha256 OF THE DUMP (.gsa) THAT YtndnpmlhofijjaaDoorProg.lean LOADS. Nothing in Lean hashes anything: it is a label: what it is worth is what the hold of that sum in a sandbox is worth. -/
noncomputable def Tryd.pinned : Pinned := { name := "ytndnpmlhofijjaadoor", sum := "e9ee4784d2e7d057497ca10857641384d3e850fcdb12e3e282a7dfcdd52761a6", checked := Tryd.checked }
namespace Rows
def none {H : Type} : Left H := { results := [], args := [] }

/- WHAT THE LISTED PACKAGE-LEVEL VARIABLES READ AS WHEN THE CALL BEGINS. Each datum BY PROGRAM (the guide's laid-datum.mjs) off the statement by which the dump's own 'gosem.cut.vars' lays the variable. In a bare row this is a premise. The card (YtndnpmlhofijjaaDoorCards.lean) ties it to the program's text. -/
def laid_chamberlain_lex_marks {H : Type} : DataW H := .agg [.lit (.string [58, 58]), .lit (.string [61, 61]), .lit (.string [33, 61]), .lit (.string [60, 61]), .lit (.string [62, 61]), .lit (.string [38, 38]), .lit (.string [124, 124]), .lit (.string [40]), .lit (.string [41]), .lit (.string [123]), .lit (.string [125]), .lit (.string [91]), .lit (.string [93]), .lit (.string [44]), .lit (.string [59]), .lit (.string [58]), .lit (.string [46]), .lit (.string [60]), .lit (.string [62]), .lit (.string [33]), .lit (.string [43]), .lit (.string [45]), .lit (.string [42])]

/-- 'chamberlainlaw07.LexReads': WHATEVER THE INPUT: true; the input reads as it did. -/
def lexReadsSpec : ChangeSpec := { name := "lexReads", fn := fun _ => fun
  | [d] => { results := [.lit (.bool true)], args := [d] }
  | _ => none }
def lexReadsRow : OpenClaim := { program := "ytndnpmlhofijjaadoor", sum := "e9ee4784d2e7d057497ca10857641384d3e850fcdb12e3e282a7dfcdd52761a6", func := "chamberlain/chamberlainlaw07.LexReads", spec := "lexReads", inPlace := ["internal/bytealg.IndexByteString", "math/bits.Add64"], unfollowed := true, recurses := true, named := ["chamberlain/lex.marks"], apart := false, laid := [("chamberlain/lex.marks", laid_chamberlain_lex_marks)] }
def LexReadsSaid : Prop := lexReadsRow.holds Tryd.pinned (OpenSpec.ofChange lexReadsSpec)

/-- ITS FALSE NEIGHBOUR: 'it returns false'. Refute it at one input. -/
def lexReadsWrong : ChangeSpec := { name := "lexReads", fn := fun _ => fun
  | [d] => { results := [.lit (.bool false)], args := [d] }
  | _ => none }
def LexReadsWrongFalsely : Prop := lexReadsRow.holds Tryd.pinned (OpenSpec.ofChange lexReadsWrong)

/-- 'chamberlainlaw07.LexBlanks': WHATEVER THE INPUT: true; the input reads as it did. -/
def lexBlanksSpec : ChangeSpec := { name := "lexBlanks", fn := fun _ => fun
  | [d1, d2] => { results := [.lit (.bool true)], args := [d1, d2] }
  | _ => none }
def lexBlanksRow : OpenClaim := { program := "ytndnpmlhofijjaadoor", sum := "e9ee4784d2e7d057497ca10857641384d3e850fcdb12e3e282a7dfcdd52761a6", func := "chamberlain/chamberlainlaw07.LexBlanks", spec := "lexBlanks", inPlace := ["internal/bytealg.IndexByteString", "math/bits.Add64"], unfollowed := true, recurses := true, named := ["chamberlain/lex.marks"], apart := false, laid := [("chamberlain/lex.marks", laid_chamberlain_lex_marks)] }
def LexBlanksSaid : Prop := lexBlanksRow.holds Tryd.pinned (OpenSpec.ofChange lexBlanksSpec)

/-- ITS FALSE NEIGHBOUR: 'it returns false'. Refute it at one input. -/
def lexBlanksWrong : ChangeSpec := { name := "lexBlanks", fn := fun _ => fun
  | [d1, d2] => { results := [.lit (.bool false)], args := [d1, d2] }
  | _ => none }
def LexBlanksWrongFalsely : Prop := lexBlanksRow.holds Tryd.pinned (OpenSpec.ofChange lexBlanksWrong)

/-- 'chamberlainlaw07.LexLong': WHATEVER THE INPUT: true; the input reads as it did. -/
def lexLongSpec : ChangeSpec := { name := "lexLong", fn := fun _ => fun
  | [d] => { results := [.lit (.bool true)], args := [d] }
  | _ => none }
def lexLongRow : OpenClaim := { program := "ytndnpmlhofijjaadoor", sum := "e9ee4784d2e7d057497ca10857641384d3e850fcdb12e3e282a7dfcdd52761a6", func := "chamberlain/chamberlainlaw07.LexLong", spec := "lexLong", inPlace := ["internal/bytealg.IndexByteString", "math/bits.Add64"], unfollowed := true, recurses := true, named := ["chamberlain/lex.marks"], apart := false, laid := [("chamberlain/lex.marks", laid_chamberlain_lex_marks)] }
def LexLongSaid : Prop := lexLongRow.holds Tryd.pinned (OpenSpec.ofChange lexLongSpec)

/-- ITS FALSE NEIGHBOUR: 'it returns false'. Refute it at one input. -/
def lexLongWrong : ChangeSpec := { name := "lexLong", fn := fun _ => fun
  | [d] => { results := [.lit (.bool false)], args := [d] }
  | _ => none }
def LexLongWrongFalsely : Prop := lexLongRow.holds Tryd.pinned (OpenSpec.ofChange lexLongWrong)

/-- 'chamberlainlaw07.LexOne': WHATEVER THE INPUT: true; the input reads as it did. -/
def lexOneSpec : ChangeSpec := { name := "lexOne", fn := fun _ => fun
  | [d] => { results := [.lit (.bool true)], args := [d] }
  | _ => none }
def lexOneRow : OpenClaim := { program := "ytndnpmlhofijjaadoor", sum := "e9ee4784d2e7d057497ca10857641384d3e850fcdb12e3e282a7dfcdd52761a6", func := "chamberlain/chamberlainlaw07.LexOne", spec := "lexOne", inPlace := ["internal/bytealg.IndexByteString", "math/bits.Add64"], unfollowed := true, recurses := true, named := ["chamberlain/lex.marks"], apart := false, laid := [("chamberlain/lex.marks", laid_chamberlain_lex_marks)] }
def LexOneSaid : Prop := lexOneRow.holds Tryd.pinned (OpenSpec.ofChange lexOneSpec)

/-- ITS FALSE NEIGHBOUR: 'it returns false'. Refute it at one input. -/
def lexOneWrong : ChangeSpec := { name := "lexOne", fn := fun _ => fun
  | [d] => { results := [.lit (.bool false)], args := [d] }
  | _ => none }
def LexOneWrongFalsely : Prop := lexOneRow.holds Tryd.pinned (OpenSpec.ofChange lexOneWrong)

/-- 'chamberlainlaw07.LexMarks': WHATEVER THE INPUT: true; the input reads as it did. -/
def lexMarksSpec : ChangeSpec := { name := "lexMarks", fn := fun _ => fun
  | [d] => { results := [.lit (.bool true)], args := [d] }
  | _ => none }
def lexMarksRow : OpenClaim := { program := "ytndnpmlhofijjaadoor", sum := "e9ee4784d2e7d057497ca10857641384d3e850fcdb12e3e282a7dfcdd52761a6", func := "chamberlain/chamberlainlaw07.LexMarks", spec := "lexMarks", inPlace := ["internal/bytealg.IndexByteString", "math/bits.Add64"], unfollowed := true, recurses := true, named := ["chamberlain/lex.marks"], apart := false, laid := [("chamberlain/lex.marks", laid_chamberlain_lex_marks)] }
def LexMarksSaid : Prop := lexMarksRow.holds Tryd.pinned (OpenSpec.ofChange lexMarksSpec)

/-- ITS FALSE NEIGHBOUR: 'it returns false'. Refute it at one input. -/
def lexMarksWrong : ChangeSpec := { name := "lexMarks", fn := fun _ => fun
  | [d] => { results := [.lit (.bool false)], args := [d] }
  | _ => none }
def LexMarksWrongFalsely : Prop := lexMarksRow.holds Tryd.pinned (OpenSpec.ofChange lexMarksWrong)

/- THE SECOND FORM. 'bulk': how many values and letters a reading holds, each counted each time it is reached (what is shared counts as often as it is met; a slice's spare places count too). A statement '..UptoSaid' is the law's where the arguments, and the package variables that the reading takes, are together of bulk at most 1048576: NARROWER than '..Said'. Prove '..Said' where nothing that the law and all that it calls make is longer than what came in: it says more and counts as full. Else prove '..UptoSaid'. A law counts once. -/
mutual
def uptoBulk {H : Type} : DataW H → Nat
  | .lit (.string bytes) => bytes.length + 1
  | .lit _ => 1
  | .nil => 1
  | .ptr d => uptoBulk d + 1
  | .slice elems spare => uptoBulkAll elems + uptoBulkAll spare + 1
  | .agg parts => uptoBulkAll parts + 1
  | .iface _ d => uptoBulk d + 1
  | .map entries => uptoBulkEntries entries + 1
  | .held _ => 1
def uptoBulkAll {H : Type} : List (DataW H) → Nat
  | [] => 0
  | d :: r => uptoBulk d + uptoBulkAll r
def uptoBulkEntries {H : Type} : List (Lit × DataW H) → Nat
  | [] => 0
  | x :: r => uptoBulkEntry x + uptoBulkEntries r
def uptoBulkEntry {H : Type} : Lit × DataW H → Nat
  | (.string bytes, d) => bytes.length + uptoBulk d + 1
  | (_, d) => uptoBulk d + 1
 end
def uptoSmall : (H : Type) → List (DataW H) → Bool := fun _ ds => decide (uptoBulkAll ds ≤ 1048576)
def OpenSpec.upto (s : _root_.Go.ChangeSpec) : _root_.Go.OpenSpec := { _root_.Go.OpenSpec.ofChange s with cond := some uptoSmall }

/-- 'chamberlainlaw07.LexReads', WHERE WHAT IT READS IS OF BULK AT MOST 1048576: true; the input reads as it did. -/
def lexReadsUptoRow : OpenClaim := { program := "ytndnpmlhofijjaadoor", sum := "e9ee4784d2e7d057497ca10857641384d3e850fcdb12e3e282a7dfcdd52761a6", func := "chamberlain/chamberlainlaw07.LexReads", spec := "lexReads", inPlace := ["internal/bytealg.IndexByteString", "math/bits.Add64"], unfollowed := true, recurses := true, named := ["chamberlain/lex.marks"], apart := false, laid := [("chamberlain/lex.marks", laid_chamberlain_lex_marks)], narrowed := true }
def LexReadsUptoSaid : Prop := lexReadsUptoRow.holds Tryd.pinned (OpenSpec.upto lexReadsSpec)

/-- 'chamberlainlaw07.LexBlanks', WHERE WHAT IT READS IS OF BULK AT MOST 1048576: true; the input reads as it did. -/
def lexBlanksUptoRow : OpenClaim := { program := "ytndnpmlhofijjaadoor", sum := "e9ee4784d2e7d057497ca10857641384d3e850fcdb12e3e282a7dfcdd52761a6", func := "chamberlain/chamberlainlaw07.LexBlanks", spec := "lexBlanks", inPlace := ["internal/bytealg.IndexByteString", "math/bits.Add64"], unfollowed := true, recurses := true, named := ["chamberlain/lex.marks"], apart := false, laid := [("chamberlain/lex.marks", laid_chamberlain_lex_marks)], narrowed := true }
def LexBlanksUptoSaid : Prop := lexBlanksUptoRow.holds Tryd.pinned (OpenSpec.upto lexBlanksSpec)

/-- 'chamberlainlaw07.LexLong', WHERE WHAT IT READS IS OF BULK AT MOST 1048576: true; the input reads as it did. -/
def lexLongUptoRow : OpenClaim := { program := "ytndnpmlhofijjaadoor", sum := "e9ee4784d2e7d057497ca10857641384d3e850fcdb12e3e282a7dfcdd52761a6", func := "chamberlain/chamberlainlaw07.LexLong", spec := "lexLong", inPlace := ["internal/bytealg.IndexByteString", "math/bits.Add64"], unfollowed := true, recurses := true, named := ["chamberlain/lex.marks"], apart := false, laid := [("chamberlain/lex.marks", laid_chamberlain_lex_marks)], narrowed := true }
def LexLongUptoSaid : Prop := lexLongUptoRow.holds Tryd.pinned (OpenSpec.upto lexLongSpec)

/-- 'chamberlainlaw07.LexOne', WHERE WHAT IT READS IS OF BULK AT MOST 1048576: true; the input reads as it did. -/
def lexOneUptoRow : OpenClaim := { program := "ytndnpmlhofijjaadoor", sum := "e9ee4784d2e7d057497ca10857641384d3e850fcdb12e3e282a7dfcdd52761a6", func := "chamberlain/chamberlainlaw07.LexOne", spec := "lexOne", inPlace := ["internal/bytealg.IndexByteString", "math/bits.Add64"], unfollowed := true, recurses := true, named := ["chamberlain/lex.marks"], apart := false, laid := [("chamberlain/lex.marks", laid_chamberlain_lex_marks)], narrowed := true }
def LexOneUptoSaid : Prop := lexOneUptoRow.holds Tryd.pinned (OpenSpec.upto lexOneSpec)

/-- 'chamberlainlaw07.LexMarks', WHERE WHAT IT READS IS OF BULK AT MOST 1048576: true; the input reads as it did. -/
def lexMarksUptoRow : OpenClaim := { program := "ytndnpmlhofijjaadoor", sum := "e9ee4784d2e7d057497ca10857641384d3e850fcdb12e3e282a7dfcdd52761a6", func := "chamberlain/chamberlainlaw07.LexMarks", spec := "lexMarks", inPlace := ["internal/bytealg.IndexByteString", "math/bits.Add64"], unfollowed := true, recurses := true, named := ["chamberlain/lex.marks"], apart := false, laid := [("chamberlain/lex.marks", laid_chamberlain_lex_marks)], narrowed := true }
def LexMarksUptoSaid : Prop := lexMarksUptoRow.holds Tryd.pinned (OpenSpec.upto lexMarksSpec)

end Rows
end Go.Proofs.YtndnpmlhofijjaaDoor
