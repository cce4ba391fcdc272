/-
  NARROWER THAN 'FOR EVERY INPUT', by the rows' own cells (each row's printed sentence says how): TypesChecks: loops · TypesBelow: loops · TypesJoins: loops · TypesLaws: loops · TypesOptional: loops.
  DERIVED. THE GIVEN ROWS OF THIS SEAT. 5 by the template 'for every input the law returns true; each argument reads behind the call as it read before'; 0 by the template 'total and deterministic' (their statements: YtdljgcicncegkaaTotals.lean).
  GIVEN WITH THE SEED: the statements are not yours to turn. If you find one false, say at which input.
  Laid BY PROGRAM, IN A SANDBOX (cutbox-rows.mjs): the forced cells as the released guide's own fill.sh prints them over the translation d019a741788b0a78… (all of the seat's roots in one cut). By AI agents, Wed Nov 11 2026. No macro, syntax, notation, axiom, sorry.
-/
import Derived.Test.YtdljgcicncegkaaChecked
import GoSem.Claim
import GoSem.ClaimJoined
import GoSem.ClaimMapViews
import Derived.JoinedTies
import Derived.KernelRfl
namespace Go.Proofs.Ytdljgcicncegkaa
/- THE CELL 'sum', in the pinned program and in every row, IS THE sha256 OF THE DUMP (.gsa) THAT YtdljgcicncegkaaProg.lean LOADS. Nothing in Lean hashes anything: it is a label: what it is worth is what the hold of that sum in a sandbox is worth. -/
noncomputable def Try.pinned : Pinned := { name := "ytdljgcicncegkaa", sum := "d019a741788b0a780fb09bc172adb4b0aa6ba3c64e44fb00cb861cd74475eb2b", checked := Try.checked }
namespace Rows
def none {H : Type} : Left H := { results := [], args := [] }

/-- 'chamberlainlaw11.TypesChecks': WHATEVER THE INPUT: true; the input reads as it did. -/
def typesChecksSpec : ChangeSpec := { name := "typesChecks", fn := fun _ => fun
  | [d1, d2] => { results := [.lit (.bool true)], args := [d1, d2] }
  | _ => none }
def typesChecksRow : OpenClaim := { program := "ytdljgcicncegkaa", sum := "d019a741788b0a780fb09bc172adb4b0aa6ba3c64e44fb00cb861cd74475eb2b", func := "chamberlain/chamberlainlaw11.TypesChecks", spec := "typesChecks", unfollowed := true, recurses := true, loops := true, apart := false }
def TypesChecksSaid : Prop := typesChecksRow.holds Try.pinned (OpenSpec.ofChange typesChecksSpec)

/-- ITS FALSE NEIGHBOUR: 'it returns false'. Refute it at one input. -/
def typesChecksWrong : ChangeSpec := { name := "typesChecks", fn := fun _ => fun
  | [d1, d2] => { results := [.lit (.bool false)], args := [d1, d2] }
  | _ => none }
def TypesChecksWrongFalsely : Prop := typesChecksRow.holds Try.pinned (OpenSpec.ofChange typesChecksWrong)

/-- 'chamberlainlaw11.TypesBelow': WHATEVER THE INPUT: true; the input reads as it did. -/
def typesBelowSpec : ChangeSpec := { name := "typesBelow", fn := fun _ => fun
  | [d1, d2] => { results := [.lit (.bool true)], args := [d1, d2] }
  | _ => none }
def typesBelowRow : OpenClaim := { program := "ytdljgcicncegkaa", sum := "d019a741788b0a780fb09bc172adb4b0aa6ba3c64e44fb00cb861cd74475eb2b", func := "chamberlain/chamberlainlaw11.TypesBelow", spec := "typesBelow", unfollowed := true, recurses := true, loops := true, apart := false }
def TypesBelowSaid : Prop := typesBelowRow.holds Try.pinned (OpenSpec.ofChange typesBelowSpec)

/-- ITS FALSE NEIGHBOUR: 'it returns false'. Refute it at one input. -/
def typesBelowWrong : ChangeSpec := { name := "typesBelow", fn := fun _ => fun
  | [d1, d2] => { results := [.lit (.bool false)], args := [d1, d2] }
  | _ => none }
def TypesBelowWrongFalsely : Prop := typesBelowRow.holds Try.pinned (OpenSpec.ofChange typesBelowWrong)

/-- 'chamberlainlaw11.TypesJoins': WHATEVER THE INPUT: true; the input reads as it did. -/
def typesJoinsSpec : ChangeSpec := { name := "typesJoins", fn := fun _ => fun
  | [d1, d2] => { results := [.lit (.bool true)], args := [d1, d2] }
  | _ => none }
def typesJoinsRow : OpenClaim := { program := "ytdljgcicncegkaa", sum := "d019a741788b0a780fb09bc172adb4b0aa6ba3c64e44fb00cb861cd74475eb2b", func := "chamberlain/chamberlainlaw11.TypesJoins", spec := "typesJoins", unfollowed := true, recurses := true, loops := true, apart := false }
def TypesJoinsSaid : Prop := typesJoinsRow.holds Try.pinned (OpenSpec.ofChange typesJoinsSpec)

/-- ITS FALSE NEIGHBOUR: 'it returns false'. Refute it at one input. -/
def typesJoinsWrong : ChangeSpec := { name := "typesJoins", fn := fun _ => fun
  | [d1, d2] => { results := [.lit (.bool false)], args := [d1, d2] }
  | _ => none }
def TypesJoinsWrongFalsely : Prop := typesJoinsRow.holds Try.pinned (OpenSpec.ofChange typesJoinsWrong)

/-- 'chamberlainlaw11.TypesLaws': WHATEVER THE INPUT: true; the input reads as it did. -/
def typesLawsSpec : ChangeSpec := { name := "typesLaws", fn := fun _ => fun
  | [d1, d2, d3] => { results := [.lit (.bool true)], args := [d1, d2, d3] }
  | _ => none }
def typesLawsRow : OpenClaim := { program := "ytdljgcicncegkaa", sum := "d019a741788b0a780fb09bc172adb4b0aa6ba3c64e44fb00cb861cd74475eb2b", func := "chamberlain/chamberlainlaw11.TypesLaws", spec := "typesLaws", unfollowed := true, recurses := true, loops := true, apart := false }
def TypesLawsSaid : Prop := typesLawsRow.holds Try.pinned (OpenSpec.ofChange typesLawsSpec)

/-- ITS FALSE NEIGHBOUR: 'it returns false'. Refute it at one input. -/
def typesLawsWrong : ChangeSpec := { name := "typesLaws", fn := fun _ => fun
  | [d1, d2, d3] => { results := [.lit (.bool false)], args := [d1, d2, d3] }
  | _ => none }
def TypesLawsWrongFalsely : Prop := typesLawsRow.holds Try.pinned (OpenSpec.ofChange typesLawsWrong)

/-- 'chamberlainlaw11.TypesOptional': WHATEVER THE INPUT: true; the input reads as it did. -/
def typesOptionalSpec : ChangeSpec := { name := "typesOptional", fn := fun _ => fun
  | [d1, d2, d3, d4] => { results := [.lit (.bool true)], args := [d1, d2, d3, d4] }
  | _ => none }
def typesOptionalRow : OpenClaim := { program := "ytdljgcicncegkaa", sum := "d019a741788b0a780fb09bc172adb4b0aa6ba3c64e44fb00cb861cd74475eb2b", func := "chamberlain/chamberlainlaw11.TypesOptional", spec := "typesOptional", unfollowed := true, recurses := true, loops := true, apart := false }
def TypesOptionalSaid : Prop := typesOptionalRow.holds Try.pinned (OpenSpec.ofChange typesOptionalSpec)

/-- ITS FALSE NEIGHBOUR: 'it returns false'. Refute it at one input. -/
def typesOptionalWrong : ChangeSpec := { name := "typesOptional", fn := fun _ => fun
  | [d1, d2, d3, d4] => { results := [.lit (.bool false)], args := [d1, d2, d3, d4] }
  | _ => none }
def TypesOptionalWrongFalsely : Prop := typesOptionalRow.holds Try.pinned (OpenSpec.ofChange typesOptionalWrong)

/- THE SECOND FORM. 'bulk': how many values and letters a reading holds, each counted each time it is reached (what is shared counts as often as it is met; a slice's spare places count too). A statement '..UptoSaid' is the law's where the arguments, and the package variables that the reading takes, are together of bulk at most 1048576: NARROWER than '..Said'. Prove '..Said' where nothing that the law and all that it calls make is longer than what came in: it says more and counts as full. Else prove '..UptoSaid'. A law counts once. -/
mutual
def uptoBulk {H : Type} : DataW H → Nat
  | .lit (.string bytes) => bytes.length + 1
  | .lit _ => 1
  | .nil => 1
  | .ptr d => uptoBulk d + 1
  | .slice elems spare => uptoBulkAll elems + uptoBulkAll spare + 1
  | .agg parts => uptoBulkAll parts + 1
  | .iface _ d => uptoBulk d + 1
  | .map entries => uptoBulkEntries entries + 1
  | .held _ => 1
def uptoBulkAll {H : Type} : List (DataW H) → Nat
  | [] => 0
  | d :: r => uptoBulk d + uptoBulkAll r
def uptoBulkEntries {H : Type} : List (Lit × DataW H) → Nat
  | [] => 0
  | x :: r => uptoBulkEntry x + uptoBulkEntries r
def uptoBulkEntry {H : Type} : Lit × DataW H → Nat
  | (.string bytes, d) => bytes.length + uptoBulk d + 1
  | (_, d) => uptoBulk d + 1
 end
def uptoSmall : (H : Type) → List (DataW H) → Bool := fun _ ds => decide (uptoBulkAll ds ≤ 1048576)
def OpenSpec.upto (s : _root_.Go.ChangeSpec) : _root_.Go.OpenSpec := { _root_.Go.OpenSpec.ofChange s with cond := some uptoSmall }

/-- 'chamberlainlaw11.TypesChecks', WHERE WHAT IT READS IS OF BULK AT MOST 1048576: true; the input reads as it did. -/
def typesChecksUptoRow : OpenClaim := { program := "ytdljgcicncegkaa", sum := "d019a741788b0a780fb09bc172adb4b0aa6ba3c64e44fb00cb861cd74475eb2b", func := "chamberlain/chamberlainlaw11.TypesChecks", spec := "typesChecks", unfollowed := true, recurses := true, loops := true, apart := false, narrowed := true }
def TypesChecksUptoSaid : Prop := typesChecksUptoRow.holds Try.pinned (OpenSpec.upto typesChecksSpec)

/-- 'chamberlainlaw11.TypesBelow', WHERE WHAT IT READS IS OF BULK AT MOST 1048576: true; the input reads as it did. -/
def typesBelowUptoRow : OpenClaim := { program := "ytdljgcicncegkaa", sum := "d019a741788b0a780fb09bc172adb4b0aa6ba3c64e44fb00cb861cd74475eb2b", func := "chamberlain/chamberlainlaw11.TypesBelow", spec := "typesBelow", unfollowed := true, recurses := true, loops := true, apart := false, narrowed := true }
def TypesBelowUptoSaid : Prop := typesBelowUptoRow.holds Try.pinned (OpenSpec.upto typesBelowSpec)

/-- 'chamberlainlaw11.TypesJoins', WHERE WHAT IT READS IS OF BULK AT MOST 1048576: true; the input reads as it did. -/
def typesJoinsUptoRow : OpenClaim := { program := "ytdljgcicncegkaa", sum := "d019a741788b0a780fb09bc172adb4b0aa6ba3c64e44fb00cb861cd74475eb2b", func := "chamberlain/chamberlainlaw11.TypesJoins", spec := "typesJoins", unfollowed := true, recurses := true, loops := true, apart := false, narrowed := true }
def TypesJoinsUptoSaid : Prop := typesJoinsUptoRow.holds Try.pinned (OpenSpec.upto typesJoinsSpec)

/-- 'chamberlainlaw11.TypesLaws', WHERE WHAT IT READS IS OF BULK AT MOST 1048576: true; the input reads as it did. -/
def typesLawsUptoRow : OpenClaim := { program := "ytdljgcicncegkaa", sum := "d019a741788b0a780fb09bc172adb4b0aa6ba3c64e44fb00cb861cd74475eb2b", func := "chamberlain/chamberlainlaw11.TypesLaws", spec := "typesLaws", unfollowed := true, recurses := true, loops := true, apart := false, narrowed := true }
def TypesLawsUptoSaid : Prop := typesLawsUptoRow.holds Try.pinned (OpenSpec.upto typesLawsSpec)

/-- 'chamberlainlaw11.TypesOptional', WHERE WHAT IT READS IS OF BULK AT MOST 1048576: true; the input reads as it did. -/
def typesOptionalUptoRow : OpenClaim := { program := "ytdljgcicncegkaa", sum := "d019a741788b0a780fb09bc172adb4b0aa6ba3c64e44fb00cb861cd74475eb2b", func := "chamberlain/chamberlainlaw11.TypesOptional", spec := "typesOptional", unfollowed := true, recurses := true, loops := true, apart := false, narrowed := true }
def TypesOptionalUptoSaid : Prop := typesOptionalUptoRow.holds Try.pinned (OpenSpec.upto typesOptionalSpec)

end Rows
end Go.Proofs.Ytdljgcicncegkaa
