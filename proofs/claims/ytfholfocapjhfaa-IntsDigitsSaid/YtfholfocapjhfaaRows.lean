/-
  No cell of these rows narrows 'for every input' (looked for: loops, veiled, ifaces, maps, wideKeys, modest, calm, conditions, laid).
  DERIVED. THE GIVEN ROWS OF THIS SEAT. 7 by the template 'for every input the law returns true; each argument reads behind the call as it read before'; 0 by the template 'total and deterministic' (their statements: YtfholfocapjhfaaTotals.lean).
  GIVEN WITH THE SEED: the statements are not yours to turn. If you find one false, say at which input.
  Laid BY PROGRAM, IN A SANDBOX (cutbox-rows.mjs): the forced cells as the released guide's own fill.sh prints them over the translation 519a4ac24aba1f84… (all of the seat's roots in one cut). By AI agents, Wed Nov 11 2026. No macro, syntax, notation, axiom, sorry.
-/
import Derived.Test.YtfholfocapjhfaaChecked
import GoSem.Claim
import GoSem.ClaimJoined
import GoSem.ClaimMapViews
import Derived.JoinedTies
import Derived.KernelRfl
namespace Go.Proofs.Ytfholfocapjhfaa
/- THE CELL 'sum', in the pinned program and in every row, IS THE sha256 OF THE DUMP (.gsa) THAT YtfholfocapjhfaaProg.lean LOADS. Nothing in Lean hashes anything: it is a label: what it is worth is what the hold of that sum in a sandbox is worth. -/
noncomputable def Try.pinned : Pinned := { name := "ytfholfocapjhfaa", sum := "519a4ac24aba1f8478b1e634a08630e554bdea30a5e404c905c2ce39c0dfa3f9", checked := Try.checked }
namespace Rows
def none {H : Type} : Left H := { results := [], args := [] }

/-- 'chamberlainlaw01.IntsSums': WHATEVER THE INPUT: true; the input reads as it did. -/
def intsSumsSpec : ChangeSpec := { name := "intsSums", fn := fun _ => fun
  | [d1, d2] => { results := [.lit (.bool true)], args := [d1, d2] }
  | _ => none }
def intsSumsRow : OpenClaim := { program := "ytfholfocapjhfaa", sum := "519a4ac24aba1f8478b1e634a08630e554bdea30a5e404c905c2ce39c0dfa3f9", func := "chamberlain/chamberlainlaw01.IntsSums", spec := "intsSums", inPlace := ["math/bits.Add64"], apart := false }
def IntsSumsSaid : Prop := intsSumsRow.holds Try.pinned (OpenSpec.ofChange intsSumsSpec)

/-- ITS FALSE NEIGHBOUR: 'it returns false'. Refute it at one input. -/
def intsSumsWrong : ChangeSpec := { name := "intsSums", fn := fun _ => fun
  | [d1, d2] => { results := [.lit (.bool false)], args := [d1, d2] }
  | _ => none }
def IntsSumsWrongFalsely : Prop := intsSumsRow.holds Try.pinned (OpenSpec.ofChange intsSumsWrong)

/-- 'chamberlainlaw01.IntsProducts': WHATEVER THE INPUT: true; the input reads as it did. -/
def intsProductsSpec : ChangeSpec := { name := "intsProducts", fn := fun _ => fun
  | [d1, d2] => { results := [.lit (.bool true)], args := [d1, d2] }
  | _ => none }
def intsProductsRow : OpenClaim := { program := "ytfholfocapjhfaa", sum := "519a4ac24aba1f8478b1e634a08630e554bdea30a5e404c905c2ce39c0dfa3f9", func := "chamberlain/chamberlainlaw01.IntsProducts", spec := "intsProducts", inPlace := ["math/bits.Add64"], apart := false }
def IntsProductsSaid : Prop := intsProductsRow.holds Try.pinned (OpenSpec.ofChange intsProductsSpec)

/-- ITS FALSE NEIGHBOUR: 'it returns false'. Refute it at one input. -/
def intsProductsWrong : ChangeSpec := { name := "intsProducts", fn := fun _ => fun
  | [d1, d2] => { results := [.lit (.bool false)], args := [d1, d2] }
  | _ => none }
def IntsProductsWrongFalsely : Prop := intsProductsRow.holds Try.pinned (OpenSpec.ofChange intsProductsWrong)

/-- 'chamberlainlaw01.IntsReads': WHATEVER THE INPUT: true; the input reads as it did. -/
def intsReadsSpec : ChangeSpec := { name := "intsReads", fn := fun _ => fun
  | [d] => { results := [.lit (.bool true)], args := [d] }
  | _ => none }
def intsReadsRow : OpenClaim := { program := "ytfholfocapjhfaa", sum := "519a4ac24aba1f8478b1e634a08630e554bdea30a5e404c905c2ce39c0dfa3f9", func := "chamberlain/chamberlainlaw01.IntsReads", spec := "intsReads", inPlace := ["math/bits.Add64"], apart := false }
def IntsReadsSaid : Prop := intsReadsRow.holds Try.pinned (OpenSpec.ofChange intsReadsSpec)

/-- ITS FALSE NEIGHBOUR: 'it returns false'. Refute it at one input. -/
def intsReadsWrong : ChangeSpec := { name := "intsReads", fn := fun _ => fun
  | [d] => { results := [.lit (.bool false)], args := [d] }
  | _ => none }
def IntsReadsWrongFalsely : Prop := intsReadsRow.holds Try.pinned (OpenSpec.ofChange intsReadsWrong)

/-- 'chamberlainlaw01.IntsShows': WHATEVER THE INPUT: true; the input reads as it did. -/
def intsShowsSpec : ChangeSpec := { name := "intsShows", fn := fun _ => fun
  | [d] => { results := [.lit (.bool true)], args := [d] }
  | _ => none }
def intsShowsRow : OpenClaim := { program := "ytfholfocapjhfaa", sum := "519a4ac24aba1f8478b1e634a08630e554bdea30a5e404c905c2ce39c0dfa3f9", func := "chamberlain/chamberlainlaw01.IntsShows", spec := "intsShows", inPlace := ["math/bits.Add64"], recurses := true, apart := false }
def IntsShowsSaid : Prop := intsShowsRow.holds Try.pinned (OpenSpec.ofChange intsShowsSpec)

/-- ITS FALSE NEIGHBOUR: 'it returns false'. Refute it at one input. -/
def intsShowsWrong : ChangeSpec := { name := "intsShows", fn := fun _ => fun
  | [d] => { results := [.lit (.bool false)], args := [d] }
  | _ => none }
def IntsShowsWrongFalsely : Prop := intsShowsRow.holds Try.pinned (OpenSpec.ofChange intsShowsWrong)

/-- 'chamberlainlaw01.IntsTurned': WHATEVER THE INPUT: true; the input reads as it did. -/
def intsTurnedSpec : ChangeSpec := { name := "intsTurned", fn := fun _ => fun
  | [d1, d2] => { results := [.lit (.bool true)], args := [d1, d2] }
  | _ => none }
def intsTurnedRow : OpenClaim := { program := "ytfholfocapjhfaa", sum := "519a4ac24aba1f8478b1e634a08630e554bdea30a5e404c905c2ce39c0dfa3f9", func := "chamberlain/chamberlainlaw01.IntsTurned", spec := "intsTurned", inPlace := ["math/bits.Add64"], apart := false }
def IntsTurnedSaid : Prop := intsTurnedRow.holds Try.pinned (OpenSpec.ofChange intsTurnedSpec)

/-- ITS FALSE NEIGHBOUR: 'it returns false'. Refute it at one input. -/
def intsTurnedWrong : ChangeSpec := { name := "intsTurned", fn := fun _ => fun
  | [d1, d2] => { results := [.lit (.bool false)], args := [d1, d2] }
  | _ => none }
def IntsTurnedWrongFalsely : Prop := intsTurnedRow.holds Try.pinned (OpenSpec.ofChange intsTurnedWrong)

/-- 'chamberlainlaw01.IntsBounds': WHATEVER THE INPUT: true; the input reads as it did. -/
def intsBoundsSpec : ChangeSpec := { name := "intsBounds", fn := fun _ => fun
  | [d1, d2] => { results := [.lit (.bool true)], args := [d1, d2] }
  | _ => none }
def intsBoundsRow : OpenClaim := { program := "ytfholfocapjhfaa", sum := "519a4ac24aba1f8478b1e634a08630e554bdea30a5e404c905c2ce39c0dfa3f9", func := "chamberlain/chamberlainlaw01.IntsBounds", spec := "intsBounds", inPlace := ["math/bits.Add64"], apart := false }
def IntsBoundsSaid : Prop := intsBoundsRow.holds Try.pinned (OpenSpec.ofChange intsBoundsSpec)

/-- ITS FALSE NEIGHBOUR: 'it returns false'. Refute it at one input. -/
def intsBoundsWrong : ChangeSpec := { name := "intsBounds", fn := fun _ => fun
  | [d1, d2] => { results := [.lit (.bool false)], args := [d1, d2] }
  | _ => none }
def IntsBoundsWrongFalsely : Prop := intsBoundsRow.holds Try.pinned (OpenSpec.ofChange intsBoundsWrong)

/-- 'chamberlainlaw01.IntsDigits': WHATEVER THE INPUT: true; the input reads as it did. -/
def intsDigitsSpec : ChangeSpec := { name := "intsDigits", fn := fun _ => fun
  | [d1, d2] => { results := [.lit (.bool true)], args := [d1, d2] }
  | _ => none }
def intsDigitsRow : OpenClaim := { program := "ytfholfocapjhfaa", sum := "519a4ac24aba1f8478b1e634a08630e554bdea30a5e404c905c2ce39c0dfa3f9", func := "chamberlain/chamberlainlaw01.IntsDigits", spec := "intsDigits", inPlace := ["math/bits.Add64"], apart := false }
def IntsDigitsSaid : Prop := intsDigitsRow.holds Try.pinned (OpenSpec.ofChange intsDigitsSpec)

/-- ITS FALSE NEIGHBOUR: 'it returns false'. Refute it at one input. -/
def intsDigitsWrong : ChangeSpec := { name := "intsDigits", fn := fun _ => fun
  | [d1, d2] => { results := [.lit (.bool false)], args := [d1, d2] }
  | _ => none }
def IntsDigitsWrongFalsely : Prop := intsDigitsRow.holds Try.pinned (OpenSpec.ofChange intsDigitsWrong)

/- THE SECOND FORM. 'bulk': how many values and letters a reading holds, each counted each time it is reached (what is shared counts as often as it is met; a slice's spare places count too). A statement '..UptoSaid' is the law's where the arguments, and the package variables that the reading takes, are together of bulk at most 1048576: NARROWER than '..Said'. Prove '..Said' where nothing that the law and all that it calls make is longer than what came in: it says more and counts as full. Else prove '..UptoSaid'. A law counts once. -/
mutual
def uptoBulk {H : Type} : DataW H → Nat
  | .lit (.string bytes) => bytes.length + 1
  | .lit _ => 1
  | .nil => 1
  | .ptr d => uptoBulk d + 1
  | .slice elems spare => uptoBulkAll elems + uptoBulkAll spare + 1
  | .agg parts => uptoBulkAll parts + 1
  | .iface _ d => uptoBulk d + 1
  | .map entries => uptoBulkEntries entries + 1
  | .held _ => 1
def uptoBulkAll {H : Type} : List (DataW H) → Nat
  | [] => 0
  | d :: r => uptoBulk d + uptoBulkAll r
def uptoBulkEntries {H : Type} : List (Lit × DataW H) → Nat
  | [] => 0
  | x :: r => uptoBulkEntry x + uptoBulkEntries r
def uptoBulkEntry {H : Type} : Lit × DataW H → Nat
  | (.string bytes, d) => bytes.length + uptoBulk d + 1
  | (_, d) => uptoBulk d + 1
 end
def uptoSmall : (H : Type) → List (DataW H) → Bool := fun _ ds => decide (uptoBulkAll ds ≤ 1048576)
def OpenSpec.upto (s : _root_.Go.ChangeSpec) : _root_.Go.OpenSpec := { _root_.Go.OpenSpec.ofChange s with cond := some uptoSmall }

/-- 'chamberlainlaw01.IntsSums', WHERE WHAT IT READS IS OF BULK AT MOST 1048576: true; the input reads as it did. -/
def intsSumsUptoRow : OpenClaim := { program := "ytfholfocapjhfaa", sum := "519a4ac24aba1f8478b1e634a08630e554bdea30a5e404c905c2ce39c0dfa3f9", func := "chamberlain/chamberlainlaw01.IntsSums", spec := "intsSums", inPlace := ["math/bits.Add64"], apart := false, narrowed := true }
def IntsSumsUptoSaid : Prop := intsSumsUptoRow.holds Try.pinned (OpenSpec.upto intsSumsSpec)

/-- 'chamberlainlaw01.IntsProducts', WHERE WHAT IT READS IS OF BULK AT MOST 1048576: true; the input reads as it did. -/
def intsProductsUptoRow : OpenClaim := { program := "ytfholfocapjhfaa", sum := "519a4ac24aba1f8478b1e634a08630e554bdea30a5e404c905c2ce39c0dfa3f9", func := "chamberlain/chamberlainlaw01.IntsProducts", spec := "intsProducts", inPlace := ["math/bits.Add64"], apart := false, narrowed := true }
def IntsProductsUptoSaid : Prop := intsProductsUptoRow.holds Try.pinned (OpenSpec.upto intsProductsSpec)

/-- 'chamberlainlaw01.IntsReads', WHERE WHAT IT READS IS OF BULK AT MOST 1048576: true; the input reads as it did. -/
def intsReadsUptoRow : OpenClaim := { program := "ytfholfocapjhfaa", sum := "519a4ac24aba1f8478b1e634a08630e554bdea30a5e404c905c2ce39c0dfa3f9", func := "chamberlain/chamberlainlaw01.IntsReads", spec := "intsReads", inPlace := ["math/bits.Add64"], apart := false, narrowed := true }
def IntsReadsUptoSaid : Prop := intsReadsUptoRow.holds Try.pinned (OpenSpec.upto intsReadsSpec)

/-- 'chamberlainlaw01.IntsShows', WHERE WHAT IT READS IS OF BULK AT MOST 1048576: true; the input reads as it did. -/
def intsShowsUptoRow : OpenClaim := { program := "ytfholfocapjhfaa", sum := "519a4ac24aba1f8478b1e634a08630e554bdea30a5e404c905c2ce39c0dfa3f9", func := "chamberlain/chamberlainlaw01.IntsShows", spec := "intsShows", inPlace := ["math/bits.Add64"], recurses := true, apart := false, narrowed := true }
def IntsShowsUptoSaid : Prop := intsShowsUptoRow.holds Try.pinned (OpenSpec.upto intsShowsSpec)

/-- 'chamberlainlaw01.IntsTurned', WHERE WHAT IT READS IS OF BULK AT MOST 1048576: true; the input reads as it did. -/
def intsTurnedUptoRow : OpenClaim := { program := "ytfholfocapjhfaa", sum := "519a4ac24aba1f8478b1e634a08630e554bdea30a5e404c905c2ce39c0dfa3f9", func := "chamberlain/chamberlainlaw01.IntsTurned", spec := "intsTurned", inPlace := ["math/bits.Add64"], apart := false, narrowed := true }
def IntsTurnedUptoSaid : Prop := intsTurnedUptoRow.holds Try.pinned (OpenSpec.upto intsTurnedSpec)

/-- 'chamberlainlaw01.IntsBounds', WHERE WHAT IT READS IS OF BULK AT MOST 1048576: true; the input reads as it did. -/
def intsBoundsUptoRow : OpenClaim := { program := "ytfholfocapjhfaa", sum := "519a4ac24aba1f8478b1e634a08630e554bdea30a5e404c905c2ce39c0dfa3f9", func := "chamberlain/chamberlainlaw01.IntsBounds", spec := "intsBounds", inPlace := ["math/bits.Add64"], apart := false, narrowed := true }
def IntsBoundsUptoSaid : Prop := intsBoundsUptoRow.holds Try.pinned (OpenSpec.upto intsBoundsSpec)

/-- 'chamberlainlaw01.IntsDigits', WHERE WHAT IT READS IS OF BULK AT MOST 1048576: true; the input reads as it did. -/
def intsDigitsUptoRow : OpenClaim := { program := "ytfholfocapjhfaa", sum := "519a4ac24aba1f8478b1e634a08630e554bdea30a5e404c905c2ce39c0dfa3f9", func := "chamberlain/chamberlainlaw01.IntsDigits", spec := "intsDigits", inPlace := ["math/bits.Add64"], apart := false, narrowed := true }
def IntsDigitsUptoSaid : Prop := intsDigitsUptoRow.holds Try.pinned (OpenSpec.upto intsDigitsSpec)

end Rows
end Go.Proofs.Ytfholfocapjhfaa
