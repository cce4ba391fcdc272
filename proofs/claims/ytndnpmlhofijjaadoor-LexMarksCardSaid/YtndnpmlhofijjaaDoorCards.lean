/-
  DERIVED. GIVEN WITH THE SEED: THE CARDS: each row of YtndnpmlhofijjaaDoorRows.lean that lists a variable, with what it lists TIED to the program's text (the seventh form; the later family's looks); each row that meets fmt, with fmt's text TOLD by the authors' own Lean function (tested against real Go, not proved from fmt's source: count such statements apart). THE CARD IS WHAT COUNTS. Prove the row's statement (the work); the ties are given (YtndnpmlhofijjaaDoorTie.lean); close each card by the builder's one call (the guide's Derived/Test/ToyasCard.lean, 'card_holds'). Laid BY PROGRAM, IN A SANDBOX (cutbox-door.mjs). By AI agents, Wed Nov 11 2026. No macro, syntax, notation, axiom, sorry.
-/
import Derived.Test.YtndnpmlhofijjaaDoorRows
import GoSem.ClaimSeven
namespace Go.Proofs.YtndnpmlhofijjaaDoor
namespace Rows

/-- THE TIED CARD OF 'chamberlainlaw07.LexReads'. -/
def lexReadsCard : Claim7 := { stood := { row := lexReadsRow, standIns := [], harness := (true, "bf0e1ec2858f0a5db46e384854591ab4df49315adaf1581823aa9269b5b290f7"), looks := false }, kinds := [], alts := [], laidByText := true, laidKinds := [.data], laidTests := true, laidLooks := .later }
def LexReadsCardSaid : Prop := Claim7.holds Tryd.pinned (.plain (OpenSpec.ofChange lexReadsSpec)) lexReadsCard

/-- THE TIED CARD OF 'chamberlainlaw07.LexBlanks'. -/
def lexBlanksCard : Claim7 := { stood := { row := lexBlanksRow, standIns := [], harness := (true, "bf0e1ec2858f0a5db46e384854591ab4df49315adaf1581823aa9269b5b290f7"), looks := false }, kinds := [], alts := [], laidByText := true, laidKinds := [.data], laidTests := true, laidLooks := .later }
def LexBlanksCardSaid : Prop := Claim7.holds Tryd.pinned (.plain (OpenSpec.ofChange lexBlanksSpec)) lexBlanksCard

/-- THE TIED CARD OF 'chamberlainlaw07.LexLong'. -/
def lexLongCard : Claim7 := { stood := { row := lexLongRow, standIns := [], harness := (true, "bf0e1ec2858f0a5db46e384854591ab4df49315adaf1581823aa9269b5b290f7"), looks := false }, kinds := [], alts := [], laidByText := true, laidKinds := [.data], laidTests := true, laidLooks := .later }
def LexLongCardSaid : Prop := Claim7.holds Tryd.pinned (.plain (OpenSpec.ofChange lexLongSpec)) lexLongCard

/-- THE TIED CARD OF 'chamberlainlaw07.LexOne'. -/
def lexOneCard : Claim7 := { stood := { row := lexOneRow, standIns := [], harness := (true, "bf0e1ec2858f0a5db46e384854591ab4df49315adaf1581823aa9269b5b290f7"), looks := false }, kinds := [], alts := [], laidByText := true, laidKinds := [.data], laidTests := true, laidLooks := .later }
def LexOneCardSaid : Prop := Claim7.holds Tryd.pinned (.plain (OpenSpec.ofChange lexOneSpec)) lexOneCard

/-- THE TIED CARD OF 'chamberlainlaw07.LexMarks'. -/
def lexMarksCard : Claim7 := { stood := { row := lexMarksRow, standIns := [], harness := (true, "bf0e1ec2858f0a5db46e384854591ab4df49315adaf1581823aa9269b5b290f7"), looks := false }, kinds := [], alts := [], laidByText := true, laidKinds := [.data], laidTests := true, laidLooks := .later }
def LexMarksCardSaid : Prop := Claim7.holds Tryd.pinned (.plain (OpenSpec.ofChange lexMarksSpec)) lexMarksCard

/-- THE SECOND FORM's CARD OF 'chamberlainlaw07.LexReads'. -/
def lexReadsUptoCard : Claim7 := { stood := { row := lexReadsUptoRow, standIns := [], harness := (true, "bf0e1ec2858f0a5db46e384854591ab4df49315adaf1581823aa9269b5b290f7"), looks := false }, kinds := [], alts := [], laidByText := true, laidKinds := [.data], laidTests := true, laidLooks := .later }
def LexReadsUptoCardSaid : Prop := Claim7.holds Tryd.pinned (.plain (OpenSpec.upto lexReadsSpec)) lexReadsUptoCard

/-- THE SECOND FORM's CARD OF 'chamberlainlaw07.LexBlanks'. -/
def lexBlanksUptoCard : Claim7 := { stood := { row := lexBlanksUptoRow, standIns := [], harness := (true, "bf0e1ec2858f0a5db46e384854591ab4df49315adaf1581823aa9269b5b290f7"), looks := false }, kinds := [], alts := [], laidByText := true, laidKinds := [.data], laidTests := true, laidLooks := .later }
def LexBlanksUptoCardSaid : Prop := Claim7.holds Tryd.pinned (.plain (OpenSpec.upto lexBlanksSpec)) lexBlanksUptoCard

/-- THE SECOND FORM's CARD OF 'chamberlainlaw07.LexLong'. -/
def lexLongUptoCard : Claim7 := { stood := { row := lexLongUptoRow, standIns := [], harness := (true, "bf0e1ec2858f0a5db46e384854591ab4df49315adaf1581823aa9269b5b290f7"), looks := false }, kinds := [], alts := [], laidByText := true, laidKinds := [.data], laidTests := true, laidLooks := .later }
def LexLongUptoCardSaid : Prop := Claim7.holds Tryd.pinned (.plain (OpenSpec.upto lexLongSpec)) lexLongUptoCard

/-- THE SECOND FORM's CARD OF 'chamberlainlaw07.LexOne'. -/
def lexOneUptoCard : Claim7 := { stood := { row := lexOneUptoRow, standIns := [], harness := (true, "bf0e1ec2858f0a5db46e384854591ab4df49315adaf1581823aa9269b5b290f7"), looks := false }, kinds := [], alts := [], laidByText := true, laidKinds := [.data], laidTests := true, laidLooks := .later }
def LexOneUptoCardSaid : Prop := Claim7.holds Tryd.pinned (.plain (OpenSpec.upto lexOneSpec)) lexOneUptoCard

/-- THE SECOND FORM's CARD OF 'chamberlainlaw07.LexMarks'. -/
def lexMarksUptoCard : Claim7 := { stood := { row := lexMarksUptoRow, standIns := [], harness := (true, "bf0e1ec2858f0a5db46e384854591ab4df49315adaf1581823aa9269b5b290f7"), looks := false }, kinds := [], alts := [], laidByText := true, laidKinds := [.data], laidTests := true, laidLooks := .later }
def LexMarksUptoCardSaid : Prop := Claim7.holds Tryd.pinned (.plain (OpenSpec.upto lexMarksSpec)) lexMarksUptoCard
end Rows
end Go.Proofs.YtndnpmlhofijjaaDoor
