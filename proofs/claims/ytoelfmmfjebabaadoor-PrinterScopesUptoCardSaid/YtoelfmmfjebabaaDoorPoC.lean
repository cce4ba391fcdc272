/- Layer 10: a world in which the listed variables are as they are listed. -/
import Derived.Test.YtoelfmmfjebabaaDoorPoB
import Derived.LaidMore
import Derived.Lay
import Derived.Lib.LaidIn
namespace Go.Proofs.YtoelfmmfjebabaaDoor
open Go
set_option maxRecDepth 100000

noncomputable def W0 (os : Os) : World := (World.doorLaid Tryd.prog 69 os).layVars Tryd.prog [("unicode/utf8.first", Rows.laid_unicode_utf8_first)]
def L3 : List (String × DataW Unit) := [("unicode/utf8.acceptRanges", Rows.laid_unicode_utf8_acceptRanges), ("chamberlain/printer.signs", Rows.laid_chamberlain_printer_signs), ("unicode/utf8.first", Rows.laid_unicode_utf8_first)]
theorem W0_os (os : Os) : (W0 os).os = os := World.layVars_os _ _ _
theorem L3a : (L3.filter fun x => ["unicode/utf8.first"].contains x.1) = [("unicode/utf8.first", Rows.laid_unicode_utf8_first)] := by kernel_rfl
theorem L3b : (L3.filter fun x => !["unicode/utf8.first"].contains x.1) = [("unicode/utf8.acceptRanges", Rows.laid_unicode_utf8_acceptRanges), ("chamberlain/printer.signs", Rows.laid_chamberlain_printer_signs)] := by kernel_rfl
theorem laid_W0 (os : Os) (args : Array Value) : laidMetH Tryd.prog L3 ((W0 os).forCall (fun _ _ => 0) ⟨#[], args, []⟩).memory := by
  rw [MakeChecks.laidMetH_plain _ _ _ (by kernel_rfl)]
  have h : laidMet Tryd.prog L3 (W0 os) := laidMet_layVars (w0 := World.doorLaid Tryd.prog 69 os) ["unicode/utf8.first"] [3, 0, 9] (by rw [L3a]; rfl) (by rw [L3a]; kernel_rfl) (by rw [L3a]; kernel_rfl)
    (by rw [L3b]; exact LaidIn.of_run [3, 0, 9] 8 (by kernel_rfl) (by kernel_rfl) (by kernel_rfl) (by kernel_rfl))
  exact h.of_heap (by simp [World.memory, World.forCall, Input.heap])
end Go.Proofs.YtoelfmmfjebabaaDoor
