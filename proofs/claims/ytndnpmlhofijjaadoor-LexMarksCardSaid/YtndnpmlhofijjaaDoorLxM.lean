/- Layer 7: what is known of the marks when a law begins. -/
import Derived.Test.YtndnpmlhofijjaaDoorLxL
import Derived.Test.YtndnpmlhofijjaaDoorRows
import Derived.LaidLaws
import Derived.LaidMore
import Derived.MakeChecks
import Derived.OpenShut
import Derived.ChangeArms
import Derived.FnData
namespace Go.Proofs.YtndnpmlhofijjaaDoor
open Go
set_option linter.unusedSimpArgs false
set_option linter.unusedVariables false
set_option maxRecDepth 20000

theorem lx_laid : Rows.laid_chamberlain_lex_marks (H := Unit) = .agg (marksL.map fun m => .lit (.string m)) := by kernel_rfl
theorem lx_global : Tryd.prog.globalNamed "chamberlain/lex.marks" = some 0 := by kernel_rfl
theorem lx_type : (Tryd.prog.globals[0]?).map (·.type) = some 54 := by kernel_rfl
theorem lx_cells : Tryd.prog.cellsOf 9 = 1 := by kernel_rfl
theorem lx_cells2 : Tryd.prog.cellsOf 54 = 23 := by kernel_rfl
theorem hasMarks_of {w : World} (h : laidMetH Tryd.prog [("chamberlain/lex.marks", Rows.laid_chamberlain_lex_marks)] w) : HasMarks (fun b => w.heap[b]?) := by
  rw [MakeChecks.laidMetH_plain _ _ _ (by kernel_rfl)] at h
  obtain ⟨ps, ⟨g0, t0, cs0, f0, p0, q0, hg0, ht0, hv0, hd0, -, -⟩, -, -⟩ := h
  obtain rfl := Option.some.inj (lx_global.symm.trans hg0)
  obtain rfl := Option.some.inj (lx_type.symm.trans ht0)
  obtain ⟨xs, m1, rfl, hx1, hlen, hn3, hel⟩ := DataW.trod_array Tryd.underlying54 hd0
  rw [lx_laid] at hx1
  rw [lx_cells2] at hlen
  simp only [Prod.mk.injEq, DataW.agg.injEq] at hx1
  have key : cs0.toList = marksL.map fun x => Value.string (Eng.bs x) := by
    apply List.ext_getElem?
    intro i
    rcases Nat.lt_or_ge i 23 with hi | hi
    · have h0 := hel i hi
      rw [lx_cells, Nat.mul_one] at h0
      obtain ⟨x, hx⟩ : ∃ x, xs[i]? = some x := ⟨_, List.getElem?_eq_getElem (by omega)⟩
      rw [hx] at h0
      obtain ⟨s, e1, e2, -⟩ := DataW.trod_string Tryd.underlying9 h0
      have h2 : (marksL.map fun m => (DataW.lit (Lit.string m) : DataW Unit))[i]? = some (.lit (.string s.data.toList)) := by
        rw [hx1.1, List.getElem?_map, hx, e2]; rfl
      have hi2 : i < marksL.length := hi
      rw [List.getElem?_map, List.getElem?_eq_getElem hi2] at h2
      simp only [Option.map_some, Option.some.injEq, DataW.lit.injEq] at h2
      rw [List.getElem?_map, List.getElem?_eq_getElem hi2, ← List.head?_drop]
      have h3 : (cs0.toList.drop i).head? = ((cs0.toList.drop i).take 1).head? := by cases cs0.toList.drop i <;> rfl
      rw [h3, e1]
      simp only [List.head?_cons, Option.map_some, Option.some.injEq, Value.string.injEq]
      have h4 : marksL[i] = s.data.toList := by simpa using h2
      rw [h4]
      cases s; rfl
    · rw [List.getElem?_eq_none (by omega), List.getElem?_eq_none (by rw [List.length_map]; exact hi)]
  simp only [World.var?, hg0, Option.bind_some] at hv0
  cases hb : w.heap[(0 : Nat)]? with
  | none => rw [hb] at hv0; cases hv0
  | some o =>
    rw [hb] at hv0
    cases o with
    | cells c T fz =>
      simp only [Option.some.injEq] at hv0
      subst hv0
      refine ⟨T, fz, ?_⟩
      show w.heap[(0 : Nat)]? = _
      rw [hb, ← key]
    | _ => cases hv0
end Go.Proofs.YtndnpmlhofijjaaDoor
