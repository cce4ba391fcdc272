/- Layer 10: what is known of the signs when a law begins. -/
import Derived.Test.YtoelfmmfjebabaaDoorPnZ
import Derived.Test.YtoelfmmfjebabaaDoorRows
import Derived.LaidLaws
import Derived.LaidMore
import Derived.MakeChecks
import Derived.OpenShut
import Derived.WideKeyElems2
import Derived.MapFrom
namespace Go.Proofs.YtoelfmmfjebabaaDoor
open Go
set_option linter.unusedSimpArgs false
set_option linter.unusedVariables false
set_option maxRecDepth 20000

theorem hasM_of {w : World} (hsh : w.ShapedOpen Tryd.prog) : HasM (fun b => w.heap[b]?) := by
  obtain ⟨m, h⟩ := Go.Proofs.cell_of_shapedOpen_int (g := 1) (zero := #[.int .i64 0]) (t := 3) hsh (of_decide_eq_true (by kernel_rfl)) (by kernel_rfl) rfl (by kernel_rfl) (by kernel_rfl) Tryd.underlying3
  unfold World.cell? at h
  split at h
  · rename_i c T fz hb
    exact ⟨c, T, fz, m, hb, by simpa using h⟩
  · simp at h
def signsL : List (Int × Str) := [(4, [32, 38, 38, 32]), (5, [32, 124, 124, 32]), (8, [32, 61, 61, 32]), (9, [32, 60, 32]), (10, [32, 60, 61, 32]), (11, [32, 43, 32]), (12, [32, 45, 32]), (13, [32, 42, 32]), (15, [32, 105, 110, 32])]
theorem sg_laid : Rows.laid_chamberlain_printer_signs (H := Unit) = .map (signsL.map fun p => (.int .i64 p.1, .lit (.string p.2))) := by kernel_rfl
theorem sg_global : Tryd.prog.globalNamed "chamberlain/printer.signs" = some 0 := by kernel_rfl
theorem sg_type : (Tryd.prog.globals[0]?).map (·.type) = some 67 := by kernel_rfl
theorem sg_mem {k : Int} {s : Str} (h : (k, s) ∈ signsL) : isTwo k = true ∧ signT k = s := by
  simp only [signsL, List.mem_cons, List.not_mem_nil, or_false, Prod.mk.injEq] at h
  rcases h with ⟨rfl, rfl⟩ | ⟨rfl, rfl⟩ | ⟨rfl, rfl⟩ | ⟨rfl, rfl⟩ | ⟨rfl, rfl⟩ | ⟨rfl, rfl⟩ | ⟨rfl, rfl⟩ | ⟨rfl, rfl⟩ | ⟨rfl, rfl⟩ <;> exact ⟨rfl, rfl⟩
theorem sg_in {k : Int} (h : isTwo k = true) : (k, signT k) ∈ signsL := by
  simp only [isTwo, Bool.or_eq_true, beq_iff_eq] at h
  rcases h with (((((((rfl | rfl) | rfl) | rfl) | rfl) | rfl) | rfl) | rfl) | rfl <;> decide
theorem signs_es {w : World} {es : Array MapEntry} {clock n : Nat} (hf : WideElems.Fit Tryd.prog 3 (WideElems.elemAt (H := Unit) (fun _ => ()) Tryd.prog w 0 (fun _ => true) false n 9) es clock)
    (hl : (es.toList.map (WideElems.rg Tryd.prog 3 (WideElems.elemAt (H := Unit) (fun _ => ()) Tryd.prog w 0 (fun _ => true) false n 9))).foldr DataW.insert [] = signsL.map fun p => (.int .i64 p.1, .lit (.string p.2))) :
    (∀ e ∈ es.toList, ∃ k, isTwo k = true ∧ e.key = .int .i64 k ∧ e.val = .string (Eng.bs (signT k))) ∧ ∀ k, isTwo k = true → ∃ e ∈ es.toList, e.key = .int .i64 k := by
  have hp := WideShapes.sorted_perm (es.toList.map (WideElems.rg Tryd.prog 3 (WideElems.elemAt (H := Unit) (fun _ => ()) Tryd.prog w 0 (fun _ => true) false n 9)))
  rw [hl] at hp
  have key : ∀ e ∈ es.toList, ∀ k s, WideElems.rg Tryd.prog 3 (WideElems.elemAt (H := Unit) (fun _ => ()) Tryd.prog w 0 (fun _ => true) false n 9) e = (.int .i64 k, .lit (.string s)) → e.key = .int .i64 k ∧ e.val = .string (Eng.bs s) := by
    intro e he k s h
    obtain ⟨y, hy⟩ := hf.reads e he
    rw [WideElems.rg_of hy] at h
    subst h
    have h1 := WideElems.rd_key hy
    obtain ⟨z, h2, h3⟩ := WideElems.rd_val hy
    constructor
    · rw [keyOf_int Tryd.underlying3] at h1
      unfold mapKey at h1
      rw [Tryd.underlying3] at h1
      split at h1
      · rename_i hA hB; cases hA
      · rename_i q q' m hA hB
        simp only [Option.some.injEq, TypeDesc.int.injEq] at hA
        subst hA
        split at h1
        · rename_i hq
          simp only [Option.some.injEq, Lit.int.injEq, true_and] at h1
          rw [hB, hq.1, h1]
        · cases h1
      · rename_i hA hB; cases hA
      · cases h1
    · unfold WideElems.elemAt at h2
      split at h2
      · rename_i hfm
        obtain ⟨b, e0, e1, -⟩ := DataW.trod_string Tryd.underlying9 h2
        rw [e1] at h3
        simp only [DataW.lit.injEq, Lit.string.injEq] at h3
        cases hv : e.val with
        | agg cs => rw [hv] at hfm; simp [Value.formed, Tryd.underlying9] at hfm
        | string v =>
          rw [hv] at e0
          simp only [Value.cells, List.cons.injEq, Value.string.injEq, and_true] at e0
          subst e0
          rw [h3]
          cases v; rfl
        | _ => rw [hv] at e0; simp [Value.cells] at e0
      · cases h2
  refine ⟨fun e he => ?_, fun k hk => ?_⟩
  · have h1 := hp.mem_iff.2 (List.mem_map_of_mem (f := WideElems.rg Tryd.prog 3 (WideElems.elemAt (H := Unit) (fun _ => ()) Tryd.prog w 0 (fun _ => true) false n 9)) he)
    obtain ⟨p, hp1, hp2⟩ := List.mem_map.1 h1
    obtain ⟨q1, q2⟩ := key e he p.1 p.2 hp2.symm
    obtain ⟨r1, r2⟩ := sg_mem (k := p.1) (s := p.2) hp1
    exact ⟨p.1, r1, q1, by rw [r2]; exact q2⟩
  · have h1 := hp.mem_iff.1 (List.mem_map_of_mem (f := fun p : Int × Str => ((.int .i64 p.1, .lit (.string p.2)) : Lit × DataW Unit)) (sg_in hk))
    obtain ⟨e, he, h2⟩ := List.mem_map.1 h1
    exact ⟨e, he, (key e he _ _ h2).1⟩
theorem hasSigns_of {w : World} {a c : String × DataW Unit} (ha : a.2.handleName?.isNone = true) (hc : c.2.handleName?.isNone = true) (h : laidMetH Tryd.prog [a, ("chamberlain/printer.signs", Rows.laid_chamberlain_printer_signs), c] w) : HasSigns (fun b => w.heap[b]?) := by
  rw [MakeChecks.laidMetH_plain _ _ _ (by simp only [List.all_cons, List.all_nil, ha, hc]; kernel_rfl)] at h
  obtain ⟨ps, ⟨-, -, -, -, -, q, -, -, -, -, h, -⟩, -, -⟩ := h
  obtain ⟨g0, t0, cs0, f0, p0, q0, hg0, ht0, hv0, hd0, -, -⟩ := h
  obtain rfl := Option.some.inj (sg_global.symm.trans hg0)
  obtain rfl := Option.some.inj (sg_type.symm.trans ht0)
  rw [sg_laid] at hd0
  rcases WideElems.open_map Tryd.underlying67 hd0 with ⟨-, hx⟩ | ⟨b, es, clock, n, -, hcs, hb, -, hF, hx⟩
  · cases hx
  · simp only [Prod.mk.injEq, DataW.map.injEq] at hx
    obtain ⟨k1, k2⟩ := signs_es hF hx.1.symm
    simp only [World.var?, hg0, Option.bind_some] at hv0
    cases hbg : w.heap[(0 : Nat)]? with
    | none => rw [hbg] at hv0; cases hv0
    | some o =>
      rw [hbg] at hv0
      cases o with
      | cells cc T fz =>
        simp only [Option.some.injEq] at hv0
        subst hv0
        refine ⟨b, es, clock, T, fz, ?_, hb, fun k => ?_⟩
        · show w.heap[(0 : Nat)]? = _
          rw [hbg]
          congr 2
          apply Array.toList_inj.1
          rw [hcs]
        · rcases MapKept.findNow_spec (d := .int .i64) (k := .int .i64 k) rfl es.toList 0 (fun x hx => by
            obtain ⟨m, -, hm, -⟩ := k1 x hx
            rw [hm]; rfl) with ⟨h1, h2⟩ | ⟨j, e, h1, h2, h3⟩
          · refine ⟨0, ?_⟩
            rw [h1]
            cases hk : isTwo k with
            | false => rfl
            | true =>
              obtain ⟨e, he, hke⟩ := k2 k hk
              exact absurd hke (h2 e he)
          · obtain ⟨m, hm1, hm2, hm3⟩ := k1 e (List.mem_of_getElem? h2)
            rw [h3] at hm2
            simp only [Value.int.injEq, true_and] at hm2
            subst hm2
            exact ⟨_, by rw [h1, hm1, hm3]; rfl⟩
      | _ => cases hv0
end Go.Proofs.YtoelfmmfjebabaaDoor
