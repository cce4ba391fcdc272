/- Joined. -/
import Derived.Test.YtnenbihkcjgddaaGreatDoorJf
import Derived.Test.YtnenbihkcjgddaaGreatDoorRows
import Derived.LaidLaws
import Derived.LaidMore
import Derived.MakeChecks
import Derived.OpenShut
import Derived.ChangeArms
import Derived.FnData
import Derived.Test.YtnenbihkcjgddaaGreatDoorJh
set_option linter.unusedSectionVars false
namespace Go.Proofs.YtnenbihkcjgddaaGreatDoor
open Go
set_option linter.unusedSimpArgs false
set_option linter.unusedVariables false
set_option maxRecDepth 20000
theorem lx_laid : Rows.laid_chamberlain_lex_marks (H := Unit) = .agg (marksL.map fun m => .lit (.string m)) := by kernel_rfl
theorem lx_global : Tryz.prog.globalNamed "chamberlain/lex.marks" = some 0 := by kernel_rfl
theorem lx_type : (Tryz.prog.globals[0]?).map (·.type) = some 110 := by kernel_rfl
theorem lx_cells : Tryz.prog.cellsOf 9 = 1 := by kernel_rfl
theorem lx_cells2 : Tryz.prog.cellsOf 110 = 23 := by kernel_rfl
theorem hasMarks_of {w : World} (h : laidMetH Tryz.prog [("chamberlain/lex.marks", Rows.laid_chamberlain_lex_marks)] w) : HasMarks (fun b => w.heap[b]?) := by
 rw [MakeChecks.laidMetH_plain _ _ _ (by kernel_rfl)] at h
 obtain ⟨ps, ⟨g0, t0, cs0, f0, p0, q0, hg0, ht0, hv0, hd0, -, -⟩, -, -⟩ := h
 obtain rfl := Option.some.inj (lx_global.symm.trans hg0)
 obtain rfl := Option.some.inj (lx_type.symm.trans ht0)
 obtain ⟨xs, m1, rfl, hx1, hlen, hn3, hel⟩ := DataW.trod_array Tryz.underlying110 hd0
 rw [lx_laid] at hx1
 rw [lx_cells2] at hlen
 simp only [Prod.mk.injEq, DataW.agg.injEq] at hx1
 have key : cs0.toList = marksL.map fun x => Value.string (Eng.bs x) := by
  apply List.ext_getElem?
  intro i
  rcases Nat.lt_or_ge i 23 with hi | hi
  ·have h0 := hel i hi
   rw [lx_cells, Nat.mul_one] at h0
   obtain ⟨x, hx⟩ : ∃ x, xs[i]? = some x := ⟨_, List.getElem?_eq_getElem (by omega)⟩
   rw [hx] at h0
   obtain ⟨s, e1, e2, -⟩ := DataW.trod_string Tryz.underlying9 h0
   have h2 : (marksL.map fun m => (DataW.lit (Lit.string m) : DataW Unit))[i]? = some (.lit (.string s.data.toList)) := by
    rw [hx1.1, List.getElem?_map, hx, e2]; rfl
   have hi2 : i < marksL.length := hi
   rw [List.getElem?_map, List.getElem?_eq_getElem hi2] at h2
   simp only [Option.map_some, Option.some.injEq, DataW.lit.injEq] at h2
   rw [List.getElem?_map, List.getElem?_eq_getElem hi2, ← List.head?_drop]
   have h3 : (cs0.toList.drop i).head? = ((cs0.toList.drop i).take 1).head? := by cases cs0.toList.drop i <;> rfl
   rw [h3, e1]
   simp only [List.head?_cons, Option.map_some, Option.some.injEq, Value.string.injEq]
   have h4 : marksL[i] = s.data.toList := by simpa using h2
   rw [h4]
   cases s; rfl
  ·rw [List.getElem?_eq_none (by omega), List.getElem?_eq_none (by rw [List.length_map]; exact hi)]
 simp only [World.var?, hg0, Option.bind_some] at hv0
 cases hb : w.heap[(0 : Nat)]? with
 | none => rw [hb] at hv0; cases hv0
 | some o =>
  rw [hb] at hv0
  cases o with
  | cells c T fz =>
   simp only [Option.some.injEq] at hv0
   subst hv0
   refine ⟨T, fz, ?_⟩
   show w.heap[(0 : Nat)]? = _
   rw [hb, ← key]
  | _ => cases hv0
theorem hasM_of {w : World} (hsh : w.ShapedOpen Tryz.prog) : HasMx (fun b => w.heap[b]?) := by
 obtain ⟨m, h⟩ := Go.Proofs.cell_of_shapedOpen_int (g := 1) (zero := #[.int .i64 0]) (t := 3) hsh (of_decide_eq_true (by kernel_rfl)) (by kernel_rfl) rfl (by kernel_rfl) (by kernel_rfl) Tryz.underlying3
 unfold World.cell? at h
 split at h
 ·rename_i c T fz hb
  exact ⟨c, T, fz, m, hb, by simpa using h⟩
 ·simp at h
end Go.Proofs.YtnenbihkcjgddaaGreatDoor
namespace Go.Proofs.YtnenbihkcjgddaaGreatDoor
open Go Go.Eng
set_option maxHeartbeats 1000000
set_option linter.unusedSimpArgs false
set_option linter.unusedVariables false
set_option maxRecDepth 20000
def tp1 : Str := [112, 101, 114, 109, 105, 116, 40, 112, 114, 105, 110, 99, 105, 112, 97, 108, 44, 32, 97, 99, 116, 105, 111, 110, 44, 32, 114, 101, 115, 111, 117, 114, 99, 101, 41, 59]
def tp2 : Str := [112, 101, 114, 109, 105, 116, 40, 112, 114, 105, 110, 99, 105, 112, 97, 108, 32, 61, 61, 32, 63, 114, 101, 115, 111, 117, 114, 99, 101, 44, 32, 97, 99, 116, 105, 111, 110, 44, 32, 114, 101, 115, 111, 117, 114, 99, 101, 41, 59]
def tp3 : Str := [64, 105, 100, 40, 34, 120, 34, 41, 32, 102, 111, 114, 98, 105, 100, 40, 112, 114, 105, 110, 99, 105, 112, 97, 108, 32, 105, 115, 32, 65, 58, 58, 66, 32, 105, 110, 32, 63, 112, 114, 105, 110, 99, 105, 112, 97, 108, 44, 32, 97, 99, 116, 105, 111, 110, 32, 105, 110, 32, 91, 65, 99, 116, 105, 111, 110, 58, 58, 34, 97, 34, 93, 44, 32, 114, 101, 115, 111, 117, 114, 99, 101, 41, 32, 119, 104, 101, 110, 32, 123, 32, 116, 114, 117, 101, 32, 125, 32, 117, 110, 108, 101, 115, 115, 32, 123, 32, 112, 114, 105, 110, 99, 105, 112, 97, 108, 32, 61, 61, 32, 63, 112, 114, 105, 110, 99, 105, 112, 97, 108, 32, 125, 59]
def xPP : Ex' := twoX 8 (.mk 2 lv0 prN [] []) (.mk 3 lv0 prN [] [])
def xA : Pol := ⟨[112, 111, 108, 105, 99, 121, 48], true, sc0, sc0, sc0, []⟩
theorem polsA : polsS tp1 = ([xA], 0, 0) := by kernel_rfl
theorem polsB : polsS tp2 = ([], 32, 20) := by kernel_rfl
def xC : Pol := ⟨[120], false, ⟨4, [65, 58, 58, 66], [], [], true, []⟩, ⟨5, [], [], [], false, [([65, 99, 116, 105, 111, 110], [97])]⟩, sc0, [(true, litX ⟨1, true, 0, [], [], []⟩), (false, xPP)]⟩
theorem polsC : polsS tp3 = ([xC], 0, 0) := by kernel_rfl
theorem pslots_pure (F : Base) (x : Pol) {va vc : Value} (hva : oneCell va = true) (hvc : oneCell vc = true) : PureV Tryz.prog F 13 #[.agg (polC x v0 va v0 vc).toArray] (.tuple #[.bool x.p.slot, .bool x.r.slot]) := by
 refine pureV_of_svc (args := [.agg (polC x v0 va v0 vc).toArray]) mixed Tryz.func13 low13 (Nat.le_of_ble_eq_true rfl) (fun w0 => ?_)
 simp only [*, fu13, ↓ZD, ZW, RO, simprocAttr]
 refine NewB.n ?_
 rintro b1 - hF1
 simp only [*, ↓ZD, ZW, RO, simprocAttr]
theorem awake_pure (F : Base) (hg : HasMarks F) (hMx : HasMx F) : PureV Tryz.prog F 6 #[] (.bool true) := by
 refine pureV_of_svc (args := []) mixed Tryz.func6 low6 (Nat.le_of_ble_eq_true rfl) (fun w0 => ?_)
 simp only [*, fu6, ↓ZD, ZW, RO, simprocAttr]
 refine CallE.mk0 (pparse_does F hg hMx tp1 (by decide)) ?_
 rw [polsA]
 rintro _ G1 ⟨v1, rfl, gs1, ⟨a1, c1, rfl, -, -, k1⟩, r1⟩ -
 obtain ⟨g1, hg1, va1, vc1, rfl, -, -⟩ := r1.at (i := 0) rfl
 have e1 := r1.len
 replace k1 := k1 0 _ hg1
 rw [e1]
 clear r1 e1 hg1
 simp only [*, ↓ZD, ZW, RO, simprocAttr]
 refine CallE.mk0 (pparse_does F hg hMx tp2 (by decide)) ?_
 rw [polsB]
 rintro _ G2 ⟨v2, rfl, gs2, ⟨a2, c2, rfl, -, -, -⟩, r2⟩ -
 have e2 := r2.len
 rw [e2]
 clear r2 e2
 replace k1 := k1.mono fun b o h => rdObj_app1 (Hx := G2) h
 generalize G1 ++ G2 = G at *
 simp only [*, ↓ZD, ZW, RO, simprocAttr]
 refine CallE.mk0 (pparse_does F hg hMx tp3 (by decide)) ?_
 rw [polsC]
 rintro _ G3 ⟨v3, rfl, gs3, ⟨a3, c3, rfl, -, -, k3⟩, r3⟩ dj
 obtain ⟨g3, hg3, va3, vc3, rfl, u3, s3⟩ := r3.at (i := 0) rfl
 have e3 := r3.len
 replace k3 := k3 0 _ hg3
 rw [e3]
 clear r3 e3 hg3
 obtain ⟨au, cu, rfl, -⟩ := u3
 obtain ⟨gc, ⟨ac, cc, rfl, -⟩, rc⟩ := s3
 have ec := rc.len
 rw [ec] at k3
 clear rc ec
 replace k1 := k1.mono fun b o h => rdObj_app1 (Hx := G3) h
 replace k3 := k3.mono fun b o h => rdObj_r (Dj.iff.1 dj) h
 generalize G ++ G3 = G4 at *
 clear dj
 obtain ⟨b1, o1, rfl, l1, l1'⟩ := k1.all
 obtain ⟨b3, o3, rfl, l3, l3'⟩ := k3.all
 replace l1' := fun o h => l1' o h []
 replace l3' := fun o h => l3' o h []
 replace l3 := fun o m h => l3 o m h []
 simp only [ldV_flat] at l1' l3' l3
 clear l1
 have A0 := l1' 0 (by decide)
 have A1 := l1' 1 (by decide)
 have B0 := l3' 0 (by decide)
 have B2 := l3' 2 (by decide)
 have B3 := l3' 3 (by decide)
 have B13 := l3' 13 (by decide)
 have B20 := l3' 20 (by decide)
 have B := l3 0 21 (by decide)
 clear l1' l3' l3 k1 k3
 simp only [Nat.zero_mul, Nat.add_zero, List.getD_cons_zero, List.getD_cons_succ, List.drop_zero, xA, xC, sc0, List.map_cons, List.map_nil, List.length_cons, List.length_nil, Nat.zero_add, Nat.reduceAdd, List.take_succ_cons, List.take_zero] at A0 A1 B0 B2 B3 B13 B20 B
 simp only [*, ↓A0, ↓A1, ↓ZD, ZW, RO, simprocAttr]
 refine CallE.pureH (pslots_pure _ xC (va := .slice au 1 cu) (vc := .slice ac 2 cc) rfl rfl) ?_
 simp only [*, ↓A0, ↓A1, ↓B0, ↓B2, ↓B3, ↓B13, ↓B20, ↓B, xA, xC, List.map_cons, List.map_nil, ↓ZD, ZW, RO, simprocAttr]
 rfl
theorem reads_law (F : Base) (hg : HasMarks F) (hMx : HasMx F) (t : Str) (ht : t.length ≤ 9223372036854775807) : PureV Tryz.prog F 3 #[.string (bs t)] (.bool true) := by
 refine pureV_of_svc (args := [.string (bs t)]) mixed Tryz.func3 low3 (Nat.le_of_ble_eq_true rfl) (fun w0 => ?_)
 simp only [*, fu3, ↓ZD, ZW, RO, simprocAttr]
 refine CallE.pure (awake_pure F hg hMx) ?_
 simp only [*, ↓ZD, ZW, RO, simprocAttr]
 intro hl
 refine CallE.mk0 (pparse_does F hg hMx t ht) ?_
 rintro _ G1 ⟨v1, rfl, s1⟩ -
 simp only [*, ↓ZD, ZW, RO, simprocAttr]
 refine CallE.mk0 (qparse_does F t ht) ?_
 rintro _ G2 ⟨v2, rfl, s2⟩ dj
 replace s1 := s1.mono fun b o h => rdObj_app1 (Hx := G2) h
 replace s2 := s2.mono fun b o h => rdObj_r (Dj.iff.1 dj) h
 generalize polsS t = R at *
 generalize G1 ++ G2 = G at *
 clear dj
 simp only [*, beq_self_eq_true, eq_self, ↓ZD, ZW, RO, simprocAttr]
 refine CallQ.of _ (sameps_pure _ R.1 s1 s2) ?_
 simp only [*, ↓ZD, ZW, RO, simprocAttr]
theorem scopes_law (F : Base) (hg : HasMarks F) (hMx : HasMx F) (a b c d : Str) (ha : a.length ≤ 9223372036854775807) (hb : b.length ≤ 9223372036854775807) (hc : c.length ≤ 9223372036854775807) (hd : d.length ≤ 9223372036854775807) :
  PureV Tryz.prog F 4 #[.string (bs a), .string (bs b), .string (bs c), .string (bs d)] (.bool true) := by
 refine pureV_of_svc (args := [.string (bs a), .string (bs b), .string (bs c), .string (bs d)]) mixed Tryz.func4 low4 (Nat.le_of_ble_eq_true rfl) (fun w0 => ?_)
 simp only [*, fu4, ↓ZD, ZW, RO, simprocAttr]
 refine CallE.pure (awake_pure F hg hMx) ?_
 simp only [*, ↓ZD, ZW, RO, simprocAttr]
 intro hl
 simp only [Bool.or_eq_false_iff, decide_eq_false_iff_not] at hl
 obtain ⟨⟨⟨l1, l2⟩, l3⟩, l4⟩ := hl
 repeat' (refine conj.of (by (try simp only [List.length_append, List.length_cons, List.length_nil]); omega) ?_; simp only [*, ↓ZD, ZW, RO, simprocAttr])
 obtain ⟨t, ht, ht2⟩ : ∃ t, t = 112 :: 101 :: 114 :: 109 :: 105 :: 116 :: 40 :: 112 :: 114 :: 105 :: 110 :: 99 :: 105 :: 112 :: 97 :: 108 :: 32 :: (a ++ [44, 32, 97, 99, 116, 105, 111, 110, 32] ++ b ++ [44, 32, 114, 101, 115, 111, 117, 114, 99, 101, 32] ++ c ++ [41, 32, 119, 104, 101, 110, 32, 123] ++ d ++ [125, 59]) ∧ t.length ≤ 9223372036854775807 := ⟨_, rfl, by simp only [List.length_append, List.length_cons, List.length_nil]; omega⟩
 rw [← ht]
 clear ht
 refine CallE.mk0 (pparse_does F hg hMx t ht2) ?_
 rintro _ G1 ⟨v1, rfl, s1⟩ -
 simp only [*, ↓ZD, ZW, RO, simprocAttr]
 refine CallE.mk0 (qparse_does F t ht2) ?_
 rintro _ G2 ⟨v2, rfl, s2⟩ dj
 replace s1 := s1.mono fun b o h => rdObj_app1 (Hx := G2) h
 replace s2 := s2.mono fun b o h => rdObj_r (Dj.iff.1 dj) h
 generalize polsS t = R at *
 generalize G1 ++ G2 = G at *
 clear dj
 simp only [*, beq_self_eq_true, eq_self, ↓ZD, ZW, RO, simprocAttr]
 refine CallQ.of _ (sameps_pure _ R.1 s1 s2) ?_
 simp only [*, ↓ZD, ZW, RO, simprocAttr]
end Go.Proofs.YtnenbihkcjgddaaGreatDoor
