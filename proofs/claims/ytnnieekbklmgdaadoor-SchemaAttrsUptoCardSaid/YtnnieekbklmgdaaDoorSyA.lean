/- Layer 12: schemas as data, how memory holds them, and that every argument holds one. -/
import Derived.Test.YtnnieekbklmgdaaDoorTyJ
namespace Go.Proofs.YtnnieekbklmgdaaDoor
open Go Go.Eng
open Int renaming reduceEq → Zaa, reduceToNat → Zaw, reduceLE → Zax, reduceLT → Zay, reduceAdd → Zaz, reduceSub → Za0, reduceNeg → Za1, reducePow → Za3, reduceNegSucc → Za5
open UInt8 renaming reduceOfNat → Zab
open Go.Eng renaming subG → Zac, lit → Zad, isPar → Zae, numb → Zaf, Wf → Zag, resV → Zah, oneCell → Zai, isB → Zaj, asB → Zak
open List renaming mapM_cons → Zal, mapM_nil → Zam
open Go.Value renaming cells → Zan
open Nat renaming reduceAdd → Zao, reduceMul → Zap, reduceMod → Zaq, reduceDiv → Zar, reduceEqDiff → Zas, reduceBEq → Zat, reduceLeDiff → Zau, reduceSub → Zav, reducePow → Za2, reduceLT → Za4
set_option linter.unusedSimpArgs false
set_option linter.unusedVariables false
set_option maxRecDepth 20000

abbrev Str := List UInt8
/-- What memory holds of a row of texts. -/
def HasS (F : Base) (a : Option Addr) (l : List Str) : Prop := (∀ (i : Nat) (s : Str), l[i]? = some s → Cl F a 1 i [.string (bs s)]) ∧ ∀ (i : Nat) (s : Str), l[i]? = some s → s.length ≤ 9223372036854775807
theorem HasS.mono {F F' : Base} {a : Option Addr} {l : List Str} (h : HasS F a l) (hF : ∀ b o, F b = some o → F' b = some o) : HasS F' a l := ⟨fun i s hs => (h.1 i s hs).mono hF, h.2⟩
/-- A slice of texts. -/
def SlS (F : Base) (v : Value) (l : List Str) : Prop := ∃ a c, v = .slice a l.length c ∧ l.length ≤ c ∧ l.length ≤ 9223372036854775807 ∧ HasS F a l
theorem SlS.mono {F F' : Base} {v : Value} {l : List Str} (h : SlS F v l) (hF : ∀ b o, F b = some o → F' b = some o) : SlS F' v l := by
  obtain ⟨a, c, h1, h2, h3, h4⟩ := h; exact ⟨a, c, h1, h2, h3, h4.mono hF⟩
/-- A slice of attributes. -/
def SlA (F : Base) (v : Value) (l : List At) : Prop := ∃ a c g, v = .slice a l.length c ∧ l.length ≤ c ∧ l.length ≤ 9223372036854775807 ∧ HasA F a l g ∧ ∀ (i : Nat) (x : At), l[i]? = some x → x.1.length ≤ 9223372036854775807
theorem SlA.mono {F F' : Base} {v : Value} {l : List At} (h : SlA F v l) (hF : ∀ b o, F b = some o → F' b = some o) : SlA F' v l := by
  obtain ⟨a, c, g, h1, h2, h3, h4, h5⟩ := h; exact ⟨a, c, g, h1, h2, h3, h4.mono hF, h5⟩
theorem SlA.rep {F : Base} {v : Value} {l : List At} (h : SlA F v l) : RepT F [.int .i64 8, .string (bs []), .slice none 0 0, v] (.mk 8 [] [] l) := by
  obtain ⟨a, c, g, rfl, h2, h3, h4, h5⟩ := h
  exact RepT.mk 8 [] none 0 a c [] l (fun _ => []) g (by omega) ⟨by simp, h5⟩ (by simp) h3 (by simp) h2 (by simp) (by simp) h4.1 h4.2
structure ET where
  name : Str
  inn : List Str
  attrs : List At
structure AC where
  id : Str
  inn : List Str
  prs : List Str
  res : List Str
  ctx : List At
structure Sch where
  types : List ET
  acts : List AC
def RepE (F : Base) (cs : List Value) (e : ET) : Prop := ∃ v1 v2, cs = [.string (bs e.name), v1, v2] ∧ e.name.length ≤ 9223372036854775807 ∧ SlS F v1 e.inn ∧ SlA F v2 e.attrs
def RepC (F : Base) (cs : List Value) (x : AC) : Prop := ∃ v1 v2 v3 v4, cs = [.string (bs x.id), v1, v2, v3, v4] ∧ x.id.length ≤ 9223372036854775807 ∧ SlS F v1 x.inn ∧ SlS F v2 x.prs ∧ SlS F v3 x.res ∧ SlA F v4 x.ctx
theorem RepE.mono {F F' : Base} {cs : List Value} {e : ET} (h : RepE F cs e) (hF : ∀ b o, F b = some o → F' b = some o) : RepE F' cs e := by
  obtain ⟨v1, v2, h1, h0, h2, h3⟩ := h; exact ⟨v1, v2, h1, h0, h2.mono hF, h3.mono hF⟩
theorem RepC.mono {F F' : Base} {cs : List Value} {x : AC} (h : RepC F cs x) (hF : ∀ b o, F b = some o → F' b = some o) : RepC F' cs x := by
  obtain ⟨v1, v2, v3, v4, h1, h0, h2, h3, h4, h5⟩ := h; exact ⟨v1, v2, v3, v4, h1, h0, h2.mono hF, h3.mono hF, h4.mono hF, h5.mono hF⟩
/-- Rows of entity types, of actions. -/
def HasE (F : Base) (a : Option Addr) (l : List ET) (g : Nat → List Value) : Prop := ∀ (i : Nat) (x : ET), l[i]? = some x → Cl F a 3 i (g i) ∧ RepE F (g i) x
def HasC (F : Base) (a : Option Addr) (l : List AC) (g : Nat → List Value) : Prop := ∀ (i : Nat) (x : AC), l[i]? = some x → Cl F a 5 i (g i) ∧ RepC F (g i) x
theorem HasE.mono {F F' : Base} {a : Option Addr} {l : List ET} {g : Nat → List Value} (h : HasE F a l g) (hF : ∀ b o, F b = some o → F' b = some o) : HasE F' a l g := fun i x hx => ⟨(h i x hx).1.mono hF, (h i x hx).2.mono hF⟩
theorem HasC.mono {F F' : Base} {a : Option Addr} {l : List AC} {g : Nat → List Value} (h : HasC F a l g) (hF : ∀ b o, F b = some o → F' b = some o) : HasC F' a l g := fun i x hx => ⟨(h i x hx).1.mono hF, (h i x hx).2.mono hF⟩
/-- A schema's two cells. -/
inductive RepH (F : Base) : List Value → Sch → Prop
  | mk (a1 a2 : Option Addr) (c1 c2 : Nat) (ts : List ET) (xs : List AC) (g1 g2 : Nat → List Value) (hc1 : ts.length ≤ c1) (hc2 : xs.length ≤ c2) (hl1 : ts.length ≤ 9223372036854775807) (hl2 : xs.length ≤ 9223372036854775807)
      (h1 : HasE F a1 ts g1) (h2 : HasC F a2 xs g2) : RepH F [.slice a1 ts.length c1, .slice a2 xs.length c2] ⟨ts, xs⟩
theorem RepH.mono {F F' : Base} {cs : List Value} {s : Sch} (h : RepH F cs s) (hF : ∀ b o, F b = some o → F' b = some o) : RepH F' cs s := by
  cases h with
  | mk a1 a2 c1 c2 ts xs g1 g2 hc1 hc2 hl1 hl2 h1 h2 => exact .mk a1 a2 c1 c2 ts xs g1 g2 hc1 hc2 hl1 hl2 (h1.mono hF) (h2.mono hF)

/-! ### Opening -/
theorem cellsS : Tryd.prog.cellsOf 30 = 1 := by kernel_rfl
theorem cellsE : Tryd.prog.cellsOf 33 = 3 := by kernel_rfl
theorem cellsC : Tryd.prog.cellsOf 37 = 5 := by kernel_rfl
theorem cellsH : Tryd.prog.cellsOf 25 = 2 := by kernel_rfl
theorem cellsES : Tryd.prog.cellsOf 22 = 1 := by kernel_rfl
theorem cellsCS : Tryd.prog.cellsOf 23 = 1 := by kernel_rfl
section
variable {H : Type} {enc : TypeId × Value → H} {w : World} {spare : Nat → Bool} {held : Bool}
theorem open_str1 {fuel : Nat} {cs : List Value} {x : DataW H × List MemPlace} (h : DataW.trod enc Tryd.prog w 0 spare held fuel 9 cs = some x) : ∃ s : Str, cs = [.string (bs s)] ∧ s.length ≤ 9223372036854775807 := by
  obtain ⟨s, e0, _, hs⟩ := DataW.trod_string Tryd.underlying9 h
  rw [maxLen_eq] at hs
  exact ⟨s.data.toList, e0, hs⟩
theorem open_strs {fuel : Nat} {cs : List Value} {x : DataW H × List MemPlace} (h : DataW.trod enc Tryd.prog w 0 spare held fuel 30 cs = some x) : ∃ v l, cs = [v] ∧ SlS (fun b => w.heap[b]?) v l := by
  obtain ⟨a, l, c, g, e, hl, hc, _, h1, h2⟩ := open_slice (R := fun cs (s : Str) => cs = [.string (bs s)] ∧ s.length ≤ 9223372036854775807) Tryd.underlying30 cells9 (by omega) h (fun m cs' y hm hy => open_str1 hy)
  rw [maxLen_eq] at hl
  exact ⟨_, l, e, a, c, rfl, hc, hl, fun i s hs => by rw [← (h2 i s hs).1]; exact h1 i s hs, fun i s hs => (h2 i s hs).2⟩
theorem open_attrs {fuel : Nat} {cs : List Value} {x : DataW H × List MemPlace} (h : DataW.trod enc Tryd.prog w 0 spare held fuel 31 cs = some x) : ∃ v l, cs = [v] ∧ SlA (fun b => w.heap[b]?) v l := by
  obtain ⟨a2, ats, c2, g2, e3, hl2, hc2, _, ha1, ha2⟩ := open_slice (α := At × List Value) (R := fun cs z => cs = .string (bs z.1.1) :: (z.2 ++ [.bool z.1.2.2]) ∧ RepT (fun b => w.heap[b]?) z.2 z.1.2.1 ∧ z.1.1.length ≤ 9223372036854775807) Tryd.underlying31 cells74 (by omega) h (fun m cs' y hm hy => by
    obtain ⟨ys, n', hf', _, hlen', hys, hfs'⟩ := DataW.trod_struct Tryd.underlying74 hy
    rw [cells74] at hlen'
    have hys' : ys.length = 3 := hys
    match cs', hlen' with
    | [u0, u1, u2, u3, u4, u5], _ =>
      have k0 : DataW.trod enc Tryd.prog w 0 spare held n' 9 (List.take (Tryd.prog.cellsOf 9) (List.drop 0 [u0, u1, u2, u3, u4, u5])) = ys[0]? := hfs' 0 _ rfl
      have k1 : DataW.trod enc Tryd.prog w 0 spare held n' 55 (List.take (Tryd.prog.cellsOf 55) (List.drop 1 [u0, u1, u2, u3, u4, u5])) = ys[1]? := hfs' 1 _ rfl
      have k2 : DataW.trod enc Tryd.prog w 0 spare held n' 4 (List.take (Tryd.prog.cellsOf 4) (List.drop 5 [u0, u1, u2, u3, u4, u5])) = ys[2]? := hfs' 2 _ rfl
      rw [List.getElem?_eq_getElem (by omega)] at k0 k1 k2
      simp only [cells55, cells9, cells4, List.drop_zero, List.drop_succ_cons, List.take_succ_cons, List.take_zero] at k0 k1 k2
      obtain ⟨s, e0, _, hsl⟩ := DataW.trod_string Tryd.underlying9 k0
      obtain ⟨o, e2, _⟩ := DataW.trod_bool Tryd.underlying4 k2
      obtain ⟨t, ht⟩ := open_ty _ _ _ k1
      rw [maxLen_eq] at hsl
      refine ⟨((s.data.toList, t, o), [u1, u2, u3, u4]), ?_, ht, hsl⟩
      simp only [List.cons.injEq, and_true] at e0 e2
      rw [e0, e2]; rfl)
  rw [maxLen_eq] at hl2
  refine ⟨_, ats.map (·.1), e3, a2, c2, fun i => ((ats[i]?).map (·.2)).getD [], by rw [List.length_map], by rw [List.length_map]; exact hc2, by rw [List.length_map]; exact hl2, ⟨fun i z hz => ?_, fun i z hz => ?_⟩, fun i z hz => ?_⟩
  all_goals
    rw [List.getElem?_map] at hz
    cases hy : ats[i]? with
    | none => rw [hy] at hz; cases hz
    | some y =>
      rw [hy] at hz
      simp only [Option.map_some, Option.some.injEq] at hz
      subst hz
      obtain ⟨h1, h2, h3⟩ := ha2 i y hy
      first | exact h3 | skip
      all_goals simp only [hy, Option.map_some, Option.getD_some]
      all_goals first | exact h2 | (rw [← h1]; exact ha1 i y hy)
theorem open_E {fuel : Nat} {cs : List Value} {x : DataW H × List MemPlace} (h : DataW.trod enc Tryd.prog w 0 spare held fuel 33 cs = some x) : ∃ e, RepE (fun b => w.heap[b]?) cs e := by
  obtain ⟨xs, n, hf, _, hlen, hx, hfs⟩ := DataW.trod_struct Tryd.underlying33 h
  rw [cellsE] at hlen
  have hxs : xs.length = 3 := hx
  match cs, hlen with
  | [v0, v1, v2], _ =>
    have f0 : DataW.trod enc Tryd.prog w 0 spare held n 9 (List.take (Tryd.prog.cellsOf 9) (List.drop 0 [v0, v1, v2])) = xs[0]? := hfs 0 _ rfl
    have f1 : DataW.trod enc Tryd.prog w 0 spare held n 30 (List.take (Tryd.prog.cellsOf 30) (List.drop 1 [v0, v1, v2])) = xs[1]? := hfs 1 _ rfl
    have f2 : DataW.trod enc Tryd.prog w 0 spare held n 31 (List.take (Tryd.prog.cellsOf 31) (List.drop 2 [v0, v1, v2])) = xs[2]? := hfs 2 _ rfl
    rw [List.getElem?_eq_getElem (by omega)] at f0 f1 f2
    simp only [cells9, cellsS, cells31, List.drop_zero, List.drop_succ_cons, List.take_succ_cons, List.take_zero] at f0 f1 f2
    obtain ⟨s, e0, hs⟩ := open_str1 f0
    obtain ⟨w1, l1, e1, h1⟩ := open_strs f1
    obtain ⟨w2, l2, e2, h2⟩ := open_attrs f2
    simp only [List.cons.injEq, and_true] at e0 e1 e2
    rw [e0, e1, e2]
    exact ⟨⟨s, l1, l2⟩, w1, w2, rfl, hs, h1, h2⟩
theorem open_C {fuel : Nat} {cs : List Value} {x : DataW H × List MemPlace} (h : DataW.trod enc Tryd.prog w 0 spare held fuel 37 cs = some x) : ∃ e, RepC (fun b => w.heap[b]?) cs e := by
  obtain ⟨xs, n, hf, _, hlen, hx, hfs⟩ := DataW.trod_struct Tryd.underlying37 h
  rw [cellsC] at hlen
  have hxs : xs.length = 5 := hx
  match cs, hlen with
  | [v0, v1, v2, v3, v4], _ =>
    have f0 : DataW.trod enc Tryd.prog w 0 spare held n 9 (List.take (Tryd.prog.cellsOf 9) (List.drop 0 [v0, v1, v2, v3, v4])) = xs[0]? := hfs 0 _ rfl
    have f1 : DataW.trod enc Tryd.prog w 0 spare held n 30 (List.take (Tryd.prog.cellsOf 30) (List.drop 1 [v0, v1, v2, v3, v4])) = xs[1]? := hfs 1 _ rfl
    have f2 : DataW.trod enc Tryd.prog w 0 spare held n 30 (List.take (Tryd.prog.cellsOf 30) (List.drop 2 [v0, v1, v2, v3, v4])) = xs[2]? := hfs 2 _ rfl
    have f3 : DataW.trod enc Tryd.prog w 0 spare held n 30 (List.take (Tryd.prog.cellsOf 30) (List.drop 3 [v0, v1, v2, v3, v4])) = xs[3]? := hfs 3 _ rfl
    have f4 : DataW.trod enc Tryd.prog w 0 spare held n 31 (List.take (Tryd.prog.cellsOf 31) (List.drop 4 [v0, v1, v2, v3, v4])) = xs[4]? := hfs 4 _ rfl
    rw [List.getElem?_eq_getElem (by omega)] at f0 f1 f2 f3 f4
    simp only [cells9, cellsS, cells31, List.drop_zero, List.drop_succ_cons, List.take_succ_cons, List.take_zero] at f0 f1 f2 f3 f4
    obtain ⟨s, e0, hs⟩ := open_str1 f0
    obtain ⟨w1, l1, e1, h1⟩ := open_strs f1
    obtain ⟨w2, l2, e2, h2⟩ := open_strs f2
    obtain ⟨w3, l3, e3, h3⟩ := open_strs f3
    obtain ⟨w4, l4, e4, h4⟩ := open_attrs f4
    simp only [List.cons.injEq, and_true] at e0 e1 e2 e3 e4
    rw [e0, e1, e2, e3, e4]
    exact ⟨⟨s, l1, l2, l3, l4⟩, w1, w2, w3, w4, rfl, hs, h1, h2, h3, h4⟩
theorem open_sch (fuel : Nat) (cs : List Value) (x : DataW H × List MemPlace) (h : DataW.trod enc Tryd.prog w 0 spare held fuel 25 cs = some x) : ∃ s, RepH (fun b => w.heap[b]?) cs s := by
  obtain ⟨xs, n, hf, _, hlen, hx, hfs⟩ := DataW.trod_struct Tryd.underlying25 h
  rw [cellsH] at hlen
  have hxs : xs.length = 2 := hx
  match cs, hlen with
  | [v0, v1], _ =>
    have f0 : DataW.trod enc Tryd.prog w 0 spare held n 22 (List.take (Tryd.prog.cellsOf 22) (List.drop 0 [v0, v1])) = xs[0]? := hfs 0 _ rfl
    have f1 : DataW.trod enc Tryd.prog w 0 spare held n 23 (List.take (Tryd.prog.cellsOf 23) (List.drop 1 [v0, v1])) = xs[1]? := hfs 1 _ rfl
    rw [List.getElem?_eq_getElem (by omega)] at f0 f1
    simp only [cellsES, cellsCS, List.drop_zero, List.drop_succ_cons, List.take_succ_cons, List.take_zero] at f0 f1
    obtain ⟨a1, l1, c1, g1, e1, hl1, hc1, _, p1, p2⟩ := open_slice (R := RepE (fun b => w.heap[b]?)) Tryd.underlying22 cellsE (by omega) f0 (fun m cs' y hm hy => open_E hy)
    obtain ⟨a2, l2, c2, g2, e2, hl2, hc2, _, q1, q2⟩ := open_slice (R := RepC (fun b => w.heap[b]?)) Tryd.underlying23 cellsC (by omega) f1 (fun m cs' y hm hy => open_C hy)
    rw [maxLen_eq] at hl1 hl2
    simp only [List.cons.injEq, and_true] at e1 e2
    rw [e1, e2]
    exact ⟨⟨l1, l2⟩, .mk a1 a2 c1 c2 l1 l2 g1 g2 hc1 hc2 hl1 hl2 (fun i x hx => ⟨p1 i x hx, p2 i x hx⟩) (fun i x hx => ⟨q1 i x hx, q2 i x hx⟩)⟩
end
end Go.Proofs.YtnnieekbklmgdaaDoor
