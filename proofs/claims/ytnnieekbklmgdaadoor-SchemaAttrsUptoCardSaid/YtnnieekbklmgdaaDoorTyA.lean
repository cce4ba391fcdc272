/- Layer 11: types as data, how memory holds them, and that every argument holds one. -/
import Derived.Test.YtnnieekbklmgdaaDoorLow
namespace Go.Proofs.YtnnieekbklmgdaaDoor
open Go Go.Eng
open Int renaming reduceEq → Zaa, reduceToNat → Zaw, reduceLE → Zax, reduceLT → Zay, reduceAdd → Zaz, reduceSub → Za0, reduceNeg → Za1, reducePow → Za3, reduceNegSucc → Za5
open UInt8 renaming reduceOfNat → Zab
open Go.Eng renaming subG → Zac, lit → Zad, isPar → Zae, numb → Zaf, Wf → Zag, resV → Zah, oneCell → Zai, isB → Zaj, asB → Zak
open List renaming mapM_cons → Zal, mapM_nil → Zam
open Go.Value renaming cells → Zan
open Nat renaming reduceAdd → Zao, reduceMul → Zap, reduceMod → Zaq, reduceDiv → Zar, reduceEqDiff → Zas, reduceBEq → Zat, reduceLeDiff → Zau, reduceSub → Zav, reducePow → Za2, reduceLT → Za4
set_option linter.unusedSimpArgs false
set_option linter.unusedVariables false
set_option maxRecDepth 20000

inductive Ty where
  | mk (kind : Int) (name : List UInt8) (elem : List Ty) (attrs : List (List UInt8 × Ty × Bool)) : Ty
abbrev At := List UInt8 × Ty × Bool
def Ty.kind : Ty → Int | .mk k _ _ _ => k
def Ty.name : Ty → List UInt8 | .mk _ n _ _ => n
def Ty.elem : Ty → List Ty | .mk _ _ e _ => e
def Ty.attrs : Ty → List At | .mk _ _ _ a => a

inductive RepT (F : Base) : List Value → Ty → Prop
  | mk (k : Int) (nm : List UInt8) (a1 : Option Addr) (c1 : Nat) (a2 : Option Addr) (c2 : Nat) (es : List Ty) (ats : List At) (g1 g2 : Nat → List Value)
      (hk : -9223372036854775808 ≤ k ∧ k ≤ 9223372036854775807) (hn : nm.length ≤ 9223372036854775807 ∧ ∀ (i : Nat) (x : At), ats[i]? = some x → x.1.length ≤ 9223372036854775807) (hl1 : es.length ≤ 9223372036854775807) (hl2 : ats.length ≤ 9223372036854775807) (hc1 : es.length ≤ c1) (hc2 : ats.length ≤ c2)
      (h1 : ∀ (i : Nat) (t : Ty), es[i]? = some t → Cl F a1 4 i (g1 i)) (r1 : ∀ (i : Nat) (t : Ty), es[i]? = some t → RepT F (g1 i) t)
      (h2 : ∀ (i : Nat) (x : At), ats[i]? = some x → Cl F a2 6 i (.string (bs x.1) :: (g2 i ++ [.bool x.2.2]))) (r2 : ∀ (i : Nat) (x : At), ats[i]? = some x → RepT F (g2 i) x.2.1) :
      RepT F [.int .i64 k, .string (bs nm), .slice a1 es.length c1, .slice a2 ats.length c2] (.mk k nm es ats)
theorem RepT.mono {F F' : Base} (hF : ∀ b o, F b = some o → F' b = some o) {cs : List Value} {t : Ty} (h : RepT F cs t) : RepT F' cs t := by
  induction h with
  | mk k nm a1 c1 a2 c2 es ats g1 g2 hk hn hl1 hl2 hc1 hc2 h1 r1 h2 r2 i1 i2 =>
    exact .mk k nm a1 c1 a2 c2 es ats g1 g2 hk hn hl1 hl2 hc1 hc2 (fun i t h => (h1 i t h).mono hF) i1 (fun i t h => (h2 i t h).mono hF) i2

theorem RepT.form {F : Base} {cs : List Value} {t : Ty} (h : RepT F cs t) : ∃ k nm a1 n1 c1 a2 n2 c2, cs = [.int .i64 k, .string (bs nm), .slice a1 n1 c1, .slice a2 n2 c2] := by
  cases h; exact ⟨_, _, _, _, _, _, _, _, rfl⟩
/-! ### Opening -/
theorem cells55 : Tryd.prog.cellsOf 55 = 4 := by kernel_rfl
theorem cells3 : Tryd.prog.cellsOf 3 = 1 := by kernel_rfl
theorem cells9 : Tryd.prog.cellsOf 9 = 1 := by kernel_rfl
theorem cells53 : Tryd.prog.cellsOf 53 = 1 := by kernel_rfl
theorem cells31 : Tryd.prog.cellsOf 31 = 1 := by kernel_rfl
theorem cells74 : Tryd.prog.cellsOf 74 = 6 := by kernel_rfl
theorem cells4 : Tryd.prog.cellsOf 4 = 1 := by kernel_rfl
theorem maxLen_eq : maxLen = 9223372036854775807 := by decide
/-- Every argument of this type holds a type. -/
theorem open_ty {H : Type} {enc : TypeId × Value → H} {w : World} {spare : Nat → Bool} {held : Bool} : ∀ (fuel : Nat) (cs : List Value) (x : DataW H × List MemPlace), DataW.trod enc Tryd.prog w 0 spare held fuel 55 cs = some x → ∃ t, RepT (fun b => w.heap[b]?) cs t := by
  intro fuel
  induction fuel using Nat.strongRecOn with
  | _ fuel ih =>
    intro cs x h
    obtain ⟨xs, n, hf, _, hlen, _, hfs⟩ := DataW.trod_struct Tryd.underlying55 h
    rw [cells55] at hlen
    have hxs : xs.length = 4 := by assumption
    match cs, hlen with
    | [v0, v1, v2, v3], _ =>
      have f0 : DataW.trod enc Tryd.prog w 0 spare held n 3 (List.take (Tryd.prog.cellsOf 3) (List.drop 0 [v0, v1, v2, v3])) = xs[0]? := hfs 0 _ rfl
      have f1 : DataW.trod enc Tryd.prog w 0 spare held n 9 (List.take (Tryd.prog.cellsOf 9) (List.drop 1 [v0, v1, v2, v3])) = xs[1]? := hfs 1 _ rfl
      have f2 : DataW.trod enc Tryd.prog w 0 spare held n 53 (List.take (Tryd.prog.cellsOf 53) (List.drop 2 [v0, v1, v2, v3])) = xs[2]? := hfs 2 _ rfl
      have f3 : DataW.trod enc Tryd.prog w 0 spare held n 31 (List.take (Tryd.prog.cellsOf 31) (List.drop 3 [v0, v1, v2, v3])) = xs[3]? := hfs 3 _ rfl
      rw [List.getElem?_eq_getElem (by omega)] at f0 f1 f2 f3
      simp only [cells3, cells9, cells53, cells31, List.drop_zero, List.drop_succ_cons, List.take_succ_cons, List.take_zero] at f0 f1 f2 f3
      obtain ⟨k, e0, _, hk⟩ := DataW.trod_int Tryd.underlying3 f0
      obtain ⟨s, e1, _, hs⟩ := DataW.trod_string Tryd.underlying9 f1
      obtain ⟨a1, es, c1, g1, e2, hl1, hc1, _, he1, he2⟩ := open_slice (R := RepT (fun b => w.heap[b]?)) Tryd.underlying53 cells55 (by omega) f2 (fun m cs' y hm hy => ih m (by omega) cs' y hy)
      obtain ⟨a2, ats, c2, g2, e3, hl2, hc2, _, ha1, ha2⟩ := open_slice (α := At × List Value) (R := fun cs z => cs = .string (bs z.1.1) :: (z.2 ++ [.bool z.1.2.2]) ∧ RepT (fun b => w.heap[b]?) z.2 z.1.2.1 ∧ z.1.1.length ≤ 9223372036854775807) Tryd.underlying31 cells74 (by omega) f3 (fun m cs' y hm hy => by
        obtain ⟨ys, n', hf', _, hlen', hys, hfs'⟩ := DataW.trod_struct Tryd.underlying74 hy
        rw [cells74] at hlen'
        have hys' : ys.length = 3 := hys
        match cs', hlen' with
        | [u0, u1, u2, u3, u4, u5], _ =>
          have k0 : DataW.trod enc Tryd.prog w 0 spare held n' 9 (List.take (Tryd.prog.cellsOf 9) (List.drop 0 [u0, u1, u2, u3, u4, u5])) = ys[0]? := hfs' 0 _ rfl
          have k1 : DataW.trod enc Tryd.prog w 0 spare held n' 55 (List.take (Tryd.prog.cellsOf 55) (List.drop 1 [u0, u1, u2, u3, u4, u5])) = ys[1]? := hfs' 1 _ rfl
          have k2 : DataW.trod enc Tryd.prog w 0 spare held n' 4 (List.take (Tryd.prog.cellsOf 4) (List.drop 5 [u0, u1, u2, u3, u4, u5])) = ys[2]? := hfs' 2 _ rfl
          rw [List.getElem?_eq_getElem (by omega)] at k0 k1 k2
          simp only [cells55, cells9, cells4, List.drop_zero, List.drop_succ_cons, List.take_succ_cons, List.take_zero] at k0 k1 k2
          obtain ⟨s, e0, _, hsl⟩ := DataW.trod_string Tryd.underlying9 k0
          obtain ⟨o, e2, _⟩ := DataW.trod_bool Tryd.underlying4 k2
          obtain ⟨t, ht⟩ := ih _ (by omega) _ _ k1
          rw [maxLen_eq] at hsl
          refine ⟨((s.data.toList, t, o), [u1, u2, u3, u4]), ?_, ht, hsl⟩
          simp only [List.cons.injEq, and_true] at e0 e2
          rw [e0, e2]; rfl)
      simp only [List.cons.injEq, and_true] at e0 e1 e2 e3
      refine ⟨.mk k s.data.toList es (ats.map (·.1)), ?_⟩
      rw [e0, e1, e2, e3]
      rw [maxLen_eq] at hs hl1 hl2
      have hlm : ats.length = (ats.map (·.1)).length := by simp
      rw [hlm]
      refine .mk k _ a1 c1 a2 c2 es (ats.map (·.1)) g1 (fun i => ((ats[i]?).map (·.2)).getD []) (wf_i64 hk) ⟨hs, fun i z hz => ?_⟩ hl1 (by rw [List.length_map]; exact hl2) hc1 (by rw [List.length_map]; exact hc2) he1 he2 (fun i z hz => ?_) (fun i z hz => ?_)
      all_goals
        rw [List.getElem?_map] at hz
        cases hy : ats[i]? with
        | none => rw [hy] at hz; cases hz
        | some y =>
          rw [hy] at hz
          simp only [Option.map_some, Option.some.injEq] at hz
          subst hz
          obtain ⟨h1, h2, h3⟩ := ha2 i y hy
          first | exact h3 | skip
          all_goals simp only [Option.map_some, Option.getD_some]
          all_goals first | exact h2 | (rw [← h1]; exact ha1 i y hy)
end Go.Proofs.YtnnieekbklmgdaaDoor
