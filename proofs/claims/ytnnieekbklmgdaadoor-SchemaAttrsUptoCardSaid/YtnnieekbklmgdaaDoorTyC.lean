/- Layer 11: being the same. -/
import Derived.Test.YtnnieekbklmgdaaDoorTyB
namespace Go.Proofs.YtnnieekbklmgdaaDoor
open Go Go.Eng
open Int renaming reduceEq → Zaa, reduceToNat → Zaw, reduceLE → Zax, reduceLT → Zay, reduceAdd → Zaz, reduceSub → Za0, reduceNeg → Za1, reducePow → Za3, reduceNegSucc → Za5
open UInt8 renaming reduceOfNat → Zab
open Go.Eng renaming subG → Zac, lit → Zad, isPar → Zae, numb → Zaf, Wf → Zag, resV → Zah, oneCell → Zai, isB → Zaj, asB → Zak
open List renaming mapM_cons → Zal, mapM_nil → Zam
open Go.Value renaming cells → Zan
open Nat renaming reduceAdd → Zao, reduceMul → Zap, reduceMod → Zaq, reduceDiv → Zar, reduceEqDiff → Zas, reduceBEq → Zat, reduceLeDiff → Zau, reduceSub → Zav, reducePow → Za2, reduceLT → Za4
set_option linter.unusedSimpArgs false
set_option linter.unusedVariables false
set_option maxRecDepth 20000

def nilT : Ty := .mk 0 [] [] []
def nilA : At := ([], nilT, false)
def all2 {α : Type} (p : α → α → Bool) : List α → List α → Bool
  | [], [] => true
  | x :: l, y :: m => p x y && all2 p l m
  | _, _ => false
theorem all2_range {α : Type} (p : α → α → Bool) (d : α) : ∀ l m : List α, all2 p l m = (l.length == m.length && (List.range l.length).all fun i => p (l.getD i d) (m.getD i d))
  | [], [] => rfl
  | [], y :: m => by simp [all2]
  | x :: l, [] => by simp [all2]
  | x :: l, y :: m => by
    rw [all2, all2_range p d l m, List.length_cons, List.length_cons, List.range_succ_eq_map, List.all_cons, List.all_map]
    have : (l.length + 1 == m.length + 1) = (l.length == m.length) := by apply Bool.eq_iff_iff.mpr; simp
    rw [this]
    simp only [List.getD_cons_zero]
    cases p x y <;> cases (l.length == m.length) <;> simp [Function.comp_def]
mutual
def same : Ty → Ty → Bool
  | .mk k n es ats, .mk k' n' es' ats' => k == k' && (if k = 6 then n == n' else if k = 7 then sameL es es' else if k = 8 then sameA ats ats' else true)
def sameL : List Ty → List Ty → Bool
  | [], [] => true
  | x :: l, y :: m => same x y && sameL l m
  | _, _ => false
def sameA : List (List UInt8 × Ty × Bool) → List (List UInt8 × Ty × Bool) → Bool
  | [], [] => true
  | (n, t, o) :: l, (n', t', o') :: m => (n == n' && (o == o' && same t t')) && sameA l m
  | _, _ => false
end
theorem sameL_eq : ∀ l m, sameL l m = all2 same l m
  | [], [] => by simp [sameL, all2]
  | [], y :: m => by simp [sameL, all2]
  | x :: l, [] => by simp [sameL, all2]
  | x :: l, y :: m => by rw [sameL, all2, sameL_eq]
theorem sameA_eq : ∀ l m, sameA l m = all2 (fun x y : At => x.1 == y.1 && (x.2.2 == y.2.2 && same x.2.1 y.2.1)) l m
  | [], [] => by simp [sameA, all2]
  | [], y :: m => by simp [sameA, all2]
  | x :: l, [] => by simp [sameA, all2]
  | (n, t, o) :: l, (n', t', o') :: m => by rw [sameA, all2, sameA_eq]

/-- What memory holds of a row of attributes. -/
def HasA (F : Base) (a : Option Addr) (l : List At) (g : Nat → List Value) : Prop :=
  (∀ (i : Nat) (x : At), l[i]? = some x → Cl F a 6 i (.string (bs x.1) :: (g i ++ [.bool x.2.2]))) ∧ ∀ (i : Nat) (x : At), l[i]? = some x → RepT F (g i) x.2.1
theorem callable36 : callable Tryd.prog 66 = true := by kernel_rfl
theorem HasA.mono {F F' : Base} {a : Option Addr} {l : List At} {g : Nat → List Value} (h : HasA F a l g) (hF : ∀ b o, F b = some o → F' b = some o) : HasA F' a l g :=
  ⟨fun i x hx => (h.1 i x hx).mono hF, fun i x hx => (h.2 i x hx).mono hF⟩
end Go.Proofs.YtnnieekbklmgdaaDoor
