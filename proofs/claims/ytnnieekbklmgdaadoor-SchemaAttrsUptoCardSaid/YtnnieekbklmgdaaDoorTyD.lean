/- Layer 11: being below. -/
import Derived.Test.YtnnieekbklmgdaaDoorTyC
namespace Go.Proofs.YtnnieekbklmgdaaDoor
open Go Go.Eng
open Int renaming reduceEq → Zaa, reduceToNat → Zaw, reduceLE → Zax, reduceLT → Zay, reduceAdd → Zaz, reduceSub → Za0, reduceNeg → Za1, reducePow → Za3, reduceNegSucc → Za5
open UInt8 renaming reduceOfNat → Zab
open Go.Eng renaming subG → Zac, lit → Zad, isPar → Zae, numb → Zaf, Wf → Zag, resV → Zah, oneCell → Zai, isB → Zaj, asB → Zak
open List renaming mapM_cons → Zal, mapM_nil → Zam
open Go.Value renaming cells → Zan
open Nat renaming reduceAdd → Zao, reduceMul → Zap, reduceMod → Zaq, reduceDiv → Zar, reduceEqDiff → Zas, reduceBEq → Zat, reduceLeDiff → Zau, reduceSub → Zav, reducePow → Za2, reduceLT → Za4
set_option linter.unusedSimpArgs false
set_option linter.unusedVariables false
set_option maxRecDepth 20000

mutual
def below : Ty → Ty → Bool
  | .mk k n es ats, .mk k' n' es' ats' => if k = 0 then true else if (decide (1 ≤ k) && decide (k ≤ 3)) && (k' == 3) then true else if k != k' then false else if k = 7 then belowL es es' else if k = 8 then belowA ats ats' else same (.mk k n es ats) (.mk k' n' es' ats')
def belowL : List Ty → List Ty → Bool
  | [], [] => true
  | x :: l, y :: m => below x y && belowL l m
  | _, _ => false
def belowA : List (List UInt8 × Ty × Bool) → List (List UInt8 × Ty × Bool) → Bool
  | [], [] => true
  | (n, t, o) :: l, (n', t', o') :: m => (n == n' && ((o' || !o) && below t t')) && belowA l m
  | _, _ => false
end
theorem belowL_eq : ∀ l m, belowL l m = all2 below l m
  | [], [] => by simp [belowL, all2]
  | [], y :: m => by simp [belowL, all2]
  | x :: l, [] => by simp [belowL, all2]
  | x :: l, y :: m => by rw [belowL, all2, belowL_eq]
theorem belowA_eq : ∀ l m, belowA l m = all2 (fun x y : At => x.1 == y.1 && ((y.2.2 || !x.2.2) && below x.2.1 y.2.1)) l m
  | [], [] => by simp [belowA, all2]
  | [], y :: m => by simp [belowA, all2]
  | x :: l, [] => by simp [belowA, all2]
  | (n, t, o) :: l, (n', t', o') :: m => by rw [belowA, all2, belowA_eq]
end Go.Proofs.YtnnieekbklmgdaaDoor
