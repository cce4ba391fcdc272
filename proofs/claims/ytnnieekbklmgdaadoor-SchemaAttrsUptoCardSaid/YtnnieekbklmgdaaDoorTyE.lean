/- Layer 11: being below, of the reference. -/
import Derived.Test.YtnnieekbklmgdaaDoorTyD
namespace Go.Proofs.YtnnieekbklmgdaaDoor
open Go Go.Eng
open Int renaming reduceEq → Zaa, reduceToNat → Zaw, reduceLE → Zax, reduceLT → Zay, reduceAdd → Zaz, reduceSub → Za0, reduceNeg → Za1, reducePow → Za3, reduceNegSucc → Za5
open UInt8 renaming reduceOfNat → Zab
open Go.Eng renaming subG → Zac, lit → Zad, isPar → Zae, numb → Zaf, Wf → Zag, resV → Zah, oneCell → Zai, isB → Zaj, asB → Zak
open List renaming mapM_cons → Zal, mapM_nil → Zam
open Go.Value renaming cells → Zan
open Nat renaming reduceAdd → Zao, reduceMul → Zap, reduceMod → Zaq, reduceDiv → Zar, reduceEqDiff → Zas, reduceBEq → Zat, reduceLeDiff → Zau, reduceSub → Zav, reducePow → Za2, reduceLT → Za4
set_option linter.unusedSimpArgs false
set_option linter.unusedVariables false
set_option maxRecDepth 20000

def names (l m : List At) : Bool := all2 (fun x y : At => x.1 == y.1) l m
mutual
def rb : Ty → Ty → Bool
  | .mk k n es ats, .mk k' n' es' ats' => if (k == 0 || ((k == 1 || k == 2) && k' == 3)) = true then true else if (k != k' || (k == 6 && !(n == n'))) = true then false else if k = 7 then rbH es es' else if k ≠ 8 then true else names ats ats' && rbA ats ats'
def rbH : List Ty → List Ty → Bool
  | x :: _, y :: _ => rb x y
  | _, _ => false
def rbA : List (List UInt8 × Ty × Bool) → List (List UInt8 × Ty × Bool) → Bool
  | (_, t, o) :: l, (_, t', o') :: m => (rb t t' && !(o && !o')) && rbA l m
  | [], [] => true
  | _, _ => false
end
theorem rbA_eq : ∀ l m, rbA l m = all2 (fun x y : At => rb x.2.1 y.2.1 && !(x.2.2 && !y.2.2)) l m
  | [], [] => by simp [rbA, all2]
  | [], y :: m => by simp [rbA, all2]
  | x :: l, [] => by simp [rbA, all2]
  | (n, t, o) :: l, (n', t', o') :: m => by rw [rbA, all2, rbA_eq]
/-- Is the order of names strictly rising? -/
def risA : List At → Bool
  | x :: y :: l => !(Op.bytesLess y.1 x.1 || y.1 == x.1) && risA (y :: l)
  | _ => true
mutual
def may : Ty → Bool
  | .mk k n es ats => !(decide (k < 0) || decide (8 < k) || (k == 7 && !(es.length == 1))) && (risA ats && mayA ats && mayL es)
def mayL : List Ty → Bool
  | [] => true
  | x :: l => may x && mayL l
def mayA : List (List UInt8 × Ty × Bool) → Bool
  | [] => true
  | (_, t, _) :: l => may t && mayA l
end
theorem mayL_eq : ∀ l, mayL l = l.all may
  | [] => by simp [mayL]
  | x :: l => by rw [mayL, mayL_eq]; rfl
theorem mayA_eq : ∀ l, mayA l = l.all fun x : At => may x.2.1
  | [] => by simp [mayA]
  | (_, t, _) :: l => by rw [mayA, mayA_eq]; rfl
theorem may_elem {k : Int} {n : List UInt8} {es : List Ty} {ats : List At} (h : may (.mk k n es ats) = true) :
    (k = 7 → es.length = 1) ∧ (∀ (i : Nat) (x : Ty), es[i]? = some x → may x = true) ∧ (∀ (i : Nat) (x : At), ats[i]? = some x → may x.2.1 = true) := by
  rw [may, mayL_eq, mayA_eq] at h
  simp only [Bool.and_eq_true, Bool.not_eq_true', Bool.or_eq_false_iff, Bool.and_eq_false_iff, List.all_eq_true] at h
  obtain ⟨⟨_, h7⟩, ⟨_, h2⟩, h3⟩ := h
  refine ⟨fun e => ?_, fun i x hx => h3 x (List.mem_of_getElem? hx), fun i x hx => h2 x (List.mem_of_getElem? hx)⟩
  rcases h7 with h7 | h7
  · simp at h7; exact absurd e h7
  · simpa using h7

def rs (a b : Ty) : Bool := rb a b && rb b a
end Go.Proofs.YtnnieekbklmgdaaDoor
