/- Layer 2: a byte in quotes; the reference's quotes. -/
import Derived.Test.YtnnieekbklmgdaaDoorTxA
namespace Go.Proofs.YtnnieekbklmgdaaDoor
open Go Go.Eng
open Int renaming reduceEq → Zaa, reduceToNat → Zaw, reduceLE → Zax, reduceLT → Zay, reduceAdd → Zaz, reduceSub → Za0, reduceNeg → Za1, reducePow → Za3, reduceNegSucc → Za5
open UInt8 renaming reduceOfNat → Zab
open Go.Eng renaming subG → Zac, lit → Zad, isPar → Zae, numb → Zaf, Wf → Zag, resV → Zah, oneCell → Zai, isB → Zaj, asB → Zak
open List renaming mapM_cons → Zal, mapM_nil → Zam
open Go.Value renaming cells → Zan
open Nat renaming reduceAdd → Zao, reduceMul → Zap, reduceMod → Zaq, reduceDiv → Zar, reduceEqDiff → Zas, reduceBEq → Zat, reduceLeDiff → Zau, reduceSub → Zav, reducePow → Za2, reduceLT → Za4
set_option linter.unusedSimpArgs false
set_option linter.unusedVariables false
set_option maxRecDepth 20000

def hexL : List UInt8 := [48, 49, 50, 51, 52, 53, 54, 55, 56, 57, 97, 98, 99, 100, 101, 102]
/-- A byte, quoted. -/
def q1 (c : UInt8) : List UInt8 := if isP c then [c] else if ((c.toNat : Int) == 34 || (c.toNat : Int) == 92) then [92, c] else [92, 120, hexL.getD (c.toNat / 16) 0, hexL.getD (c.toNat % 16) 0]
def quote (s : List UInt8) : List UInt8 := 34 :: (s.flatMap q1 ++ [34])
theorem q1_len (c : UInt8) : (q1 c).length ≤ 4 := by
  unfold q1
  split
  · simp
  · split <;> simp
theorem flat_len : ∀ s : List UInt8, (s.flatMap q1).length ≤ 4 * s.length
  | [] => Nat.le_refl _
  | c :: s => by
    have := flat_len s
    have := q1_len c
    simp only [List.flatMap_cons, List.length_append, List.length_cons]; omega
theorem u8_lt (c : UInt8) : c.toNat < 256 := c.toNat_lt
theorem shr4 (c : UInt8) : ((c.toNat : Int).fdiv 16) = ((c.toNat / 16 : Nat) : Int) := by
  rw [Int.fdiv_eq_ediv_of_nonneg _ (by decide)]; omega
theorem and15 (c : UInt8) : (BitVec.ofInt 8 (c.toNat : Int) &&& BitVec.ofInt 8 15).toNat = c.toNat % 16 := by
  revert c
  have : ∀ n : Nat, n < 256 → (BitVec.ofInt 8 (n : Int) &&& BitVec.ofInt 8 15).toNat = n % 16 := by decide +kernel
  exact fun c => this _ (u8_lt c)
theorem slice1 {l : List UInt8} {k : Nat} (h : k < l.length) : (l.take (k + 1)).drop k = [l.getD k 0] := by
  rw [take_snocB h, List.drop_left' (by rw [List.length_take]; omega)]
theorem idxOf_at {l : List UInt8} {c : UInt8} {i : Nat} (h1 : ∀ j, j < i → l.getD j 0 ≠ c) (h2 : i < l.length) (h3 : l.getD i 0 = c) : l.idxOf c = i := by
  induction l generalizing i with
  | nil => simp at h2
  | cons x r ih =>
    cases i with
    | zero => rw [List.getD_cons_zero] at h3; simp [List.idxOf_cons, h3]
    | succ i =>
      have h0 := h1 0 (by omega)
      rw [List.getD_cons_zero] at h0
      rw [List.idxOf_cons, ih (i := i) (fun j hj => by have := h1 (j + 1) (by omega); rwa [List.getD_cons_succ] at this) (by simp only [List.length_cons] at h2; omega) (by rwa [List.getD_cons_succ] at h3)]
      have : (x == c) = false := by simpa using h0
      rw [this]; rfl
theorem idxOf_none {l : List UInt8} {c : UInt8} (h1 : ∀ j, j < l.length → l.getD j 0 ≠ c) : l.idxOf c = l.length := by
  apply List.idxOf_eq_length
  intro hc
  obtain ⟨i, hi, rfl⟩ := List.getElem_of_mem hc
  have := h1 i hi
  rw [List.getD_eq_getElem?_getD, List.getElem?_eq_getElem hi] at this
  exact this rfl
theorem flat_snoc {s : List UInt8} {i : Nat} (h : i < s.length) : (s.take (i + 1)).flatMap q1 = (s.take i).flatMap q1 ++ q1 (s.getD i 0) := by
  rw [take_snocB h, List.flatMap_append]; simp
end Go.Proofs.YtnnieekbklmgdaaDoor
