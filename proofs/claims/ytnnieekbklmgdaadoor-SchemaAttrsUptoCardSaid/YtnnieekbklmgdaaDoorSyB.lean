/- Layer 12: what is found by its name. -/
import Derived.Test.YtnnieekbklmgdaaDoorSyA
namespace Go.Proofs.YtnnieekbklmgdaaDoor
open Go Go.Eng
open Int renaming reduceEq → Zaa, reduceToNat → Zaw, reduceLE → Zax, reduceLT → Zay, reduceAdd → Zaz, reduceSub → Za0, reduceNeg → Za1, reducePow → Za3, reduceNegSucc → Za5
open UInt8 renaming reduceOfNat → Zab
open Go.Eng renaming subG → Zac, lit → Zad, isPar → Zae, numb → Zaf, Wf → Zag, resV → Zah, oneCell → Zai, isB → Zaj, asB → Zak
open List renaming mapM_cons → Zal, mapM_nil → Zam
open Go.Value renaming cells → Zan
open Nat renaming reduceAdd → Zao, reduceMul → Zap, reduceMod → Zaq, reduceDiv → Zar, reduceEqDiff → Zas, reduceBEq → Zat, reduceLeDiff → Zau, reduceSub → Zav, reducePow → Za2, reduceLT → Za4
set_option linter.unusedSimpArgs false
set_option linter.unusedVariables false
set_option maxRecDepth 20000

/-- The first place of what is so; -1: nowhere. -/
def idxI {α : Type} (p : α → Bool) : List α → Int
  | [] => -1
  | x :: l => if p x then 0 else if idxI p l < 0 then -1 else idxI p l + 1
theorem idxI_ge {α : Type} (p : α → Bool) : ∀ l : List α, -1 ≤ idxI p l ∧ idxI p l < l.length
  | [] => by simp [idxI]
  | x :: l => by
    have := idxI_ge p l
    rw [idxI]
    simp only [List.length_cons]
    split
    · omega
    · split <;> omega
theorem idxI_isFst {α : Type} (p : α → Bool) (d : α) : ∀ l : List α, isFst (fun i => p (l.getD i d)) l.length (idxI p l)
  | [] => .inr ⟨rfl, fun j h => by simp at h⟩
  | x :: l => by
    have ih := idxI_isFst p d l
    rw [idxI]
    cases hx : p x with
    | true =>
      rw [if_pos rfl]
      exact .inl ⟨0, rfl, by simp, hx, fun j h => absurd h (by omega)⟩
    | false =>
      rw [if_neg (by simp)]
      rcases ih with ⟨i, h1, h2, h3, h4⟩ | ⟨h1, h2⟩
      · rw [if_neg (by omega)]
        refine .inl ⟨i + 1, by omega, by simp; omega, h3, fun j hj => ?_⟩
        cases j with
        | zero => exact hx
        | succ j => exact h4 j (by omega)
      · rw [if_pos (by omega)]
        refine .inr ⟨rfl, fun j hj => ?_⟩
        cases j with
        | zero => exact hx
        | succ j => exact h2 j (by simpa using hj)
theorem isFst_at {p : Nat → Bool} {n : Nat} {i : Nat} (h : isFst p n i) : i < n ∧ p i = true := by
  rcases h with ⟨k, h1, h2, h3, _⟩ | ⟨h1, _⟩
  · have : k = i := by omega
    subst this; exact ⟨h2, h3⟩
  · omega
def nilE : ET := ⟨[], [], []⟩
def nilC : AC := ⟨[], [], [], [], []⟩
theorem getE {l : List ET} {i : Nat} (h : i < l.length) : l[i]? = some (l.getD i nilE) := by
  rw [List.getD_eq_getElem?_getD, List.getElem?_eq_getElem h]; rfl
theorem getC {l : List AC} {i : Nat} (h : i < l.length) : l[i]? = some (l.getD i nilC) := by
  rw [List.getD_eq_getElem?_getD, List.getElem?_eq_getElem h]; rfl
theorem getS {l : List Str} {i : Nat} (h : i < l.length) : l[i]? = some (l.getD i []) := by
  rw [List.getD_eq_getElem?_getD, List.getElem?_eq_getElem h]; rfl
theorem idxE (F : Base) (a : Option Addr) (n c : Nat) (g : Nat → List Value) (fv : Value) (p : Nat → Bool) (r : Int) (hr : isFst p n r) (hn : n ≤ 9223372036854775807) (h1 : ∀ i, i < n → Cl F a 3 i (g i))
    (hp : ∀ i, i < n → PureF Tryd.prog F fv [.agg (g i).toArray] (.bool (p i))) : PureV Tryd.prog F 35 #[.slice a n c, fv] (.int .i64 r) := by
  refine pureV_of_svc mixed Tryd.func35 low35 (Nat.le_of_ble_eq_true rfl) (fun w0 => ?_)
  simp (disch := first | assumption | exact Ne.symm (by assumption) | omega) only [fu35, ↓ZD, ZU, ne_eq, Zaa, Zab, false_implies, Zac, Zad, Zae, Zaf, Zag, Zah, Zai, Zaj, Zak, Zal, Zam, Zan, Zao, Zap, Zaq, Zar, Zas, Zat, Zau, Zav, Zaw, Zax, Zay, Zaz, Za0, Za1, decide_true, decide_false, beq_self_eq_true, cond_true, cond_false, if_false, if_true, reduceIte, reduceCtorEq, not_true_eq_false, not_false_eq_true, true_and, and_true, forall_const, false_and, and_false, implies_true, Za2, Za3, Za4, Za5]
  refine LoopL.inv (α := Nat) (fun i => i ≤ n ∧ ∀ j, j < i → p j = false)
    (fun i => [(0, some (.slice a n c)), (1, some fv), (7, some (.int .i64 n)), (8, some (.int .i64 i))]) (fun i => []) (fun i => n - i) 0 ⟨Nat.zero_le _, fun j h => absurd h (by omega)⟩ (by (simp only [Le_nil, Le_cons]; simp (disch := first | assumption | exact Ne.symm (by assumption) | omega) only [↓ZD, ZU, ne_eq, Zaa, Zab, false_implies, Zac, Zad, Zae, Zaf, Zag, Zah, Zai, Zaj, Zak, Zal, Zam, Zan, Zao, Zap, Zaq, Zar, Zas, Zat, Zau, Zav, Zaw, Zax, Zay, Zaz, Za0, Za1, decide_true, decide_false, beq_self_eq_true, cond_true, cond_false, if_false, if_true, reduceIte, reduceCtorEq, not_true_eq_false, not_false_eq_true, true_and, and_true, forall_const, false_and, and_false, implies_true, Za2, Za3, Za4, Za5]; try trivial)) (by (simp only [HLe_nil, HLe_cons]; try (simp (disch := first | assumption | exact Ne.symm (by assumption) | omega) only [↓ZD, ZU, ne_eq, Zaa, Zab, false_implies, Zac, Zad, Zae, Zaf, Zag, Zah, Zai, Zaj, Zak, Zal, Zam, Zan, Zao, Zap, Zaq, Zar, Zas, Zat, Zau, Zav, Zaw, Zax, Zay, Zaz, Za0, Za1, decide_true, decide_false, beq_self_eq_true, cond_true, cond_false, if_false, if_true, reduceIte, reduceCtorEq, not_true_eq_false, not_false_eq_true, true_and, and_true, forall_const, false_and, and_false, implies_true, Za2, Za3, Za4, Za5]))) ?_
  rintro i ⟨hi, ha⟩
  by_cases hlt : i < n
  · have hd : decide ((i : Int) < (n : Int)) = true := by simp; omega
    obtain ⟨ba, oa, rfl, hla⟩ := (h1 i hlt).ldn
    simp (disch := first | assumption | exact Ne.symm (by assumption) | omega) only [hd, ↓ZD, ZU, ne_eq, Zaa, Zab, false_implies, Zac, Zad, Zae, Zaf, Zag, Zah, Zai, Zaj, Zak, Zal, Zam, Zan, Zao, Zap, Zaq, Zar, Zas, Zat, Zau, Zav, Zaw, Zax, Zay, Zaz, Za0, Za1, decide_true, decide_false, beq_self_eq_true, cond_true, cond_false, if_false, if_true, reduceIte, reduceCtorEq, not_true_eq_false, not_false_eq_true, true_and, and_true, forall_const, false_and, and_false, implies_true, Za2, Za3, Za4, Za5]
    refine conj.of (by omega) ?_
    simp (disch := first | assumption | exact Ne.symm (by assumption) | omega) only [hd, Int.toNat_natCast, ↓hla, ↓ZD, ZU, ne_eq, Zaa, Zab, false_implies, Zac, Zad, Zae, Zaf, Zag, Zah, Zai, Zaj, Zak, Zal, Zam, Zan, Zao, Zap, Zaq, Zar, Zas, Zat, Zau, Zav, Zaw, Zax, Zay, Zaz, Za0, Za1, decide_true, decide_false, beq_self_eq_true, cond_true, cond_false, if_false, if_true, reduceIte, reduceCtorEq, not_true_eq_false, not_false_eq_true, true_and, and_true, forall_const, false_and, and_false, implies_true, Za2, Za3, Za4, Za5]
    refine CallEF.pure (hp i hlt) ?_
    cases hpp : p i with
    | true =>
      have : r = i := by
        rcases hr with ⟨k, h1, h2, h3, h4⟩ | ⟨h1, h2⟩
        · have : k = i := by
            rcases Nat.lt_trichotomy k i with h | h | h
            · rw [ha k h] at h3; cases h3
            · exact h
            · rw [h4 i h] at hpp; cases hpp
          rw [h1, this]
        · rw [h2 i hlt] at hpp; cases hpp
      simp (disch := first | assumption | exact Ne.symm (by assumption) | omega) only [this, ↓ZD, ZU, ne_eq, Zaa, Zab, false_implies, Zac, Zad, Zae, Zaf, Zag, Zah, Zai, Zaj, Zak, Zal, Zam, Zan, Zao, Zap, Zaq, Zar, Zas, Zat, Zau, Zav, Zaw, Zax, Zay, Zaz, Za0, Za1, decide_true, decide_false, beq_self_eq_true, cond_true, cond_false, if_false, if_true, reduceIte, reduceCtorEq, not_true_eq_false, not_false_eq_true, true_and, and_true, forall_const, false_and, and_false, implies_true, Za2, Za3, Za4, Za5]
    | false =>
      simp (disch := first | assumption | exact Ne.symm (by assumption) | omega) only [↓ZD, ZU, ne_eq, Zaa, Zab, false_implies, Zac, Zad, Zae, Zaf, Zag, Zah, Zai, Zaj, Zak, Zal, Zam, Zan, Zao, Zap, Zaq, Zar, Zas, Zat, Zau, Zav, Zaw, Zax, Zay, Zaz, Za0, Za1, decide_true, decide_false, beq_self_eq_true, cond_true, cond_false, if_false, if_true, reduceIte, reduceCtorEq, not_true_eq_false, not_false_eq_true, true_and, and_true, forall_const, false_and, and_false, implies_true, Za2, Za3, Za4, Za5]
      refine invK.on (i + 1) (⟨by omega, fun j hj => by
        by_cases e : j = i
        · rw [e]; exact hpp
        · exact ha j (by omega)⟩) (by omega) (by (simp only [Le_nil, Le_cons]; simp (disch := first | assumption | exact Ne.symm (by assumption) | omega) only [↓ZD, ZU, ne_eq, Zaa, Zab, false_implies, Zac, Zad, Zae, Zaf, Zag, Zah, Zai, Zaj, Zak, Zal, Zam, Zan, Zao, Zap, Zaq, Zar, Zas, Zat, Zau, Zav, Zaw, Zax, Zay, Zaz, Za0, Za1, decide_true, decide_false, beq_self_eq_true, cond_true, cond_false, if_false, if_true, reduceIte, reduceCtorEq, not_true_eq_false, not_false_eq_true, true_and, and_true, forall_const, false_and, and_false, implies_true, Za2, Za3, Za4, Za5]; try trivial)) (by (simp only [HLe_nil, HLe_cons]; try (simp (disch := first | assumption | exact Ne.symm (by assumption) | omega) only [↓ZD, ZU, ne_eq, Zaa, Zab, false_implies, Zac, Zad, Zae, Zaf, Zag, Zah, Zai, Zaj, Zak, Zal, Zam, Zan, Zao, Zap, Zaq, Zar, Zas, Zat, Zau, Zav, Zaw, Zax, Zay, Zaz, Za0, Za1, decide_true, decide_false, beq_self_eq_true, cond_true, cond_false, if_false, if_true, reduceIte, reduceCtorEq, not_true_eq_false, not_false_eq_true, true_and, and_true, forall_const, false_and, and_false, implies_true, Za2, Za3, Za4, Za5])))
  · have hd : decide ((i : Int) < (n : Int)) = false := by simp; omega
    have : r = -1 := by
      rcases hr with ⟨k, h1, h2, h3, h4⟩ | ⟨h1, h2⟩
      · rw [ha k (by omega)] at h3; cases h3
      · exact h1
    simp (disch := first | assumption | exact Ne.symm (by assumption) | omega) only [hd, this, ↓ZD, ZU, ne_eq, Zaa, Zab, false_implies, Zac, Zad, Zae, Zaf, Zag, Zah, Zai, Zaj, Zak, Zal, Zam, Zan, Zao, Zap, Zaq, Zar, Zas, Zat, Zau, Zav, Zaw, Zax, Zay, Zaz, Za0, Za1, decide_true, decide_false, beq_self_eq_true, cond_true, cond_false, if_false, if_true, reduceIte, reduceCtorEq, not_true_eq_false, not_false_eq_true, true_and, and_true, forall_const, false_and, and_false, implies_true, Za2, Za3, Za4, Za5]
theorem idxC (F : Base) (a : Option Addr) (n c : Nat) (g : Nat → List Value) (fv : Value) (p : Nat → Bool) (r : Int) (hr : isFst p n r) (hn : n ≤ 9223372036854775807) (h1 : ∀ i, i < n → Cl F a 5 i (g i))
    (hp : ∀ i, i < n → PureF Tryd.prog F fv [.agg (g i).toArray] (.bool (p i))) : PureV Tryd.prog F 37 #[.slice a n c, fv] (.int .i64 r) := by
  refine pureV_of_svc mixed Tryd.func37 low37 (Nat.le_of_ble_eq_true rfl) (fun w0 => ?_)
  simp (disch := first | assumption | exact Ne.symm (by assumption) | omega) only [fu37, ↓ZD, ZU, ne_eq, Zaa, Zab, false_implies, Zac, Zad, Zae, Zaf, Zag, Zah, Zai, Zaj, Zak, Zal, Zam, Zan, Zao, Zap, Zaq, Zar, Zas, Zat, Zau, Zav, Zaw, Zax, Zay, Zaz, Za0, Za1, decide_true, decide_false, beq_self_eq_true, cond_true, cond_false, if_false, if_true, reduceIte, reduceCtorEq, not_true_eq_false, not_false_eq_true, true_and, and_true, forall_const, false_and, and_false, implies_true, Za2, Za3, Za4, Za5]
  refine LoopL.inv (α := Nat) (fun i => i ≤ n ∧ ∀ j, j < i → p j = false)
    (fun i => [(0, some (.slice a n c)), (1, some fv), (7, some (.int .i64 n)), (8, some (.int .i64 i))]) (fun i => []) (fun i => n - i) 0 ⟨Nat.zero_le _, fun j h => absurd h (by omega)⟩ (by (simp only [Le_nil, Le_cons]; simp (disch := first | assumption | exact Ne.symm (by assumption) | omega) only [↓ZD, ZU, ne_eq, Zaa, Zab, false_implies, Zac, Zad, Zae, Zaf, Zag, Zah, Zai, Zaj, Zak, Zal, Zam, Zan, Zao, Zap, Zaq, Zar, Zas, Zat, Zau, Zav, Zaw, Zax, Zay, Zaz, Za0, Za1, decide_true, decide_false, beq_self_eq_true, cond_true, cond_false, if_false, if_true, reduceIte, reduceCtorEq, not_true_eq_false, not_false_eq_true, true_and, and_true, forall_const, false_and, and_false, implies_true, Za2, Za3, Za4, Za5]; try trivial)) (by (simp only [HLe_nil, HLe_cons]; try (simp (disch := first | assumption | exact Ne.symm (by assumption) | omega) only [↓ZD, ZU, ne_eq, Zaa, Zab, false_implies, Zac, Zad, Zae, Zaf, Zag, Zah, Zai, Zaj, Zak, Zal, Zam, Zan, Zao, Zap, Zaq, Zar, Zas, Zat, Zau, Zav, Zaw, Zax, Zay, Zaz, Za0, Za1, decide_true, decide_false, beq_self_eq_true, cond_true, cond_false, if_false, if_true, reduceIte, reduceCtorEq, not_true_eq_false, not_false_eq_true, true_and, and_true, forall_const, false_and, and_false, implies_true, Za2, Za3, Za4, Za5]))) ?_
  rintro i ⟨hi, ha⟩
  by_cases hlt : i < n
  · have hd : decide ((i : Int) < (n : Int)) = true := by simp; omega
    obtain ⟨ba, oa, rfl, hla⟩ := (h1 i hlt).ldn
    simp (disch := first | assumption | exact Ne.symm (by assumption) | omega) only [hd, ↓ZD, ZU, ne_eq, Zaa, Zab, false_implies, Zac, Zad, Zae, Zaf, Zag, Zah, Zai, Zaj, Zak, Zal, Zam, Zan, Zao, Zap, Zaq, Zar, Zas, Zat, Zau, Zav, Zaw, Zax, Zay, Zaz, Za0, Za1, decide_true, decide_false, beq_self_eq_true, cond_true, cond_false, if_false, if_true, reduceIte, reduceCtorEq, not_true_eq_false, not_false_eq_true, true_and, and_true, forall_const, false_and, and_false, implies_true, Za2, Za3, Za4, Za5]
    refine conj.of (by omega) ?_
    simp (disch := first | assumption | exact Ne.symm (by assumption) | omega) only [hd, Int.toNat_natCast, ↓hla, ↓ZD, ZU, ne_eq, Zaa, Zab, false_implies, Zac, Zad, Zae, Zaf, Zag, Zah, Zai, Zaj, Zak, Zal, Zam, Zan, Zao, Zap, Zaq, Zar, Zas, Zat, Zau, Zav, Zaw, Zax, Zay, Zaz, Za0, Za1, decide_true, decide_false, beq_self_eq_true, cond_true, cond_false, if_false, if_true, reduceIte, reduceCtorEq, not_true_eq_false, not_false_eq_true, true_and, and_true, forall_const, false_and, and_false, implies_true, Za2, Za3, Za4, Za5]
    refine CallEF.pure (hp i hlt) ?_
    cases hpp : p i with
    | true =>
      have : r = i := by
        rcases hr with ⟨k, h1, h2, h3, h4⟩ | ⟨h1, h2⟩
        · have : k = i := by
            rcases Nat.lt_trichotomy k i with h | h | h
            · rw [ha k h] at h3; cases h3
            · exact h
            · rw [h4 i h] at hpp; cases hpp
          rw [h1, this]
        · rw [h2 i hlt] at hpp; cases hpp
      simp (disch := first | assumption | exact Ne.symm (by assumption) | omega) only [this, ↓ZD, ZU, ne_eq, Zaa, Zab, false_implies, Zac, Zad, Zae, Zaf, Zag, Zah, Zai, Zaj, Zak, Zal, Zam, Zan, Zao, Zap, Zaq, Zar, Zas, Zat, Zau, Zav, Zaw, Zax, Zay, Zaz, Za0, Za1, decide_true, decide_false, beq_self_eq_true, cond_true, cond_false, if_false, if_true, reduceIte, reduceCtorEq, not_true_eq_false, not_false_eq_true, true_and, and_true, forall_const, false_and, and_false, implies_true, Za2, Za3, Za4, Za5]
    | false =>
      simp (disch := first | assumption | exact Ne.symm (by assumption) | omega) only [↓ZD, ZU, ne_eq, Zaa, Zab, false_implies, Zac, Zad, Zae, Zaf, Zag, Zah, Zai, Zaj, Zak, Zal, Zam, Zan, Zao, Zap, Zaq, Zar, Zas, Zat, Zau, Zav, Zaw, Zax, Zay, Zaz, Za0, Za1, decide_true, decide_false, beq_self_eq_true, cond_true, cond_false, if_false, if_true, reduceIte, reduceCtorEq, not_true_eq_false, not_false_eq_true, true_and, and_true, forall_const, false_and, and_false, implies_true, Za2, Za3, Za4, Za5]
      refine invK.on (i + 1) (⟨by omega, fun j hj => by
        by_cases e : j = i
        · rw [e]; exact hpp
        · exact ha j (by omega)⟩) (by omega) (by (simp only [Le_nil, Le_cons]; simp (disch := first | assumption | exact Ne.symm (by assumption) | omega) only [↓ZD, ZU, ne_eq, Zaa, Zab, false_implies, Zac, Zad, Zae, Zaf, Zag, Zah, Zai, Zaj, Zak, Zal, Zam, Zan, Zao, Zap, Zaq, Zar, Zas, Zat, Zau, Zav, Zaw, Zax, Zay, Zaz, Za0, Za1, decide_true, decide_false, beq_self_eq_true, cond_true, cond_false, if_false, if_true, reduceIte, reduceCtorEq, not_true_eq_false, not_false_eq_true, true_and, and_true, forall_const, false_and, and_false, implies_true, Za2, Za3, Za4, Za5]; try trivial)) (by (simp only [HLe_nil, HLe_cons]; try (simp (disch := first | assumption | exact Ne.symm (by assumption) | omega) only [↓ZD, ZU, ne_eq, Zaa, Zab, false_implies, Zac, Zad, Zae, Zaf, Zag, Zah, Zai, Zaj, Zak, Zal, Zam, Zan, Zao, Zap, Zaq, Zar, Zas, Zat, Zau, Zav, Zaw, Zax, Zay, Zaz, Za0, Za1, decide_true, decide_false, beq_self_eq_true, cond_true, cond_false, if_false, if_true, reduceIte, reduceCtorEq, not_true_eq_false, not_false_eq_true, true_and, and_true, forall_const, false_and, and_false, implies_true, Za2, Za3, Za4, Za5])))
  · have hd : decide ((i : Int) < (n : Int)) = false := by simp; omega
    have : r = -1 := by
      rcases hr with ⟨k, h1, h2, h3, h4⟩ | ⟨h1, h2⟩
      · rw [ha k (by omega)] at h3; cases h3
      · exact h1
    simp (disch := first | assumption | exact Ne.symm (by assumption) | omega) only [hd, this, ↓ZD, ZU, ne_eq, Zaa, Zab, false_implies, Zac, Zad, Zae, Zaf, Zag, Zah, Zai, Zaj, Zak, Zal, Zam, Zan, Zao, Zap, Zaq, Zar, Zas, Zat, Zau, Zav, Zaw, Zax, Zay, Zaz, Za0, Za1, decide_true, decide_false, beq_self_eq_true, cond_true, cond_false, if_false, if_true, reduceIte, reduceCtorEq, not_true_eq_false, not_false_eq_true, true_and, and_true, forall_const, false_and, and_false, implies_true, Za2, Za3, Za4, Za5]
theorem isType1_pure (F : Base) (b : Nat) (nm : Str) (T : Nat) (hb : F b = some (.cells #[.string (bs nm)] T (0, 0))) (x : ET) (cx : List Value) (hx : RepE F cx x) :
    PureV Tryd.prog F 36 #[.agg cx.toArray, .pointer (some ⟨b, 0, none⟩)] (.bool (x.name == nm)) := by
  obtain ⟨v1, v2, rfl, -, ⟨_, _, rfl, -⟩, ⟨_, _, _, rfl, -⟩⟩ := hx
  refine pureV_of_svc mixed Tryd.func36 low36 (Nat.le_of_ble_eq_true rfl) (fun w0 => ?_)
  simp (disch := first | assumption | exact Ne.symm (by assumption) | omega) only [fu36, ↓ZD, ZU, ne_eq, Zaa, Zab, false_implies, Zac, Zad, Zae, Zaf, Zag, Zah, Zai, Zaj, Zak, Zal, Zam, Zan, Zao, Zap, Zaq, Zar, Zas, Zat, Zau, Zav, Zaw, Zax, Zay, Zaz, Za0, Za1, decide_true, decide_false, beq_self_eq_true, cond_true, cond_false, if_false, if_true, reduceIte, reduceCtorEq, not_true_eq_false, not_false_eq_true, true_and, and_true, forall_const, false_and, and_false, implies_true, Za2, Za3, Za4, Za5]
  refine NewB.of fun b1 hb1 hF1 => ?_
  simp (disch := first | assumption | exact Ne.symm (by assumption) | omega) only [hF1, hb, ↓ZD, ZU, ne_eq, Zaa, Zab, false_implies, Zac, Zad, Zae, Zaf, Zag, Zah, Zai, Zaj, Zak, Zal, Zam, Zan, Zao, Zap, Zaq, Zar, Zas, Zat, Zau, Zav, Zaw, Zax, Zay, Zaz, Za0, Za1, decide_true, decide_false, beq_self_eq_true, cond_true, cond_false, if_false, if_true, reduceIte, reduceCtorEq, not_true_eq_false, not_false_eq_true, true_and, and_true, forall_const, false_and, and_false, implies_true, Za2, Za3, Za4, Za5]
theorem isAct1_pure (F : Base) (b : Nat) (nm : Str) (T : Nat) (hb : F b = some (.cells #[.string (bs nm)] T (0, 0))) (x : AC) (cx : List Value) (hx : RepC F cx x) :
    PureV Tryd.prog F 38 #[.agg cx.toArray, .pointer (some ⟨b, 0, none⟩)] (.bool (x.id == nm)) := by
  obtain ⟨v1, v2, v3, v4, rfl, -, ⟨_, _, rfl, -⟩, ⟨_, _, rfl, -⟩, ⟨_, _, rfl, -⟩, ⟨_, _, _, rfl, -⟩⟩ := hx
  refine pureV_of_svc mixed Tryd.func38 low38 (Nat.le_of_ble_eq_true rfl) (fun w0 => ?_)
  simp (disch := first | assumption | exact Ne.symm (by assumption) | omega) only [fu38, ↓ZD, ZU, ne_eq, Zaa, Zab, false_implies, Zac, Zad, Zae, Zaf, Zag, Zah, Zai, Zaj, Zak, Zal, Zam, Zan, Zao, Zap, Zaq, Zar, Zas, Zat, Zau, Zav, Zaw, Zax, Zay, Zaz, Za0, Za1, decide_true, decide_false, beq_self_eq_true, cond_true, cond_false, if_false, if_true, reduceIte, reduceCtorEq, not_true_eq_false, not_false_eq_true, true_and, and_true, forall_const, false_and, and_false, implies_true, Za2, Za3, Za4, Za5]
  refine NewB.of fun b1 hb1 hF1 => ?_
  simp (disch := first | assumption | exact Ne.symm (by assumption) | omega) only [hF1, hb, ↓ZD, ZU, ne_eq, Zaa, Zab, false_implies, Zac, Zad, Zae, Zaf, Zag, Zah, Zai, Zaj, Zak, Zal, Zam, Zan, Zao, Zap, Zaq, Zar, Zas, Zat, Zau, Zav, Zaw, Zax, Zay, Zaz, Za0, Za1, decide_true, decide_false, beq_self_eq_true, cond_true, cond_false, if_false, if_true, reduceIte, reduceCtorEq, not_true_eq_false, not_false_eq_true, true_and, and_true, forall_const, false_and, and_false, implies_true, Za2, Za3, Za4, Za5]
theorem callT1 : callable Tryd.prog 36 = true := by kernel_rfl
theorem callA1 : callable Tryd.prog 38 = true := by kernel_rfl
def tyI (s : Sch) (nm : Str) : Int := idxI (fun t : ET => t.name == nm) s.types
def acI (s : Sch) (nm : Str) : Int := idxI (fun t : AC => t.id == nm) s.acts
theorem idxE_pure (F : Base) {a : Option Addr} {c : Nat} {l : List ET} {g : Nat → List Value} (h : HasE F a l g) (hl : l.length ≤ 9223372036854775807) (nm : Str) (b T : Nat) (hb : F b = some (.cells #[.string (bs nm)] T (0, 0))) :
    PureV Tryd.prog F 35 #[.slice a l.length c, .func (.func 36) #[] #[.pointer (some ⟨b, 0, none⟩)]] (.int .i64 (idxI (fun t : ET => t.name == nm) l)) :=
  idxE F a l.length c g (.func (.func 36) #[] #[.pointer (some ⟨b, 0, none⟩)]) (fun i => (l.getD i nilE).name == nm) _ (idxI_isFst (fun t : ET => t.name == nm) nilE l) hl (fun i hi => (h i _ (getE hi)).1)
    (fun i hi => ⟨36, #[], #[.pointer (some ⟨b, 0, none⟩)], rfl, callT1, isType1_pure F b nm T hb (l.getD i nilE) (g i) (h i _ (getE hi)).2⟩)
theorem idxC_pure (F : Base) {a : Option Addr} {c : Nat} {l : List AC} {g : Nat → List Value} (h : HasC F a l g) (hl : l.length ≤ 9223372036854775807) (nm : Str) (b T : Nat) (hb : F b = some (.cells #[.string (bs nm)] T (0, 0))) :
    PureV Tryd.prog F 37 #[.slice a l.length c, .func (.func 38) #[] #[.pointer (some ⟨b, 0, none⟩)]] (.int .i64 (idxI (fun t : AC => t.id == nm) l)) :=
  idxC F a l.length c g (.func (.func 38) #[] #[.pointer (some ⟨b, 0, none⟩)]) (fun i => (l.getD i nilC).id == nm) _ (idxI_isFst (fun t : AC => t.id == nm) nilC l) hl (fun i hi => (h i _ (getC hi)).1)
    (fun i hi => ⟨38, #[], #[.pointer (some ⟨b, 0, none⟩)], rfl, callA1, isAct1_pure F b nm T hb (l.getD i nilC) (g i) (h i _ (getC hi)).2⟩)
/-- What is found of a name: itself, or nothing. -/
theorem type_pure (F : Base) {ch : List Value} {s : Sch} (h : RepH F ch s) (nm : Str) :
    ∃ cs, RepE F cs (if tyI s nm < 0 then nilE else s.types.getD (tyI s nm).toNat nilE) ∧ PureV Tryd.prog F 12 #[.agg ch.toArray, .string (bs nm)] (.tuple #[.agg cs.toArray, .bool (decide (0 ≤ tyI s nm))]) := by
  cases h with
  | mk a1 a2 c1 c2 ts xs g1 g2 hc1 hc2 hl1 hl2 h1 h2 =>
    have hfi := idxI_isFst (fun t : ET => t.name == nm) nilE ts
    have hge := idxI_ge (fun t : ET => t.name == nm) ts
    have hidx : ∀ b T (H : Hp), rdObj F H b = some (.cells #[.string (bs nm)] T (0, 0)) → _ := fun b T H hb => idxE_pure (rdObj F H) (c := c1) (h1.mono le_up) hl1 nm b T hb
    unfold tyI
    simp only
    revert hfi hge hidx
    generalize idxI (fun t : ET => t.name == nm) ts = r
    intro hfi hge hidx
    by_cases h0 : r < 0
    · have hd : decide (r < 0) = true := by simpa using h0
      have hd2 : decide (0 ≤ r) = false := by simp; omega
      rw [if_pos h0]
      refine ⟨[.string (bs []), .slice none 0 0, .slice none 0 0], ⟨_, _, rfl, by simp [nilE], ⟨none, 0, rfl, by simp [nilE], by simp [nilE], by simp [nilE, HasS]⟩, ⟨none, 0, fun _ => [], rfl, by simp [nilE], by simp [nilE], by simp [nilE, HasA], by simp [nilE]⟩⟩, ?_⟩
      refine pureV_of_svc mixed Tryd.func12 low12 (Nat.le_of_ble_eq_true rfl) (fun w0 => ?_)
      simp (disch := first | assumption | exact Ne.symm (by assumption) | omega) only [fu12, ↓ZD, ZU, ne_eq, Zaa, Zab, false_implies, Zac, Zad, Zae, Zaf, Zag, Zah, Zai, Zaj, Zak, Zal, Zam, Zan, Zao, Zap, Zaq, Zar, Zas, Zat, Zau, Zav, Zaw, Zax, Zay, Zaz, Za0, Za1, decide_true, decide_false, beq_self_eq_true, cond_true, cond_false, if_false, if_true, reduceIte, reduceCtorEq, not_true_eq_false, not_false_eq_true, true_and, and_true, forall_const, false_and, and_false, implies_true, Za2, Za3, Za4, Za5]
      refine NewB.of fun b1 hb1 hF1 => ?_
      simp (disch := first | assumption | exact Ne.symm (by assumption) | omega) only [hF1, ↓ZD, ZU, ne_eq, Zaa, Zab, false_implies, Zac, Zad, Zae, Zaf, Zag, Zah, Zai, Zaj, Zak, Zal, Zam, Zan, Zao, Zap, Zaq, Zar, Zas, Zat, Zau, Zav, Zaw, Zax, Zay, Zaz, Za0, Za1, decide_true, decide_false, beq_self_eq_true, cond_true, cond_false, if_false, if_true, reduceIte, reduceCtorEq, not_true_eq_false, not_false_eq_true, true_and, and_true, forall_const, false_and, and_false, implies_true, Za2, Za3, Za4, Za5]
      refine NewB.of fun b2 hb2 hF2 => ?_
      simp only [List.forall_mem_cons] at hb2
      obtain ⟨_, _⟩ := hb2
      simp (disch := first | assumption | exact Ne.symm (by assumption) | omega) only [hF1, hF2, ↓ZD, ZU, ne_eq, Zaa, Zab, false_implies, Zac, Zad, Zae, Zaf, Zag, Zah, Zai, Zaj, Zak, Zal, Zam, Zan, Zao, Zap, Zaq, Zar, Zas, Zat, Zau, Zav, Zaw, Zax, Zay, Zaz, Za0, Za1, decide_true, decide_false, beq_self_eq_true, cond_true, cond_false, if_false, if_true, reduceIte, reduceCtorEq, not_true_eq_false, not_false_eq_true, true_and, and_true, forall_const, false_and, and_false, implies_true, Za2, Za3, Za4, Za5]
      refine NewB.of fun b3 hb3 hF3 => ?_
      simp only [List.forall_mem_cons] at hb3
      obtain ⟨_, _, _⟩ := hb3
      simp (disch := first | assumption | exact Ne.symm (by assumption) | omega) only [hF1, hF2, hF3, ↓ZD, ZU, ne_eq, Zaa, Zab, false_implies, Zac, Zad, Zae, Zaf, Zag, Zah, Zai, Zaj, Zak, Zal, Zam, Zan, Zao, Zap, Zaq, Zar, Zas, Zat, Zau, Zav, Zaw, Zax, Zay, Zaz, Za0, Za1, decide_true, decide_false, beq_self_eq_true, cond_true, cond_false, if_false, if_true, reduceIte, reduceCtorEq, not_true_eq_false, not_false_eq_true, true_and, and_true, forall_const, false_and, and_false, implies_true, Za2, Za3, Za4, Za5]
      refine CallE.pureH (hidx b2 9 _ (by simp (disch := first | assumption | exact Ne.symm (by assumption) | omega) only [hF2, ↓ZD, ZU, ne_eq, Zaa, Zab, false_implies, Zac, Zad, Zae, Zaf, Zag, Zah, Zai, Zaj, Zak, Zal, Zam, Zan, Zao, Zap, Zaq, Zar, Zas, Zat, Zau, Zav, Zaw, Zax, Zay, Zaz, Za0, Za1, decide_true, decide_false, beq_self_eq_true, cond_true, cond_false, if_false, if_true, reduceIte, reduceCtorEq, not_true_eq_false, not_false_eq_true, true_and, and_true, forall_const, false_and, and_false, implies_true, Za2, Za3, Za4, Za5])) ?_
      simp (disch := first | assumption | exact Ne.symm (by assumption) | omega) only [hF1, hF2, hF3, hd, hd2, ↓ZD, ZU, ne_eq, Zaa, Zab, false_implies, Zac, Zad, Zae, Zaf, Zag, Zah, Zai, Zaj, Zak, Zal, Zam, Zan, Zao, Zap, Zaq, Zar, Zas, Zat, Zau, Zav, Zaw, Zax, Zay, Zaz, Za0, Za1, decide_true, decide_false, beq_self_eq_true, cond_true, cond_false, if_false, if_true, reduceIte, reduceCtorEq, not_true_eq_false, not_false_eq_true, true_and, and_true, forall_const, false_and, and_false, implies_true, Za2, Za3, Za4, Za5]
    · obtain ⟨i, rfl⟩ : ∃ i : Nat, r = i := ⟨r.toNat, by omega⟩
      obtain ⟨hi, hp⟩ := isFst_at hfi
      have hd : decide ((i : Int) < 0) = false := by simp
      have hd2 : decide ((0 : Int) ≤ (i : Int)) = true := by simp
      rw [if_neg h0, Int.toNat_natCast]
      obtain ⟨hcl, hrp⟩ := h1 i _ (getE hi)
      refine ⟨g1 i, hrp, ?_⟩
      obtain ⟨v1, v2, hform, -, ⟨_, _, rfl, -⟩, ⟨_, _, _, rfl, -⟩⟩ := hrp
      obtain ⟨ba, oa, rfl, hla⟩ := hcl.ldn
      rw [hform] at hla
      rw [hform]
      refine pureV_of_svc mixed Tryd.func12 low12 (Nat.le_of_ble_eq_true rfl) (fun w0 => ?_)
      simp (disch := first | assumption | exact Ne.symm (by assumption) | omega) only [fu12, ↓ZD, ZU, ne_eq, Zaa, Zab, false_implies, Zac, Zad, Zae, Zaf, Zag, Zah, Zai, Zaj, Zak, Zal, Zam, Zan, Zao, Zap, Zaq, Zar, Zas, Zat, Zau, Zav, Zaw, Zax, Zay, Zaz, Za0, Za1, decide_true, decide_false, beq_self_eq_true, cond_true, cond_false, if_false, if_true, reduceIte, reduceCtorEq, not_true_eq_false, not_false_eq_true, true_and, and_true, forall_const, false_and, and_false, implies_true, Za2, Za3, Za4, Za5]
      refine NewB.of fun b1 hb1 hF1 => ?_
      simp (disch := first | assumption | exact Ne.symm (by assumption) | omega) only [hF1, ↓ZD, ZU, ne_eq, Zaa, Zab, false_implies, Zac, Zad, Zae, Zaf, Zag, Zah, Zai, Zaj, Zak, Zal, Zam, Zan, Zao, Zap, Zaq, Zar, Zas, Zat, Zau, Zav, Zaw, Zax, Zay, Zaz, Za0, Za1, decide_true, decide_false, beq_self_eq_true, cond_true, cond_false, if_false, if_true, reduceIte, reduceCtorEq, not_true_eq_false, not_false_eq_true, true_and, and_true, forall_const, false_and, and_false, implies_true, Za2, Za3, Za4, Za5]
      refine NewB.of fun b2 hb2 hF2 => ?_
      simp only [List.forall_mem_cons] at hb2
      obtain ⟨_, _⟩ := hb2
      simp (disch := first | assumption | exact Ne.symm (by assumption) | omega) only [hF1, hF2, ↓ZD, ZU, ne_eq, Zaa, Zab, false_implies, Zac, Zad, Zae, Zaf, Zag, Zah, Zai, Zaj, Zak, Zal, Zam, Zan, Zao, Zap, Zaq, Zar, Zas, Zat, Zau, Zav, Zaw, Zax, Zay, Zaz, Za0, Za1, decide_true, decide_false, beq_self_eq_true, cond_true, cond_false, if_false, if_true, reduceIte, reduceCtorEq, not_true_eq_false, not_false_eq_true, true_and, and_true, forall_const, false_and, and_false, implies_true, Za2, Za3, Za4, Za5]
      refine NewB.of fun b3 hb3 hF3 => ?_
      simp only [List.forall_mem_cons] at hb3
      obtain ⟨_, _, _⟩ := hb3
      simp (disch := first | assumption | exact Ne.symm (by assumption) | omega) only [hF1, hF2, hF3, ↓ZD, ZU, ne_eq, Zaa, Zab, false_implies, Zac, Zad, Zae, Zaf, Zag, Zah, Zai, Zaj, Zak, Zal, Zam, Zan, Zao, Zap, Zaq, Zar, Zas, Zat, Zau, Zav, Zaw, Zax, Zay, Zaz, Za0, Za1, decide_true, decide_false, beq_self_eq_true, cond_true, cond_false, if_false, if_true, reduceIte, reduceCtorEq, not_true_eq_false, not_false_eq_true, true_and, and_true, forall_const, false_and, and_false, implies_true, Za2, Za3, Za4, Za5]
      refine CallE.pureH (hidx b2 9 _ (by simp (disch := first | assumption | exact Ne.symm (by assumption) | omega) only [hF2, ↓ZD, ZU, ne_eq, Zaa, Zab, false_implies, Zac, Zad, Zae, Zaf, Zag, Zah, Zai, Zaj, Zak, Zal, Zam, Zan, Zao, Zap, Zaq, Zar, Zas, Zat, Zau, Zav, Zaw, Zax, Zay, Zaz, Za0, Za1, decide_true, decide_false, beq_self_eq_true, cond_true, cond_false, if_false, if_true, reduceIte, reduceCtorEq, not_true_eq_false, not_false_eq_true, true_and, and_true, forall_const, false_and, and_false, implies_true, Za2, Za3, Za4, Za5])) ?_
      simp (disch := first | assumption | exact Ne.symm (by assumption) | omega) only [hF1, hF2, hF3, hd, ↓ZD, ZU, ne_eq, Zaa, Zab, false_implies, Zac, Zad, Zae, Zaf, Zag, Zah, Zai, Zaj, Zak, Zal, Zam, Zan, Zao, Zap, Zaq, Zar, Zas, Zat, Zau, Zav, Zaw, Zax, Zay, Zaz, Za0, Za1, decide_true, decide_false, beq_self_eq_true, cond_true, cond_false, if_false, if_true, reduceIte, reduceCtorEq, not_true_eq_false, not_false_eq_true, true_and, and_true, forall_const, false_and, and_false, implies_true, Za2, Za3, Za4, Za5]
      refine conj.of (by omega) ?_
      simp (disch := first | assumption | exact Ne.symm (by assumption) | omega) only [hF1, hF2, hF3, hd, Int.toNat_natCast, ↓hla, hd2, ↓ZD, ZU, ne_eq, Zaa, Zab, false_implies, Zac, Zad, Zae, Zaf, Zag, Zah, Zai, Zaj, Zak, Zal, Zam, Zan, Zao, Zap, Zaq, Zar, Zas, Zat, Zau, Zav, Zaw, Zax, Zay, Zaz, Za0, Za1, decide_true, decide_false, beq_self_eq_true, cond_true, cond_false, if_false, if_true, reduceIte, reduceCtorEq, not_true_eq_false, not_false_eq_true, true_and, and_true, forall_const, false_and, and_false, implies_true, Za2, Za3, Za4, Za5]
end Go.Proofs.YtnnieekbklmgdaaDoor
