/- Layer 11: the order of texts, and what may be. -/
import Derived.Test.YtnnieekbklmgdaaDoorTyF
namespace Go.Proofs.YtnnieekbklmgdaaDoor
open Go Go.Eng
open Int renaming reduceEq → Zaa, reduceToNat → Zaw, reduceLE → Zax, reduceLT → Zay, reduceAdd → Zaz, reduceSub → Za0, reduceNeg → Za1, reducePow → Za3, reduceNegSucc → Za5
open UInt8 renaming reduceOfNat → Zab
open Go.Eng renaming subG → Zac, lit → Zad, isPar → Zae, numb → Zaf, Wf → Zag, resV → Zah, oneCell → Zai, isB → Zaj, asB → Zak
open List renaming mapM_cons → Zal, mapM_nil → Zam
open Go.Value renaming cells → Zan
open Nat renaming reduceAdd → Zao, reduceMul → Zap, reduceMod → Zaq, reduceDiv → Zar, reduceEqDiff → Zas, reduceBEq → Zat, reduceLeDiff → Zau, reduceSub → Zav, reducePow → Za2, reduceLT → Za4
set_option linter.unusedSimpArgs false
set_option linter.unusedVariables false
set_option maxRecDepth 20000

def cmpT : List UInt8 → List UInt8 → Int
  | [], [] => 0
  | [], _ :: _ => -1
  | _ :: _, [] => 1
  | x :: l, y :: m => if x = y then cmpT l m else if x.toNat < y.toNat then -1 else 1
theorem ints_pure (F : Base) (a b : Int) : PureV Tryd.prog F 73 #[.int .i64 a, .int .i64 b] (.int .i64 (if a < b then -1 else if b < a then 1 else 0)) := by
  refine pureV_of_svc mixed Tryd.func73 low73 (Nat.le_of_ble_eq_true rfl) (fun w0 => ?_)
  simp (disch := first | assumption | exact Ne.symm (by assumption) | omega) only [fu73, ↓ZD, ZU, ne_eq, Zaa, Zab, false_implies, Zac, Zad, Zae, Zaf, Zag, Zah, Zai, Zaj, Zak, Zal, Zam, Zan, Zao, Zap, Zaq, Zar, Zas, Zat, Zau, Zav, Zaw, Zax, Zay, Zaz, Za0, Za1, decide_true, decide_false, beq_self_eq_true, cond_true, cond_false, if_false, if_true, reduceIte, reduceCtorEq, not_true_eq_false, not_false_eq_true, true_and, and_true, forall_const, false_and, and_false, implies_true, Za2, Za3, Za4, Za5]
  refine ⟨fun h => ?_, fun h => ⟨fun h' => ?_, fun h' => ?_⟩⟩
  · rw [if_pos (by simpa using h)]
  · rw [if_neg (by simpa using h), if_pos (by simpa using h')]
  · rw [if_neg (by simpa using h), if_neg (by simpa using h')]
theorem cmpT_drop (a b : List UInt8) (i : Nat) (ha : i < a.length) (hb : i < b.length) : cmpT (a.drop i) (b.drop i) = if a.getD i 0 = b.getD i 0 then cmpT (a.drop (i + 1)) (b.drop (i + 1)) else if (a.getD i 0).toNat < (b.getD i 0).toNat then -1 else 1 := by
  rw [List.drop_eq_getElem_cons ha, List.drop_eq_getElem_cons hb, cmpT]
  simp [ha, hb]
theorem texts_pure (F : Base) (a b : List UInt8) (ha : a.length ≤ 9223372036854775807) (hb : b.length ≤ 9223372036854775807) : PureV Tryd.prog F 68 #[.string (bs a), .string (bs b)] (.int .i64 (cmpT a b)) := by
  refine pureV_of_svc mixed Tryd.func68 low68 (Nat.le_of_ble_eq_true rfl) (fun w0 => ?_)
  simp (disch := first | assumption | exact Ne.symm (by assumption) | omega) only [fu68, ↓ZD, ZU, ne_eq, Zaa, Zab, false_implies, Zac, Zad, Zae, Zaf, Zag, Zah, Zai, Zaj, Zak, Zal, Zam, Zan, Zao, Zap, Zaq, Zar, Zas, Zat, Zau, Zav, Zaw, Zax, Zay, Zaz, Za0, Za1, decide_true, decide_false, beq_self_eq_true, cond_true, cond_false, if_false, if_true, reduceIte, reduceCtorEq, not_true_eq_false, not_false_eq_true, true_and, and_true, forall_const, false_and, and_false, implies_true, Za2, Za3, Za4, Za5]
  refine LoopL.inv (α := Nat) (fun i => i ≤ a.length ∧ i ≤ b.length ∧ cmpT a b = cmpT (a.drop i) (b.drop i))
    (fun i => [(0, some (.string (bs a))), (1, some (.string (bs b))), (5, some (.int .i64 i))]) (fun i => []) (fun i => a.length - i) 0 ⟨Nat.zero_le _, Nat.zero_le _, rfl⟩ ?_ ?_ ?_
  · simp only [Le_nil, Le_cons]
    simp (disch := first | assumption | exact Ne.symm (by assumption) | omega) only [↓ZD, ZU, ne_eq, Zaa, Zab, false_implies, Zac, Zad, Zae, Zaf, Zag, Zah, Zai, Zaj, Zak, Zal, Zam, Zan, Zao, Zap, Zaq, Zar, Zas, Zat, Zau, Zav, Zaw, Zax, Zay, Zaz, Za0, Za1, decide_true, decide_false, beq_self_eq_true, cond_true, cond_false, if_false, if_true, reduceIte, reduceCtorEq, not_true_eq_false, not_false_eq_true, true_and, and_true, forall_const, false_and, and_false, implies_true, Za2, Za3, Za4, Za5]
  · simp only [HLe_nil]
  · rintro i ⟨h1, h2, h3⟩
    by_cases hlt : i < a.length ∧ i < b.length
    · have hd : decide ((i : Int) < (a.length : Int)) = true := by simp; omega
      have hd' : decide ((i : Int) < (b.length : Int)) = true := by simp; omega
      have hc := cmpT_drop a b i hlt.1 hlt.2
      rw [← h3] at hc
      simp (disch := first | assumption | exact Ne.symm (by assumption) | omega) only [hd, hd', ↓ZD, ZU, ne_eq, Zaa, Zab, false_implies, Zac, Zad, Zae, Zaf, Zag, Zah, Zai, Zaj, Zak, Zal, Zam, Zan, Zao, Zap, Zaq, Zar, Zas, Zat, Zau, Zav, Zaw, Zax, Zay, Zaz, Za0, Za1, decide_true, decide_false, beq_self_eq_true, cond_true, cond_false, if_false, if_true, reduceIte, reduceCtorEq, not_true_eq_false, not_false_eq_true, true_and, and_true, forall_const, false_and, and_false, implies_true, Za2, Za3, Za4, Za5]
      refine conj.of (by omega) ?_
      simp (disch := first | assumption | exact Ne.symm (by assumption) | omega) only [hd, hd', Int.toNat_natCast, ↓ZD, ZU, ne_eq, Zaa, Zab, false_implies, Zac, Zad, Zae, Zaf, Zag, Zah, Zai, Zaj, Zak, Zal, Zam, Zan, Zao, Zap, Zaq, Zar, Zas, Zat, Zau, Zav, Zaw, Zax, Zay, Zaz, Za0, Za1, decide_true, decide_false, beq_self_eq_true, cond_true, cond_false, if_false, if_true, reduceIte, reduceCtorEq, not_true_eq_false, not_false_eq_true, true_and, and_true, forall_const, false_and, and_false, implies_true, Za2, Za3, Za4, Za5]
      refine conj.of (by omega) ?_
      simp (disch := first | assumption | exact Ne.symm (by assumption) | omega) only [hd, hd', Int.toNat_natCast, ↓ZD, ZU, ne_eq, Zaa, Zab, false_implies, Zac, Zad, Zae, Zaf, Zag, Zah, Zai, Zaj, Zak, Zal, Zam, Zan, Zao, Zap, Zaq, Zar, Zas, Zat, Zau, Zav, Zaw, Zax, Zay, Zaz, Za0, Za1, decide_true, decide_false, beq_self_eq_true, cond_true, cond_false, if_false, if_true, reduceIte, reduceCtorEq, not_true_eq_false, not_false_eq_true, true_and, and_true, forall_const, false_and, and_false, implies_true, Za2, Za3, Za4, Za5]
      refine ⟨fun hne => ?_, fun hne => ?_⟩
      · have hxy : ¬ a.getD i 0 = b.getD i 0 := by intro e; rw [e] at hne; simp at hne
        rw [if_neg hxy] at hc
        refine conj.of (by omega) ?_
        simp (disch := first | assumption | exact Ne.symm (by assumption) | omega) only [Int.toNat_natCast, ↓ZD, ZU, ne_eq, Zaa, Zab, false_implies, Zac, Zad, Zae, Zaf, Zag, Zah, Zai, Zaj, Zak, Zal, Zam, Zan, Zao, Zap, Zaq, Zar, Zas, Zat, Zau, Zav, Zaw, Zax, Zay, Zaz, Za0, Za1, decide_true, decide_false, beq_self_eq_true, cond_true, cond_false, if_false, if_true, reduceIte, reduceCtorEq, not_true_eq_false, not_false_eq_true, true_and, and_true, forall_const, false_and, and_false, implies_true, Za2, Za3, Za4, Za5]
        refine conj.of (by omega) ?_
        simp (disch := first | assumption | exact Ne.symm (by assumption) | omega) only [Int.toNat_natCast, ↓ZD, ZU, ne_eq, Zaa, Zab, false_implies, Zac, Zad, Zae, Zaf, Zag, Zah, Zai, Zaj, Zak, Zal, Zam, Zan, Zao, Zap, Zaq, Zar, Zas, Zat, Zau, Zav, Zaw, Zax, Zay, Zaz, Za0, Za1, decide_true, decide_false, beq_self_eq_true, cond_true, cond_false, if_false, if_true, reduceIte, reduceCtorEq, not_true_eq_false, not_false_eq_true, true_and, and_true, forall_const, false_and, and_false, implies_true, Za2, Za3, Za4, Za5]
        refine ⟨fun hb => ?_, fun hb => ?_⟩
        · simp only [decide_eq_true_eq] at hb
          rw [hc, if_pos (by omega)]
        · simp only [decide_eq_false_iff_not] at hb
          rw [hc, if_neg (by omega)]
      · have hxy : a.getD i 0 = b.getD i 0 := by
          apply UInt8.toNat_inj.mp
          simp only [bne_eq_false_iff_eq] at hne; omega
        rw [if_pos hxy] at hc
        refine invK.on (i + 1) ⟨by omega, by omega, hc⟩ (by omega) ?_ ?_
        · simp only [Le_nil, Le_cons]
          simp (disch := first | assumption | exact Ne.symm (by assumption) | omega) only [↓ZD, ZU, ne_eq, Zaa, Zab, false_implies, Zac, Zad, Zae, Zaf, Zag, Zah, Zai, Zaj, Zak, Zal, Zam, Zan, Zao, Zap, Zaq, Zar, Zas, Zat, Zau, Zav, Zaw, Zax, Zay, Zaz, Za0, Za1, decide_true, decide_false, beq_self_eq_true, cond_true, cond_false, if_false, if_true, reduceIte, reduceCtorEq, not_true_eq_false, not_false_eq_true, true_and, and_true, forall_const, false_and, and_false, implies_true, Za2, Za3, Za4, Za5]
          trivial
        · simp only [HLe_nil]
    · have hd : (decide ((i : Int) < (a.length : Int)) && decide ((i : Int) < (b.length : Int))) = false := by simp; omega
      have hr : cmpT a b = if (a.length : Int) < b.length then -1 else if (b.length : Int) < a.length then 1 else 0 := by
        rw [h3]
        by_cases hal : i = a.length
        · by_cases hbl : i = b.length
          · rw [List.drop_eq_nil_of_le (by omega), List.drop_eq_nil_of_le (by omega), if_neg (by omega), if_neg (by omega)]; rfl
          · rw [List.drop_eq_nil_of_le (by omega), List.drop_eq_getElem_cons (by omega), if_pos (by omega)]; rfl
        · rw [List.drop_eq_getElem_cons (l := a) (by omega), List.drop_eq_nil_of_le («as» := b) (by omega), if_neg (by omega), if_pos (by omega)]; rfl
      simp (disch := first | assumption | exact Ne.symm (by assumption) | omega) only [hd, ↓ZD, ZU, ne_eq, Zaa, Zab, false_implies, Zac, Zad, Zae, Zaf, Zag, Zah, Zai, Zaj, Zak, Zal, Zam, Zan, Zao, Zap, Zaq, Zar, Zas, Zat, Zau, Zav, Zaw, Zax, Zay, Zaz, Za0, Za1, decide_true, decide_false, beq_self_eq_true, cond_true, cond_false, if_false, if_true, reduceIte, reduceCtorEq, not_true_eq_false, not_false_eq_true, true_and, and_true, forall_const, false_and, and_false, implies_true, Za2, Za3, Za4, Za5]
      refine CallE.pure (ints_pure F a.length b.length) ?_
      simp (disch := first | assumption | exact Ne.symm (by assumption) | omega) only [hr, ↓ZD, ZU, ne_eq, Zaa, Zab, false_implies, Zac, Zad, Zae, Zaf, Zag, Zah, Zai, Zaj, Zak, Zal, Zam, Zan, Zao, Zap, Zaq, Zar, Zas, Zat, Zau, Zav, Zaw, Zax, Zay, Zaz, Za0, Za1, decide_true, decide_false, beq_self_eq_true, cond_true, cond_false, if_false, if_true, reduceIte, reduceCtorEq, not_true_eq_false, not_false_eq_true, true_and, and_true, forall_const, false_and, and_false, implies_true, Za2, Za3, Za4, Za5]
end Go.Proofs.YtnnieekbklmgdaaDoor
