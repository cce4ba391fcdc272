/- Layer 11: what may be, told; how big a type is. -/
import Derived.Test.YtnnieekbklmgdaaDoorTyI
import Derived.Test.YtnnieekbklmgdaaDoorTyP
namespace Go.Proofs.YtnnieekbklmgdaaDoor
open Go Go.Eng
open Int renaming reduceEq → Zaa, reduceToNat → Zaw, reduceLE → Zax, reduceLT → Zay, reduceAdd → Zaz, reduceSub → Za0, reduceNeg → Za1, reducePow → Za3, reduceNegSucc → Za5
open UInt8 renaming reduceOfNat → Zab
open Go.Eng renaming subG → Zac, lit → Zad, isPar → Zae, numb → Zaf, Wf → Zag, resV → Zah, oneCell → Zai, isB → Zaj, asB → Zak
open List renaming mapM_cons → Zal, mapM_nil → Zam
open Go.Value renaming cells → Zan
open Nat renaming reduceAdd → Zao, reduceMul → Zap, reduceMod → Zaq, reduceDiv → Zar, reduceEqDiff → Zas, reduceBEq → Zat, reduceLeDiff → Zau, reduceSub → Zav, reducePow → Za2, reduceLT → Za4
set_option linter.unusedSimpArgs false
set_option linter.unusedVariables false
set_option maxRecDepth 20000

def chk (t : Ty) : Int := if 50 < (depth t : Int) then 11 else if may t then 0 else 1
theorem check_pure (F : Base) {ca : List Value} {a : Ty} (ha : RepT F ca a) (hd : depth a ≤ 1000000) : PureV Tryd.prog F 46 #[.agg ca.toArray] (.int .i64 (chk a)) := by
  have h1 := depth_pure F ha hd
  have h2 := may_pure F ha
  obtain ⟨_, _, _, _, _, _, _, _, rfl⟩ := ha.form
  refine pureV_of_svc mixed Tryd.func46 low46 (Nat.le_of_ble_eq_true rfl) (fun w0 => ?_)
  simp (disch := first | assumption | exact Ne.symm (by assumption) | omega) only [fu46, ↓ZD, ZU, ne_eq, Zaa, Zab, false_implies, Zac, Zad, Zae, Zaf, Zag, Zah, Zai, Zaj, Zak, Zal, Zam, Zan, Zao, Zap, Zaq, Zar, Zas, Zat, Zau, Zav, Zaw, Zax, Zay, Zaz, Za0, Za1, decide_true, decide_false, beq_self_eq_true, cond_true, cond_false, if_false, if_true, reduceIte, reduceCtorEq, not_true_eq_false, not_false_eq_true, true_and, and_true, forall_const, false_and, and_false, implies_true, Za2, Za3, Za4, Za5]
  refine NewB.of fun b1 hb1 hF1 => ?_
  simp (disch := first | assumption | exact Ne.symm (by assumption) | omega) only [hF1, ↓ZD, ZU, ne_eq, Zaa, Zab, false_implies, Zac, Zad, Zae, Zaf, Zag, Zah, Zai, Zaj, Zak, Zal, Zam, Zan, Zao, Zap, Zaq, Zar, Zas, Zat, Zau, Zav, Zaw, Zax, Zay, Zaz, Za0, Za1, decide_true, decide_false, beq_self_eq_true, cond_true, cond_false, if_false, if_true, reduceIte, reduceCtorEq, not_true_eq_false, not_false_eq_true, true_and, and_true, forall_const, false_and, and_false, implies_true, Za2, Za3, Za4, Za5]
  refine CallE.pure h1 ?_
  unfold chk
  simp (disch := first | assumption | exact Ne.symm (by assumption) | omega) only [hF1, ↓ZD, ZU, ne_eq, Zaa, Zab, false_implies, Zac, Zad, Zae, Zaf, Zag, Zah, Zai, Zaj, Zak, Zal, Zam, Zan, Zao, Zap, Zaq, Zar, Zas, Zat, Zau, Zav, Zaw, Zax, Zay, Zaz, Za0, Za1, decide_true, decide_false, beq_self_eq_true, cond_true, cond_false, if_false, if_true, reduceIte, reduceCtorEq, not_true_eq_false, not_false_eq_true, true_and, and_true, forall_const, false_and, and_false, implies_true, Za2, Za3, Za4, Za5]
  refine ⟨fun h => ?_, fun h => ?_⟩
  · rw [if_pos (of_decide_eq_true h)]
  · rw [if_neg (of_decide_eq_false h)]
    refine CallE.pure h2 ?_
    simp (disch := first | assumption | exact Ne.symm (by assumption) | omega) only [hF1, ↓ZD, ZU, ne_eq, Zaa, Zab, false_implies, Zac, Zad, Zae, Zaf, Zag, Zah, Zai, Zaj, Zak, Zal, Zam, Zan, Zao, Zap, Zaq, Zar, Zas, Zat, Zau, Zav, Zaw, Zax, Zay, Zaz, Za0, Za1, decide_true, decide_false, beq_self_eq_true, cond_true, cond_false, if_false, if_true, reduceIte, reduceCtorEq, not_true_eq_false, not_false_eq_true, true_and, and_true, forall_const, false_and, and_false, implies_true, Za2, Za3, Za4, Za5]
    cases may a <;> simp
theorem rcheck_pure (F : Base) {ca : List Value} {a : Ty} (ha : RepT F ca a) (hd : depth a ≤ 1000000) : PureV Tryd.prog F 50 #[.agg ca.toArray] (.int .i64 (chk a)) := by
  have h1 := rdepth_pure F ha hd
  have h2 := rmay_pure F ha
  obtain ⟨_, _, _, _, _, _, _, _, rfl⟩ := ha.form
  refine pureV_of_svc mixed Tryd.func50 low50 (Nat.le_of_ble_eq_true rfl) (fun w0 => ?_)
  simp (disch := first | assumption | exact Ne.symm (by assumption) | omega) only [fu50, ↓ZD, ZU, ne_eq, Zaa, Zab, false_implies, Zac, Zad, Zae, Zaf, Zag, Zah, Zai, Zaj, Zak, Zal, Zam, Zan, Zao, Zap, Zaq, Zar, Zas, Zat, Zau, Zav, Zaw, Zax, Zay, Zaz, Za0, Za1, decide_true, decide_false, beq_self_eq_true, cond_true, cond_false, if_false, if_true, reduceIte, reduceCtorEq, not_true_eq_false, not_false_eq_true, true_and, and_true, forall_const, false_and, and_false, implies_true, Za2, Za3, Za4, Za5]
  refine NewB.of fun b1 hb1 hF1 => ?_
  simp (disch := first | assumption | exact Ne.symm (by assumption) | omega) only [hF1, ↓ZD, ZU, ne_eq, Zaa, Zab, false_implies, Zac, Zad, Zae, Zaf, Zag, Zah, Zai, Zaj, Zak, Zal, Zam, Zan, Zao, Zap, Zaq, Zar, Zas, Zat, Zau, Zav, Zaw, Zax, Zay, Zaz, Za0, Za1, decide_true, decide_false, beq_self_eq_true, cond_true, cond_false, if_false, if_true, reduceIte, reduceCtorEq, not_true_eq_false, not_false_eq_true, true_and, and_true, forall_const, false_and, and_false, implies_true, Za2, Za3, Za4, Za5]
  refine CallE.pure h1 ?_
  unfold chk
  simp (disch := first | assumption | exact Ne.symm (by assumption) | omega) only [hF1, ↓ZD, ZU, ne_eq, Zaa, Zab, false_implies, Zac, Zad, Zae, Zaf, Zag, Zah, Zai, Zaj, Zak, Zal, Zam, Zan, Zao, Zap, Zaq, Zar, Zas, Zat, Zau, Zav, Zaw, Zax, Zay, Zaz, Za0, Za1, decide_true, decide_false, beq_self_eq_true, cond_true, cond_false, if_false, if_true, reduceIte, reduceCtorEq, not_true_eq_false, not_false_eq_true, true_and, and_true, forall_const, false_and, and_false, implies_true, Za2, Za3, Za4, Za5]
  refine ⟨fun h => ?_, fun h => ?_⟩
  · rw [if_pos (of_decide_eq_true h)]
  · rw [if_neg (of_decide_eq_false h)]
    refine CallE.pure h2 ?_
    simp (disch := first | assumption | exact Ne.symm (by assumption) | omega) only [hF1, ↓ZD, ZU, ne_eq, Zaa, Zab, false_implies, Zac, Zad, Zae, Zaf, Zag, Zah, Zai, Zaj, Zak, Zal, Zam, Zan, Zao, Zap, Zaq, Zar, Zas, Zat, Zau, Zav, Zaw, Zax, Zay, Zaz, Za0, Za1, decide_true, decide_false, beq_self_eq_true, cond_true, cond_false, if_false, if_true, reduceIte, reduceCtorEq, not_true_eq_false, not_false_eq_true, true_and, and_true, forall_const, false_and, and_false, implies_true, Za2, Za3, Za4, Za5]
    cases may a <;> simp
mutual
def few : Ty → Int → Bool
  | .mk _ _ es ats, d => !(decide (10 < (es.length : Int)) || decide (10 < (ats.length : Int)) || decide (60 < d)) && (fewL es (d + 1) && fewA ats (d + 1))
def fewL : List Ty → Int → Bool
  | [], _ => true
  | x :: l, d => few x d && fewL l d
def fewA : List (List UInt8 × Ty × Bool) → Int → Bool
  | [], _ => true
  | (_, t, _) :: l, d => few t d && fewA l d
end
theorem fewL_eq (d : Int) : ∀ l, fewL l d = l.all fun x => few x d
  | [] => by simp [fewL]
  | x :: l => by rw [fewL, fewL_eq]; rfl
theorem fewA_eq (d : Int) : ∀ l, fewA l d = l.all fun x : At => few x.2.1 d
  | [] => by simp [fewA]
  | (_, t, _) :: l => by rw [fewA, fewA_eq]; rfl
theorem fewL_snoc {d : Int} {l : List Ty} {i : Nat} {x : Ty} (h : l[i]? = some x) : fewL (l.take (i + 1)) d = (fewL (l.take i) d && few x d) := by
  rw [fewL_eq, fewL_eq, take_snoc h, List.all_append]; simp
theorem fewA_snoc {d : Int} {l : List At} {i : Nat} {x : At} (h : l[i]? = some x) : fewA (l.take (i + 1)) d = (fewA (l.take i) d && few x.2.1 d) := by
  rw [fewA_eq, fewA_eq, take_snoc h, List.all_append]; simp
theorem fewL_no {d : Int} {l : List Ty} {i : Nat} {x : Ty} (h : l[i]? = some x) (hx : few x d = false) : fewL l d = false := by
  rw [fewL_eq, List.all_eq_false]; exact ⟨x, List.mem_of_getElem? h, by simp [hx]⟩
theorem fewA_no {d : Int} {l : List At} {i : Nat} {x : At} (h : l[i]? = some x) (hx : few x.2.1 d = false) : fewA l d = false := by
  rw [fewA_eq, List.all_eq_false]; exact ⟨x, List.mem_of_getElem? h, by simp [hx]⟩
theorem few_pure (F : Base) {ca : List Value} {a : Ty} (ha : RepT F ca a) : ∀ d : Int, -9223372036854775808 ≤ d → d ≤ 9223372036854775807 → PureV Tryd.prog F 21 #[.agg ca.toArray, .int .i64 d] (.bool (few a d)) := by
  induction ha with
  | mk k nm a1 c1 a2 c2 es ats g1 g2 hk hn hl1 hl2 hc1 hc2 h1 r1 h2 r2 i1 i2 =>
    intro d hd1 hd2
    refine pureV_of_svc mixed Tryd.func21 low21 (Nat.le_of_ble_eq_true rfl) (fun w0 => ?_)
    simp (disch := first | assumption | exact Ne.symm (by assumption) | omega) only [fu21, ↓ZD, ZU, ne_eq, Zaa, Zab, false_implies, Zac, Zad, Zae, Zaf, Zag, Zah, Zai, Zaj, Zak, Zal, Zam, Zan, Zao, Zap, Zaq, Zar, Zas, Zat, Zau, Zav, Zaw, Zax, Zay, Zaz, Za0, Za1, decide_true, decide_false, beq_self_eq_true, cond_true, cond_false, if_false, if_true, reduceIte, reduceCtorEq, not_true_eq_false, not_false_eq_true, true_and, and_true, forall_const, false_and, and_false, implies_true, Za2, Za3, Za4, Za5]
    refine NewB.of fun b1 hb1 hF1 => ?_
    rw [few]
    simp (disch := first | assumption | exact Ne.symm (by assumption) | omega) only [hF1, ↓ZD, ZU, ne_eq, Zaa, Zab, false_implies, Zac, Zad, Zae, Zaf, Zag, Zah, Zai, Zaj, Zak, Zal, Zam, Zan, Zao, Zap, Zaq, Zar, Zas, Zat, Zau, Zav, Zaw, Zax, Zay, Zaz, Za0, Za1, decide_true, decide_false, beq_self_eq_true, cond_true, cond_false, if_false, if_true, reduceIte, reduceCtorEq, not_true_eq_false, not_false_eq_true, true_and, and_true, forall_const, false_and, and_false, implies_true, Za2, Za3, Za4, Za5]
    have hbd : (decide (10 < (es.length : Int)) || decide (10 < (ats.length : Int)) || decide (60 < d)) = false → d ≤ 60 := fun h => by
      simp only [Bool.or_eq_false_iff, decide_eq_false_iff_not] at h; omega
    revert hbd
    generalize (decide (10 < (es.length : Int)) || decide (10 < (ats.length : Int)) || decide (60 < d)) = bad
    intro hbd
    refine ⟨fun hb => ?_, fun hb => ?_⟩
    · rw [hb]; rfl
    have hdm := hbd hb
    rw [hb, Bool.not_false, Bool.true_and]
    refine LoopL.inv (α := Nat) (fun i => i ≤ es.length ∧ fewL (es.take i) (d + 1) = true)
      (fun i => [(1, some (.int .i64 d)), (2, some (.pointer (some ⟨b1, 0, none⟩))), (5, some (.int .i64 i))])
      (fun i => [(b1, .cells #[.int .i64 k, .string (bs nm), .slice a1 es.length c1, .slice a2 ats.length c2] 55 (0, 0))])
      (fun i => es.length - i) 0 ⟨Nat.zero_le _, rfl⟩ (by (simp only [Le_nil, Le_cons]; simp (disch := first | assumption | exact Ne.symm (by assumption) | omega) only [↓ZD, ZU, ne_eq, Zaa, Zab, false_implies, Zac, Zad, Zae, Zaf, Zag, Zah, Zai, Zaj, Zak, Zal, Zam, Zan, Zao, Zap, Zaq, Zar, Zas, Zat, Zau, Zav, Zaw, Zax, Zay, Zaz, Za0, Za1, decide_true, decide_false, beq_self_eq_true, cond_true, cond_false, if_false, if_true, reduceIte, reduceCtorEq, not_true_eq_false, not_false_eq_true, true_and, and_true, forall_const, false_and, and_false, implies_true, Za2, Za3, Za4, Za5]; try trivial)) (by (simp only [HLe_nil, HLe_cons]; try (simp (disch := first | assumption | exact Ne.symm (by assumption) | omega) only [↓ZD, ZU, ne_eq, Zaa, Zab, false_implies, Zac, Zad, Zae, Zaf, Zag, Zah, Zai, Zaj, Zak, Zal, Zam, Zan, Zao, Zap, Zaq, Zar, Zas, Zat, Zau, Zav, Zaw, Zax, Zay, Zaz, Za0, Za1, decide_true, decide_false, beq_self_eq_true, cond_true, cond_false, if_false, if_true, reduceIte, reduceCtorEq, not_true_eq_false, not_false_eq_true, true_and, and_true, forall_const, false_and, and_false, implies_true, Za2, Za3, Za4, Za5]))) ?_
    rintro i ⟨hi, hml⟩
    by_cases hlt : i < es.length
    · have hd : decide ((i : Int) < (es.length : Int)) = true := by simp; omega
      have gx := getT hlt
      have hc := i1 i _ gx (d + 1) (by omega) (by omega)
      have hms := fewL_snoc (d := d + 1) gx
      rw [hml, Bool.true_and] at hms
      obtain ⟨ba, oa, rfl, hla⟩ := (h1 i _ gx).ldn
      simp (disch := first | assumption | exact Ne.symm (by assumption) | omega) only [hF1, hd, ↓ZD, ZU, ne_eq, Zaa, Zab, false_implies, Zac, Zad, Zae, Zaf, Zag, Zah, Zai, Zaj, Zak, Zal, Zam, Zan, Zao, Zap, Zaq, Zar, Zas, Zat, Zau, Zav, Zaw, Zax, Zay, Zaz, Za0, Za1, decide_true, decide_false, beq_self_eq_true, cond_true, cond_false, if_false, if_true, reduceIte, reduceCtorEq, not_true_eq_false, not_false_eq_true, true_and, and_true, forall_const, false_and, and_false, implies_true, Za2, Za3, Za4, Za5]
      refine conj.of (by omega) ?_
      simp (disch := first | assumption | exact Ne.symm (by assumption) | omega) only [hF1, hd, Int.toNat_natCast, ↓hla, ↓ZD, ZU, ne_eq, Zaa, Zab, false_implies, Zac, Zad, Zae, Zaf, Zag, Zah, Zai, Zaj, Zak, Zal, Zam, Zan, Zao, Zap, Zaq, Zar, Zas, Zat, Zau, Zav, Zaw, Zax, Zay, Zaz, Za0, Za1, decide_true, decide_false, beq_self_eq_true, cond_true, cond_false, if_false, if_true, reduceIte, reduceCtorEq, not_true_eq_false, not_false_eq_true, true_and, and_true, forall_const, false_and, and_false, implies_true, Za2, Za3, Za4, Za5]
      refine CallE.pure hc ?_
      simp (disch := first | assumption | exact Ne.symm (by assumption) | omega) only [hF1, ↓ZD, ZU, ne_eq, Zaa, Zab, false_implies, Zac, Zad, Zae, Zaf, Zag, Zah, Zai, Zaj, Zak, Zal, Zam, Zan, Zao, Zap, Zaq, Zar, Zas, Zat, Zau, Zav, Zaw, Zax, Zay, Zaz, Za0, Za1, decide_true, decide_false, beq_self_eq_true, cond_true, cond_false, if_false, if_true, reduceIte, reduceCtorEq, not_true_eq_false, not_false_eq_true, true_and, and_true, forall_const, false_and, and_false, implies_true, Za2, Za3, Za4, Za5]
      refine ⟨fun hx => ?_, fun hx => ?_⟩
      · have hx : few (es.getD i nilT) (d + 1) = false := by simpa using hx
        rw [fewL_no gx hx]; rfl
      · have hx : few (es.getD i nilT) (d + 1) = true := by simpa using hx
        refine invK.on (i + 1) (⟨by omega, by rw [hms, hx]⟩) (by omega) (by (simp only [Le_nil, Le_cons]; simp (disch := first | assumption | exact Ne.symm (by assumption) | omega) only [hF1, ↓ZD, ZU, ne_eq, Zaa, Zab, false_implies, Zac, Zad, Zae, Zaf, Zag, Zah, Zai, Zaj, Zak, Zal, Zam, Zan, Zao, Zap, Zaq, Zar, Zas, Zat, Zau, Zav, Zaw, Zax, Zay, Zaz, Za0, Za1, decide_true, decide_false, beq_self_eq_true, cond_true, cond_false, if_false, if_true, reduceIte, reduceCtorEq, not_true_eq_false, not_false_eq_true, true_and, and_true, forall_const, false_and, and_false, implies_true, Za2, Za3, Za4, Za5]; try trivial)) (by (simp only [HLe_nil, HLe_cons]; try (simp (disch := first | assumption | exact Ne.symm (by assumption) | omega) only [hF1, ↓ZD, ZU, ne_eq, Zaa, Zab, false_implies, Zac, Zad, Zae, Zaf, Zag, Zah, Zai, Zaj, Zak, Zal, Zam, Zan, Zao, Zap, Zaq, Zar, Zas, Zat, Zau, Zav, Zaw, Zax, Zay, Zaz, Za0, Za1, decide_true, decide_false, beq_self_eq_true, cond_true, cond_false, if_false, if_true, reduceIte, reduceCtorEq, not_true_eq_false, not_false_eq_true, true_and, and_true, forall_const, false_and, and_false, implies_true, Za2, Za3, Za4, Za5])))
    · have hd : decide ((i : Int) < (es.length : Int)) = false := by simp; omega
      obtain rfl : i = es.length := by omega
      rw [List.take_length] at hml
      rw [hml, Bool.true_and]
      simp (disch := first | assumption | exact Ne.symm (by assumption) | omega) only [hF1, hd, ↓ZD, ZU, ne_eq, Zaa, Zab, false_implies, Zac, Zad, Zae, Zaf, Zag, Zah, Zai, Zaj, Zak, Zal, Zam, Zan, Zao, Zap, Zaq, Zar, Zas, Zat, Zau, Zav, Zaw, Zax, Zay, Zaz, Za0, Za1, decide_true, decide_false, beq_self_eq_true, cond_true, cond_false, if_false, if_true, reduceIte, reduceCtorEq, not_true_eq_false, not_false_eq_true, true_and, and_true, forall_const, false_and, and_false, implies_true, Za2, Za3, Za4, Za5]
      refine LoopL.inv (α := Nat) (fun i => i ≤ ats.length ∧ fewA (ats.take i) (d + 1) = true)
        (fun i => [(1, some (.int .i64 d)), (2, some (.pointer (some ⟨b1, 0, none⟩))), (7, some (.int .i64 i))])
        (fun i => [(b1, .cells #[.int .i64 k, .string (bs nm), .slice a1 es.length c1, .slice a2 ats.length c2] 55 (0, 0))])
        (fun i => ats.length - i) 0 ⟨Nat.zero_le _, rfl⟩ (by (simp only [Le_nil, Le_cons]; simp (disch := first | assumption | exact Ne.symm (by assumption) | omega) only [↓ZD, ZU, ne_eq, Zaa, Zab, false_implies, Zac, Zad, Zae, Zaf, Zag, Zah, Zai, Zaj, Zak, Zal, Zam, Zan, Zao, Zap, Zaq, Zar, Zas, Zat, Zau, Zav, Zaw, Zax, Zay, Zaz, Za0, Za1, decide_true, decide_false, beq_self_eq_true, cond_true, cond_false, if_false, if_true, reduceIte, reduceCtorEq, not_true_eq_false, not_false_eq_true, true_and, and_true, forall_const, false_and, and_false, implies_true, Za2, Za3, Za4, Za5]; try trivial)) (by (simp only [HLe_nil, HLe_cons]; try (simp (disch := first | assumption | exact Ne.symm (by assumption) | omega) only [↓ZD, ZU, ne_eq, Zaa, Zab, false_implies, Zac, Zad, Zae, Zaf, Zag, Zah, Zai, Zaj, Zak, Zal, Zam, Zan, Zao, Zap, Zaq, Zar, Zas, Zat, Zau, Zav, Zaw, Zax, Zay, Zaz, Za0, Za1, decide_true, decide_false, beq_self_eq_true, cond_true, cond_false, if_false, if_true, reduceIte, reduceCtorEq, not_true_eq_false, not_false_eq_true, true_and, and_true, forall_const, false_and, and_false, implies_true, Za2, Za3, Za4, Za5]))) ?_
      rintro i ⟨hi, hma⟩
      by_cases hlt : i < ats.length
      · have hd : decide ((i : Int) < (ats.length : Int)) = true := by simp; omega
        have gx := getA hlt
        have hc := i2 i _ gx (d + 1) (by omega) (by omega)
        have hms := fewA_snoc (d := d + 1) gx
        rw [hma, Bool.true_and] at hms
        obtain ⟨k', nm', a1', n1', c1', a2', n2', c2', hform⟩ := (r2 i _ gx).form
        rw [hform] at hc
        have hcl := h2 i _ gx
        rw [hform] at hcl
        obtain ⟨ba, oa, rfl, hla, hl1'⟩ := hcl.all
        have hla1 := hla 1 4 (by omega)
        simp (disch := first | assumption | exact Ne.symm (by assumption) | omega) only [hF1, hd, ↓ZD, ZU, ne_eq, Zaa, Zab, false_implies, Zac, Zad, Zae, Zaf, Zag, Zah, Zai, Zaj, Zak, Zal, Zam, Zan, Zao, Zap, Zaq, Zar, Zas, Zat, Zau, Zav, Zaw, Zax, Zay, Zaz, Za0, Za1, decide_true, decide_false, beq_self_eq_true, cond_true, cond_false, if_false, if_true, reduceIte, reduceCtorEq, not_true_eq_false, not_false_eq_true, true_and, and_true, forall_const, false_and, and_false, implies_true, Za2, Za3, Za4, Za5]
        refine conj.of (by omega) ?_
        simp (disch := first | assumption | exact Ne.symm (by assumption) | omega) only [hF1, hd, Int.toNat_natCast, ↓hla1, ↓ZD, ZU, ne_eq, Zaa, Zab, false_implies, Zac, Zad, Zae, Zaf, Zag, Zah, Zai, Zaj, Zak, Zal, Zam, Zan, Zao, Zap, Zaq, Zar, Zas, Zat, Zau, Zav, Zaw, Zax, Zay, Zaz, Za0, Za1, decide_true, decide_false, beq_self_eq_true, cond_true, cond_false, if_false, if_true, reduceIte, reduceCtorEq, not_true_eq_false, not_false_eq_true, true_and, and_true, forall_const, false_and, and_false, implies_true, Za2, Za3, Za4, Za5]
        refine CallE.pure hc ?_
        simp (disch := first | assumption | exact Ne.symm (by assumption) | omega) only [hF1, ↓ZD, ZU, ne_eq, Zaa, Zab, false_implies, Zac, Zad, Zae, Zaf, Zag, Zah, Zai, Zaj, Zak, Zal, Zam, Zan, Zao, Zap, Zaq, Zar, Zas, Zat, Zau, Zav, Zaw, Zax, Zay, Zaz, Za0, Za1, decide_true, decide_false, beq_self_eq_true, cond_true, cond_false, if_false, if_true, reduceIte, reduceCtorEq, not_true_eq_false, not_false_eq_true, true_and, and_true, forall_const, false_and, and_false, implies_true, Za2, Za3, Za4, Za5]
        refine ⟨fun hx => ?_, fun hx => ?_⟩
        · have hx : few (ats.getD i nilA).2.1 (d + 1) = false := by simpa using hx
          rw [fewA_no gx hx]
        · have hx : few (ats.getD i nilA).2.1 (d + 1) = true := by simpa using hx
          refine invK.on (i + 1) (⟨by omega, by rw [hms, hx]⟩) (by omega) (by (simp only [Le_nil, Le_cons]; simp (disch := first | assumption | exact Ne.symm (by assumption) | omega) only [hF1, ↓ZD, ZU, ne_eq, Zaa, Zab, false_implies, Zac, Zad, Zae, Zaf, Zag, Zah, Zai, Zaj, Zak, Zal, Zam, Zan, Zao, Zap, Zaq, Zar, Zas, Zat, Zau, Zav, Zaw, Zax, Zay, Zaz, Za0, Za1, decide_true, decide_false, beq_self_eq_true, cond_true, cond_false, if_false, if_true, reduceIte, reduceCtorEq, not_true_eq_false, not_false_eq_true, true_and, and_true, forall_const, false_and, and_false, implies_true, Za2, Za3, Za4, Za5]; try trivial)) (by (simp only [HLe_nil, HLe_cons]; try (simp (disch := first | assumption | exact Ne.symm (by assumption) | omega) only [hF1, ↓ZD, ZU, ne_eq, Zaa, Zab, false_implies, Zac, Zad, Zae, Zaf, Zag, Zah, Zai, Zaj, Zak, Zal, Zam, Zan, Zao, Zap, Zaq, Zar, Zas, Zat, Zau, Zav, Zaw, Zax, Zay, Zaz, Za0, Za1, decide_true, decide_false, beq_self_eq_true, cond_true, cond_false, if_false, if_true, reduceIte, reduceCtorEq, not_true_eq_false, not_false_eq_true, true_and, and_true, forall_const, false_and, and_false, implies_true, Za2, Za3, Za4, Za5])))
      · have hd : decide ((i : Int) < (ats.length : Int)) = false := by simp; omega
        obtain rfl : i = ats.length := by omega
        rw [List.take_length] at hma
        simp (disch := first | assumption | exact Ne.symm (by assumption) | omega) only [hF1, hd, ↓ZD, ZU, ne_eq, Zaa, Zab, false_implies, Zac, Zad, Zae, Zaf, Zag, Zah, Zai, Zaj, Zak, Zal, Zam, Zan, Zao, Zap, Zaq, Zar, Zas, Zat, Zau, Zav, Zaw, Zax, Zay, Zaz, Za0, Za1, decide_true, decide_false, beq_self_eq_true, cond_true, cond_false, if_false, if_true, reduceIte, reduceCtorEq, not_true_eq_false, not_false_eq_true, true_and, and_true, forall_const, false_and, and_false, implies_true, Za2, Za3, Za4, Za5]
        rw [hma]
theorem depthL_le {n : Nat} : ∀ {l : List Ty}, (∀ x ∈ l, depth x ≤ n) → depthL l ≤ n
  | [], _ => Nat.zero_le _
  | x :: l, h => by
    rw [depthL]
    have h1 := h x List.mem_cons_self
    have h2 := depthL_le fun y hy => h y (List.mem_cons_of_mem _ hy)
    omega
theorem depthA_le {n : Nat} : ∀ {l : List At}, (∀ x ∈ l, depth x.2.1 ≤ n) → depthA l ≤ n
  | [], _ => Nat.zero_le _
  | (m, t, o) :: l, h => by
    rw [depthA]
    have h1 := h _ List.mem_cons_self
    have h2 := depthA_le fun y hy => h y (List.mem_cons_of_mem _ hy)
    simp only at h1
    omega
theorem few_len {k : Int} {n : List UInt8} {es : List Ty} {ats : List At} {d : Int} (h : few (.mk k n es ats) d = true) : es.length ≤ 10 ∧ ats.length ≤ 10 ∧ d ≤ 60 ∧ (∀ x ∈ es, few x (d + 1) = true) ∧ ∀ x ∈ ats, few x.2.1 (d + 1) = true := by
  rw [few, fewL_eq, fewA_eq] at h
  simp only [Bool.and_eq_true, Bool.not_eq_true', Bool.or_eq_false_iff, decide_eq_false_iff_not, List.all_eq_true] at h
  exact ⟨by omega, by omega, by omega, h.2.1, h.2.2⟩
theorem few_depth : ∀ (t : Ty) (d : Nat), few t d = true → depth t ≤ 61 - d := Ty.ind fun k n es ats h1 h2 d h => by
  obtain ⟨_, _, hd, h3, h4⟩ := few_len h
  rw [depth]
  have e1 := depthL_le (n := 61 - (d + 1)) fun x hx => h1 x hx (d + 1) (h3 x hx)
  have e2 := depthA_le (n := 61 - (d + 1)) fun x hx => h2 x hx (d + 1) (h4 x hx)
  omega
mutual
def size : Ty → Int
  | .mk _ _ es ats => szA ats (szL es 1)
def szL : List Ty → Int → Int
  | [], n => n
  | x :: l, n => if n < 1000 then szL l (n + size x) else n
def szA : List (List UInt8 × Ty × Bool) → Int → Int
  | [], n => n
  | (_, t, _) :: l, n => if n < 1000 then szA l (n + size t) else n
end
theorem szL_bound {D : Int} (hD : 1 ≤ D) : ∀ (l : List Ty) (n : Int), (∀ x ∈ l, 0 ≤ size x ∧ size x ≤ 1000 * (D - 1)) → 0 ≤ n → n ≤ 1000 * D → 0 ≤ szL l n ∧ szL l n ≤ 1000 * D
  | [], n, _, h1, h2 => by rw [szL]; exact ⟨h1, h2⟩
  | x :: l, n, h, h1, h2 => by
    rw [szL]
    have := h x List.mem_cons_self
    split
    · exact szL_bound hD l _ (fun y hy => h y (List.mem_cons_of_mem _ hy)) (by omega) (by omega)
    · exact ⟨h1, h2⟩
theorem szA_bound {D : Int} (hD : 1 ≤ D) : ∀ (l : List At) (n : Int), (∀ x ∈ l, 0 ≤ size x.2.1 ∧ size x.2.1 ≤ 1000 * (D - 1)) → 0 ≤ n → n ≤ 1000 * D → 0 ≤ szA l n ∧ szA l n ≤ 1000 * D
  | [], n, _, h1, h2 => by rw [szA]; exact ⟨h1, h2⟩
  | (m, t, o) :: l, n, h, h1, h2 => by
    rw [szA]
    have := h _ List.mem_cons_self
    simp only at this
    split
    · exact szA_bound hD l _ (fun y hy => h y (List.mem_cons_of_mem _ hy)) (by omega) (by omega)
    · exact ⟨h1, h2⟩
theorem depthL_in : ∀ {l : List Ty} {x : Ty}, x ∈ l → depth x ≤ depthL l := fun h => by
  obtain ⟨i, hi⟩ := List.mem_iff_getElem?.mp h; exact depthL_mem hi
theorem depthA_in : ∀ {l : List At} {x : At}, x ∈ l → depth x.2.1 ≤ depthA l := fun h => by
  obtain ⟨i, hi⟩ := List.mem_iff_getElem?.mp h; exact depthA_mem hi
theorem size_bound : ∀ t : Ty, 0 ≤ size t ∧ size t ≤ 1000 * (depth t : Int) := Ty.ind fun k n es ats h1 h2 => by
  rw [size, depth]
  have e1 : ∀ x ∈ es, 0 ≤ size x ∧ size x ≤ 1000 * (((max (depthL es) (depthA ats) + 1 : Nat) : Int) - 1) := fun x hx => by
    have := h1 x hx; have := depthL_in hx; omega
  have e2 : ∀ x ∈ ats, 0 ≤ size x.2.1 ∧ size x.2.1 ≤ 1000 * (((max (depthL es) (depthA ats) + 1 : Nat) : Int) - 1) := fun x hx => by
    have := h2 x hx; have := depthA_in hx; omega
  have e3 := szL_bound (by omega) es 1 e1 (by omega) (by omega)
  exact szA_bound (by omega) ats _ e2 e3.1 e3.2
theorem szL_drop {l : List Ty} {i : Nat} {x : Ty} {n : Int} (h : l[i]? = some x) (hn : n < 1000) : szL (l.drop i) n = szL (l.drop (i + 1)) (n + size x) := by
  obtain ⟨hi, e⟩ := List.getElem?_eq_some_iff.mp h
  rw [List.drop_eq_getElem_cons hi, szL, if_pos hn, e]
theorem szA_drop {l : List At} {i : Nat} {x : At} {n : Int} (h : l[i]? = some x) (hn : n < 1000) : szA (l.drop i) n = szA (l.drop (i + 1)) (n + size x.2.1) := by
  obtain ⟨hi, e⟩ := List.getElem?_eq_some_iff.mp h
  rw [List.drop_eq_getElem_cons hi, e]
  obtain ⟨m, t, o⟩ := x
  rw [szA, if_pos hn]
theorem szL_stop {l : List Ty} {n : Int} (hn : ¬n < 1000) : szL l n = n := by
  cases l with
  | nil => rfl
  | cons x l => rw [szL, if_neg hn]
theorem szA_stop {l : List At} {n : Int} (hn : ¬n < 1000) : szA l n = n := by
  cases l with
  | nil => rfl
  | cons x l => obtain ⟨m, t, o⟩ := x; rw [szA, if_neg hn]
theorem size_pure (F : Base) {ca : List Value} {a : Ty} (ha : RepT F ca a) : depth a ≤ 1000000 → PureV Tryd.prog F 22 #[.agg ca.toArray] (.int .i64 (size a)) := by
  induction ha with
  | mk k nm a1 c1 a2 c2 es ats g1 g2 hk hn hl1 hl2 hc1 hc2 h1 r1 h2 r2 i1 i2 =>
    intro hdp
    refine pureV_of_svc mixed Tryd.func22 low22 (Nat.le_of_ble_eq_true rfl) (fun w0 => ?_)
    simp (disch := first | assumption | exact Ne.symm (by assumption) | omega) only [fu22, ↓ZD, ZU, ne_eq, Zaa, Zab, false_implies, Zac, Zad, Zae, Zaf, Zag, Zah, Zai, Zaj, Zak, Zal, Zam, Zan, Zao, Zap, Zaq, Zar, Zas, Zat, Zau, Zav, Zaw, Zax, Zay, Zaz, Za0, Za1, decide_true, decide_false, beq_self_eq_true, cond_true, cond_false, if_false, if_true, reduceIte, reduceCtorEq, not_true_eq_false, not_false_eq_true, true_and, and_true, forall_const, false_and, and_false, implies_true, Za2, Za3, Za4, Za5]
    refine NewB.of fun b1 hb1 hF1 => ?_
    rw [size]
    simp (disch := first | assumption | exact Ne.symm (by assumption) | omega) only [hF1, ↓ZD, ZU, ne_eq, Zaa, Zab, false_implies, Zac, Zad, Zae, Zaf, Zag, Zah, Zai, Zaj, Zak, Zal, Zam, Zan, Zao, Zap, Zaq, Zar, Zas, Zat, Zau, Zav, Zaw, Zax, Zay, Zaz, Za0, Za1, decide_true, decide_false, beq_self_eq_true, cond_true, cond_false, if_false, if_true, reduceIte, reduceCtorEq, not_true_eq_false, not_false_eq_true, true_and, and_true, forall_const, false_and, and_false, implies_true, Za2, Za3, Za4, Za5]
    rw [depth] at hdp
    refine LoopL.inv (α := Nat × Int) (fun p => p.1 ≤ es.length ∧ 0 ≤ p.2 ∧ p.2 ≤ 1000 * ((depthL es + 1 : Nat) : Int) ∧ szL (es.drop p.1) p.2 = szL es 1)
      (fun p => [(1, some (.pointer (some ⟨b1, 0, none⟩))), (3, some (.int .i64 p.2)), (4, some (.int .i64 p.1))])
      (fun p => [(b1, .cells #[.int .i64 k, .string (bs nm), .slice a1 es.length c1, .slice a2 ats.length c2] 55 (0, 0))])
      (fun p => es.length - p.1) (0, 1) ⟨Nat.zero_le _, by omega, by omega, rfl⟩ (by (simp only [Le_nil, Le_cons]; simp (disch := first | assumption | exact Ne.symm (by assumption) | omega) only [↓ZD, ZU, ne_eq, Zaa, Zab, false_implies, Zac, Zad, Zae, Zaf, Zag, Zah, Zai, Zaj, Zak, Zal, Zam, Zan, Zao, Zap, Zaq, Zar, Zas, Zat, Zau, Zav, Zaw, Zax, Zay, Zaz, Za0, Za1, decide_true, decide_false, beq_self_eq_true, cond_true, cond_false, if_false, if_true, reduceIte, reduceCtorEq, not_true_eq_false, not_false_eq_true, true_and, and_true, forall_const, false_and, and_false, implies_true, Za2, Za3, Za4, Za5]; try trivial)) (by (simp only [HLe_nil, HLe_cons]; try (simp (disch := first | assumption | exact Ne.symm (by assumption) | omega) only [↓ZD, ZU, ne_eq, Zaa, Zab, false_implies, Zac, Zad, Zae, Zaf, Zag, Zah, Zai, Zaj, Zak, Zal, Zam, Zan, Zao, Zap, Zaq, Zar, Zas, Zat, Zau, Zav, Zaw, Zax, Zay, Zaz, Za0, Za1, decide_true, decide_false, beq_self_eq_true, cond_true, cond_false, if_false, if_true, reduceIte, reduceCtorEq, not_true_eq_false, not_false_eq_true, true_and, and_true, forall_const, false_and, and_false, implies_true, Za2, Za3, Za4, Za5]))) ?_
    rintro ⟨i, n⟩ ⟨hi, hn1, hn2, hz⟩
    simp only at hi hn1 hn2 hz
    by_cases hlt : i < es.length ∧ n < 1000
    · have hd : (decide ((i : Int) < (es.length : Int)) && decide (n < 1000)) = true := by simp; omega
      have gx := getT hlt.1
      have hdx := depthL_mem gx
      have hc := i1 i _ gx (by omega)
      have hsb := size_bound (es.getD i nilT)
      obtain ⟨ba, oa, rfl, hla⟩ := (h1 i _ gx).ldn
      simp (disch := first | assumption | exact Ne.symm (by assumption) | omega) only [hF1, hd, ↓ZD, ZU, ne_eq, Zaa, Zab, false_implies, Zac, Zad, Zae, Zaf, Zag, Zah, Zai, Zaj, Zak, Zal, Zam, Zan, Zao, Zap, Zaq, Zar, Zas, Zat, Zau, Zav, Zaw, Zax, Zay, Zaz, Za0, Za1, decide_true, decide_false, beq_self_eq_true, cond_true, cond_false, if_false, if_true, reduceIte, reduceCtorEq, not_true_eq_false, not_false_eq_true, true_and, and_true, forall_const, false_and, and_false, implies_true, Za2, Za3, Za4, Za5]
      refine conj.of (by omega) ?_
      simp (disch := first | assumption | exact Ne.symm (by assumption) | omega) only [hF1, hd, Int.toNat_natCast, ↓hla, ↓ZD, ZU, ne_eq, Zaa, Zab, false_implies, Zac, Zad, Zae, Zaf, Zag, Zah, Zai, Zaj, Zak, Zal, Zam, Zan, Zao, Zap, Zaq, Zar, Zas, Zat, Zau, Zav, Zaw, Zax, Zay, Zaz, Za0, Za1, decide_true, decide_false, beq_self_eq_true, cond_true, cond_false, if_false, if_true, reduceIte, reduceCtorEq, not_true_eq_false, not_false_eq_true, true_and, and_true, forall_const, false_and, and_false, implies_true, Za2, Za3, Za4, Za5]
      refine CallE.pure hc ?_
      simp (disch := first | assumption | exact Ne.symm (by assumption) | omega) only [hF1, ↓ZD, ZU, ne_eq, Zaa, Zab, false_implies, Zac, Zad, Zae, Zaf, Zag, Zah, Zai, Zaj, Zak, Zal, Zam, Zan, Zao, Zap, Zaq, Zar, Zas, Zat, Zau, Zav, Zaw, Zax, Zay, Zaz, Za0, Za1, decide_true, decide_false, beq_self_eq_true, cond_true, cond_false, if_false, if_true, reduceIte, reduceCtorEq, not_true_eq_false, not_false_eq_true, true_and, and_true, forall_const, false_and, and_false, implies_true, Za2, Za3, Za4, Za5]
      refine invK.on ((i + 1, n + size (es.getD i nilT))) (⟨by simp only; omega, by simp only; omega, by simp only; omega, by simp only; rw [← szL_drop gx hlt.2, hz]⟩) (by omega) (by (simp only [Le_nil, Le_cons]; simp (disch := first | assumption | exact Ne.symm (by assumption) | omega) only [hF1, ↓ZD, ZU, ne_eq, Zaa, Zab, false_implies, Zac, Zad, Zae, Zaf, Zag, Zah, Zai, Zaj, Zak, Zal, Zam, Zan, Zao, Zap, Zaq, Zar, Zas, Zat, Zau, Zav, Zaw, Zax, Zay, Zaz, Za0, Za1, decide_true, decide_false, beq_self_eq_true, cond_true, cond_false, if_false, if_true, reduceIte, reduceCtorEq, not_true_eq_false, not_false_eq_true, true_and, and_true, forall_const, false_and, and_false, implies_true, Za2, Za3, Za4, Za5]; try trivial)) (by (simp only [HLe_nil, HLe_cons]; try (simp (disch := first | assumption | exact Ne.symm (by assumption) | omega) only [hF1, ↓ZD, ZU, ne_eq, Zaa, Zab, false_implies, Zac, Zad, Zae, Zaf, Zag, Zah, Zai, Zaj, Zak, Zal, Zam, Zan, Zao, Zap, Zaq, Zar, Zas, Zat, Zau, Zav, Zaw, Zax, Zay, Zaz, Za0, Za1, decide_true, decide_false, beq_self_eq_true, cond_true, cond_false, if_false, if_true, reduceIte, reduceCtorEq, not_true_eq_false, not_false_eq_true, true_and, and_true, forall_const, false_and, and_false, implies_true, Za2, Za3, Za4, Za5])))
    · have hd : (decide ((i : Int) < (es.length : Int)) && decide (n < 1000)) = false := by simp; omega
      have hz' : szL es 1 = n := by
        rw [← hz]
        by_cases hs : n < 1000
        · rw [List.drop_eq_nil_of_le (by omega)]; rfl
        · exact szL_stop hs
      rw [hz']
      simp (disch := first | assumption | exact Ne.symm (by assumption) | omega) only [hF1, hd, ↓ZD, ZU, ne_eq, Zaa, Zab, false_implies, Zac, Zad, Zae, Zaf, Zag, Zah, Zai, Zaj, Zak, Zal, Zam, Zan, Zao, Zap, Zaq, Zar, Zas, Zat, Zau, Zav, Zaw, Zax, Zay, Zaz, Za0, Za1, decide_true, decide_false, beq_self_eq_true, cond_true, cond_false, if_false, if_true, reduceIte, reduceCtorEq, not_true_eq_false, not_false_eq_true, true_and, and_true, forall_const, false_and, and_false, implies_true, Za2, Za3, Za4, Za5]
      refine LoopL.inv (α := Nat × Int) (fun p => p.1 ≤ ats.length ∧ 0 ≤ p.2 ∧ p.2 ≤ 1000 * ((max (depthL es) (depthA ats) + 1 : Nat) : Int) ∧ szA (ats.drop p.1) p.2 = szA ats n)
        (fun p => [(1, some (.pointer (some ⟨b1, 0, none⟩))), (3, some (.int .i64 p.2)), (5, some (.int .i64 p.1))])
        (fun p => [(b1, .cells #[.int .i64 k, .string (bs nm), .slice a1 es.length c1, .slice a2 ats.length c2] 55 (0, 0))])
        (fun p => ats.length - p.1) (0, n) ⟨Nat.zero_le _, by simp only; omega, by simp only; omega, rfl⟩ (by (simp only [Le_nil, Le_cons]; simp (disch := first | assumption | exact Ne.symm (by assumption) | omega) only [↓ZD, ZU, ne_eq, Zaa, Zab, false_implies, Zac, Zad, Zae, Zaf, Zag, Zah, Zai, Zaj, Zak, Zal, Zam, Zan, Zao, Zap, Zaq, Zar, Zas, Zat, Zau, Zav, Zaw, Zax, Zay, Zaz, Za0, Za1, decide_true, decide_false, beq_self_eq_true, cond_true, cond_false, if_false, if_true, reduceIte, reduceCtorEq, not_true_eq_false, not_false_eq_true, true_and, and_true, forall_const, false_and, and_false, implies_true, Za2, Za3, Za4, Za5]; try trivial)) (by (simp only [HLe_nil, HLe_cons]; try (simp (disch := first | assumption | exact Ne.symm (by assumption) | omega) only [↓ZD, ZU, ne_eq, Zaa, Zab, false_implies, Zac, Zad, Zae, Zaf, Zag, Zah, Zai, Zaj, Zak, Zal, Zam, Zan, Zao, Zap, Zaq, Zar, Zas, Zat, Zau, Zav, Zaw, Zax, Zay, Zaz, Za0, Za1, decide_true, decide_false, beq_self_eq_true, cond_true, cond_false, if_false, if_true, reduceIte, reduceCtorEq, not_true_eq_false, not_false_eq_true, true_and, and_true, forall_const, false_and, and_false, implies_true, Za2, Za3, Za4, Za5]))) ?_
      generalize n = n0 at *
      clear hi hn1 hn2 hz hlt hd hz' i
      rintro ⟨i, n⟩ ⟨hi, hn1, hn2, hz⟩
      simp only at hi hn1 hn2 hz
      by_cases hlt : i < ats.length ∧ n < 1000
      · have hd : (decide ((i : Int) < (ats.length : Int)) && decide (n < 1000)) = true := by simp; omega
        have gx := getA hlt.1
        have hdx := depthA_mem gx
        have hc := i2 i _ gx (by omega)
        have hsb := size_bound (ats.getD i nilA).2.1
        obtain ⟨k', nm', a1', n1', c1', a2', n2', c2', hform⟩ := (r2 i _ gx).form
        rw [hform] at hc
        have hcl := h2 i _ gx
        rw [hform] at hcl
        obtain ⟨ba, oa, rfl, hla, hl1'⟩ := hcl.all
        have hla1 := hla 1 4 (by omega)
        simp (disch := first | assumption | exact Ne.symm (by assumption) | omega) only [hF1, hd, ↓ZD, ZU, ne_eq, Zaa, Zab, false_implies, Zac, Zad, Zae, Zaf, Zag, Zah, Zai, Zaj, Zak, Zal, Zam, Zan, Zao, Zap, Zaq, Zar, Zas, Zat, Zau, Zav, Zaw, Zax, Zay, Zaz, Za0, Za1, decide_true, decide_false, beq_self_eq_true, cond_true, cond_false, if_false, if_true, reduceIte, reduceCtorEq, not_true_eq_false, not_false_eq_true, true_and, and_true, forall_const, false_and, and_false, implies_true, Za2, Za3, Za4, Za5]
        refine conj.of (by omega) ?_
        simp (disch := first | assumption | exact Ne.symm (by assumption) | omega) only [hF1, hd, Int.toNat_natCast, ↓hla1, ↓ZD, ZU, ne_eq, Zaa, Zab, false_implies, Zac, Zad, Zae, Zaf, Zag, Zah, Zai, Zaj, Zak, Zal, Zam, Zan, Zao, Zap, Zaq, Zar, Zas, Zat, Zau, Zav, Zaw, Zax, Zay, Zaz, Za0, Za1, decide_true, decide_false, beq_self_eq_true, cond_true, cond_false, if_false, if_true, reduceIte, reduceCtorEq, not_true_eq_false, not_false_eq_true, true_and, and_true, forall_const, false_and, and_false, implies_true, Za2, Za3, Za4, Za5]
        refine CallE.pure hc ?_
        simp (disch := first | assumption | exact Ne.symm (by assumption) | omega) only [hF1, ↓ZD, ZU, ne_eq, Zaa, Zab, false_implies, Zac, Zad, Zae, Zaf, Zag, Zah, Zai, Zaj, Zak, Zal, Zam, Zan, Zao, Zap, Zaq, Zar, Zas, Zat, Zau, Zav, Zaw, Zax, Zay, Zaz, Za0, Za1, decide_true, decide_false, beq_self_eq_true, cond_true, cond_false, if_false, if_true, reduceIte, reduceCtorEq, not_true_eq_false, not_false_eq_true, true_and, and_true, forall_const, false_and, and_false, implies_true, Za2, Za3, Za4, Za5]
        refine invK.on ((i + 1, n + size (ats.getD i nilA).2.1)) (⟨by simp only; omega, by simp only; omega, by simp only; omega, by simp only; rw [← szA_drop gx hlt.2, hz]⟩) (by omega) (by (simp only [Le_nil, Le_cons]; simp (disch := first | assumption | exact Ne.symm (by assumption) | omega) only [hF1, ↓ZD, ZU, ne_eq, Zaa, Zab, false_implies, Zac, Zad, Zae, Zaf, Zag, Zah, Zai, Zaj, Zak, Zal, Zam, Zan, Zao, Zap, Zaq, Zar, Zas, Zat, Zau, Zav, Zaw, Zax, Zay, Zaz, Za0, Za1, decide_true, decide_false, beq_self_eq_true, cond_true, cond_false, if_false, if_true, reduceIte, reduceCtorEq, not_true_eq_false, not_false_eq_true, true_and, and_true, forall_const, false_and, and_false, implies_true, Za2, Za3, Za4, Za5]; try trivial)) (by (simp only [HLe_nil, HLe_cons]; try (simp (disch := first | assumption | exact Ne.symm (by assumption) | omega) only [hF1, ↓ZD, ZU, ne_eq, Zaa, Zab, false_implies, Zac, Zad, Zae, Zaf, Zag, Zah, Zai, Zaj, Zak, Zal, Zam, Zan, Zao, Zap, Zaq, Zar, Zas, Zat, Zau, Zav, Zaw, Zax, Zay, Zaz, Za0, Za1, decide_true, decide_false, beq_self_eq_true, cond_true, cond_false, if_false, if_true, reduceIte, reduceCtorEq, not_true_eq_false, not_false_eq_true, true_and, and_true, forall_const, false_and, and_false, implies_true, Za2, Za3, Za4, Za5])))
      · have hd : (decide ((i : Int) < (ats.length : Int)) && decide (n < 1000)) = false := by simp; omega
        simp (disch := first | assumption | exact Ne.symm (by assumption) | omega) only [hF1, hd, ↓ZD, ZU, ne_eq, Zaa, Zab, false_implies, Zac, Zad, Zae, Zaf, Zag, Zah, Zai, Zaj, Zak, Zal, Zam, Zan, Zao, Zap, Zaq, Zar, Zas, Zat, Zau, Zav, Zaw, Zax, Zay, Zaz, Za0, Za1, decide_true, decide_false, beq_self_eq_true, cond_true, cond_false, if_false, if_true, reduceIte, reduceCtorEq, not_true_eq_false, not_false_eq_true, true_and, and_true, forall_const, false_and, and_false, implies_true, Za2, Za3, Za4, Za5]
        rw [← hz]
        by_cases hs : n < 1000
        · rw [List.drop_eq_nil_of_le (by omega)]; rfl
        · rw [szA_stop hs]
def fit (a b : Ty) : Bool := few a 0 && few b 0 && decide (size a < 300) && decide (size b < 300) && (chk a == 0) && (chk b == 0)
def nmA (l : List At) (nm : List UInt8) (i : Nat) : Bool := (l.getD i nilA).1 == nm
end Go.Proofs.YtnnieekbklmgdaaDoor
